/- Nodes held against what they may be: the contract of looks. -/
import Derived.Test.YtjbhhgecdcgpeaaTb6
import Derived.Test.YtjbhhgecdcgpeaaTpn
import Derived.Laws.Cover3
namespace Go.Proofs.Ytjbhhgecdcgpeaa.Tb
open Go Go.RowKit Go.Proofs.YtjbhhgecdcgpeaaW.PrintWords Go.Proofs.YtjbhhgecdcgpeaaW.PrintLast Go.Proofs.YtjbhhgecdcgpeaaW.PrintMore Go.Proofs.Ytjbhhgecdcgpeaa.TA
set_option linter.unusedSimpArgs false
set_option linter.unusedVariables false
/-- A tag's bytes; none: it is no tag. -/
def partsL (t : Int) : List Int := (tlv_parts.f 2 t).getD []
theorem partsL_some (t : Int) : tlv_parts.f 2 t = some (partsL t) := by
  obtain ⟨l, hl⟩ := parts_some t
  unfold partsL
  rw [hl]
  rfl
theorem parts_none_calls (t : Int) (h : partsL t = []) (w : World) : Calls Try.prog 62 #[.int .i64 t] w fun e w' => e = .returned (.slice none 0 0) ∧ Below w.heap.size w w' :=
  parts_nil 2 t w (by rw [partsL_some, h])
/-- A tag's bytes lie in a row that is there. -/
def PartsRow (t : Int) (w : World) (e : Ending) (w' : World) : Prop := ∃ g c, e = .returned (.slice (some ⟨g, 0, none⟩) (partsL t).length c) ∧ Kd.R (Kd.int .u8) 5 w' w.heap.size (fun _ => True) (.slice (some ⟨g, 0, none⟩) (partsL t).length c) (partsL t) ∧ Below w.heap.size w w'
theorem parts_row_calls (t : Int) (h : partsL t ≠ []) (w : World) : Calls Try.prog 62 #[.int .i64 t] w (PartsRow t w) := by
  refine (tlv_parts.calls 2 t (partsL t) w (partsL_some t)).mono ?_
  rintro e w' ⟨v, rfl, hR, hB⟩
  obtain ⟨g, cap, he, _⟩ := Kd.R_form hR (List.length_pos_iff.mpr h)
  subst he
  exact ⟨g, cap, rfl, hR, hB⟩
theorem run_nil_eq (w : World) : (binOp BinOp.eql 76 (.slice none 0 0) (.slice none 0 0)).run Try.prog w = .ok (.bool true) w := by
  have h := run_equal_slice_nil w 76 5 none 0 0 Try.underlying76
  simp [binOp, h, go_sem]
theorem run_row_eq (a : Addr) (n c : Nat) (w : World) : (binOp BinOp.eql 76 (.slice (some a) n c) (.slice none 0 0)).run Try.prog w = .ok (.bool false) w := by
  have h := run_equal_slice_nil w 76 5 (some a) n c Try.underlying76
  simp [binOp, h, go_sem]
/-- What may not be. -/
def badN (x : S43) : Bool := (partsL x.f0).isEmpty || markedB x.f0 && !x.f1.toList.isEmpty || !markedB x.f0 && !x.f2.isEmpty
def looksP : Nat → List S43 → Int → Int → Option (Except Int Int)
  | 0, _, _, _ => none
  | _ + 1, [], many, _ => some (.ok many)
  | k + 1, x :: l, many, deep =>
    if many = 500 then some (.error 93) else if 8 < deep then some (.error 92) else if badN x = true then some (.error 90) else
    (looksP k x.f2 (many + 1) (deep + 1)).bind fun o => match o with
      | .error c => some (.error c)
      | .ok m => looksP k l m deep
section
variable {k : Nat} {x : S43} {l : List S43} {many deep : Int}
theorem looksP_nil : looksP (k + 1) [] many deep = some (.ok many) := by simp [looksP]
theorem looksP_many (h : many = 500) : looksP (k + 1) (x :: l) many deep = some (.error 93) := by simp [looksP, h]
theorem looksP_deep (h : ¬ many = 500) (h1 : 8 < deep) : looksP (k + 1) (x :: l) many deep = some (.error 92) := by simp [looksP, h, h1]
theorem looksP_bad (h : ¬ many = 500) (h1 : ¬ 8 < deep) (h2 : badN x = true) : looksP (k + 1) (x :: l) many deep = some (.error 90) := by simp [looksP, h, h1, h2]
theorem looksP_in (h : ¬ many = 500) (h1 : ¬ 8 < deep) (h2 : badN x = false) : looksP (k + 1) (x :: l) many deep = (looksP k x.f2 (many + 1) (deep + 1)).bind fun o => match o with
      | .error c => some (.error c)
      | .ok m => looksP k l m deep := by simp [looksP, h, h1, h2]
end
theorem looksP_ok : ∀ (k : Nat) {l : List S43} {many deep m : Int}, looksP k l many deep = some (.ok m) → many ≤ 500 → many ≤ m ∧ m ≤ 500
  | 0, _, _, _, _, h, _ => by simp [looksP] at h
  | k + 1, [], many, deep, m, h, hm => by
    rw [looksP_nil] at h
    injection h with h
    injection h with h
    omega
  | k + 1, x :: l, many, deep, m, h, hm => by
    by_cases g2 : many = 500
    · rw [looksP_many g2] at h; cases h
    by_cases g3 : 8 < deep
    · rw [looksP_deep g2 g3] at h; cases h
    cases g4 : badN x with
    | true => rw [looksP_bad g2 g3 g4] at h; cases h
    | false =>
      rw [looksP_in g2 g3 g4] at h
      obtain ⟨o, ho, h⟩ := Option.bind_eq_some_iff.mp h
      rcases o with c | m1
      · cases h
      · have h1 := looksP_ok k ho (by omega)
        have h2 := looksP_ok k h (by omega)
        omega
theorem drop_rd (l : List S43) (i : Int) (h0 : 0 ≤ i) (h1 : i < l.length) : l.drop i.toNat = rd_T43 l i :: l.drop (i + 1).toNat := by
  have hi : i.toNat < l.length := by omega
  rw [List.drop_eq_getElem_cons hi, show (i + 1).toNat = i.toNat + 1 by omega]
  congr 1
  unfold rd_T43
  rw [List.getD_eq_getElem?_getD, List.getElem?_eq_getElem hi]
  rfl
/-- How it ends. -/
def LEnds (o : Except Int Int) (w : World) (z : Ending) (w' : World) : Prop := Below w.heap.size w w' ∧ match o with
  | .ok m => z = .returned (.int .i64 m)
  | .error c => z = gaveUp c 0
def LkRel (w : World) (l : List S43) (deep : Int) (o : Except Int Int) (K kq : Nat) (v1 v12 : Value) (W : World) : Prop :=
  ∃ (many i : Int), v1 = .int .i64 many ∧ v12 = .int .i64 i ∧ looksP kq (l.drop i.toNat) many deep = some o ∧ Below w.heap.size w W ∧ 0 ≤ many ∧ many ≤ 500 ∧ 0 ≤ i ∧ i ≤ l.length ∧ kq ≤ K
set_option maxRecDepth 100000 in
set_option maxHeartbeats 1000000 in
theorem looks_calls (k : Nat) : ∀ (A : Option Addr) (c : Nat) (l : List S43) (w : World) (many deep : Int) (o : Except Int Int) (hP : looksP k l many deep = some o) (hr0 : Kd.C k43 w A l.length l) (hc0 : l.length ≤ c) (hm0 : 0 ≤ many) (hm : many ≤ 500) (hd0 : 0 ≤ deep) (hd1 : deep ≤ 9),
    Calls Try.prog 44 #[.slice A l.length c, .int .i64 many, .int .i64 deep] w fun z w' => LEnds o w z w' := by
  induction k using Nat.strongRecOn with
  | _ k ih =>
  intro A c l w many deep o hP hr0 hc0 hm0 hm hd0 hd1
  have HR0 := Aside0.mk hr0
  have hlen : l.length ≤ 9223372036854775807 := hr0.2.1
  have HL0 : LkRel w l deep o k k (.int .i64 many) (.int .i64 0) w := ⟨many, 0, rfl, rfl, hP, Below.refl _ _, hm0, hm, Int.le_refl _, Int.natCast_nonneg _, Nat.le_refl _⟩
  clear hr0 hP hm0 hm
  go_enter Try.func44, Try.ntmps44
  go_wp2
  go_loopg [1, 12] k (fun kq v1 v12 W => LkRel w l deep o k kq v1 v12 W)
  case atStart => exact HL0
  case round =>
    clear HL0
    obtain ⟨many, i, rfl, rfl, hP, hB, hm0, hm, hi0, hi1, hkq⟩ := hrel
    have HB := Aside0.mk hB
    clear hB
    cases gk with
    | zero => exact absurd hP (by simp [looksP])
    | succ k1 =>
    by_cases g1 : i < (l.length : Int)
    · have d1 : decide (i < (l.length : Int)) = true := decide_eq_true g1
      rw [drop_rd l i hi0 g1] at hP
      obtain ⟨ad, A2, c2, e, x0, x1, x2, hl2, hC2⟩ := at_T43 HR0.out i hi0 g1
      cases e
      replace x0 := (HB.out.cell (World.block_lt_of_cell? w _ x0)).trans x0
      replace x1 := (HB.out.cell (World.block_lt_of_cell? w _ x1)).trans x1
      replace x2 := (HB.out.cell (World.block_lt_of_cell? w _ x2)).trans x2
      generalize rd_T43 l i = x at hP x0 x1 x2 hl2 hC2
      have HC2 := Aside0.mk hC2
      have HP := Aside0.mk hP
      clear hC2 hP
      have p0 := eq_true hi0
      have q0 := eq_true g1
      go_upto_region 4 with (fail)
      obtain ⟨w1, hw1⟩ : ∃ w1, w1 = wr.alloc (.cells #[.int .i64 x.f0, .string x.f1, .slice A2 x.f2.length c2] 43) := ⟨_, rfl⟩
      obtain ⟨g, hg⟩ : ∃ g, g = wr.heap.size := ⟨_, rfl⟩
      rw [← hw1, ← hg]
      have hBx1 : w1.heap[g]? = some (.cells #[.int .i64 x.f0, .string x.f1, .slice A2 x.f2.length c2] 43 (0, 0)) := by rw [hw1, hg]; exact heap_alloc_new _ _
      have HB1 := Aside0.mk (below_step HB.out (show Below wr.heap.size wr w1 by rw [hw1]; exact below_alloc (Below.refl _ _) _))
      clear hw1 hg x0 x1 x2 p0 q0 d1 HB
      by_cases g2 : many = 500
      · have hP := HP.out
        rw [looksP_many g2] at hP
        obtain rfl := Option.some.inj hP
        subst g2
        clear hP
        go_wp2
        exact ⟨rfl, HB1.out, rfl⟩
      have d2 : (many == 500) = false := beq_eq_false_iff_ne.mpr g2
      by_cases g3 : 8 < deep
      · have hP := HP.out
        rw [looksP_deep g2 g3] at hP
        obtain rfl := Option.some.inj hP
        have d3 : decide (8 < deep) = true := decide_eq_true g3
        clear hP
        go_wp2
        exact ⟨rfl, HB1.out, rfl⟩
      have d3 : decide (8 < deep) = false := decide_eq_false g3
      have y0 : w1.cell? ⟨g, 0, none⟩ = some (.int .i64 x.f0) := (blk_cell hBx1 0).trans rfl
      obtain ⟨mk, hmk⟩ : ∃ mk, markedB x.f0 = mk := ⟨_, rfl⟩
      have hmc := marked_calls x.f0 w1
      rw [hmk] at hmc
      have Hmk := Aside0.mk hmk
      clear hmk
      go_upto_region 10 with (go_at_call 71; (with_reducible refine hmc.mono ?_); rintro z w2 ⟨rfl, hB2⟩; have HB2 := Aside0.mk hB2; clear hB2)
      have hBx2 := blk_below hBx1 HB2.out
      have HBw2 := Aside0.mk (below_step HB1.out HB2.out)
      clear y0 hmc hBx1 HB1 HB2 d2 d3
      have y0 : w2.cell? ⟨g, 0, none⟩ = some (.int .i64 x.f0) := (blk_cell hBx2 0).trans rfl
      have y1 : w2.cell? ⟨g, 1, none⟩ = some (.string x.f1) := (blk_cell hBx2 1).trans rfl
      have y2 : w2.cell? ⟨g, 2, none⟩ = some (.slice A2 x.f2.length c2) := (blk_cell hBx2 2).trans rfl
      by_cases g4 : partsL x.f0 = []
      · have hP := HP.out
        rw [looksP_bad g2 (by omega) (by unfold badN; rw [g4]; rfl)] at hP
        obtain rfl := Option.some.inj hP
        have hpc := parts_none_calls x.f0 g4 w2
        have hnn := run_nil_eq
        clear hP g4
        go_wp2_with (go_at_call 62; (with_reducible refine hpc.mono ?_); rintro z w3 ⟨rfl, hB3⟩; have HB3 := Aside0.mk hB3; clear hB3)
        exact ⟨rfl, below_step HBw2.out HB3.out, rfl⟩
      have hpc := parts_row_calls x.f0 g4 w2
      have hrn := run_row_eq
      have hpe : (partsL x.f0).isEmpty = false := by simpa using g4
      have HPE := Aside0.mk hpe
      have keyC : ∀ w3, Below w2.heap.size w2 w3 → w3.cell? ⟨g, 1, none⟩ = some (.string x.f1) ∧ w3.cell? ⟨g, 2, none⟩ = some (.slice A2 x.f2.length c2) := fun w3 hB => ⟨pw_cell_below hB y1, pw_cell_below hB y2⟩
      have KC := Aside0.mk keyC
      clear hpe g4 keyC y1 y2
      cases mk with
      | true =>
        cases hE : x.f1.toList.isEmpty with
        | false =>
          have hP := HP.out
          rw [looksP_bad g2 (by omega) (by unfold badN; rw [HPE.out, Hmk.out]; simp [hE])] at hP
          obtain rfl := Option.some.inj hP
          clear hP
          go_wp2_with (go_at_call 62; (with_reducible refine hpc.mono ?_); rintro z w3 ⟨g3, c3, rfl, _, hB3⟩; have HB3 := Aside0.mk hB3; obtain ⟨z1, z2⟩ := KC.out w3 hB3; clear hB3)
          exact ⟨rfl, below_step HBw2.out HB3.out, rfl⟩
        | true =>
          have hP := HP.out
          rw [looksP_in g2 (by omega) (by unfold badN; rw [HPE.out, Hmk.out]; simp [hE])] at hP
          obtain ⟨o1, ho1, hP⟩ := Option.bind_eq_some_iff.mp hP
          have HP1 := Aside0.mk ho1
          have HP2 := Aside0.mk hP
          clear ho1 hP
          have hic := fun w3 (hC : Kd.C k43 w3 A2 x.f2.length x.f2) => ih k1 (by omega) A2 c2 x.f2 w3 (many + 1) (deep + 1) o1 HP1.out hC hl2 (by omega) (by omega) (by omega) (by omega)
          have HIC := Aside0.mk hic
          clear hic
          rcases o1 with c | m1
          · have hP := HP2.out
            obtain rfl := Option.some.inj hP
            clear hP
            go_wp2_with (first | (go_at_call 62; (with_reducible refine hpc.mono ?_); rintro z w3 ⟨g3, c3, rfl, _, hB3⟩; have HB3 := Aside0.mk hB3; obtain ⟨z1, z2⟩ := KC.out w3 hB3; clear hB3) | (go_at_call 44; (with_reducible refine (HIC.out _ (Kd.C_below HC2.out (below_step HBw2.out HB3.out))).mono ?_); rintro z w4 ⟨hB4, rfl⟩))
            exact ⟨rfl, below_step (below_step HBw2.out HB3.out) hB4, rfl⟩
          have hmm := looksP_ok k1 HP1.out (by omega)
          go_wp2_with (first | (go_at_call 62; (with_reducible refine hpc.mono ?_); rintro z w3 ⟨g3, c3, rfl, _, hB3⟩; have HB3 := Aside0.mk hB3; obtain ⟨z1, z2⟩ := KC.out w3 hB3; clear hB3) | (go_at_call 44; (with_reducible refine (HIC.out _ (Kd.C_below HC2.out (below_step HBw2.out HB3.out))).mono ?_); rintro z w4 ⟨hB4, rfl⟩; have HB4 := Aside0.mk hB4; clear hB4))
          go_roundg k1
          case measure => exact Nat.lt_succ_self _
          case rel => exact ⟨m1, i + 1, rfl, by first | rfl | go_num, HP2.out, below_step (below_step HBw2.out HB3.out) HB4.out, by omega, by omega, by omega, by omega, by omega⟩
      | false =>
        by_cases hE : 0 < x.f2.length
        · have d5 : decide ((0 : Int) < (x.f2.length : Int)) = true := decide_eq_true (by omega)
          have d6 : (0 < x.f2.length) = True := eq_true hE
          have hne : x.f2.isEmpty = false := by cases hx : x.f2 with | nil => rw [hx] at hE; simp at hE | cons a b => rfl
          have HNE := Aside0.mk hne
          clear hne hE
          have hP := HP.out
          rw [looksP_bad g2 (by omega) (by unfold badN; rw [HPE.out, Hmk.out]; simp [HNE.out])] at hP
          obtain rfl := Option.some.inj hP
          clear hP
          go_wp2_with (go_at_call 62; (with_reducible refine hpc.mono ?_); rintro z w3 ⟨g3, c3, rfl, _, hB3⟩; have HB3 := Aside0.mk hB3; obtain ⟨z1, z2⟩ := KC.out w3 hB3; clear hB3)
          exact ⟨rfl, below_step HBw2.out HB3.out, rfl⟩
        · have d5 : decide ((0 : Int) < (x.f2.length : Int)) = false := decide_eq_false (by omega)
          have d6 : (0 < x.f2.length) = False := eq_false hE
          have hne : x.f2.isEmpty = true := by cases hx : x.f2 with | nil => rfl | cons a b => rw [hx] at hE; simp at hE
          have HNE := Aside0.mk hne
          clear hne hE
          have hP := HP.out
          rw [looksP_in g2 (by omega) (by unfold badN; rw [HPE.out, Hmk.out]; simp [HNE.out])] at hP
          obtain ⟨o1, ho1, hP⟩ := Option.bind_eq_some_iff.mp hP
          have HP1 := Aside0.mk ho1
          have HP2 := Aside0.mk hP
          clear ho1 hP
          have hic := fun w3 (hC : Kd.C k43 w3 A2 x.f2.length x.f2) => ih k1 (by omega) A2 c2 x.f2 w3 (many + 1) (deep + 1) o1 HP1.out hC hl2 (by omega) (by omega) (by omega) (by omega)
          have HIC := Aside0.mk hic
          clear hic
          rcases o1 with c | m1
          · have hP := HP2.out
            obtain rfl := Option.some.inj hP
            clear hP
            go_wp2_with (first | (go_at_call 62; (with_reducible refine hpc.mono ?_); rintro z w3 ⟨g3, c3, rfl, _, hB3⟩; have HB3 := Aside0.mk hB3; obtain ⟨z1, z2⟩ := KC.out w3 hB3; clear hB3) | (go_at_call 44; (with_reducible refine (HIC.out _ (Kd.C_below HC2.out (below_step HBw2.out HB3.out))).mono ?_); rintro z w4 ⟨hB4, rfl⟩))
            exact ⟨rfl, below_step (below_step HBw2.out HB3.out) hB4, rfl⟩
          have hmm := looksP_ok k1 HP1.out (by omega)
          go_wp2_with (first | (go_at_call 62; (with_reducible refine hpc.mono ?_); rintro z w3 ⟨g3, c3, rfl, _, hB3⟩; have HB3 := Aside0.mk hB3; obtain ⟨z1, z2⟩ := KC.out w3 hB3; clear hB3) | (go_at_call 44; (with_reducible refine (HIC.out _ (Kd.C_below HC2.out (below_step HBw2.out HB3.out))).mono ?_); rintro z w4 ⟨hB4, rfl⟩; have HB4 := Aside0.mk hB4; clear hB4))
          go_roundg k1
          case measure => exact Nat.lt_succ_self _
          case rel => exact ⟨m1, i + 1, rfl, by first | rfl | go_num, HP2.out, below_step (below_step HBw2.out HB3.out) HB4.out, by omega, by omega, by omega, by omega, by omega⟩
    · have hi : i = l.length := by omega
      subst hi
      rw [show l.drop ((l.length : Int)).toNat = [] by simp, looksP_nil] at hP
      obtain rfl := Option.some.inj hP
      have d1 : decide ((l.length : Int) < (l.length : Int)) = false := decide_eq_false (by omega)
      clear hP
      go_wp2
      go_ret
      exact ⟨HB.out, rfl⟩
end Go.Proofs.Ytjbhhgecdcgpeaa.Tb
