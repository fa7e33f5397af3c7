/- The place of the first node with a tag: the contracts of at and what it calls. -/
import Derived.Test.YtjbhhgecdcgpeaaTb1
namespace Go.Proofs.Ytjbhhgecdcgpeaa.Tb
open Go Go.RowKit Go.Proofs.YtjbhhgecdcgpeaaW.PrintWords Go.Proofs.YtjbhhgecdcgpeaaW.PrintLast Go.Proofs.YtjbhhgecdcgpeaaW.PrintMore Go.Proofs.Ytjbhhgecdcgpeaa.TA
set_option linter.unusedSimpArgs false
set_option linter.unusedVariables false
/-- The place of the first node with a tag, counted from a number on; -1: nowhere. -/
def firstP (tag : Int) : List S43 → Int → Int
  | [], _ => -1
  | x :: l, i => if x.f0 = tag then i else firstP tag l (i + 1)
theorem firstP_range (tag : Int) : ∀ (l : List S43) (i : Int), 0 ≤ i → firstP tag l i = -1 ∨ i ≤ firstP tag l i ∧ firstP tag l i < i + l.length
  | [], i, h => .inl rfl
  | x :: l, i, h => by
    unfold firstP
    split
    · exact .inr ⟨Int.le_refl _, by simp; omega⟩
    · rcases firstP_range tag l (i + 1) (by omega) with h1 | h1
      · exact .inl h1
      · refine .inr ⟨by omega, ?_⟩
        rw [List.length_cons]
        omega
theorem drop_rd0 (l : List S43) (i : Int) (h0 : 0 ≤ i) (h1 : i < l.length) : l.drop i.toNat = rd_T43 l i :: l.drop (i + 1).toNat := by
  have hi : i.toNat < l.length := by omega
  rw [List.drop_eq_getElem_cons hi, show (i + 1).toNat = i.toNat + 1 by omega]
  congr 1
  unfold rd_T43
  rw [List.getD_eq_getElem?_getD, List.getElem?_eq_getElem hi]
  rfl
set_option maxRecDepth 100000 in
theorem clo_calls (w : World) (g : Nat) (tag : Int) (h1 : w.cell? ⟨g, 0, none⟩ = some (.int .i64 tag)) (x : S43) (A : Option Addr) (n c : Nat) :
    Calls Try.prog 90 #[.agg #[.int .i64 x.f0, .string x.f1, .slice A n c], .pointer (some ⟨g, 0, none⟩)] w fun e w' => e = .returned (.bool (x.f0 == tag)) ∧ Below w.heap.size w w' := by
  go_enter Try.func90, Try.ntmps90
  go_upto_region 1 with (fail)
  obtain ⟨w1, hw1⟩ : ∃ w1, w1 = w.alloc (.cells #[.int .i64 x.f0, .string x.f1, .slice A n c] 43) := ⟨_, rfl⟩
  rw [← hw1]
  have B1 : Below w.heap.size w w1 := by rw [hw1]; exact below_alloc (Below.refl _ _) _
  have hbox : w1.heap[w.heap.size]? = some (.cells #[.int .i64 x.f0, .string x.f1, .slice A n c] 43 (0, 0)) := by rw [hw1]; exact heap_alloc_new _ _
  clear hw1
  have x1 : w1.cell? ⟨w.heap.size, 0, none⟩ = some (.int .i64 x.f0) := by simp [World.cell?, hbox]
  replace h1 := pw_cell_below B1 h1
  obtain ⟨b, hb⟩ : ∃ b, (x.f0 == tag) = b := ⟨_, rfl⟩
  cases b with
  | false =>
    go_wp2
    go_ret
    exact ⟨by rw [hb]; rfl, B1⟩
  | true =>
    go_wp2
    go_ret
    exact ⟨by rw [hb]; rfl, B1⟩
def IxRel (w : World) (tag : Int) (l : List S43) (kq : Nat) (v8 : Value) (W : World) : Prop :=
  ∃ i : Int, v8 = .int .i64 i ∧ i + kq = l.length ∧ 0 ≤ i ∧ firstP tag (l.drop i.toNat) i = firstP tag l 0 ∧ Below w.heap.size w W
set_option maxRecDepth 100000 in
set_option maxHeartbeats 400000 in
theorem indexFunc_calls (w : World) (A : Option Addr) (cp : Nat) (l : List S43) (hr : Kd.C k43 w A l.length l) (g : Nat) (tag : Int) (h1 : w.cell? ⟨g, 0, none⟩ = some (.int .i64 tag)) :
    Calls Try.prog 89 #[.slice A l.length cp, .func (.func 90) #[] #[.pointer (some ⟨g, 0, none⟩)]] w fun e w' => e = .returned (.int .i64 (firstP tag l 0)) ∧ Below w.heap.size w w' := by
  have HR := Aside0.mk hr
  have hlen : l.length ≤ 9223372036854775807 := hr.2.1
  have HL0 : IxRel w tag l l.length (.int .i64 0) w := ⟨0, rfl, by omega, Int.le_refl _, rfl, Below.refl _ _⟩
  clear hr
  go_enter Try.func89, Try.ntmps89
  go_wp2
  go_loopg [8] l.length (fun kq v8 W => IxRel w tag l kq v8 W)
  case atStart => exact HL0
  case round =>
    clear HL0
    obtain ⟨i, rfl, hK, hi0, hF, hB⟩ := hrel
    have HF := Aside0.mk hF
    have HB := Aside0.mk hB
    clear hF hB
    cases gk with
    | zero =>
      have hi : i = l.length := by omega
      subst hi
      have c1 : decide ((l.length : Int) < (l.length : Int)) = false := decide_eq_false (by omega)
      clear hK hi0
      go_wp2
      go_ret
      refine ⟨?_, HB.out⟩
      rw [← HF.out, show l.drop ((l.length : Int)).toNat = [] by simp]
      rfl
    | succ gk =>
      have hi : i < (l.length : Int) := by omega
      have c1 : decide (i < (l.length : Int)) = true := decide_eq_true hi
      obtain ⟨ad, A2, c2, e, x0, x1, x2, hl2, hC2⟩ := at_T43 HR.out i hi0 hi
      cases e
      replace x0 := (HB.out.cell (World.block_lt_of_cell? w _ x0)).trans x0
      replace x1 := (HB.out.cell (World.block_lt_of_cell? w _ x1)).trans x1
      replace x2 := (HB.out.cell (World.block_lt_of_cell? w _ x2)).trans x2
      have hD := drop_rd0 l i hi0 hi
      generalize rd_T43 l i = x at hD x0 x1 x2 hl2 hC2
      have y1 := pw_cell_below HB.out h1
      have p0 := eq_true hi0
      have q0 := eq_true hi
      have HK : Aside0 (i + 1 + gk = l.length) := ⟨by omega⟩
      obtain ⟨b, hb⟩ : ∃ b, (x.f0 == tag) = b := ⟨_, rfl⟩
      have hcl := clo_calls wr g tag y1 x A2 x.f2.length c2
      rw [hb] at hcl
      replace hb := Aside0.mk hb
      have HD := Aside0.mk hD
      clear hD hC2 hK
      cases b with
      | true =>
        go_wp2_with (go_at_call 90; (with_reducible refine hcl.mono ?_); rintro e w2 ⟨rfl, hB2⟩)
        go_ret
        refine ⟨?_, below_step HB.out hB2⟩
        rw [← HF.out, HD.out]
        unfold firstP
        rw [if_pos (by simpa using hb.out)]
        rfl
      | false =>
        go_wp2_with (go_at_call 90; (with_reducible refine hcl.mono ?_); rintro e w2 ⟨rfl, hB2⟩)
        go_roundg gk
        case measure => exact Nat.lt_succ_self _
        case rel =>
          refine ⟨i + 1, by first | rfl | go_num, HK.out, by omega, ?_, below_step HB.out hB2⟩
          rw [← HF.out, HD.out]
          conv => rhs; unfold firstP
          rw [if_neg (by simpa using hb.out)]
set_option maxRecDepth 100000 in
theorem at_calls (w : World) (A : Option Addr) (cp : Nat) (l : List S43) (hr : Kd.C k43 w A l.length l) (tag : Int) :
    Calls Try.prog 68 #[.slice A l.length cp, .int .i64 tag] w fun e w' => e = .returned (.int .i64 (firstP tag l 0)) ∧ Below w.heap.size w w' := by
  have hmf : ∀ (fn : Fn) (first cap : Array Value) (w : World), (Instr.makeFunc fn first cap).run Try.prog w = .ok (.func fn first cap) w := fun _ _ _ _ => rfl
  have hi := indexFunc_calls (w.alloc (.cells #[.int .i64 tag] 3)) A cp l (Kd.C_below hr (below_alloc (Below.refl _ _) _)) w.heap.size tag ((blk_cell (heap_alloc_new w _) 0).trans rfl)
  have HR := Aside0.mk hr
  clear hr
  go_enter Try.func68, Try.ntmps68
  go_wp2_with (go_at_call 89; (with_reducible refine hi.mono ?_); rintro e w2 ⟨rfl, hB2⟩)
  go_ret
  exact ⟨rfl, below_step (below_alloc (Below.refl _ _) _) hB2⟩
end Go.Proofs.Ytjbhhgecdcgpeaa.Tb
