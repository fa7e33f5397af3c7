/- Sub-elements written: the contracts of two and BuildSub. -/
import Derived.Test.YtjbhhgecdcgpeaaTbI
import Derived.Test.YtjbhhgecdcgpeaaShC
namespace Go.Proofs.Ytjbhhgecdcgpeaa.Tb
open Go Go.RowKit Go.Shelf Go.Proofs.YtjbhhgecdcgpeaaW.PrintWords Go.Proofs.YtjbhhgecdcgpeaaW.PrintLast Go.Proofs.YtjbhhgecdcgpeaaW.PrintMore Go.Proofs.Ytjbhhgecdcgpeaa.TA
set_option linter.unusedSimpArgs false
set_option linter.unusedVariables false
/-- Two digits. -/
def twoL (n : Int) : List UInt8 := [UInt8.ofNat (48 + n / 10).toNat, UInt8.ofNat (48 + n % 10).toNat]
theorem ofNat_small (n : Int) (h0 : 0 ≤ n) (h1 : n < 256) : ((UInt8.ofNat n.toNat).toNat : Int) = n := by
  rw [UInt8.toNat_ofNat']
  omega
set_option maxRecDepth 100000 in
theorem two_calls {b : Nat} {l : List UInt8} {w : World} (h : Bld b b l w) (hl : l.length + 2 ≤ 140737488355328) (n : Int) (h0 : 0 ≤ n) (h1 : n ≤ 99) :
    Calls Try.prog 48 #[.pointer (some ⟨b, 0, none⟩), .int .i64 n] w fun e w' => e = .returned (.tuple #[]) ∧ Bld b b (l ++ twoL n) w' ∧ Below b w w' ∧ Lib.OthersKept 5 (some b) w w' := by
  go_enter Try.func48, Try.ntmps48
  have HB := Aside0.mk h
  have HL := Aside0.mk h.lt
  clear h
  go_upto_region 1 with (go_at_call 64; (with_reducible refine (HB.out.byte (by omega) HL.out (UInt8.ofNat (48 + n / 10).toNat) _ (ofNat_small _ (by omega) (by omega)).symm).mono ?_); rintro e w2 ⟨rfl, hb2, hB2, hO2⟩; have HB2 := Aside0.mk hb2; have HBe2 := Aside0.mk hB2; have HO2 := Aside0.mk hO2; clear hb2 hB2 hO2)
  have HL2 := Aside0.mk HB2.out.lt
  go_wp2_with (go_at_call 64; (with_reducible refine (HB2.out.byte (by simp; omega) HL2.out (UInt8.ofNat (48 + n % 10).toNat) _ (ofNat_small _ (by omega) (by omega)).symm).mono ?_); rintro e w3 ⟨rfl, hb3, hB3, hO3⟩; have HB3 := Aside0.mk hb3; have HBe3 := Aside0.mk (HBe2.out.trans hB3); have HO3 := Aside0.mk (HO2.out.trans hO3); clear hb3 hB3 hO3)
  go_end0
  refine ⟨rfl, ?_, HBe3.out, HO3.out⟩
  have := HB3.out
  simpa [twoL] using this
/-- May a byte not be? -/
def badC (c : UInt8) : Bool := decide (c.toNat < 32) || decide (126 < c.toNat)
def badL (v : ByteArray) : Bool := v.data.toList.any badC
def predR (n : Nat) : Bool := decide (n < 32) || decide (126 < n)
theorem idx_bad (s : ByteArray) : ∀ (f pos : Nat), s.size ≤ pos + f → (decide (0 ≤ Lib.idxFuncFrom predR true s f pos)) = (s.data.toList.drop pos).any badC
  | 0, pos, h => by
    rw [List.drop_eq_nil_of_le (by rw [data_length]; omega)]
    rfl
  | f + 1, pos, h => by
    by_cases hp : pos < s.size
    · unfold Lib.idxFuncFrom
      rw [if_pos hp, List.drop_eq_getElem_cons (show pos < s.data.toList.length by rw [data_length]; exact hp)]
      rw [show s.data.toList[pos]'(by rw [data_length]; exact hp) = s[pos]'hp from rfl]
      by_cases ha : (s[pos]'hp).toNat < 128
      · rw [decode_ascii s pos hp ha, List.any_cons]
        cases hq : predR (s[pos]'hp).toNat with
        | true =>
          rw [if_pos rfl, show badC (s[pos]'hp) = true from hq, Bool.true_or]
          exact decide_eq_true (Int.natCast_nonneg _)
        | false =>
          rw [if_neg (by decide), show badC (s[pos]'hp) = false from hq, Bool.false_or]
          exact idx_bad s f (pos + 1) (by omega)
      · have hd := decode_high s pos hp (by omega)
        have hq : predR (Utf8.decode s pos).1 = true := by unfold predR; rw [decide_eq_true (show 126 < (Utf8.decode s pos).1 by omega), Bool.or_true]
        have hq2 : badC (s[pos]'hp) = true := by unfold badC; rw [decide_eq_true (show 126 < (s[pos]'hp).toNat by omega), Bool.or_true]
        rw [if_pos hq, List.any_cons, hq2, Bool.true_or]
        exact decide_eq_true (Int.natCast_nonneg _)
    · rw [Lib.idxFuncFrom_end _ _ _ _ _ hp, List.drop_eq_nil_of_le (by rw [data_length]; omega)]
      rfl
set_option maxRecDepth 100000 in
theorem pred_calls (w : World) (x : Nat) (hx : x ≤ 1114111) : Calls Try.prog 47 #[.int .i32 x] w fun e w' => e = .returned (.bool (predR x)) ∧ Below w.heap.size w w' := by
  by_cases h1 : x < 32
  · have c1 : decide ((x : Int) < 32) = true := decide_eq_true (by omega)
    have hr : predR x = true := by unfold predR; rw [decide_eq_true h1, Bool.true_or]
    go_enter Try.func47, Try.ntmps47
    go_wp2
    go_ret
    exact ⟨by rw [hr]; rfl, Below.refl _ _⟩
  · have c1 : decide ((x : Int) < 32) = false := decide_eq_false (by omega)
    obtain ⟨b, hb⟩ : ∃ b, decide (126 < (x : Int)) = b := ⟨_, rfl⟩
    have hr : predR x = b := by
      unfold predR
      rw [decide_eq_false h1, Bool.false_or, ← hb]
      exact decide_eq_decide.mpr (by omega)
    go_enter Try.func47, Try.ntmps47
    go_wp2
    go_ret
    exact ⟨by rw [hr]; rfl, Below.refl _ _⟩
theorem bad_calls (s : ByteArray) (w : World) : Calls Try.prog 46 #[.string s, .func (.func 47) #[] #[]] w fun e w' => e = .returned (.bool (badL s)) ∧ Below w.heap.size w w' := by
  refine (Try.strings_ContainsFunc_grows 47 #[] (enters_of Try.func47 (by kernel_rfl) rfl) predR s w (fun W x hx hb => pred_calls W x hx)).mono ?_
  rintro e w' ⟨rfl, hB⟩
  exact ⟨by rw [show decide (0 ≤ Lib.idxFunc predR true s) = badL s from idx_bad s s.size 0 (by omega)], hB⟩
def subErr (i : Int) (x : S43) : Option Int := if i = 500 then some 93 else if x.f0 < 0 then some 90 else if 99 < x.f0 then some 90 else if x.f2 ≠ [] then some 90 else if 99 < x.f1.size then some 91 else if badL x.f1 = true then some 11 else none
def subLine (x : S43) : List UInt8 := twoL x.f0 ++ twoL x.f1.size ++ x.f1.data.toList
def bsP : List S43 → Int → List UInt8 → Except Int (List UInt8)
  | [], _, acc => .ok acc
  | x :: l, i, acc => match subErr i x with
    | some c => .error c
    | none => bsP l (i + 1) (acc ++ subLine x)
theorem bsP_err {x : S43} {l : List S43} {i c : Int} {acc : List UInt8} (h : subErr i x = some c) : bsP (x :: l) i acc = .error c := by simp [bsP, h]
theorem bsP_go {x : S43} {l : List S43} {i : Int} {acc : List UInt8} (h : subErr i x = none) : bsP (x :: l) i acc = bsP l (i + 1) (acc ++ subLine x) := by simp [bsP, h]
def bsOut : Except Int (List UInt8) → ByteArray × Int
  | .error c => (⟨#[]⟩, c)
  | .ok b => if 9999 < b.length then (⟨#[]⟩, 91) else (⟨b.toArray⟩, 0)
def buildSubP (l : List S43) : ByteArray × Int := bsOut (bsP l 0 [])
theorem bsOut_long {b : List UInt8} (h : 9999 < b.length) : bsOut (.ok b) = (⟨#[]⟩, 91) := by simp [bsOut, h]
theorem bsOut_fits {b : List UInt8} (h : ¬ 9999 < b.length) : bsOut (.ok b) = (⟨b.toArray⟩, 0) := by simp [bsOut, h]
theorem box43 {w : World} {g : Nat} {a : Int} {b : ByteArray} {A : Option Addr} {n c : Nat} {fz : Nat × Nat} (h : w.heap[g]? = some (.cells #[.int .i64 a, .string b, .slice A n c] 43 fz)) : w.cell? ⟨g, 0, none⟩ = some (.int .i64 a) ∧ w.cell? ⟨g, 1, none⟩ = some (.string b) ∧ w.cell? ⟨g, 2, none⟩ = some (.slice A n c) := ⟨by simp [World.cell?, h], by simp [World.cell?, h], by simp [World.cell?, h]⟩
def BsRel (w : World) (l : List S43) (o : Except Int (List UInt8)) (kq : Nat) (v9 : Value) (W : World) : Prop :=
  ∃ (i : Int) (acc : List UInt8), v9 = .int .i64 i ∧ i + kq = l.length ∧ 0 ≤ i ∧ i ≤ 500 ∧ Bld w.heap.size w.heap.size acc W ∧ (acc.length : Int) ≤ 200 * i ∧ bsP (l.drop i.toNat) i acc = o ∧ Below w.heap.size w W
/-- How it ends. -/
def BsEnds (o : Except Int (List UInt8)) (w : World) (e : Ending) (w' : World) : Prop := e = .returned (.tuple #[.string (bsOut o).1, .int .i64 (bsOut o).2]) ∧ Below w.heap.size w w'
theorem Bld.len {b : Nat} {l : List UInt8} {W : World} (h : Bld b b l W) : Calls Try.prog 50 #[.pointer (some ⟨b, 0, none⟩)] W fun e w' => e = .returned (.int .i64 l.length) ∧ w' = W := by
  have := Try.Builder_Len b b (Lib.byteCells l) W h
  rwa [Lib.byteCells_length] at this
theorem Bld.text {b : Nat} {l : List UInt8} {W : World} (h : Bld b b l W) : Calls Try.prog 51 #[.pointer (some ⟨b, 0, none⟩)] W fun e w' => e = .returned (.string ⟨l.toArray⟩) ∧ Below b W w' := by
  refine (Try.Builder_String_any b b l W h h.lt).mono ?_
  rintro e w' ⟨rfl, _, h2, _⟩
  exact ⟨rfl, h2⟩
theorem Bld.beside {b : Nat} {l : List UInt8} {W W' : World} (h : Bld b b l W) (hB : Below W.heap.size W W') : Bld b b l W' := h.kept (grown_of_below hB none) (fun r e => by cases e)
set_option maxRecDepth 100000 in
set_option maxHeartbeats 2000000 in
theorem bs_calls (A : Option Addr) (c : Nat) (l : List S43) (w : World) (hr0 : Kd.C k43 w A l.length l) (hc0 : l.length ≤ c) (o : Except Int (List UInt8)) (ho : bsP l 0 [] = o) :
    Calls Try.prog 17 #[.slice A l.length c] w fun e w' => BsEnds o w e w' := by
  have HR0 := Aside0.mk hr0
  have hlen : l.length ≤ 9223372036854775807 := hr0.2.1
  have hb0 : Bld w.heap.size w.heap.size [] (w.alloc (.cells #[.pointer none, .slice none 0 0] 80)) := Lib.IsBuilderF.of (Lib.fresh_isBuilder 80 5 w)
  have HL0 : BsRel w l o l.length (.int .i64 0) (w.alloc (.cells #[.pointer none, .slice none 0 0] 80)) := ⟨0, [], rfl, by omega, Int.le_refl _, by omega, hb0, by simp, ho, below_alloc (Below.refl _ _) _⟩
  clear hr0 ho hb0
  go_enter Try.func17, Try.ntmps17
  go_wp2
  go_loopg [9] l.length (fun kq v9 W => BsRel w l o kq v9 W)
  case atStart => exact HL0
  case round =>
    clear HL0
    obtain ⟨i, acc, rfl, hK, hi0, hi5, hb, hal, hP, hB⟩ := hrel
    have HB := Aside0.mk hB
    have HBl := Aside0.mk hb
    have HAL := Aside0.mk hal
    clear hB hb hal
    cases gk with
    | zero =>
      have hi : i = l.length := by omega
      subst hi
      have c1 : decide ((l.length : Int) < (l.length : Int)) = false := decide_eq_false (by omega)
      rw [show l.drop ((l.length : Int)).toNat = [] by simp] at hP
      have ho : o = .ok acc := hP.symm
      subst ho
      have hal := HAL.out
      clear hK hi0 hP hal
      by_cases g1 : 9999 < acc.length
      · have d1 : decide ((9999 : Int) < (acc.length : Int)) = true := decide_eq_true (by omega)
        go_wp2_with (go_at_call 50; (with_reducible refine HBl.out.len.mono ?_); rintro e w2 ⟨rfl, rfl⟩)
        go_ret2
        exact ⟨by rw [bsOut_long g1]; rfl, HB.out⟩
      · have d1 : decide ((9999 : Int) < (acc.length : Int)) = false := decide_eq_false (by omega)
        go_wp2_with (first | (go_at_call 50; (with_reducible refine HBl.out.len.mono ?_); rintro e w2 ⟨rfl, rfl⟩) | (go_at_call 51; (with_reducible refine HBl.out.text.mono ?_); rintro e w2 ⟨rfl, hB2⟩))
        go_ret2
        exact ⟨by rw [bsOut_fits g1]; rfl, HB.out.trans hB2⟩
    | succ gk =>
      have hi : i < (l.length : Int) := by omega
      have c1 : decide (i < (l.length : Int)) = true := decide_eq_true hi
      rw [drop_rd l i hi0 hi] at hP
      obtain ⟨ad, A2, c2, e, x0, x1, x2, hl2, hC2⟩ := at_T43 HR0.out i hi0 hi
      cases e
      replace x0 := (HB.out.cell (World.block_lt_of_cell? w _ x0)).trans x0
      replace x1 := (HB.out.cell (World.block_lt_of_cell? w _ x1)).trans x1
      replace x2 := (HB.out.cell (World.block_lt_of_cell? w _ x2)).trans x2
      generalize rd_T43 l i = x at hP x0 x1 x2 hl2 hC2
      have HK : Aside0 (i + 1 + gk = l.length) := ⟨by omega⟩
      clear hC2 hK
      have p0 := eq_true hi0
      have q0 := eq_true hi
      go_upto_region 5 with (fail)
      obtain ⟨w1, hw1⟩ : ∃ w1, w1 = wr.alloc (.cells #[.int .i64 x.f0, .string x.f1, .slice A2 x.f2.length c2] 43) := ⟨_, rfl⟩
      obtain ⟨g, hg⟩ : ∃ g, g = wr.heap.size := ⟨_, rfl⟩
      rw [← hw1, ← hg]
      have hBx1 : w1.heap[g]? = some (.cells #[.int .i64 x.f0, .string x.f1, .slice A2 x.f2.length c2] 43 (0, 0)) := by rw [hw1, hg]; exact heap_alloc_new _ _
      have HB1 := Aside0.mk (below_step HB.out (show Below wr.heap.size wr w1 by rw [hw1]; exact below_alloc (Below.refl _ _) _))
      have HBl1 := Aside0.mk (HBl.out.beside (show Below wr.heap.size wr w1 by rw [hw1]; exact below_alloc (Below.refl _ _) _))
      have HBx1 := Aside0.mk hBx1
      have HGB : Aside0 (g ≠ w.heap.size) := ⟨by rw [hg]; have := HB.out.size; have h7 := HBl.out.at; obtain ⟨p7, v7, h8⟩ := h7; have := (Array.getElem?_eq_some_iff.1 h8).1; omega⟩
      have x0 : w1.cell? ⟨g, 0, none⟩ = some (.int .i64 x.f0) := (blk_cell hBx1 0).trans rfl
      have x1 : w1.cell? ⟨g, 1, none⟩ = some (.string x.f1) := (blk_cell hBx1 1).trans rfl
      have x2 : w1.cell? ⟨g, 2, none⟩ = some (.slice A2 x.f2.length c2) := (blk_cell hBx1 2).trans rfl
      clear hw1 hg hBx1 HB HBl p0 q0 c1
      by_cases g1 : i = 500
      · rw [bsP_err (c := 93) (by unfold subErr; rw [if_pos g1])] at hP
        have ho := hP.symm
        subst ho
        have d2 : (i == 500) = true := by rw [g1]; rfl
        clear hP
        go_wp2_with (fail)
        go_ret2
        exact ⟨rfl, HB1.out⟩
      have d2 : (i == 500) = false := beq_eq_false_iff_ne.mpr g1
      by_cases g2 : x.f0 < 0
      · have d3 : decide (x.f0 < 0) = true := decide_eq_true g2
        rw [bsP_err (c := 90) (by unfold subErr; rw [if_neg g1, if_pos g2])] at hP
        have ho := hP.symm
        subst ho
        clear hP
        go_wp2_with (fail)
        go_ret2
        exact ⟨rfl, HB1.out⟩
      have d3 : decide (x.f0 < 0) = false := decide_eq_false g2
      by_cases g3 : 99 < x.f0
      · have d4 : decide (99 < x.f0) = true := decide_eq_true g3
        rw [bsP_err (c := 90) (by unfold subErr; rw [if_neg g1, if_neg g2, if_pos g3])] at hP
        have ho := hP.symm
        subst ho
        clear hP
        go_wp2_with (fail)
        go_ret2
        exact ⟨rfl, HB1.out⟩
      have d4 : decide (99 < x.f0) = false := decide_eq_false g3
      by_cases g4 : x.f2 ≠ []
      · have d5 : decide ((0 : Int) < (x.f2.length : Int)) = true := decide_eq_true (by have := List.length_pos_iff.mpr g4; omega)
        have n5 : (0 < x.f2.length) = True := eq_true (List.length_pos_iff.mpr g4)
        rw [bsP_err (c := 90) (by unfold subErr; rw [if_neg g1, if_neg g2, if_neg g3, if_pos g4])] at hP
        have ho := hP.symm
        subst ho
        clear hP
        go_wp2_with (fail)
        go_ret2
        exact ⟨rfl, HB1.out⟩
      have d5 : decide ((0 : Int) < (x.f2.length : Int)) = false := decide_eq_false (by rw [Classical.not_not.mp g4]; decide)
      have n5 : (0 < x.f2.length) = False := eq_false (by rw [Classical.not_not.mp g4]; decide)
      by_cases g5 : 99 < x.f1.size
      · have d6 : decide ((99 : Int) < (x.f1.size : Int)) = true := decide_eq_true (by omega)
        rw [bsP_err (c := 91) (by unfold subErr; rw [if_neg g1, if_neg g2, if_neg g3, if_neg g4, if_pos g5])] at hP
        have ho := hP.symm
        subst ho
        clear hP
        go_wp2_with (fail)
        go_ret2
        exact ⟨rfl, HB1.out⟩
      have d6 : decide ((99 : Int) < (x.f1.size : Int)) = false := decide_eq_false (by omega)
      have hbc := bad_calls x.f1 w1
      obtain ⟨bb, hbb⟩ : ∃ bb, badL x.f1 = bb := ⟨_, rfl⟩
      rw [hbb] at hbc
      cases bb with
      | true =>
        rw [bsP_err (c := 11) (by unfold subErr; rw [if_neg g1, if_neg g2, if_neg g3, if_neg g4, if_neg g5, if_pos hbb])] at hP
        have ho := hP.symm
        subst ho
        clear hP hbb
        go_wp2_with (go_at_call 46; (with_reducible refine hbc.mono ?_); rintro e w2 ⟨rfl, hB2⟩)
        go_ret2
        exact ⟨rfl, below_step HB1.out hB2⟩
      | false =>
        rw [bsP_go (by unfold subErr; rw [if_neg g1, if_neg g2, if_neg g3, if_neg g4, if_neg g5, if_neg (by rw [hbb]; decide)])] at hP
        have HP := Aside0.mk hP
        have hal := HAL.out
        have hi500 : i < 500 := by omega
        have hacc : (acc.length : Int) ≤ 100000 := by omega
        have HAC := Aside0.mk hacc
        have hlen9 : (subLine x).length ≤ 103 := by
          unfold subLine twoL
          simp [data_length]
          omega
        have HL9 := Aside0.mk hlen9
        have HI5 := Aside0.mk hi500
        have f0a : 0 ≤ x.f0 := by omega
        have f0b : x.f0 ≤ 99 := by omega
        have f1b : (x.f1.size : Int) ≤ 99 := by omega
        have f1a : (0 : Int) ≤ (x.f1.size : Int) := Int.natCast_nonneg _
        clear hP hbb hal hi500 hacc hlen9 g1 g2 g3 g4 g5
        go_upto_region 14 with (first | (go_at_call 46; (with_reducible refine hbc.mono ?_); rintro e w2 ⟨rfl, hB2⟩; have HB1 := Aside0.mk (below_step HB1.out hB2); have HBl1 := Aside0.mk (HBl1.out.beside hB2); have HBx1 := Aside0.mk (blk_below HBx1.out hB2); obtain ⟨x0, x1, x2⟩ := box43 HBx1.out; clear hB2) | (go_at_call 48; (with_reducible refine (two_calls HBl1.out (by have := HAC.out; omega) _ f0a f0b).mono ?_); rintro e w2 ⟨rfl, hb2, hB2, hO2⟩; have HB1 := Aside0.mk (HB1.out.trans hB2); have HBl1 := Aside0.mk hb2; have HBx1 := Aside0.mk (hO2 _ _ HBx1.out (fun e => HGB.out (Option.some.inj e)) (fun c fz e => by cases e)); obtain ⟨x0, x1, x2⟩ := box43 HBx1.out; clear hb2 hB2 hO2))
        go_upto_region 15 with (go_at_call 48; (with_reducible refine (two_calls HBl1.out (by have := HAC.out; simp [twoL]; omega) _ f1a f1b).mono ?_); rintro e w2 ⟨rfl, hb2, hB2, hO2⟩; have HB1 := Aside0.mk (HB1.out.trans hB2); have HBl1 := Aside0.mk hb2; have HBx1 := Aside0.mk (hO2 _ _ HBx1.out (fun e => HGB.out (Option.some.inj e)) (fun c fz e => by cases e)); obtain ⟨x0, x1, x2⟩ := box43 HBx1.out; clear hb2 hB2 hO2)
        go_wp2_with (go_at_call 49; (with_reducible refine (HBl1.out.string x.f1 (by have := HAC.out; simp [twoL]; omega) HBl1.out.lt).mono ?_); rintro e w2 ⟨rfl, hb2, hB2, hO2⟩; have HB1 := Aside0.mk (HB1.out.trans hB2); have HBl1 := Aside0.mk hb2; have HBx1 := Aside0.mk (hO2 _ _ HBx1.out (fun e => HGB.out (Option.some.inj e)) (fun c fz e => by cases e)); obtain ⟨x0, x1, x2⟩ := box43 HBx1.out; clear hb2 hB2 hO2)
        go_roundg gk
        case measure => exact Nat.lt_succ_self _
        case rel =>
          have h5 := HI5.out
          refine ⟨i + 1, acc ++ subLine x, by first | rfl | go_num, HK.out, by omega, by omega, ?_, ?_, HP.out, HB1.out⟩
          · have := HBl1.out
            simpa [subLine] using this
          · have h9 := HL9.out
            have hl := HAL.out
            rw [List.length_append]
            omega
end Go.Proofs.Ytjbhhgecdcgpeaa.Tb
