/- The document's own Book: contracts: counts, Used, New. -/
import Derived.Test.YtgndgjjejgbmoaaPl1
import Derived.Test.YtgndgjjejgbmoaaPStandinPlaysx1
namespace Go.Proofs.Ytgndgjjejgbmoaa.Bok
open Go Go.RowKit Go.Maps Go.Proofs.YtgndgjjejgbmoaaW.PrintWords Go.Proofs.YtgndgjjejgbmoaaW.PrintLast Go.Proofs.YtgndgjjejgbmoaaW.PrintMore PStandinHolds
set_option linter.unusedSimpArgs false
set_option linter.unusedVariables false
/-- What was approved, in its bounds. -/
def OkGv (g : Gv) : Prop := (0 ≤ g.2.1 ∧ g.2.1 ≤ 999999999999) ∧ (0 ≤ g.2.2 ∧ g.2.2 ≤ 9223372036854775807)
theorem runits_f (x : Int) : PStandinPlays.turnstileref21_units.f x = some (amt x) := by
  unfold PStandinPlays.turnstileref21_units.f amt
  by_cases h : x ≥ 0
  · rw [if_pos h]; simp [h]
  · rw [if_neg h]; simp [h]
theorem rright_f (L0 L1 L2 W : Int) : PStandinPlays.turnstileref21_Right.f L0 L1 L2 W = some (rightP L0 L1 L2 W) := by
  unfold PStandinPlays.turnstileref21_Right.f rightP
  simp only [runits_f, Option.bind_some]
  cases amt L0 <;> cases amt L1 <;> cases amt L2 <;> simp
  by_cases h : 1 ≤ W <;> simp [h]
theorem cntG_bnd {W now : Int} {c : ByteArray} : ∀ {l : List Gv}, (∀ g ∈ l, OkGv g) → (0 ≤ (cntG W now c l).sum ∧ (cntG W now c l).sum ≤ 999999999999 * l.length) ∧ (cntG W now c l).length ≤ l.length
  | [], _ => ⟨⟨Int.le_refl _, Int.le_refl _⟩, Nat.le_refl _⟩
  | g :: l, h => by
    obtain ⟨⟨h1, h2⟩, h3⟩ := cntG_bnd (W := W) (now := now) (c := c) (fun x hx => h x (List.mem_cons_of_mem _ hx))
    have hg := (h g List.mem_cons_self).1
    have e : cntG W now c (g :: l) = (if (decide (g.1 = c) && decide (now - g.2.2 < W)) = true then [g.2.1] else []) ++ cntG W now c l := by
      rw [show g :: l = [] ++ [g] ++ l from rfl]
      unfold cntG
      rw [List.filter_append, List.map_append]
      congr 1
      by_cases hh : (decide (g.1 = c) && decide (now - g.2.2 < W)) = true
      · rw [if_pos hh]
        simp only [List.nil_append, List.filter_cons, List.filter_nil, hh, if_true, List.map_cons, List.map_nil]
      · have h' := (Bool.not_eq_true _).mp hh
        rw [if_neg hh]
        simp only [List.nil_append, List.filter_cons, List.filter_nil, h', Bool.false_eq_true, if_false, List.map_nil]
    rw [e]
    split
    · simp only [List.sum_append, List.sum_cons, List.sum_nil, List.length_append, List.length_cons, List.length_nil]
      omega
    · simp only [List.nil_append, List.length_cons]
      omega
set_option maxRecDepth 100000 in
set_option maxHeartbeats 1000000 in
theorem counts_calls (w : World) (r : Nat) (cards nw : Int) (L : List Gv) (v : Value) (hB : RB w r cards nw L v) (hl : L.length ≤ 100000) (hok : ∀ g ∈ L, OkGv g) (W : Int) (c : ByteArray) (now : Int) (h0 : 0 ≤ now) (h1 : now ≤ 9223372036854775807) :
    Calls Try.prog 32 #[.pointer (some ⟨r, 0, none⟩), .int .i64 W, .string c, .int .i64 now] w fun e w' => e = .returned (.tuple #[.int .i64 ((cntG W now c L).length : Int), .int .i64 (cntG W now c L).sum]) ∧ Below w.heap.size w w' := by
  obtain ⟨A, cp, rfl, hA⟩ := hB.form
  obtain ⟨z0, z1, z2⟩ := hB.cell
  clear z0 z1
  go_enter Try.func32, Try.ntmps32
  go_wp2
  go_loopg [10, 11, 12] L.length (fun kq v10 v11 v12 w' => ∃ k : Nat, v12 = .int .i64 k ∧ v10 = .int .i64 ((cntG W now c (L.take k)).length : Int) ∧ v11 = .int .i64 (cntG W now c (L.take k)).sum ∧ Aside0 (k + kq = L.length) ∧ Aside0 (Below w.heap.size w w'))
  case atStart => exact ⟨0, rfl, rfl, rfl, ⟨Nat.zero_add _⟩, ⟨Below.refl _ _⟩⟩
  case round =>
    obtain ⟨k, rfl, rfl, rfl, HK, HB⟩ := hrel
    have y2 := pw_cell_below HB.out z2
    cases gk with
    | zero =>
      have e : k = L.length := HK.out
      subst e
      have d1 : decide ((L.length : Int) < (L.length : Int)) = false := decide_eq_false (by omega)
      rw [List.take_length]
      go_wp2
      go_ret2
      exact ⟨rfl, HB.out⟩
    | succ gk =>
      have hk : k < L.length := by have := HK.out; omega
      have d1 : decide ((k : Int) < (L.length : Int)) = true := decide_eq_true (by omega)
      have c2 : (0 ≤ (k : Int)) = True := eq_true (by omega)
      have c3 : ((k : Int) < (L.length : Int)) = True := eq_true (by omega)
      have c4 : (k < L.length) = True := eq_true hk
      obtain ⟨ad, rfl⟩ := hA (by omega)
      obtain ⟨x0, x1, x2⟩ := hB.at_ k hk
      have hgv := hok L[k] (List.getElem_mem hk)
      have ht : L.take (k + 1) = L.take k ++ [L[k]] := (List.take_append_getElem hk).symm
      have hcn := cntG_snoc W now c (L.take k) L[k]
      rw [← ht] at hcn
      have hbd := cntG_bnd (W := W) (now := now) (c := c) (l := L.take k) (fun g hg => hok g (List.mem_of_mem_take hg))
      have htl : (L.take k).length = k := by rw [List.length_take]; omega
      rw [htl] at hbd
      clear ht htl
      obtain ⟨D, hD⟩ : ∃ D, L[k].1 = D := ⟨_, rfl⟩
      obtain ⟨gu, hgu⟩ : ∃ gu, L[k].2.1 = gu := ⟨_, rfl⟩
      obtain ⟨gt, hgt⟩ : ∃ gt, L[k].2.2 = gt := ⟨_, rfl⟩
      unfold OkGv at hgv
      rw [hD] at x0 hcn
      rw [hgu] at x1 hcn hgv
      rw [hgt] at x2 hcn hgv
      clear hD hgu hgt
      generalize hq : cntG W now c (L.take k) = q at hcn hbd ⊢
      replace x0 := pw_cell_below HB.out x0
      replace x1 := pw_cell_below HB.out x1
      replace x2 := pw_cell_below HB.out x2
      have q0 : 0 ≤ q.sum := hbd.1.1
      have q1 : q.sum ≤ 99999999999900000 := by omega
      have q2 : (q.length : Int) ≤ 100000 := by omega
      have q3 : 0 ≤ gu := hgv.1.1
      have q4 : gu ≤ 999999999999 := hgv.1.2
      have q5 : 0 ≤ gt := hgv.2.1
      have q6 : gt ≤ 9223372036854775807 := hgv.2.2
      have q8 : (k : Int) ≤ 100000 := by omega
      clear hbd hgv hq
      by_cases hDC : D = c
      · subst hDC
        by_cases hwn : now - gt < W
        · have d5 : decide (now - gt < W) = true := decide_eq_true hwn
          rw [if_pos (by simp [hwn])] at hcn
          replace hcn := Aside0.mk hcn
          go_wp2
          go_roundg gk
          case measure => exact Nat.lt_succ_self _
          case rel =>
            refine ⟨k + 1, rfl, ?_, ?_, ⟨(Nat.add_right_comm k 1 gk).trans HK.out⟩, HB⟩
            · rw [hcn.out, List.length_append]; rfl
            · rw [hcn.out, List.sum_append]; simp
        · have d5 : decide (now - gt < W) = false := decide_eq_false hwn
          rw [if_neg (by simp [hwn]), List.append_nil] at hcn
          replace hcn := Aside0.mk hcn
          go_wp2
          go_roundg gk
          case measure => exact Nat.lt_succ_self _
          case rel => exact ⟨k + 1, rfl, by rw [hcn.out], by rw [hcn.out], ⟨(Nat.add_right_comm k 1 gk).trans HK.out⟩, HB⟩
      · have d6 : (D.toList == c.toList) = false := by simpa using toList_ne hDC
        have d7 : decide (D.toList = c.toList) = false := decide_eq_false (toList_ne hDC)
        rw [if_neg (by simp [hDC]), List.append_nil] at hcn
        replace hcn := Aside0.mk hcn
        go_wp2
        go_roundg gk
        case measure => exact Nat.lt_succ_self _
        case rel => exact ⟨k + 1, rfl, by rw [hcn.out], by rw [hcn.out], ⟨(Nat.add_right_comm k 1 gk).trans HK.out⟩, HB⟩
/-- What the document's Used answers. -/
def usedL (L0 L1 L2 W now : Int) (c : ByteArray) (L : List Gv) : Int × Int := if rightP L0 L1 L2 W = true ∧ 0 ≤ now then (((cntG W now c L).length : Int), (cntG W now c L).sum) else (0, 0)
set_option maxRecDepth 100000 in
set_option maxHeartbeats 1000000 in
theorem rused_calls (w : World) (r : Nat) (cards nw : Int) (L : List Gv) (v : Value) (hB : RB w r cards nw L v) (hl : L.length ≤ 100000) (hok : ∀ g ∈ L, OkGv g) (L0 L1 L2 W : Int) (c : ByteArray) (now : Int) (h1 : now ≤ 9223372036854775807) :
    Calls Try.prog 25 #[.pointer (some ⟨r, 0, none⟩), .agg #[.int .i64 L0, .int .i64 L1, .int .i64 L2, .int .i64 W], .string c, .int .i64 now] w fun e w' => e = .returned (.tuple #[.int .i64 (usedL L0 L1 L2 W now c L).1, .int .i64 (usedL L0 L1 L2 W now c L).2]) ∧ Below w.heap.size w w' := by
  have hr := rright_f L0 L1 L2 W
  obtain ⟨b, hb⟩ : ∃ b, rightP L0 L1 L2 W = b := ⟨_, rfl⟩
  rw [hb] at hr
  go_enter Try.func25, Try.ntmps25
  go_upto_region 1 with (fail)
  obtain ⟨w1, hw1⟩ : ∃ w1, w1 = w.alloc (.cells #[.int .i64 L0, .int .i64 L1, .int .i64 L2, .int .i64 W] 23) := ⟨_, rfl⟩
  rw [← hw1]
  have B1 : Below w.heap.size w w1 := by rw [hw1]; exact below_alloc (Below.refl _ _) _
  have hbox : w1.heap[w.heap.size]? = some (.cells #[.int .i64 L0, .int .i64 L1, .int .i64 L2, .int .i64 W] 23 (0, 0)) := by rw [hw1]; exact heap_alloc_new _ _
  have hgl : w.heap.size < w1.heap.size := by rw [hw1]; exact Nat.lt_of_lt_of_eq (Nat.lt_succ_self _) (Array.size_push _).symm
  clear hw1
  have hbk := hB.below B1
  obtain ⟨x0, x1, x2, x3⟩ := box_cells hbox rfl
  cases b with
  | false =>
    have hU : usedL L0 L1 L2 W now c L = (0, 0) := by unfold usedL; rw [hb]; simp
    go_wp2_with (first | (go_at_call 31; with_reducible refine (PStandinPlays.turnstileref21_Right.calls L0 L1 L2 W false _ hr).mono ?_; rintro e w2 ⟨rfl, hb2⟩))
    go_ret2
    exact ⟨by rw [hU]; rfl, below_step B1 hb2⟩
  | true =>
    by_cases h0 : 0 ≤ now
    · have d0 : decide (now < 0) = false := decide_eq_false (by omega)
      have hU : usedL L0 L1 L2 W now c L = (((cntG W now c L).length : Int), (cntG W now c L).sum) := by unfold usedL; rw [hb]; simp [h0]
      go_wp2_with (first
        | (go_at_call 31; with_reducible refine (PStandinPlays.turnstileref21_Right.calls L0 L1 L2 W true _ hr).mono ?_; rintro e w2 ⟨rfl, hb2⟩; have y3 := pw_cell_below hb2 x3)
        | (go_at_call 32; with_reducible refine (counts_calls w2 r cards nw L v (hbk.below hb2) hl hok W c now h0 h1).mono ?_; rintro e w3 ⟨rfl, hb3⟩))
      go_ret2
      exact ⟨by rw [hU]; rfl, below_step (below_step B1 hb2) hb3⟩
    · have d0 : decide (now < 0) = true := decide_eq_true (by omega)
      have hU : usedL L0 L1 L2 W now c L = (0, 0) := by unfold usedL; rw [hb]; simp [h0]
      go_wp2_with (first | (go_at_call 31; with_reducible refine (PStandinPlays.turnstileref21_Right.calls L0 L1 L2 W true _ hr).mono ?_; rintro e w2 ⟨rfl, hb2⟩))
      go_ret2
      exact ⟨by rw [hU]; rfl, below_step B1 hb2⟩
set_option maxRecDepth 100000 in
theorem rnew_bad (cards : Int) (w : World) (hb : cards < 1 ∨ 10000 < cards) : Calls Try.prog 14 #[.int .i64 cards] w fun e w' => e = .returned (.tuple #[.pointer none, .int .i64 1]) ∧ Below w.heap.size w w' := by
  by_cases hc : cards < 1
  · have c1 : decide (cards < 1) = true := decide_eq_true hc
    clear hb
    go_enter Try.func14, Try.ntmps14
    go_wp2
    go_ret2
    exact ⟨rfl, Below.refl _ _⟩
  · have c1 : decide (cards < 1) = false := decide_eq_false hc
    have d1 : decide (10000 < cards) = true := decide_eq_true (by omega)
    clear hb
    go_enter Try.func14, Try.ntmps14
    go_wp2
    go_ret2
    exact ⟨rfl, Below.refl _ _⟩
set_option maxRecDepth 100000 in
theorem rnew_good (cards : Int) (w : World) (h1 : 1 ≤ cards) (h2 : cards ≤ 10000) : Calls Try.prog 14 #[.int .i64 cards] w fun e w' => ∃ r, e = .returned (.tuple #[.pointer (some ⟨r, 0, none⟩), .int .i64 0]) ∧ RB w' r cards 0 [] (.slice none 0 0) ∧ Below w.heap.size w w' ∧ w.heap.size ≤ r := by
  have c1 : decide (cards < 1) = false := decide_eq_false (by omega)
  have d1 : decide (10000 < cards) = false := decide_eq_false (by omega)
  clear h1 h2
  go_enter Try.func14, Try.ntmps14
  go_wp2
  go_ret2
  exact ⟨w.heap.size, rfl, ⟨heap_alloc_new _ _, World.ownsRow_nil _ _ _ _⟩, below_alloc (Below.refl _ _) _, Nat.le_refl _⟩
end Go.Proofs.Ytgndgjjejgbmoaa.Bok
