/- StandinHolds: the walk. -/
import Derived.Test.YtgndgjjejgbmoaaHo1
namespace Go.Proofs.Ytgndgjjejgbmoaa.Bok
open Go Go.RowKit Go.Maps Go.Proofs.YtgndgjjejgbmoaaW.PrintWords Go.Proofs.YtgndgjjejgbmoaaW.PrintLast Go.Proofs.YtgndgjjejgbmoaaW.PrintMore PStandinHolds
set_option linter.unusedSimpArgs false
set_option linter.unusedVariables false
theorem wrap_id {x : Int} (h0 : -9223372036854775808 ≤ x) (h1 : x ≤ 9223372036854775807) : wrap64 x = x := by unfold wrap64; omega
theorem toList_ne {D C : ByteArray} (h : ¬ D = C) : ¬ D.toList = C.toList := by
  intro e
  rw [ByteArray.toList_eq, ByteArray.toList_eq] at e
  cases D
  cases C
  simp at e
  subst e
  exact h rfl
def I64 (x : Int) : Prop := -9223372036854775808 ≤ x ∧ x ≤ 9223372036854775807
/-- A row of tries, that is read. -/
def Tries (w : World) (A : Option Addr) (T : List (Int × Int × Int)) : Prop := ∀ i (h : i < T.length), (I64 T[i].1 ∧ I64 T[i].2.1 ∧ I64 T[i].2.2) ∧ ∃ ad, A = some ad ∧
  w.cell? (ad.add (i * 3)) = some (.int .i64 T[i].1) ∧ w.cell? ⟨(ad.add (i * 3)).block, (ad.add (i * 3)).off + 1, none⟩ = some (.int .i64 T[i].2.1) ∧ w.cell? ⟨(ad.add (i * 3)).block, (ad.add (i * 3)).off + 2, none⟩ = some (.int .i64 T[i].2.2)
theorem pick_calls (a n : Int) (ha : I64 a) (hn : 0 < n) (w : World) : Calls Try.prog 11 #[.int .i64 a, .int .i64 n] w fun e w' => e = .returned (.int .i64 (pickI a n)) ∧ Drawn0 w w' := turnstilelaw21_pick.calls a n _ w (pick_eq a n ha.1 ha.2 hn)
theorem card_calls (a n : Int) (ha : I64 a) (hn : 0 < n) (w : World) : Calls Try.prog 10 #[.int .i64 a, .int .i64 n] w fun e w' => e = .returned (.string (cardB (pickI a n))) ∧ Below w.heap.size w w' := turnstilelaw21_card.calls a n _ w (card_eq a n ha.1 ha.2 hn)
theorem limits_calls (a b c d : Int) (ha : I64 a) (hb : I64 b) (hc : I64 c) (hd : I64 d) (w : World) : Calls Try.prog 9 #[.agg #[.int .i64 a, .int .i64 b, .int .i64 c, .int .i64 d]] w fun e w' => e = .returned (.agg #[.int .i64 (pickI a 300), .int .i64 (pickI b 8), .int .i64 (pickI c 900), .int .i64 (1 + pickI d 40)]) ∧ Below w.heap.size w w' := by
  refine turnstilelaw21_limits.calls a b c d _ _ _ _ w ?_
  unfold turnstilelaw21_limits.f
  rw [pick_eq a 300 ha.1 ha.2 (by decide), pick_eq b 8 hb.1 hb.2 (by decide), pick_eq c 900 hc.1 hc.2 (by decide), pick_eq d 40 hd.1 hd.2 (by decide)]
  have := pick_range d 40 (by decide)
  have e : wrap64 (1 + pickI d 40) = 1 + pickI d 40 := by unfold wrap64; omega
  simp only [Option.bind_some, e]
def cellsG : List Gv → List Value
  | [] => []
  | g :: l => .string g.1 :: .int .i64 g.2.1 :: .int .i64 g.2.2 :: cellsG l
theorem cellsG_length : ∀ l, (cellsG l).length = l.length * 3
  | [] => rfl
  | a :: l => by simp only [cellsG, List.length_cons, cellsG_length l]; omega
theorem cellsG_append : ∀ l m, cellsG (l ++ m) = cellsG l ++ cellsG m
  | [], _ => rfl
  | a :: l, m => by simp only [cellsG, List.cons_append, cellsG_append l m]
theorem cellsG_get : ∀ (l : List Gv) (i : Nat) (h : i < l.length), (cellsG l)[i * 3]? = some (.string l[i].1) ∧ (cellsG l)[i * 3 + 1]? = some (.int .i64 l[i].2.1) ∧ (cellsG l)[i * 3 + 2]? = some (.int .i64 l[i].2.2)
  | a :: l, 0, _ => ⟨rfl, rfl, rfl⟩
  | a :: l, i + 1, h => by
    have := cellsG_get l i (by simpa using h)
    simp only [cellsG, List.getElem_cons_succ]
    rw [show (i + 1) * 3 = i * 3 + 3 by omega]
    exact this
theorem gv_at {w : World} {ad : Addr} {l : List Gv} {cp : Nat} (h : w.ownsRow 0 37 3 (.slice (some ad) l.length cp) l.length (cellsG l)) (i : Nat) (hi : i < l.length) :
    w.cell? (ad.add (i * 3)) = some (.string l[i].1) ∧ w.cell? ⟨(ad.add (i * 3)).block, (ad.add (i * 3)).off + 1, none⟩ = some (.int .i64 l[i].2.1) ∧ w.cell? ⟨(ad.add (i * 3)).block, (ad.add (i * 3)).off + 2, none⟩ = some (.int .i64 l[i].2.2) := by
  rcases h.2 with ⟨e1, _⟩ | ⟨g, cap, cur, e1, e2⟩
  · cases e1
  · injection e1 with e1 _ _
    injection e1 with e1
    subst e1
    have hc := h.cells (g := g) rfl
    obtain ⟨k0, k1, k2⟩ := cellsG_get l i hi
    exact ⟨hc _ _ k0, by rw [← add_field _ _ 1 (by omega)]; exact hc _ _ k1, by rw [← add_field _ _ 2 (by omega)]; exact hc _ _ k2⟩
theorem gv_form {w : World} {v : Value} {l : List Gv} (h : w.ownsRow 0 37 3 v l.length (cellsG l)) : ∃ A cp, v = .slice A l.length cp ∧ (0 < l.length → ∃ ad, A = some ad) := by
  rcases h.2 with ⟨e1, e2⟩ | ⟨g, cap, cur, e1, _⟩
  · exact ⟨none, 0, by rw [e1, e2], fun h => by omega⟩
  · exact ⟨_, _, e1, fun _ => ⟨_, rfl⟩⟩
theorem Keep.blk {Z : Nat → Prop} {w w' : World} (h : Keep Z w w') {i : Nat} (hi : Z i) : w'.heap[i]? = w.heap[i]? := h.2 i hi
theorem cntG_bound {W now : Int} {c : ByteArray} : ∀ {l : List Gv}, (∀ g ∈ l, 0 ≤ g.2.1 ∧ g.2.1 ≤ 320) → (0 ≤ (cntG W now c l).sum ∧ (cntG W now c l).sum ≤ 320 * l.length) ∧ (cntG W now c l).length ≤ l.length
  | [], _ => ⟨⟨Int.le_refl _, Int.le_refl _⟩, Nat.le_refl _⟩
  | g :: l, h => by
    obtain ⟨⟨h1, h2⟩, h3⟩ := cntG_bound (W := W) (now := now) (c := c) (fun x hx => h x (List.mem_cons_of_mem _ hx))
    have hg := h g List.mem_cons_self
    have e : cntG W now c (g :: l) = (if (decide (g.1 = c) && decide (now - g.2.2 < W)) = true then [g.2.1] else []) ++ cntG W now c l := by
      rw [show g :: l = [g] ++ l from rfl]
      unfold cntG
      rw [List.filter_append, List.map_append]
      congr 1
      by_cases hh : (decide (g.1 = c) && decide (now - g.2.2 < W)) = true
      · rw [if_pos hh]
        simp only [List.filter_cons, List.filter_nil, hh, if_true, List.map_cons, List.map_nil]
      · have h' := (Bool.not_eq_true _).mp hh
        rw [if_neg hh]
        simp only [List.filter_cons, List.filter_nil, h', Bool.false_eq_true, if_false, List.map_nil]
    rw [e]
    split
    · simp only [List.sum_append, List.sum_cons, List.sum_nil, List.length_append, List.length_cons, List.length_nil]
      omega
    · simp only [List.nil_append, List.length_cons]
      omega
/-- What a round finds. -/
def HRel (B : Nat) (w0 : World) (g p m : Nat) (L0 L1 L2 W : Int) (top : Nat) (kq : Nat) (v9 v10 v11 : Value) (w' : World) : Prop :=
  ∃ (i : Nat) (now : Int) (all : List Gv) (place last : Int) (S : St), v9 = .int .i64 now ∧ v11 = .int .i64 i ∧ i + kq = top ∧ (0 ≤ now ∧ now ≤ 8 * i) ∧ all.length ≤ i ∧ w'.ownsRow 0 37 3 v10 all.length (cellsG all) ∧
    w'.heap[g]? = some (.cells #[.int .i64 L0, .int .i64 L1, .int .i64 L2, .int .i64 W] 23 (0, 0)) ∧ At B w0 (fun x => x = g ∨ v10.ownBlock = some x) p m 10 place last S w' ∧ Good i place S ∧ Inv L1 L2 W now last all S
theorem box_ne {w : World} {v : Value} {n : Nat} {xs : List Value} {g : Nat} {cs : Array Value} (h : w.ownsRow 0 37 3 v n xs) (hb : w.heap[g]? = some (.cells cs 23 (0, 0))) : some g ≠ v.ownBlock := by
  intro e
  obtain ⟨cells, hc⟩ := own_typed h g e.symm
  rw [hb] at hc
  injection hc with hc
  injection hc with _ hc
  cases hc
theorem info37 : (Try.prog.info? 37).map (fun i => (i.zero, i.size, i.bytes)) = some (some (.agg #[.string ByteArray.empty, .int .i64 0, .int .i64 0]), 3, 32) := by kernel_rfl
theorem box_cells {w' w3 : World} {g : Nat} {L0 L1 L2 W : Int} (h : w'.heap[g]? = some (.cells #[.int .i64 L0, .int .i64 L1, .int .i64 L2, .int .i64 W] 23 (0, 0))) (e : w3.heap[g]? = w'.heap[g]?) :
    w3.cell? ⟨g, 0, none⟩ = some (.int .i64 L0) ∧ w3.cell? ⟨g, 1, none⟩ = some (.int .i64 L1) ∧ w3.cell? ⟨g, 2, none⟩ = some (.int .i64 L2) ∧ w3.cell? ⟨g, 3, none⟩ = some (.int .i64 W) := by
  rw [h] at e
  simp [World.cell?, e]
set_option maxRecDepth 100000 in
set_option maxHeartbeats 2000000 in
theorem holds_calls (w : World) (a b c d : Int) (ha : I64 a) (hb : I64 b) (hc : I64 c) (hd : I64 d) (A : Option Addr) (cp : Nat) (T : List (Int × Int × Int)) (hT : Tries w A T) :
    Calls Try.prog 3 #[.agg #[.int .i64 a, .int .i64 b, .int .i64 c, .int .i64 d], .slice A T.length cp] w fun e w' => e = .returned (.bool true) ∧ Below w.heap.size w w' := by
  go_enter Try.func3, Try.ntmps3
  go_upto_region 1 with (fail)
  obtain ⟨w1, hw1⟩ : ∃ w1, w1 = w.alloc (.cells #[.int .i64 a, .int .i64 b, .int .i64 c, .int .i64 d] 23) := ⟨_, rfl⟩
  rw [← hw1]
  have B1 : Below w.heap.size w w1 := by rw [hw1]; exact below_alloc (Below.refl _ _) _
  have hbox : w1.heap[w.heap.size]? = some (.cells #[.int .i64 a, .int .i64 b, .int .i64 c, .int .i64 d] 23 (0, 0)) := by rw [hw1]; exact heap_alloc_new _ _
  have hgl : w.heap.size < w1.heap.size := by rw [hw1]; exact Nat.lt_of_lt_of_eq (Nat.lt_succ_self _) (Array.size_push _).symm
  clear hw1
  have box : ∀ w3 : World, w3.heap[w.heap.size]? = w1.heap[w.heap.size]? → w3.cell? ⟨w.heap.size, 0, none⟩ = some (.int .i64 a) ∧ w3.cell? ⟨w.heap.size, 1, none⟩ = some (.int .i64 b) ∧ w3.cell? ⟨w.heap.size, 2, none⟩ = some (.int .i64 c) ∧ w3.cell? ⟨w.heap.size, 3, none⟩ = some (.int .i64 d) := by
    intro w3 e
    rw [hbox] at e
    simp [World.cell?, e]
  go_upto_region 6 with (first
    | (go_at_call 7; with_reducible refine (known_calls _).mono ?_; rintro e w2 ⟨rfl, hB2⟩)
    | (go_at_call 8; with_reducible refine (At.new (B := w.heap.size) (w0 := w) (Z := fun i => i = w.heap.size) (below_step B1 hB2) (Nat.le_of_lt (Nat.lt_of_lt_of_le hgl hB2.size)) (fun i hi => by rw [hi]; exact ⟨Nat.le_refl _, Nat.lt_of_lt_of_le hgl hB2.size⟩) 10 (by decide) (by decide)).mono ?_; rintro e w3 ⟨p, m, rfl, hA, hK⟩; obtain ⟨x0, x1, x2, x3⟩ := box w3 ((Keep.blk hK rfl).trans (hB2.block _ hgl)))
    | (go_at_call 9; with_reducible refine (limits_calls a b c d ha hb hc hd _).mono ?_; rintro e w4 ⟨rfl, hB4⟩))
  obtain ⟨w5, hw5⟩ : ∃ w5, w5 = w4.alloc (.cells #[.int .i64 (pickI a 300), .int .i64 (pickI b 8), .int .i64 (pickI c 900), .int .i64 (1 + pickI d 40)] 23) := ⟨_, rfl⟩
  rw [← hw5]
  have hA4 : At w.heap.size w (fun i => i = w.heap.size) p m 10 0 0 [] w4 := hA.step (Chg.of_below hB4)
  have hA5 : At w.heap.size w (fun x => x = w4.heap.size ∨ (Value.slice none 0 0).ownBlock = some x) p m 10 0 0 [] w5 := by
    refine hA4.turn (Chg.of_grown (by rw [hw5]; exact World.grownBy_alloc _ _ none) (fun _ e => by cases e)) (fun i hi => .inr ?_)
    rcases hi with hi | hi
    · subst hi
      rw [hw5]
      exact ⟨Nat.le_refl _, Nat.lt_of_lt_of_eq (Nat.lt_succ_self _) (Array.size_push _).symm⟩
    · cases hi
  have hbox5 : w5.heap[w4.heap.size]? = some (.cells #[.int .i64 (pickI a 300), .int .i64 (pickI b 8), .int .i64 (pickI c 900), .int .i64 (1 + pickI d 40)] 23 (0, 0)) := by rw [hw5]; exact heap_alloc_new _ _
  clear hw5 hA4 hA hK x0 x1 x2 x3 box hbox hgl B1
  generalize w4.heap.size = g at hA5 hbox5 ⊢
  have hP0 := pick_range a 300 (by decide)
  have hP1 := pick_range b 8 (by decide)
  have hP2 := pick_range c 900 (by decide)
  have hP3 : 1 ≤ 1 + pickI d 40 ∧ 1 + pickI d 40 ≤ 40 := by have := pick_range d 40 (by decide); omega
  generalize pickI a 300 = L0 at hbox5 hP0 ⊢
  generalize pickI b 8 = L1 at hbox5 hP1 ⊢
  generalize pickI c 900 = L2 at hbox5 hP2 ⊢
  generalize 1 + pickI d 40 = W at hbox5 hP3 ⊢
  go_wp2
  go_loopg [9, 10, 11] (min T.length 200) (fun kq v9 v10 v11 w' => HRel w.heap.size w g p m L0 L1 L2 W (min T.length 200) kq v9 v10 v11 w')
  case atStart =>
    exact ⟨0, 0, [], 0, 0, [], rfl, rfl, Nat.zero_add _, ⟨Int.le_refl _, Int.le_refl _⟩, Nat.le_refl _, World.ownsRow_nil _ _ _ _, hbox5, hA5, Good.nil, fun _ => rfl, fun x hx => (by cases hx), fun g hg => (by cases hg), Int.le_refl _, fun _ => ⟨hP1.1, hP2.1⟩⟩
  case round =>
    obtain ⟨i, now, all, place, last, S, rfl, rfl, hK, hN, hAl, hRow, hBx, hAt, hG, hI⟩ := hrel
    cases gk with
    | zero =>
      by_cases hi : (i : Int) < (T.length : Int)
      · have d1 : decide ((i : Int) < (T.length : Int)) = true := decide_eq_true hi
        have d2 : decide ((i : Int) < 200) = false := decide_eq_false (by omega)
        go_wp2
        go_ret
        exact ⟨rfl, hAt.below⟩
      · have d1 : decide ((i : Int) < (T.length : Int)) = false := decide_eq_false hi
        go_wp2
        go_ret
        exact ⟨rfl, hAt.below⟩
    | succ gk =>
      have hiT : i < T.length := by omega
      have hi2 : i < 200 := by omega
      have d1 : decide ((i : Int) < (T.length : Int)) = true := decide_eq_true (by omega)
      have d2 : decide ((i : Int) < 200) = true := decide_eq_true (by omega)
      have c2 : (0 ≤ (i : Int)) = True := eq_true (by omega)
      have c3 : ((i : Int) < (T.length : Int)) = True := eq_true (by omega)
      have c4 : (i < T.length) = True := eq_true hiT
      obtain ⟨⟨hi0, hi1, hi3⟩, ad, rfl, t0, t1, t2⟩ := hT i hiT
      obtain ⟨tc, htc⟩ : ∃ tc, T[i].1 = tc := ⟨_, rfl⟩
      obtain ⟨tn, htn⟩ : ∃ tn, T[i].2.1 = tn := ⟨_, rfl⟩
      obtain ⟨td, htd⟩ : ∃ td, T[i].2.2 = td := ⟨_, rfl⟩
      rw [htc] at hi0 t0
      rw [htn] at hi1 t1
      rw [htd] at hi3 t2
      clear htc htn htd hT
      have u0 := pw_cell_below hAt.below t0
      have u1 := pw_cell_below hAt.below t1
      have u2 := pw_cell_below hAt.below t2
      obtain ⟨C, hC7, hC5, hcC⟩ : ∃ C, C ∈ deck 7 ∧ C.size = 5 ∧ ∀ w, Calls Try.prog 10 #[.int .i64 tc, .int .i64 7] w fun e w' => e = .returned (.string C) ∧ Below w.heap.size w w' :=
        ⟨_, mem_deck (pick_range tc 7 (by decide)).1 (pick_range tc 7 (by decide)).2, cardB_size _, fun w => card_calls tc 7 hi0 (by decide) w⟩
      obtain ⟨n, hn, hcn⟩ : ∃ n, (0 ≤ n ∧ n < 320) ∧ ∀ w, Calls Try.prog 11 #[.int .i64 tn, .int .i64 320] w fun e w' => e = .returned (.int .i64 n) ∧ Drawn0 w w' := ⟨_, pick_range tn 320 (by decide), fun w => pick_calls tn 320 hi1 (by decide) w⟩
      obtain ⟨dd, hdd, hcd⟩ : ∃ n, (0 ≤ n ∧ n < 9) ∧ ∀ w, Calls Try.prog 11 #[.int .i64 td, .int .i64 9] w fun e w' => e = .returned (.int .i64 n) ∧ Drawn0 w w' := ⟨_, pick_range td 9 (by decide), fun w => pick_calls td 9 hi3 (by decide) w⟩
      obtain ⟨nw, hnw⟩ : ∃ nw, nw = now + dd := ⟨_, rfl⟩
      have e1 : wrap64 (now + dd) = nw := (wrap_id (by omega) (by omega)).trans hnw.symm
      replace hnw := Aside0.mk hnw
      go_upto_region 14 with (first
        | (go_at_call 10; with_reducible refine (hcC _).mono ?_; rintro e wa ⟨rfl, hBa⟩; have v1 := pw_cell_below hBa u1; have v2 := pw_cell_below hBa u2)
        | (go_at_call 11; with_reducible refine (hcn _).mono ?_; rintro e wb ⟨rfl, k1, rfl⟩)
        | (go_at_call 11; with_reducible refine (hcd _).mono ?_; rintro e wc ⟨rfl, k2, rfl⟩))
      clear e1
      rw [← hnw.out]
      obtain ⟨w6, hw6⟩ : ∃ w6, w6 = wa.drewN (k1 + k2) := ⟨_, rfl⟩
      rw [← hw6]
      have hB6 : Below wr.heap.size wr w6 := by rw [hw6]; exact pw_below_drewN hBa _
      replace hAt := hAt.step (Chg.of_below hB6)
      replace hBx := (hB6.block _ (by have := hBx; exact (Array.getElem?_eq_some_iff.mp this).1)).trans hBx
      replace hRow := hRow.kept (⟨hB6.os, hB6.tape, hB6.output, hB6.size, fun k hk _ => hB6.block k hk⟩ : wr.grownBy w6 none) (by cases u10.ownBlock <;> simp)
      replace hI := hI.later (show now ≤ nw by have := hnw.out; omega)
      clear hw6 v1 v2 u0 u1 u2 t0 t1 t2 hBa
      obtain ⟨A2, cp2, rfl, hA2⟩ := gv_form hRow
      have hbx3 : w6.cell? ⟨g, 3, none⟩ = some (.int .i64 W) := by simp [World.cell?, hBx]
      go_wp2
      go_loopg [14, 15, 16] all.length (fun kq v14 v15 v16 w' => ∃ k : Nat, v16 = .int .i64 k ∧ v14 = .int .i64 ((cntG W nw C (all.take k)).length : Int) ∧ v15 = .int .i64 (cntG W nw C (all.take k)).sum ∧ Aside0 (k + kq = all.length) ∧ Aside0 (Below w6.heap.size w6 w'))
      case atStart => exact ⟨0, rfl, rfl, rfl, ⟨Nat.zero_add _⟩, ⟨Below.refl _ _⟩⟩
      case round =>
        obtain ⟨k, rfl, rfl, rfl, HK, HB⟩ := hrel
        cases gk with
        | zero =>
          have e : k = all.length := by have := HK.out; omega
          subst e
          rw [List.take_length]
          have hbd := cntG_bound (W := W) (now := nw) (c := C) (l := all) (fun g hg => by have := hI.given g hg; omega)
          have hbo := hI.bound C
          have hRP : rightP L0 L1 L2 W = true := by unfold rightP amt; simp; omega
          have q7 : 0 ≤ nw := by have := hnw.out; omega
          have hnb : nw ≤ 2000 := by have := hnw.out; omega
          have hUse : usedR L0 L1 L2 W nw (S.get C) = (((cntG W nw C all).length : Int), (cntG W nw C all).sum) := by
            unfold usedR
            rw [if_pos ⟨hRP, q7⟩, hI.tells]
          obtain ⟨hE1, hE2⟩ := hI.ask_e (L0 := L0) hRP q7 (c := C) (by omega) (n := n) (by omega) (by omega)
          have hCs : C.size ≤ maxLen := by rw [hC5]; decide
          replace hAt := hAt.step (Chg.of_below HB.out)
          have hnd : (S.map (·.1)).Nodup := by obtain ⟨F, hb, _⟩ := hAt.book; exact hb.nodup
          have hgs := (Array.getElem?_eq_some_iff.mp hBx).1
          replace hBx := (HB.out.block _ hgs).trans hBx
          replace hRow := hRow.kept (⟨HB.out.os, HB.out.tape, HB.out.output, HB.out.size, fun k hk _ => HB.out.block k hk⟩ : w6.grownBy wr none) (by cases (Value.slice A2 all.length cp2).ownBlock <;> simp)
          have hU := hAt.used hG (by omega) L0 L1 L2 W C hCs nw (by omega)
          rw [hUse] at hU
          have hYes : n ≤ L0 ∧ ((cntG W nw C all).length : Int) < L1 ∧ (cntG W nw C all).sum + n ≤ L2 → ∀ w', At w.heap.size w (fun x => x = g ∨ (Value.slice A2 all.length cp2).ownBlock = some x) p m 10 place last S w' →
              Calls Try.prog 13 #[.pointer (some ⟨p, 0, none⟩), .agg #[.int .i64 L0, .int .i64 L1, .int .i64 L2, .int .i64 W], .string C, .int .i64 n, .int .i64 nw] w' fun e w'' => e = .returned (.int .i64 0) ∧ ∃ place' last' S', (Inv L1 L2 W nw last' (all ++ [(C, n, nw)]) S' ∧ usedR L0 L1 L2 W nw (S'.get C) = (((cntG W nw C all).length : Int) + 1, (cntG W nw C all).sum + n)) ∧ At w.heap.size w (fun x => x = g ∨ (Value.slice A2 all.length cp2).ownBlock = some x) p m 10 place' last' S' w'' ∧ Keep (fun x => x = g ∨ (Value.slice A2 all.length cp2).ownBlock = some x) w' w'' ∧ Good (i + 1) place' S' := by
            intro hm w' hA
            have hE := hE1 hm
            have := hA.ask hG (by omega) L0 L1 L2 W C hCs n nw (by omega) (by omega) (by omega)
            rw [hE] at this
            refine this.mono ?_
            rintro e w'' ⟨rfl, a, b, d, hT, h1, h2, h3⟩
            obtain ⟨i1, i2⟩ := hI.yes hnd (by omega) q7 hC7 (by omega) (by omega) hm.2 hE hT
            refine ⟨rfl, a, b, d, ⟨i1, ?_⟩, h1, h2, h3⟩
            unfold usedR
            rw [if_pos ⟨hRP, q7⟩, i2, List.length_append, List.sum_append]
            simp
          have hNo : ¬ (n ≤ L0 ∧ ((cntG W nw C all).length : Int) < L1 ∧ (cntG W nw C all).sum + n ≤ L2) → ∀ w', At w.heap.size w (fun x => x = g ∨ (Value.slice A2 all.length cp2).ownBlock = some x) p m 10 place last S w' →
              Calls Try.prog 13 #[.pointer (some ⟨p, 0, none⟩), .agg #[.int .i64 L0, .int .i64 L1, .int .i64 L2, .int .i64 W], .string C, .int .i64 n, .int .i64 nw] w' fun e w'' => e = .returned (.int .i64 210) ∧ At w.heap.size w (fun x => x = g ∨ (Value.slice A2 all.length cp2).ownBlock = some x) p m 10 place last S w'' ∧ Keep (fun x => x = g ∨ (Value.slice A2 all.length cp2).ownBlock = some x) w' w'' := by
            intro hm w' hA
            have hE := hE2 hm
            have := hA.ask hG (by omega) L0 L1 L2 W C hCs n nw (by omega) (by omega) (by omega)
            rw [hE] at this
            refine this.mono ?_
            rintro e w'' ⟨rfl, a, b, d, hT, h1, h2, h3⟩
            obtain ⟨rfl, rfl, rfl⟩ := to_no (by rw [hE]; decide) _ _ _ hT
            exact ⟨rfl, h1, h2⟩
          generalize hq : cntG W nw C all = q at hbd hbo hUse hE1 hE2 hU hYes hNo ⊢
          have q0 : 0 ≤ q.sum := by omega
          have q1 : q.sum ≤ 64000 := by omega
          have q2 : (q.length : Int) ≤ 200 := by omega
          have q9 : 0 ≤ n := by omega
          have q10 : n ≤ 320 := by omega
          have q11 : (i : Int) ≤ 200 := by omega
          have m1 : decide (L1 < (q.length : Int)) = false := decide_eq_false (by omega)
          have m2 : decide (L2 < q.sum) = false := decide_eq_false (by omega)
          have d3 : decide ((all.length : Int) < (all.length : Int)) = false := decide_eq_false (by omega)
          obtain ⟨y0, y1, y2, y3⟩ := box_cells hBx rfl
          have hHI := Aside0.mk hI
          have hHU := Aside0.mk hUse
          have hMM := Aside0.mk hbo
          have hNn := Aside0.mk hN
          have hDd := Aside0.mk hdd
          have hHK := Aside0.mk hK
          clear hE1 hE2 hbd hbo hN hn hdd hP0 hP1 hP2 hP3 hI hUse hbx3 hA2 hgs hq
          by_cases hm : n ≤ L0 ∧ (q.length : Int) < L1 ∧ q.sum + n ≤ L2
          · have a1 : decide (n ≤ L0) = true := decide_eq_true hm.1
            have a2 : decide ((q.length : Int) < L1) = true := decide_eq_true hm.2.1
            have a3 : decide (q.sum + n ≤ L2) = true := decide_eq_true hm.2.2
            have a4 : decide (L1 < (q.length : Int) + 1) = false := decide_eq_false (by omega)
            have a5 : decide (L2 < q.sum + n) = false := decide_eq_false (by omega)
            replace hYes := hYes hm
            clear hNo hm
            go_upto_region 26 with (first
              | (go_at_call 12; with_reducible refine hU.mono ?_; rintro e wu ⟨rfl, hAu, hKu⟩; obtain ⟨z0, z1, z2, z3⟩ := box_cells hBx (Keep.blk hKu (.inl rfl)))
              | (go_at_call 13; with_reducible refine (hYes wu hAu).mono ?_; rintro e wk ⟨rfl, place', last', S', ⟨hI', hU'⟩, hAk, hKk, hG'⟩; have hBk := (Keep.blk (hKu.trans hKk) (.inl rfl)).trans hBx; obtain ⟨r0, r1, r2, r3⟩ := box_cells hBk rfl)
              | (go_at_call 12; with_reducible refine (hAk.used hG' (by omega) L0 L1 L2 W C hCs nw (by omega)).mono ?_; rintro e wz ⟨rfl, hAz, hKz⟩))
            have hRk : wz.ownsRow 0 37 3 (.slice A2 all.length cp2) all.length (cellsG all) := own_move hRow (fun j hj => Keep.blk ((hKu.trans hKk).trans hKz) (.inr hj))
            have hBz := (Keep.blk hKz (.inl rfl)).trans hBk
            obtain ⟨s0, s1, s2, s3⟩ := box_cells hBz rfl
            clear hU hYes z0 z1 z2 z3 y0 y1 y2 y3 r0 r1 r2 r3 hU'
            go_wp2_with (first
              | ((with_reducible refine gate_builtin (b := .append) (xs := #[.tmp 167, .tmp 172]) rfl ?_); at_builtin; refine print_append_cells (w0 := wz) 0 rfl (.tmp 167) (.tmp 172) 31 37 (.agg #[.string ByteArray.empty, .int .i64 0, .int .i64 0]) 3 32 rfl Try.underlying31 info37 rfl (by decide) (by decide) (.slice A2 all.length cp2) all.length (cellsG all) [.string C, .int .i64 n, .int .i64 nw] rfl rfl rfl (by simp [Value.oneCell']) hRk ⟨rfl, rfl, rfl, Nat.le_refl _, fun _ _ => rfl⟩ (Nat.zero_le _) (by omega) ?_; intro v1 wv hown _ hgv hat1; have hBv := (hgv.block g (Array.getElem?_eq_some_iff.mp hBz).1 (box_ne hRk hBz)).trans hBz; obtain ⟨t0, t1, t2, t3⟩ := box_cells hBv rfl))
            go_roundg gk
            case measure => exact Nat.lt_succ_self _
            case rel =>
              have e1 : cellsG (all ++ [(C, n, nw)]) = cellsG all ++ [.string C, .int .i64 n, .int .i64 nw] := cellsG_append _ _
              refine ⟨i + 1, nw, all ++ [(C, n, nw)], place', last', S', rfl, rfl, ?_, ⟨q7, ?_⟩, ?_, ?_, hBv, ?_, hG', hI'⟩
              · have := hHK.out; omega
              · have := hnw.out; have := hNn.out; have := hDd.out; omega
              · rw [List.length_append]; exact Nat.succ_le_succ hAl
              · rw [e1, List.length_append]; exact hown
              · refine hAz.turn (Chg.of_grown hgv (fun k e => .inr e)) (fun j hj => ?_)
                rcases hj with hj | hj
                · exact .inl (.inl hj)
                · rcases hat1 with h1 | ⟨b, h1, h2⟩
                  · exact .inl (.inr (h1 ▸ hj))
                  · rw [h1] at hj
                    injection hj with hj
                    subst hj
                    exact .inr ⟨h2, (hown.lt b h1).2⟩
          · have hr : ¬ n ≤ L0 ∨ (n ≤ L0 ∧ ¬ (q.length : Int) < L1) ∨ (n ≤ L0 ∧ (q.length : Int) < L1 ∧ ¬ q.sum + n ≤ L2) := by
              by_cases h1 : n ≤ L0
              · by_cases h2 : (q.length : Int) < L1
                · exact .inr (.inr ⟨h1, h2, fun h3 => hm ⟨h1, h2, h3⟩⟩)
                · exact .inr (.inl ⟨h1, h2⟩)
              · exact .inl h1
            rcases id hr with h1 | ⟨h1, h2⟩ | ⟨h1, h2, h3⟩
            · have a1 : decide (n ≤ L0) = false := decide_eq_false h1
              replace hNo := hNo hm
              have hU' := hHU.out
              clear hYes hm hr
              go_wp2_with (first
                | (go_at_call 12; with_reducible refine hU.mono ?_; rintro e wu ⟨rfl, hAu, hKu⟩; obtain ⟨z0, z1, z2, z3⟩ := box_cells hBx (Keep.blk hKu (.inl rfl)))
                | (go_at_call 13; with_reducible refine (hNo wu hAu).mono ?_; rintro e wk ⟨rfl, hAk, hKk⟩; have hBk := (Keep.blk (hKu.trans hKk) (.inl rfl)).trans hBx; obtain ⟨r0, r1, r2, r3⟩ := box_cells hBk rfl)
                | (go_at_call 12; with_reducible refine (hAk.used hG (by omega) L0 L1 L2 W C hCs nw (by omega)).mono ?_; rintro e wz ⟨rfl, hAz, hKz⟩; have hBz := (Keep.blk hKz (.inl rfl)).trans hBk; obtain ⟨s0, s1, s2, s3⟩ := box_cells hBz rfl))
              go_roundg gk
              case measure => exact Nat.lt_succ_self _
              case rel =>
                refine ⟨i + 1, nw, all, place, last, S, rfl, rfl, ?_, ⟨q7, ?_⟩, Nat.le_succ_of_le hAl, own_move hRow (fun j hj => Keep.blk ((hKu.trans hKk).trans hKz) (.inr hj)), hBz, hAz, hG.mono (Nat.le_succ _), hHI.out⟩
                · have := hHK.out; omega
                · have := hnw.out; have := hNn.out; have := hDd.out; omega
            · have a1 : decide (n ≤ L0) = true := decide_eq_true h1
              have a2 : decide ((q.length : Int) < L1) = false := decide_eq_false h2
              replace hNo := hNo hm
              have hU' := hHU.out
              clear hYes hm hr
              go_wp2_with (first
                | (go_at_call 12; with_reducible refine hU.mono ?_; rintro e wu ⟨rfl, hAu, hKu⟩; obtain ⟨z0, z1, z2, z3⟩ := box_cells hBx (Keep.blk hKu (.inl rfl)))
                | (go_at_call 13; with_reducible refine (hNo wu hAu).mono ?_; rintro e wk ⟨rfl, hAk, hKk⟩; have hBk := (Keep.blk (hKu.trans hKk) (.inl rfl)).trans hBx; obtain ⟨r0, r1, r2, r3⟩ := box_cells hBk rfl)
                | (go_at_call 12; with_reducible refine (hAk.used hG (by omega) L0 L1 L2 W C hCs nw (by omega)).mono ?_; rintro e wz ⟨rfl, hAz, hKz⟩; have hBz := (Keep.blk hKz (.inl rfl)).trans hBk; obtain ⟨s0, s1, s2, s3⟩ := box_cells hBz rfl))
              go_roundg gk
              case measure => exact Nat.lt_succ_self _
              case rel =>
                refine ⟨i + 1, nw, all, place, last, S, rfl, rfl, ?_, ⟨q7, ?_⟩, Nat.le_succ_of_le hAl, own_move hRow (fun j hj => Keep.blk ((hKu.trans hKk).trans hKz) (.inr hj)), hBz, hAz, hG.mono (Nat.le_succ _), hHI.out⟩
                · have := hHK.out; omega
                · have := hnw.out; have := hNn.out; have := hDd.out; omega
            · have a1 : decide (n ≤ L0) = true := decide_eq_true h1
              have a2 : decide ((q.length : Int) < L1) = true := decide_eq_true h2
              have a3 : decide (q.sum + n ≤ L2) = false := decide_eq_false h3
              replace hNo := hNo hm
              have hU' := hHU.out
              clear hYes hm hr
              go_wp2_with (first
                | (go_at_call 12; with_reducible refine hU.mono ?_; rintro e wu ⟨rfl, hAu, hKu⟩; obtain ⟨z0, z1, z2, z3⟩ := box_cells hBx (Keep.blk hKu (.inl rfl)))
                | (go_at_call 13; with_reducible refine (hNo wu hAu).mono ?_; rintro e wk ⟨rfl, hAk, hKk⟩; have hBk := (Keep.blk (hKu.trans hKk) (.inl rfl)).trans hBx; obtain ⟨r0, r1, r2, r3⟩ := box_cells hBk rfl)
                | (go_at_call 12; with_reducible refine (hAk.used hG (by omega) L0 L1 L2 W C hCs nw (by omega)).mono ?_; rintro e wz ⟨rfl, hAz, hKz⟩; have hBz := (Keep.blk hKz (.inl rfl)).trans hBk; obtain ⟨s0, s1, s2, s3⟩ := box_cells hBz rfl))
              go_roundg gk
              case measure => exact Nat.lt_succ_self _
              case rel =>
                refine ⟨i + 1, nw, all, place, last, S, rfl, rfl, ?_, ⟨q7, ?_⟩, Nat.le_succ_of_le hAl, own_move hRow (fun j hj => Keep.blk ((hKu.trans hKk).trans hKz) (.inr hj)), hBz, hAz, hG.mono (Nat.le_succ _), hHI.out⟩
                · have := hHK.out; omega
                · have := hnw.out; have := hNn.out; have := hDd.out; omega
        | succ gk =>
          have hk : k < all.length := by have := HK.out; omega
          have d3 : decide ((k : Int) < (all.length : Int)) = true := decide_eq_true (by omega)
          have c6 : (0 ≤ (k : Int)) = True := eq_true (by omega)
          have c7 : ((k : Int) < (all.length : Int)) = True := eq_true (by omega)
          have c8 : (k < all.length) = True := eq_true hk
          obtain ⟨ad2, rfl⟩ := hA2 (by omega)
          obtain ⟨x0, x1, x2⟩ := gv_at hRow k hk
          have hgv := hI.given all[k] (List.getElem_mem hk)
          have ht : all.take (k + 1) = all.take k ++ [all[k]] := (List.take_append_getElem hk).symm
          have hcn := cntG_snoc W nw C (all.take k) all[k]
          rw [← ht] at hcn
          have hbd := cntG_bound (W := W) (now := nw) (c := C) (l := all.take k) (fun g hg => by have := hI.given g (List.mem_of_mem_take hg); omega)
          have htl : (all.take k).length = k := by rw [List.length_take]; omega
          rw [htl] at hbd
          clear ht htl
          obtain ⟨D, hD⟩ : ∃ D, all[k].1 = D := ⟨_, rfl⟩
          obtain ⟨gu, hgu⟩ : ∃ gu, all[k].2.1 = gu := ⟨_, rfl⟩
          obtain ⟨gt, hgt⟩ : ∃ gt, all[k].2.2 = gt := ⟨_, rfl⟩
          rw [hD] at x0 hcn
          rw [hgu] at x1 hcn hgv
          rw [hgt] at x2 hcn hgv
          clear hD hgu hgt
          have hnb : nw ≤ 2000 := by have := hnw.out; omega
          generalize hq : cntG W nw C (all.take k) = q at hcn hbd ⊢
          replace x0 := pw_cell_below HB.out x0
          replace x1 := pw_cell_below HB.out x1
          replace x2 := pw_cell_below HB.out x2
          have y3 := pw_cell_below HB.out hbx3
          have q0 : 0 ≤ q.sum := by omega
          have q1 : q.sum ≤ 64000 := by omega
          have q2 : (q.length : Int) ≤ 200 := by omega
          have q3 : 0 ≤ gu := by omega
          have q4 : gu ≤ 320 := by omega
          have q5 : 0 ≤ gt := by omega
          have q6 : gt ≤ nw := by omega
          have q7 : 0 ≤ nw := by omega
          have q8 : (k : Int) ≤ 200 := by omega
          clear hbd hgv hN hn hdd hP0 hP1 hP2 hP3
          go_upto_region 19 with (fail)
          by_cases hDC : D = C
          · subst hDC
            have ew := wrap_id (x := nw - gt) (by omega) (by omega)
            refine start_ (n := 19) (S := fun w' => w'.cell? (ad2.add (k * 3)) = some (.string D) ∧ w'.cell? ⟨(ad2.add (k * 3)).block, (ad2.add (k * 3)).off + 2, none⟩ = some (.int .i64 gt) ∧ w'.cell? ⟨g, 3, none⟩ = some (.int .i64 W)) (ds := []) #[false, false, false, false, false, false, false, false, false, false, false, false, false, false, false, false, false, false, false] (by kernel_rfl) rfl rfl ⟨x0, x2, y3⟩ (fun hHeld => ?_)
            refine pure_ (i := 0) (N := some 76) (v := ?_) (a' := ?_) #[true, false, false, false, false, false, false, false, false, false, false, false, false, false, false, false, false, false, false] rfl rfl (by kernel_rfl) (fun _ _ _ h => h) (Or.inl ⟨by rfl, ?_⟩) ?_ ?_
            rotate_left
            · intro w'
              go_simp
              with_reducible rfl
            rotate_left
            · simp only [Act.put, List.setIfInBounds_toArray, List.set_cons_zero, List.set_cons_succ, i64_w, i32_w]
              rfl
            refine pure_ (i := 1) (N := some 77) (v := ?_) (a' := ?_) #[true, true, false, false, false, false, false, false, false, false, false, false, false, false, false, false, false, false, false] rfl rfl (by kernel_rfl) (fun _ _ _ h => h) (Or.inl ⟨by rfl, ?_⟩) ?_ ?_
            rotate_left
            · intro w'
              go_simp
              with_reducible rfl
            rotate_left
            · simp only [Act.put, List.setIfInBounds_toArray, List.set_cons_zero, List.set_cons_succ, i64_w, i32_w]
              rfl
            refine pure_ (i := 2) (N := some 78) (v := ?_) (a' := ?_) #[true, true, true, false, false, false, false, false, false, false, false, false, false, false, false, false, false, false, false] rfl rfl (by kernel_rfl) (fun _ _ _ h => h) (Or.inl ⟨by rfl, ?_⟩) ?_ ?_
            rotate_left
            · intro w'
              go_simp
              with_reducible rfl
            rotate_left
            · simp only [Act.put, List.setIfInBounds_toArray, List.set_cons_zero, List.set_cons_succ, i64_w, i32_w]
              rfl
            refine pure_ (i := 3) (N := some 79) (v := ?_) (a' := ?_) #[true, true, true, true, false, false, false, false, false, false, false, false, false, false, false, false, false, false, false] rfl rfl (by kernel_rfl) (fun _ _ _ h => h) (Or.inl ⟨by rfl, ?_⟩) ?_ ?_
            rotate_left
            · intro w'
              go_simp
              with_reducible rfl
            rotate_left
            · simp only [Act.put, List.setIfInBounds_toArray, List.set_cons_zero, List.set_cons_succ, i64_w, i32_w]
              rfl
            refine pure_ (i := 5) (N := some 81) (v := ?_) (a' := ?_) #[true, true, true, true, false, true, false, false, false, false, false, false, false, false, false, false, false, false, false] rfl rfl (by kernel_rfl) (fun _ _ _ h => h) (Or.inl ⟨by rfl, ?_⟩) ?_ ?_
            rotate_left
            · intro w'
              go_simp
              with_reducible rfl
            rotate_left
            · simp only [Act.put, List.setIfInBounds_toArray, List.set_cons_zero, List.set_cons_succ, i64_w, i32_w]
              rfl
            refine take_ (i := 4) (N := some 80) (v := ?_) (a' := ?_) #[true, true, true, true, true, true, false, false, false, false, false, false, false, false, false, false, false, false, false] rfl rfl (by kernel_rfl) (fun _ _ _ h => h) (Or.inl ⟨by rfl, ?_⟩) hHeld ?_ ?_
            rotate_left
            · rintro w' ⟨s0, s1, s2⟩
              go_simp
              with_reducible rfl
            rotate_left
            · simp only [Act.put, List.setIfInBounds_toArray, List.set_cons_zero, List.set_cons_succ, i64_w, i32_w]
              rfl
            refine pure_ (i := 6) (N := some 82) (v := ?_) (a' := ?_) #[true, true, true, true, true, true, true, false, false, false, false, false, false, false, false, false, false, false, false] rfl rfl (by kernel_rfl) (fun _ _ _ h => h) (Or.inl ⟨by rfl, ?_⟩) ?_ ?_
            rotate_left
            · intro w'
              go_simp
              with_reducible rfl
            rotate_left
            · simp only [Act.put, List.setIfInBounds_toArray, List.set_cons_zero, List.set_cons_succ, i64_w, i32_w]
              rfl
            refine pure_ (i := 7) (N := some 83) (v := ?_) (a' := ?_) #[true, true, true, true, true, true, true, true, false, false, false, false, false, false, false, false, false, false, false] rfl rfl (by kernel_rfl) (fun _ _ _ h => h) (Or.inl ⟨by rfl, ?_⟩) ?_ ?_
            rotate_left
            · intro w'
              go_simp
              with_reducible rfl
            rotate_left
            · simp only [Act.put, List.setIfInBounds_toArray, List.set_cons_zero, List.set_cons_succ, i64_w, i32_w]
              rfl
            refine pure_ (i := 8) (N := some 84) (v := ?_) (a' := ?_) #[true, true, true, true, true, true, true, true, true, false, false, false, false, false, false, false, false, false, false] rfl rfl (by kernel_rfl) (fun _ _ _ h => h) (Or.inl ⟨by rfl, ?_⟩) ?_ ?_
            rotate_left
            · intro w'
              go_simp
              with_reducible rfl
            rotate_left
            · simp only [Act.put, List.setIfInBounds_toArray, List.set_cons_zero, List.set_cons_succ, i64_w, i32_w]
              rfl
            refine pure_ (i := 9) (N := some 85) (v := ?_) (a' := ?_) #[true, true, true, true, true, true, true, true, true, true, false, false, false, false, false, false, false, false, false] rfl rfl (by kernel_rfl) (fun _ _ _ h => h) (Or.inl ⟨by rfl, ?_⟩) ?_ ?_
            rotate_left
            · intro w'
              go_simp
              with_reducible rfl
            rotate_left
            · simp only [Act.put, List.setIfInBounds_toArray, List.set_cons_zero, List.set_cons_succ, i64_w, i32_w]
              rfl
            refine pure_ (i := 10) (N := some 86) (v := ?_) (a' := ?_) #[true, true, true, true, true, true, true, true, true, true, true, false, false, false, false, false, false, false, false] rfl rfl (by kernel_rfl) (fun _ _ _ h => h) (Or.inl ⟨by rfl, ?_⟩) ?_ ?_
            rotate_left
            · intro w'
              go_simp
              with_reducible rfl
            rotate_left
            · simp only [Act.put, List.setIfInBounds_toArray, List.set_cons_zero, List.set_cons_succ, i64_w, i32_w]
              rfl
            refine pure_ (i := 11) (N := some 87) (v := ?_) (a' := ?_) #[true, true, true, true, true, true, true, true, true, true, true, true, false, false, false, false, false, false, false] rfl rfl (by kernel_rfl) (fun _ _ _ h => h) (Or.inl ⟨by rfl, ?_⟩) ?_ ?_
            rotate_left
            · intro w'
              go_simp
              with_reducible rfl
            rotate_left
            · simp only [Act.put, List.setIfInBounds_toArray, List.set_cons_zero, List.set_cons_succ, i64_w, i32_w]
              rfl
            refine pure_ (i := 12) (N := some 88) (v := ?_) (a' := ?_) #[true, true, true, true, true, true, true, true, true, true, true, true, true, false, false, false, false, false, false] rfl rfl (by kernel_rfl) (fun _ _ _ h => h) (Or.inl ⟨by rfl, ?_⟩) ?_ ?_
            rotate_left
            · intro w'
              go_simp
              with_reducible rfl
            rotate_left
            · simp only [Act.put, List.setIfInBounds_toArray, List.set_cons_zero, List.set_cons_succ, i64_w, i32_w]
              rfl
            refine pure_ (i := 15) (N := some 91) (v := ?_) (a' := ?_) #[true, true, true, true, true, true, true, true, true, true, true, true, true, false, false, true, false, false, false] rfl rfl (by kernel_rfl) (fun _ _ _ h => h) (Or.inl ⟨by rfl, ?_⟩) ?_ ?_
            rotate_left
            · intro w'
              go_simp
              with_reducible rfl
            rotate_left
            · simp only [Act.put, List.setIfInBounds_toArray, List.set_cons_zero, List.set_cons_succ, i64_w, i32_w]
              rfl
            refine take_ (i := 13) (N := some 89) (v := ?_) (a' := ?_) #[true, true, true, true, true, true, true, true, true, true, true, true, true, true, false, true, false, false, false] rfl rfl (by kernel_rfl) (fun _ _ _ h => h) (Or.inl ⟨by rfl, ?_⟩) hHeld ?_ ?_
            rotate_left
            · rintro w' ⟨s0, s1, s2⟩
              go_simp
              with_reducible rfl
            rotate_left
            · simp only [Act.put, List.setIfInBounds_toArray, List.set_cons_zero, List.set_cons_succ, i64_w, i32_w]
              rfl
            refine pure_ (i := 14) (N := some 90) (v := ?_) (a' := ?_) #[true, true, true, true, true, true, true, true, true, true, true, true, true, true, true, true, false, false, false] rfl rfl (by kernel_rfl) (fun _ _ _ h => h) (Or.inl ⟨by rfl, ?_⟩) ?_ ?_
            rotate_left
            · intro w'
              go_simp
              with_reducible rfl
            rotate_left
            · simp only [Act.put, List.setIfInBounds_toArray, List.set_cons_zero, List.set_cons_succ, i64_w, i32_w]
              rfl
            refine take_ (i := 16) (N := some 92) (v := ?_) (a' := ?_) #[true, true, true, true, true, true, true, true, true, true, true, true, true, true, true, true, true, false, false] rfl rfl (by kernel_rfl) (fun _ _ _ h => h) (Or.inl ⟨by rfl, ?_⟩) hHeld ?_ ?_
            rotate_left
            · rintro w' ⟨s0, s1, s2⟩
              go_simp
              with_reducible rfl
            rotate_left
            · simp only [Act.put, List.setIfInBounds_toArray, List.set_cons_zero, List.set_cons_succ, i64_w, i32_w]
              rfl
            refine pure_ (i := 17) (N := some 93) (v := ?_) (a' := ?_) #[true, true, true, true, true, true, true, true, true, true, true, true, true, true, true, true, true, true, false] rfl rfl (by kernel_rfl) (fun _ _ _ h => h) (Or.inl ⟨by rfl, ?_⟩) ?_ ?_
            rotate_left
            · intro w'
              go_simp
              with_reducible rfl
            rotate_left
            · simp only [Act.put, List.setIfInBounds_toArray, List.set_cons_zero, List.set_cons_succ, i64_w, i32_w]
              rfl
            refine pure_ (i := 18) (N := some 94) (v := ?_) (a' := ?_) #[true, true, true, true, true, true, true, true, true, true, true, true, true, true, true, true, true, true, true] rfl rfl (by kernel_rfl) (fun _ _ _ h => h) (Or.inl ⟨by rfl, ?_⟩) ?_ ?_
            rotate_left
            · intro w'
              go_simp
              with_reducible rfl
            rotate_left
            · simp only [Act.put, List.setIfInBounds_toArray, List.set_cons_zero, List.set_cons_succ, i64_w, i32_w]
              rfl
            refine done_ (by kernel_rfl) ?_
            clear ew
            by_cases hwn : nw - gt < W
            · have d5 : decide (nw - gt < W) = true := decide_eq_true hwn
              rw [if_pos (by simp [hwn])] at hcn
              go_wp2
              go_roundg gk
              case measure => exact Nat.lt_succ_self _
              case rel => 
                refine ⟨k + 1, rfl, ?_, ?_, ⟨(Nat.add_right_comm k 1 gk).trans HK.out⟩, ⟨pw_below_drewN HB.out _⟩⟩
                · rw [hcn, List.length_append]; rfl
                · rw [hcn, List.sum_append]; simp
            · have d5 : decide (nw - gt < W) = false := decide_eq_false hwn
              rw [if_neg (by simp [hwn]), List.append_nil] at hcn
              go_wp2
              go_roundg gk
              case measure => exact Nat.lt_succ_self _
              case rel => exact ⟨k + 1, rfl, by rw [hcn], by rw [hcn], ⟨(Nat.add_right_comm k 1 gk).trans HK.out⟩, ⟨pw_below_drewN HB.out _⟩⟩
          · have d6 : (D.toList == C.toList) = false := by simpa using toList_ne hDC
            have d7 : decide (D.toList = C.toList) = false := decide_eq_false (toList_ne hDC)
            rw [if_neg (by simp [hDC]), List.append_nil] at hcn
            refine start_ (n := 19) (S := fun w' => w'.cell? (ad2.add (k * 3)) = some (.string D)) (ds := []) #[false, false, false, false, false, false, false, false, false, false, false, false, false, false, false, false, false, false, false] (by kernel_rfl) rfl rfl (x0) (fun hHeld => ?_)
            refine pure_ (i := 0) (N := some 76) (v := ?_) (a' := ?_) #[true, false, false, false, false, false, false, false, false, false, false, false, false, false, false, false, false, false, false] rfl rfl (by kernel_rfl) (fun _ _ _ h => h) (Or.inl ⟨by rfl, ?_⟩) ?_ ?_
            rotate_left
            · intro w'
              go_simp
              with_reducible rfl
            rotate_left
            · simp only [Act.put, List.setIfInBounds_toArray, List.set_cons_zero, List.set_cons_succ, i64_w, i32_w]
              rfl
            refine pure_ (i := 1) (N := some 77) (v := ?_) (a' := ?_) #[true, true, false, false, false, false, false, false, false, false, false, false, false, false, false, false, false, false, false] rfl rfl (by kernel_rfl) (fun _ _ _ h => h) (Or.inl ⟨by rfl, ?_⟩) ?_ ?_
            rotate_left
            · intro w'
              go_simp
              with_reducible rfl
            rotate_left
            · simp only [Act.put, List.setIfInBounds_toArray, List.set_cons_zero, List.set_cons_succ, i64_w, i32_w]
              rfl
            refine pure_ (i := 2) (N := some 78) (v := ?_) (a' := ?_) #[true, true, true, false, false, false, false, false, false, false, false, false, false, false, false, false, false, false, false] rfl rfl (by kernel_rfl) (fun _ _ _ h => h) (Or.inl ⟨by rfl, ?_⟩) ?_ ?_
            rotate_left
            · intro w'
              go_simp
              with_reducible rfl
            rotate_left
            · simp only [Act.put, List.setIfInBounds_toArray, List.set_cons_zero, List.set_cons_succ, i64_w, i32_w]
              rfl
            refine pure_ (i := 3) (N := some 79) (v := ?_) (a' := ?_) #[true, true, true, true, false, false, false, false, false, false, false, false, false, false, false, false, false, false, false] rfl rfl (by kernel_rfl) (fun _ _ _ h => h) (Or.inl ⟨by rfl, ?_⟩) ?_ ?_
            rotate_left
            · intro w'
              go_simp
              with_reducible rfl
            rotate_left
            · simp only [Act.put, List.setIfInBounds_toArray, List.set_cons_zero, List.set_cons_succ, i64_w, i32_w]
              rfl
            refine pure_ (i := 5) (N := some 81) (v := ?_) (a' := ?_) #[true, true, true, true, false, true, false, false, false, false, false, false, false, false, false, false, false, false, false] rfl rfl (by kernel_rfl) (fun _ _ _ h => h) (Or.inl ⟨by rfl, ?_⟩) ?_ ?_
            rotate_left
            · intro w'
              go_simp
              with_reducible rfl
            rotate_left
            · simp only [Act.put, List.setIfInBounds_toArray, List.set_cons_zero, List.set_cons_succ, i64_w, i32_w]
              rfl
            refine take_ (i := 4) (N := some 80) (v := ?_) (a' := ?_) #[true, true, true, true, true, true, false, false, false, false, false, false, false, false, false, false, false, false, false] rfl rfl (by kernel_rfl) (fun _ _ _ h => h) (Or.inl ⟨by rfl, ?_⟩) hHeld ?_ ?_
            rotate_left
            · intro w' s0
              go_simp
              with_reducible rfl
            rotate_left
            · simp only [Act.put, List.setIfInBounds_toArray, List.set_cons_zero, List.set_cons_succ, i64_w, i32_w]
              rfl
            refine pure_ (i := 6) (N := some 82) (v := ?_) (a' := ?_) #[true, true, true, true, true, true, true, false, false, false, false, false, false, false, false, false, false, false, false] rfl rfl (by kernel_rfl) (fun _ _ _ h => h) (Or.inl ⟨by rfl, ?_⟩) ?_ ?_
            rotate_left
            · intro w'
              go_simp
              with_reducible rfl
            rotate_left
            · simp only [Act.put, List.setIfInBounds_toArray, List.set_cons_zero, List.set_cons_succ, i64_w, i32_w]
              rfl
            refine pure_ (i := 7) (N := some 83) (v := ?_) (a' := ?_) #[true, true, true, true, true, true, true, true, false, false, false, false, false, false, false, false, false, false, false] rfl rfl (by kernel_rfl) (fun _ _ _ h => h) (Or.inl ⟨by rfl, ?_⟩) ?_ ?_
            rotate_left
            · intro w'
              go_simp
              with_reducible rfl
            rotate_left
            · simp only [Act.put, List.setIfInBounds_toArray, List.set_cons_zero, List.set_cons_succ, i64_w, i32_w]
              rfl
            refine pure_ (i := 8) (N := some 84) (v := undef) (a' := ?_) #[true, true, true, true, true, true, true, true, true, false, false, false, false, false, false, false, false, false, false] rfl rfl (by kernel_rfl) (fun _ _ _ h => h) (Or.inr ⟨by rfl, rfl⟩) ?_ ?_
            rotate_left
            · simp only [Act.put, List.setIfInBounds_toArray, List.set_cons_zero, List.set_cons_succ, i64_w, i32_w]
              rfl
            refine pure_ (i := 9) (N := some 85) (v := undef) (a' := ?_) #[true, true, true, true, true, true, true, true, true, true, false, false, false, false, false, false, false, false, false] rfl rfl (by kernel_rfl) (fun _ _ _ h => h) (Or.inr ⟨by rfl, rfl⟩) ?_ ?_
            rotate_left
            · simp only [Act.put, List.setIfInBounds_toArray, List.set_cons_zero, List.set_cons_succ, i64_w, i32_w]
              rfl
            refine pure_ (i := 10) (N := some 86) (v := undef) (a' := ?_) #[true, true, true, true, true, true, true, true, true, true, true, false, false, false, false, false, false, false, false] rfl rfl (by kernel_rfl) (fun _ _ _ h => h) (Or.inr ⟨by rfl, rfl⟩) ?_ ?_
            rotate_left
            · simp only [Act.put, List.setIfInBounds_toArray, List.set_cons_zero, List.set_cons_succ, i64_w, i32_w]
              rfl
            refine pure_ (i := 11) (N := some 87) (v := undef) (a' := ?_) #[true, true, true, true, true, true, true, true, true, true, true, true, false, false, false, false, false, false, false] rfl rfl (by kernel_rfl) (fun _ _ _ h => h) (Or.inr ⟨by rfl, rfl⟩) ?_ ?_
            rotate_left
            · simp only [Act.put, List.setIfInBounds_toArray, List.set_cons_zero, List.set_cons_succ, i64_w, i32_w]
              rfl
            refine pure_ (i := 12) (N := some 88) (v := undef) (a' := ?_) #[true, true, true, true, true, true, true, true, true, true, true, true, true, false, false, false, false, false, false] rfl rfl (by kernel_rfl) (fun _ _ _ h => h) (Or.inr ⟨by rfl, rfl⟩) ?_ ?_
            rotate_left
            · simp only [Act.put, List.setIfInBounds_toArray, List.set_cons_zero, List.set_cons_succ, i64_w, i32_w]
              rfl
            refine pure_ (i := 13) (N := some 89) (v := undef) (a' := ?_) #[true, true, true, true, true, true, true, true, true, true, true, true, true, true, false, false, false, false, false] rfl rfl (by kernel_rfl) (fun _ _ _ h => h) (Or.inr ⟨by rfl, rfl⟩) ?_ ?_
            rotate_left
            · simp only [Act.put, List.setIfInBounds_toArray, List.set_cons_zero, List.set_cons_succ, i64_w, i32_w]
              rfl
            refine pure_ (i := 14) (N := some 90) (v := undef) (a' := ?_) #[true, true, true, true, true, true, true, true, true, true, true, true, true, true, true, false, false, false, false] rfl rfl (by kernel_rfl) (fun _ _ _ h => h) (Or.inr ⟨by rfl, rfl⟩) ?_ ?_
            rotate_left
            · simp only [Act.put, List.setIfInBounds_toArray, List.set_cons_zero, List.set_cons_succ, i64_w, i32_w]
              rfl
            refine pure_ (i := 15) (N := some 91) (v := undef) (a' := ?_) #[true, true, true, true, true, true, true, true, true, true, true, true, true, true, true, true, false, false, false] rfl rfl (by kernel_rfl) (fun _ _ _ h => h) (Or.inr ⟨by rfl, rfl⟩) ?_ ?_
            rotate_left
            · simp only [Act.put, List.setIfInBounds_toArray, List.set_cons_zero, List.set_cons_succ, i64_w, i32_w]
              rfl
            refine pure_ (i := 16) (N := some 92) (v := undef) (a' := ?_) #[true, true, true, true, true, true, true, true, true, true, true, true, true, true, true, true, true, false, false] rfl rfl (by kernel_rfl) (fun _ _ _ h => h) (Or.inr ⟨by rfl, rfl⟩) ?_ ?_
            rotate_left
            · simp only [Act.put, List.setIfInBounds_toArray, List.set_cons_zero, List.set_cons_succ, i64_w, i32_w]
              rfl
            refine pure_ (i := 17) (N := some 93) (v := undef) (a' := ?_) #[true, true, true, true, true, true, true, true, true, true, true, true, true, true, true, true, true, true, false] rfl rfl (by kernel_rfl) (fun _ _ _ h => h) (Or.inr ⟨by rfl, rfl⟩) ?_ ?_
            rotate_left
            · simp only [Act.put, List.setIfInBounds_toArray, List.set_cons_zero, List.set_cons_succ, i64_w, i32_w]
              rfl
            refine pure_ (i := 18) (N := some 94) (v := ?_) (a' := ?_) #[true, true, true, true, true, true, true, true, true, true, true, true, true, true, true, true, true, true, true] rfl rfl (by kernel_rfl) (fun _ _ _ h => h) (Or.inl ⟨by rfl, ?_⟩) ?_ ?_
            rotate_left
            · intro w'
              go_simp
              with_reducible rfl
            rotate_left
            · simp only [Act.put, List.setIfInBounds_toArray, List.set_cons_zero, List.set_cons_succ, i64_w, i32_w]
              rfl
            refine done_ (by kernel_rfl) ?_
            go_wp2
            go_roundg gk
            case measure => exact Nat.lt_succ_self _
            case rel => exact ⟨k + 1, rfl, by rw [hcn], by rw [hcn], ⟨(Nat.add_right_comm k 1 gk).trans HK.out⟩, ⟨pw_below_drewN HB.out _⟩⟩
end Go.Proofs.Ytgndgjjejgbmoaa.Bok
