/- Contracts: New, Len. -/
import Derived.Test.YtgndgjjejgbmoaaBok
namespace Go.Proofs.Ytgndgjjejgbmoaa.Bok
open Go Go.RowKit Go.Maps Go.Proofs.YtgndgjjejgbmoaaW.PrintWords Go.Proofs.YtgndgjjejgbmoaaW.PrintLast Go.Proofs.YtgndgjjejgbmoaaW.PrintMore
theorem Book.cell {w : World} {F : Nat → Prop} {p m : Nat} {cards place last : Int} {S : St} (h : Book w F p m cards place last S) :
    w.cell? ⟨p, 0, none⟩ = some (.int .i64 cards) ∧ w.cell? ⟨p, 1, none⟩ = some (.map (some m)) ∧ w.cell? ⟨p, 2, none⟩ = some (.int .i64 place) ∧ w.cell? ⟨p, 3, none⟩ = some (.int .i64 last) := by
  have := h.strct
  simp [World.cell?, this]
theorem Book.frozen {w : World} {F : Nat → Prop} {p m : Nat} {cards place last : Int} {S : St} (h : Book w F p m cards place last S) (i : Nat) : w.frozen? ⟨p, i, none⟩ = false := by
  have := h.strct
  simp [World.frozen?, this]
set_option maxRecDepth 100000 in
theorem len_calls {F : Nat → Prop} {p m : Nat} {cards place last : Int} {S : St} (w : World) (h : Book w F p m cards place last S) :
    Calls Try.prog 16 #[.pointer (some ⟨p, 0, none⟩)] w fun e w' => e = .returned (.int .i64 S.length) ∧ Drawn0 w w' := by
  obtain ⟨h0, h1, h2, h3⟩ := h.cell
  obtain ⟨n, D, v, hn, hm, hs, _⟩ := h.rows
  have hl := fun ty => hm.len Try.underlying63 ty
  rw [hs] at hl
  go_enter Try.func16, Try.ntmps16
  go_wp2
  go_ret
  exact ⟨rfl, 0, rfl⟩
theorem made_book (cards : Int) (w : World) : Book ((w.alloc (.map #[] 0)).alloc (.cells #[.int .i64 cards, .map (some w.heap.size), .int .i64 0, .int .i64 0] 65)) (fun i => i = w.heap.size + 1 ∨ i = w.heap.size) (w.heap.size + 1) w.heap.size cards 0 0 [] := by
  have hm := (w.ownsMap_made Try.prog 9 raw).alloc (.cells #[.int .i64 cards, .map (some w.heap.size), .int .i64 0, .int .i64 0] 65)
  have hsz : (w.alloc (.map #[] 0)).heap.size = w.heap.size + 1 := Array.size_push _
  refine ⟨?_, .inl rfl, .inr rfl, fun i hi => ?_, by simp, fun x hx => by simp at hx, by omega, 0, .map [], fun _ => .int .i64 0, by simp, hm, rfl, fun c => rfl, fun x hx => by simp at hx, fun x hx => by simp at hx⟩
  · rw [← hsz]
    exact heap_alloc_new _ _
  · have : ((w.alloc (.map #[] 0)).alloc (.cells #[.int .i64 cards, .map (some w.heap.size), .int .i64 0, .int .i64 0] 65)).heap.size = w.heap.size + 2 := (Array.size_push _).trans (congrArg (· + 1) (Array.size_push _))
    omega
set_option maxRecDepth 100000 in
theorem new_bad (cards : Int) (w : World) (hb : cards < 1 ∨ 10000 < cards) :
    Calls Try.prog 8 #[.int .i64 cards] w fun e w' => e = .returned (.tuple #[.pointer none, .int .i64 1]) ∧ Below w.heap.size w w' := by
  have hmm := @run_makeMap Try.prog
  by_cases hc : cards < 1
  · have c1 : decide (cards < 1) = true := decide_eq_true hc
    clear hb
    go_enter Try.func8, Try.ntmps8
    go_wp2
    go_ret2
    exact ⟨rfl, Below.refl _ _⟩
  · have c1 : decide (cards < 1) = false := decide_eq_false hc
    have d1 : decide (10000 < cards) = true := decide_eq_true (by omega)
    clear hb
    go_enter Try.func8, Try.ntmps8
    go_wp2
    go_ret2
    exact ⟨rfl, Below.refl _ _⟩
set_option maxRecDepth 100000 in
theorem new_good (cards : Int) (w : World) (h1 : 1 ≤ cards) (h2 : cards ≤ 10000) :
    Calls Try.prog 8 #[.int .i64 cards] w fun e w' => ∃ p m, e = .returned (.tuple #[.pointer (some ⟨p, 0, none⟩), .int .i64 0]) ∧ Book w' (fun i => i = p ∨ i = m) p m cards 0 0 [] ∧ Below w.heap.size w w' ∧ w.heap.size ≤ p ∧ w.heap.size ≤ m := by
  have hmm := @run_makeMap Try.prog
  have c1 : decide (cards < 1) = false := decide_eq_false (by omega)
  have d1 : decide (10000 < cards) = false := decide_eq_false (by omega)
  clear h1 h2
  go_enter Try.func8, Try.ntmps8
  go_wp2
  go_ret2
  exact ⟨w.heap.size + 1, w.heap.size, rfl, made_book cards w, below_alloc (below_alloc (Below.refl _ _) _) _, by omega, by omega⟩
end Go.Proofs.Ytgndgjjejgbmoaa.Bok
