/- A Book: a card struck; its numbers set. -/
import Derived.Test.YtgndgjjejgbmoaaBk6
namespace Go.Proofs.Ytgndgjjejgbmoaa.Bok
open Go Go.RowKit Go.Maps Go.Proofs.YtgndgjjejgbmoaaW.PrintWords Go.Proofs.YtgndgjjejgbmoaaW.PrintLast Go.Proofs.YtgndgjjejgbmoaaW.PrintMore PStandinHolds
theorem Book.del_ {w w3 : World} {F : Nat → Prop} {p m : Nat} {cards place last : Int} {S : St} (h : Book w F p m cards place last S) {n : Nat} {D : DataW Value} {v : ByteArray → Value} (hn : (n : Int) ≤ place) (hR : Rows w F p m S n D v)
    {c : ByteArray} (hm3 : w3.ownsMap Try.prog 9 raw m n (D.del (key c))) (hg3 : w.grownBy w3 (some m)) : Book w3 F p m cards place last (S.del c) := by
  have hpm := h.p_ne_m
  have hTidy := hR.map.tidy (string_keyed Try.underlying9)
  refine ⟨?_, h.inp, h.inm, fun i hi => Nat.lt_of_lt_of_le (h.lt i hi) hg3.size, nodup_del h.nodup c, fun x hx => h.full x (mem_del.mp hx).1, h.place0, n, D.del (key c), v, hn, hm3, ?_, ?_, ?_, ?_⟩
  · exact (hg3.block p (h.lt p h.inp) (fun e => hpm (by injection e))).trans h.strct
  · have h1 := Maps.size_del (k := key c) hTidy
    rw [hR.has, hR.size] at h1
    have h2 := len_del h.nodup c
    split at h1 <;> simp_all <;> omega
  · intro d
    rw [has_del]
    by_cases hd : d = c
    · subst hd
      rw [Maps.has_del_same]
      simp
    · rw [Maps.has_del_other (fun e => hd (key_inj e)), hR.has]
      simp [hd]
  · intro x hx
    obtain ⟨hx, hne⟩ := mem_del.mp hx
    obtain ⟨r1, r2, r3⟩ := hR.row x hx
    refine ⟨(Maps.atKey_del_other (fun e => hne (key_inj e)) _).trans r1, r2.kept hg3 ?_, r3⟩
    cases e : (v x.1).ownBlock with
    | none => exact .inl rfl
    | some b => exact .inr (fun e2 => by injection e2 with e2; exact (r3 b e).2.2 e2)
  · intro x hx y hy
    exact hR.apart x (mem_del.mp hx).1 y (mem_del.mp hy).1
theorem setCell_block (w : World) (a : Addr) (u : Value) (i : Nat) (h : i ≠ a.block) : (w.setCell a u).heap[i]? = w.heap[i]? := by
  unfold World.setCell
  simp only [Array.getElem?_modify]
  rw [if_neg (fun e => h e.symm)]
theorem Book.set_ {w : World} {F : Nat → Prop} {p m : Nat} {cards place last : Int} {S : St} (h : Book w F p m cards place last S) (j : Nat) (x place' last' : Int) (hj : (j = 2 ∧ place' = x ∧ last' = last ∧ place ≤ place') ∨ (j = 3 ∧ place' = place ∧ last' = x)) :
    Book (w.setCell ⟨p, j, none⟩ (.int .i64 x)) F p m cards place' last' S := by
  have hpm := h.p_ne_m
  have hb : ∀ i, i ≠ p → (w.setCell ⟨p, j, none⟩ (.int .i64 x)).heap[i]? = w.heap[i]? := fun i hi => setCell_block _ _ _ _ hi
  have hsz : (w.setCell ⟨p, j, none⟩ (.int .i64 x)).heap.size = w.heap.size := by unfold World.setCell; simp
  obtain ⟨n, D, v, h1, h2, h3, h4, h5, h6⟩ := h.rows
  have hpl : place ≤ place' := by omega
  have hst : (w.setCell ⟨p, j, none⟩ (.int .i64 x)).heap[p]? = some (.cells #[.int .i64 cards, .map (some m), .int .i64 place', .int .i64 last'] 65 (0, 0)) := by
    have hs := h.strct
    unfold World.setCell
    simp only [Array.getElem?_modify, if_true, hs]
    rcases hj with ⟨rfl, rfl, rfl, _⟩ | ⟨rfl, rfl, rfl⟩ <;> rfl
  refine ⟨hst, h.inp, h.inm, fun i hi => by rw [hsz]; exact h.lt i hi, h.nodup, h.full, by have := h.place0; omega, n, D, v, by omega, ?_, h3, h4, fun x hx => ?_, h6⟩
  · obtain ⟨es, clock, e1, e2⟩ := h2
    exact ⟨es, clock, (hb m (fun e => hpm e.symm)).trans e1, e2⟩
  · obtain ⟨k1, k2, k3⟩ := h5 x hx
    refine ⟨k1, ⟨k2.1, ?_⟩, k3⟩
    rcases k2.2 with h' | ⟨g, cap, cur, e1, e2, e3, e4⟩
    · exact .inl h'
    · refine .inr ⟨g, cap, cur, e1, e2, (hb g ((k3 g ?_).2.1)).trans e3, e4⟩
      rw [e1]
      rfl
theorem Chg.set {w w' : World} {F : Nat → Prop} (h : Chg F w w') (a : Addr) (u : Value) (ha : F a.block) : Chg F w (w'.setCell a u) :=
  ⟨h.os, h.tape, h.output, by unfold World.setCell; simpa using h.size, fun i hi hf => (setCell_block _ _ _ _ (fun e => hf (by rw [e]; exact ha))).trans (h.block i hi hf)⟩
end Go.Proofs.Ytgndgjjejgbmoaa.Bok
