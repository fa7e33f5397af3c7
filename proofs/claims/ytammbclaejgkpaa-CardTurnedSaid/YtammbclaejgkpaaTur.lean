/- What turnstilelaw5.CardTurned answers: the walk of its code. -/
import Derived.Test.YtammbclaejgkpaaPCx7
import Derived.Test.YtammbclaejgkpaaPDx2
import Derived.Deep.RegionWith
import Derived.Lib.ConvBytes
import Derived.IntWalk
namespace Go.Proofs.Ytammbclaejgkpaa.CardTurnedWalk
open Go Go.RowKit Go.Proofs.YtammbclaejgkpaaW.PrintWords Go.Proofs.YtammbclaejgkpaaW.PrintLast Go.Proofs.YtammbclaejgkpaaW.PrintMore
/-- A row of bytes that a conversion left (its mark lies behind its cells). -/
def Row (w : World) (g : Nat) (xs : List Int) : Prop := g < w.heap.size ∧ ReadsInt w .u8 (some ⟨g, 0, none⟩) xs.length xs ∧ ∀ j, j < xs.length → w.frozen? ⟨g, j, none⟩ = false
theorem Row.cell {w : World} {g : Nat} {xs : List Int} (h : Row w g xs) (j : Nat) (hj : j < xs.length) : w.cell? ⟨g, j, none⟩ = some (.int .u8 (xs.getD j 0)) := by
  obtain ⟨ad, he, hc⟩ := h.2.1.2.2 (by omega)
  injection he with he
  subst he
  have := hc j (by omega)
  rwa [add_plain] at this
theorem Row.new (W : World) (e : TypeId) (s : ByteArray) (hs : s.size ≤ 9223372036854775807) : Row (Lib.bytesWorld W e s) W.heap.size (bytesOf s) := by
  refine ⟨by rw [Lib.bytesWorld_size]; omega, by have := bytes_reads W e s hs; rwa [← bytesOf_length s] at this, fun j hj => ?_⟩
  rw [bytesOf_length] at hj
  unfold World.frozen?
  rw [Lib.bytesWorld_at_new]
  have : s.size ≤ (Lib.bytesCells W e s).size := by unfold Lib.bytesCells; rw [Array.size_append, Array.size_map]; exact Nat.le_add_right _ _
  simp
  omega
theorem Row.below {w w1 : World} {g : Nat} {xs : List Int} (h : Row w g xs) (hb : Below w.heap.size w w1) : Row w1 g xs := by
  refine ⟨Nat.lt_of_lt_of_le h.1 hb.size, h.2.1.below hb, fun j hj => ?_⟩
  have := h.2.2 j hj
  unfold World.frozen? at this ⊢
  rw [hb.block g h.1]
  exact this
theorem Row.set {w : World} {g : Nat} {xs : List Int} (h : Row w g xs) (i : Nat) (hi : i < xs.length) (x : Int) : Row (w.setCell ⟨g, i, none⟩ (.int .u8 x)) g (xs.set i x) := by
  have hlt := h.1
  have hcell : ∀ j, j < xs.length → (w.setCell ⟨g, i, none⟩ (.int .u8 x)).cell? ⟨g, j, none⟩ = some (.int .u8 ((xs.set i x).getD j 0)) := by
    intro j hj
    have hc := h.cell j hj
    have hc0 := h.cell i hi
    unfold World.cell? World.setCell at *
    simp only [Array.getElem?_modify, if_true] at *
    cases hh : w.heap[g]? with
    | none => rw [hh] at hc; simp at hc
    | some o =>
      rw [hh] at hc hc0
      cases o <;> simp at hc hc0 ⊢
      rename_i cs e fz
      by_cases hij : i = j
      · subst hij
        have : i < cs.size := by
          rcases Nat.lt_or_ge i cs.size with h' | h'
          · exact h'
          · rw [Array.getElem?_eq_none h'] at hc; cases hc
        simp [this, hi]
      · rw [Array.getElem?_setIfInBounds_ne (by omega), hc, List.getElem?_set_ne hij]
  refine ⟨by unfold World.setCell; simpa using hlt, ⟨rfl, by rw [List.length_set]; exact h.2.1.2.1, fun _ => ⟨_, rfl, fun j hj => ?_⟩⟩, fun j hj => ?_⟩
  · rw [add_plain]
    rw [List.length_set] at hj
    exact hcell j hj
  · rw [List.length_set] at hj
    have := h.2.2 j hj
    unfold World.frozen? World.setCell at *
    simp only [Array.getElem?_modify, if_true]
    cases hh : w.heap[g]? with
    | none => simp
    | some o =>
      rw [hh] at this
      cases o <;> simp at this ⊢
      exact this
theorem Row.string {P : Program} {w : World} {g c : Nat} {xs : List Int} (h : Row w g xs) {src dst e : TypeId} (hs : P.underlying src = some (.slice e)) (he : P.underlying e = some (.int .u8)) (hd : P.underlying dst = some .string) (n : Nat) (hn : xs.length = n) :
    (convert src dst (.slice (some ⟨g, 0, none⟩) n c)).run P w = .ok (.string (strOfNums xs)) w := by
  subst hn
  exact string_of_reads hs he hd h.2.1
theorem Row.drewN {w : World} {g : Nat} {xs : List Int} (h : Row w g xs) (m : Nat) : Row (w.drewN m) g xs := h
theorem Row.at_ {w : World} {g : Nat} {xs : List Int} (h : Row w g xs) (j : Nat) (hj : j < xs.length) (x : Int) (hx : xs.getD j 0 = x) : w.cell? ⟨g, j, none⟩ = some (.int .u8 x) := by rw [h.cell j hj, hx]
theorem bytes_event {P : Program} {ops : Array Oper} {rest : List Oper} {o : Oper} {a : Act} {Q : Exit → Act → World → Prop} {w0 W : World} (hgd : o.guard = none) (src dst e : TypeId) (x : Operand) (ho : o.op = .convert src dst x) (s : ByteArray) (hx : a.eval x = .string s)
    {u : TypeDesc} (hs : P.underlying src = some u) (hd : P.underlying dst = some (.slice e)) (he : P.underlying e = some (.int .u8)) (hsz : s.size ≤ 9223372036854775807) (n : Nat) (hn : s.size = n) (HB : Below w0.heap.size w0 W)
    (h : ∀ g c w1, Row w1 g (bytesOf s) → Below w0.heap.size w0 w1 → w0.heap.size ≤ g → Below W.heap.size W w1 → wpList P ops Q rest (a.put o.dst (.slice (some ⟨g, 0, none⟩) n c)) w1) : wpList P ops Q (o :: rest) a W := by
  subst hn
  refine wpList_plain hgd fun K hK => ?_
  unfold Oper.wp
  have hr : (execOp a.eval o).run P W = .ok (.value (.slice (some ⟨W.heap.size, 0, none⟩) s.size (grownCap W s.size 0 e))) (Lib.bytesWorld W e s) := by
    simp [execOp, ho, hx, print_bytes src dst e hs hd he s W]
  rw [hr]
  exact hK _ _ (h _ _ _ (Row.new W e s hsz) (bytes_below HB HB.size e s) HB.size (bytes_below (Below.refl _ _) (Nat.le_refl _) e s))
theorem string_event {P : Program} {ops : Array Oper} {rest : List Oper} {o : Oper} {a : Act} {Q : Exit → Act → World → Prop} {W : World} (hgd : o.guard = none) (src dst e : TypeId) (x : Operand) (ho : o.op = .convert src dst x) (g c n : Nat) (xs : List Int) (hx : a.eval x = .slice (some ⟨g, 0, none⟩) n c)
    (hs : P.underlying src = some (.slice e)) (he : P.underlying e = some (.int .u8)) (hd : P.underlying dst = some .string) (hr : Row W g xs) (hn : xs.length = n)
    (h : wpList P ops Q rest (a.put o.dst (.string (strOfNums xs))) W) : wpList P ops Q (o :: rest) a W := by
  refine wpList_plain hgd fun K hK => ?_
  unfold Oper.wp
  have hr : (execOp a.eval o).run P W = .ok (.value (.string (strOfNums xs))) W := by
    simp [execOp, ho, hx, hr.string hs he hd n hn]
  rw [hr]
  exact hK _ _ h
end Go.Proofs.Ytammbclaejgkpaa.CardTurnedWalk
