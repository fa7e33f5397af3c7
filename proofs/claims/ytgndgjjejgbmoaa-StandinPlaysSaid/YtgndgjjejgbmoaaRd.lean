/- Reading of the arguments: a slice of structs, a struct of four numbers. -/
import Derived.Test.YtgndgjjejgbmoaaHo2
import Derived.WalkKit
import Derived.ProofKit
import Derived.OpenShut
import Derived.ShutString
import Derived.ChangeOld
import Derived.Below
import Derived.SizedLaws
import Derived.Lib.SmallJoins
import Derived.Deep.Slices
import Derived.Deep.Fields
import Derived.ChangeSame
import Derived.DataShut
namespace Go.Proofs.Ytgndgjjejgbmoaa.Bok
open Go.ChangeShapes Go.WideShapes Go.ChangeAt Go.RowKit Go.Deep
set_option linter.unusedSimpArgs false
set_option linter.unusedVariables false
variable {H : Type} {enc : TypeId × Value → H} {P : Program} {w : World} {base : Nat} {spare : Nat → Bool} {held : Bool}
/-- A slice of structs of one-cell fields, opened to its cells. -/
theorem open_slice_fields {t e : TypeId} {fs : Array Field} {fuel : Nat} {cs : List Value} {x : DataW H × List MemPlace} (ht : P.underlying t = some (.slice e)) (he : P.underlying e = some (.struct fs))
    (hone : oneCellFields P fs = true) (hC : P.cellsOf e = fs.size) (h : DataW.trod enc P w base spare held fuel t cs = some x) :
    (cs = [.slice none 0 0]) ∨
    ∃ (a : Addr) (len cap m : Nat), cs = [.slice (some a) len cap] ∧ len ≤ cap ∧ cap ≤ maxLen ∧ m = (if spare a.block then cap else len) ∧
      ∀ i, i < m → ∃ (n : Nat), ∀ (j : Nat) (f : Field), fs[j]? = some f → ∃ (v : Value) (y : DataW H × List MemPlace), w.cell? (a.add (i * fs.size + j)) = some v ∧ DataW.trod enc P w base spare held n f.type [v] = some y := by
  rcases open_slice ht h with h0 | ⟨a, len, cap, m, n, D, Pl, hcs, hb, hl, hm, hmm, hx, hi⟩
  · exact .inl h0.1
  · refine .inr ⟨a, len, cap, m, hcs, hl, hm, hmm, fun i him => ?_⟩
    obtain ⟨cs', hc, ht'⟩ := hi i him
    rw [hC] at hc
    obtain ⟨ys, n', hn', hy, hlen, hyl, hf⟩ := DataW.trod_struct he ht'
    obtain ⟨_, hcl, hat⟩ := World.cells?_some hc
    refine ⟨n', fun j f hj => ?_⟩
    obtain ⟨ho, hk⟩ := hone_of hone j f hj
    have hjl : j < fs.size := (Array.getElem?_eq_some_iff.1 hj).1
    have hcell := hat j hjl
    have hv : cs'[j]? = some (cs'[j]'(by omega)) := List.getElem?_eq_getElem (by omega)
    have h1 := hf j f hj
    rw [ho, hk] at h1
    have hone' : (cs'.drop j).take 1 = [cs'[j]'(by omega)] := by
      rw [List.drop_eq_getElem_cons (by omega)]
      rfl
    rw [hone'] at h1
    have hys : ys[j]? = some (ys[j]'(by omega)) := List.getElem?_eq_getElem (by omega)
    refine ⟨_, _, ?_, h1.trans hys⟩
    rw [← Go.Deep.add_add, hcell, hv]
theorem i64_of {n : Int} (h : (Lit.int .i64 n).wf = true) : I64 n := by
  have := (Lit.wf_int_iff .i64 n).mp h
  exact this
theorem list_of {α : Type} [Inhabited α] {len : Nat} {p : Nat → α → Prop} (h : ∀ i, i < len → ∃ x, p i x) : ∃ T : List α, T.length = len ∧ ∀ i (hi : i < T.length), p i T[i] := by
  induction len with
  | zero => exact ⟨[], rfl, fun i hi => absurd hi (Nat.not_lt_zero i)⟩
  | succ n ih =>
    obtain ⟨T, hT, hp⟩ := ih (fun i hi => h i (by omega))
    obtain ⟨x, hx⟩ := h n (by omega)
    refine ⟨T ++ [x], by rw [List.length_append, hT]; rfl, fun i hi => ?_⟩
    rw [List.length_append, hT] at hi
    by_cases hin : i < n
    · rw [List.getElem_append_left (by omega)]
      exact hp i (by omega)
    · have : i = n := by simp at hi; omega
      subst this
      rw [List.getElem_append_right (by omega)]
      simp only [hT, Nat.sub_self]
      exact hx
theorem open_tries {t e : TypeId} {fs : Array Field} {v : Value} {d : DataW H} {p : List MemPlace} (ht : P.underlying t = some (.slice e)) (he : P.underlying e = some (.struct fs)) (h3 : fs.size = 3)
    (hi : ∀ (j : Nat) (f : Field), fs[j]? = some f → P.underlying f.type = some (.int .i64)) (hone : oneCellFields P fs = true) (hC : P.cellsOf e = fs.size)
    (hv : ∃ a len cap, v = .slice a len cap) (h : DataW.Trod enc P w base (fun _ => true) held t v d p) :
    ∃ (A : Option Addr) (cp : Nat) (T : List (Int × Int × Int)), v = .slice A T.length cp ∧ Tries w A T := by
  obtain ⟨a, len, cap, rfl⟩ := hv
  obtain ⟨fuel, hf⟩ := h
  rcases open_slice_fields ht he hone hC hf with hcs | ⟨x, l, c, m, hcs, hl, hm, hmm, hcell⟩
  · simp [Value.cells] at hcs
    obtain ⟨rfl, rfl, rfl⟩ := hcs
    exact ⟨none, 0, [], rfl, fun i hi => absurd hi (Nat.not_lt_zero i)⟩
  · simp [Value.cells] at hcs
    obtain ⟨rfl, rfl, rfl⟩ := hcs
    simp only [if_true] at hmm
    subst hmm
    have key : ∀ i, i < len → ∃ x' : Int × Int × Int, (I64 x'.1 ∧ I64 x'.2.1 ∧ I64 x'.2.2) ∧ w.cell? (x.add (i * 3)) = some (.int .i64 x'.1) ∧ w.cell? ⟨(x.add (i * 3)).block, (x.add (i * 3)).off + 1, none⟩ = some (.int .i64 x'.2.1) ∧ w.cell? ⟨(x.add (i * 3)).block, (x.add (i * 3)).off + 2, none⟩ = some (.int .i64 x'.2.2) := by
      intro i hi'
      obtain ⟨n, hn⟩ := hcell i (by omega)
      rw [h3] at hn
      have fld : ∀ j, j < 3 → ∃ z, I64 z ∧ w.cell? (x.add (i * 3 + j)) = some (.int .i64 z) := by
        intro j hj
        have hjf : fs[j]? = some (fs[j]'(by omega)) := Array.getElem?_eq_getElem (by omega)
        obtain ⟨v, y, hc, hty⟩ := hn j _ hjf
        obtain ⟨z, hz, _, hwf⟩ := DataW.trod_int (hi j _ hjf) hty
        injection hz with hz
        subst hz
        exact ⟨z, i64_of hwf, hc⟩
      obtain ⟨z0, q0, r0⟩ := fld 0 (by omega)
      obtain ⟨z1, q1, r1⟩ := fld 1 (by omega)
      obtain ⟨z2, q2, r2⟩ := fld 2 (by omega)
      refine ⟨(z0, z1, z2), ⟨q0, q1, q2⟩, r0, ?_, ?_⟩
      · rw [← Go.Proofs.YtgndgjjejgbmoaaW.PrintWords.add_field _ _ 1 (by omega)]; exact r1
      · rw [← Go.Proofs.YtgndgjjejgbmoaaW.PrintWords.add_field _ _ 2 (by omega)]; exact r2
    obtain ⟨T, hT, hp⟩ := list_of key
    refine ⟨some x, _, T, by rw [hT], fun i hi' => ?_⟩
    obtain ⟨k1, k2⟩ := hp i hi'
    exact ⟨k1, x, rfl, k2⟩
end Go.Proofs.Ytgndgjjejgbmoaa.Bok
