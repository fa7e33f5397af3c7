/- Reading a law's input: a row of numbers. -/
import Derived.Test.YtjbhhgecdcgpeaaPlM
import Derived.WalkKit
import Derived.ProofKit
import Derived.OpenShut
import Derived.ShutString
import Derived.ChangeOld
import Derived.Below
import Derived.SizedLaws
import Derived.Lib.SmallJoins
import Derived.DataShut
namespace Go.Proofs.Ytjbhhgecdcgpeaa.Tb
open Go Go.ChangeShapes Go.WideShapes Go.ChangeAt Go.RowKit Go.Proofs.YtjbhhgecdcgpeaaW.PrintWords Go.Proofs.Ytjbhhgecdcgpeaa.TA
set_option linter.unusedVariables false
theorem i64_of {n : Int} (h : (Lit.int .i64 n).wf = true) : -9223372036854775808 ≤ n ∧ n < 9223372036854775808 := by
  have h1 := (Lit.wf_int_iff .i64 n).mp h
  have h2 : (-9223372036854775808 : Int) ≤ n := h1.1
  have h3 : n ≤ 9223372036854775807 := h1.2
  exact ⟨h2, by omega⟩
set_option maxRecDepth 100000 in
theorem ints_row {W : World} {A : Option Addr} {T : List Int} (hl : T.length ≤ 9223372036854775807) (h : 0 < T.length → ∃ ad, A = some ad ∧ ∀ i, i < T.length → W.cell? (ad.add i) = some (.int .i64 (T.getD i 0))) : Kd.C (Kd.int .i64) W A T.length T := by
  refine ⟨rfl, hl, fun hn => ?_⟩
  obtain ⟨ad, e, hc⟩ := h hn
  refine ⟨ad, e, fun j p hj => ?_⟩
  have hj2 : j < T.length := (List.getElem?_eq_some_iff.mp hj).1
  refine ⟨[.int .i64 p], rfl, rfl, fun i u hu => ?_⟩
  have hi : i = 0 := by have := (List.getElem?_eq_some_iff.mp hu).1; simpa using this
  subst hi
  cases hu
  have := hc j hj2
  rw [List.getD_eq_getElem?_getD, hj] at this
  rw [show j * (Kd.int .i64).sz + 0 = j from Nat.mul_one j]
  exact this
set_option maxRecDepth 100000 in
theorem ints_open {H : Type} {enc : TypeId × Value → H} {W : World} {base : Nat} {v : Value} {sp : Nat → Bool} {held : Bool} {x : DataW H × List MemPlace} (hval : Value.okWide Try.prog W .any base 30 v) (h : ∃ n, DataW.trod enc Try.prog W 0 sp held n 30 v.cells.toList = some x) :
    ∃ (A : Option Addr) (c : Nat) (T : List Int), v = .slice A T.length c ∧ T.length ≤ c ∧ Kd.C (Kd.int .i64) W A T.length T ∧ rawOk T := by
  obtain ⟨a1, len1, cap1, rfl⟩ := okWide_slice Try.underlying30 hval
  obtain ⟨fuel, hf⟩ := h
  rcases open_ints Try.underlying30 Try.underlying3 (by kernel_rfl) hf with ⟨hcs, _⟩ | ⟨x, l, c, zs, hcs, _, hl, hm, hz, _, hcell, hwz⟩
  · simp [Value.cells] at hcs
    obtain ⟨rfl, rfl, rfl⟩ := hcs
    exact ⟨none, 0, [], rfl, Nat.le_refl _, ints_row (by decide) (fun h => absurd h (by decide)), fun v hv => by cases hv⟩
  · simp [Value.cells] at hcs
    obtain ⟨rfl, rfl, rfl⟩ := hcs
    have hzl : len1 ≤ zs.length := by rw [hz]; split <;> omega
    have hT : (zs.take len1).length = len1 := by rw [List.length_take, Nat.min_eq_left hzl]
    have hmx : cap1 ≤ 9223372036854775807 := hm
    refine ⟨some x, cap1, zs.take len1, by rw [hT], by omega, ints_row (by omega) (fun _ => ⟨x, rfl, fun i hi => ?_⟩), fun v hv => i64_of (hwz v (List.mem_of_mem_take hv))⟩
    have := hcell i (by omega)
    rw [this]
    rw [List.getD_eq_getElem?_getD, List.getD_eq_getElem?_getD, List.getElem?_take_of_lt (by omega)]
end Go.Proofs.Ytjbhhgecdcgpeaa.Tb
