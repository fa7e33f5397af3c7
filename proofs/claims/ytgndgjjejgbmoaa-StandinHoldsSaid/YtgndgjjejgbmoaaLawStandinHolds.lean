/- The row of StandinHolds: with the same limits, whatever is asked of a Book, no card is above them, what is within is approved, what is refused changes nothing. No condition. -/
import Derived.Test.YtgndgjjejgbmoaaRows
import Derived.Test.YtgndgjjejgbmoaaRd
namespace Go.Proofs.Ytgndgjjejgbmoaa.standinHolds
open Go.ChangeShapes Go.WideShapes Go.ChangeAt Go.RowKit Bok
open Go.ChangeMaps (open_string shut_string)
set_option linter.unusedVariables false
theorem own : ownKnob Try.prog.godebug = none := by kernel_rfl
theorem laidOut : laidOutB Try.prog = true := by kernel_rfl
set_option maxRecDepth 100000 in
theorem lifted (os : Os) (started : os.Started) (H : Type) (enc : TypeId × Value → H) :
    ReturnsInHanded {} Try.checked os 3 .any (Rows.standinHoldsSpec.pre6 enc Try.prog Try.f3 Rows.standinHoldsRow.domain false) (Rows.standinHoldsSpec.post enc Try.prog Try.f3 false true false false) := by
  refine returnsInHanded_of_change_sized (C := Try.checked) own started (by kernel_rfl) Try.func3
    (ChangeSpec.witness6 (enc := enc) (C := Try.checked) false ⟨#[], #[.agg #[.int .i64 0, .int .i64 0, .int .i64 0, .int .i64 0], .slice none 0 0], []⟩ 8 (by kernel_rfl) (by kernel_rfl) (by kernel_rfl) (by kernel_rfl)) ?_
  intro W base args ds gs before hval0 hW hcnd hsz0 _
  have hval : ∀ (j : Nat) t v, Try.f3.params[j]? = some t → args[j]? = some v → Value.okWide Try.prog W .any base t v := hval0
  have hW' := hW
  obtain ⟨p, q, hA0, hV, rfl, hfz, hnd⟩ := hW
  have hA : DataW.TrodAll enc Try.prog W 0 (fun _ => true) true Try.f3.params.toList args.toList ds p := hA0
  rw [Try.params3] at hA hval
  obtain ⟨v0, vs0, d0, ds0, p0, q0, hargs, rfl, rfl, h0, r0⟩ := trodAll_cons hA
  obtain ⟨v1, vs1, d1, ds1, p1, q1, rfl, rfl, rfl, h1, r1⟩ := trodAll_cons r0
  obtain ⟨rfl, rfl, rfl⟩ := trodAll_nil r1
  obtain rfl : args = #[v0, v1] := by cases args; simp_all
  obtain ⟨rfl, rfl⟩ := trodVars_none hV
  have k0 := h0
  have k1 := h1
  have lt0 : ∀ x ∈ p0, x.block < W.heap.size := by obtain ⟨m, hm⟩ := k0; exact DataW.trod_lt m _ _ _ hm
  have lt1 : ∀ x ∈ p1, x.block < W.heap.size := by obtain ⟨m, hm⟩ := k1; exact DataW.trod_lt m _ _ _ hm
  obtain ⟨c0, c1, c2, c3, e0, e1, e2, e3, m, rfl, rfl, rfl, t0, t1, t2, t3⟩ := Joins.open_agg4 Try.underlying23 (by kernel_rfl) (by kernel_rfl) (hval 0 23 v0 rfl rfl) h0
  obtain ⟨a0, x0, _, y0⟩ := DataW.trod_int Try.underlying3 t0
  obtain ⟨a1, x1, _, y1⟩ := DataW.trod_int Try.underlying3 t1
  obtain ⟨a2, x2, _, y2⟩ := DataW.trod_int Try.underlying3 t2
  obtain ⟨a3, x3, _, y3⟩ := DataW.trod_int Try.underlying3 t3
  simp only [List.cons.injEq, and_true] at x0 x1 x2 x3
  subst x0 x1 x2 x3
  obtain ⟨A, cp, T, rfl, hT⟩ := open_tries Try.underlying24 Try.underlying34 rfl (fun j f hj => by
    match j, hj with
    | 0, hj => cases hj; exact Try.underlying3
    | 1, hj => cases hj; exact Try.underlying3
    | 2, hj => cases hj; exact Try.underlying3
    | j + 3, hj => cases hj) (by kernel_rfl) (by kernel_rfl) (okWide_slice Try.underlying24 (hval 1 24 v1 rfl rfl)) h1
  clear hA0 hval0 hsz0
  refine (holds_calls W a0 a1 a2 a3 (i64_of y0) (i64_of y1) (i64_of y2) (i64_of y3) A cp T hT).mono fun e W' ⟨he, bel⟩ => ?_
  subst he
  exact ⟨_, rfl, _, _, _, [], _, [], hW', trodAll_mk1 (shut_bool Try.underlying4 _), (trodAll_cons_mk (Below.trod laidOut (by kernel_rfl) (of_decide_eq_true (by kernel_rfl)) k0 bel lt0) (trodAll_cons_mk (Below.trod laidOut (by kernel_rfl) (of_decide_eq_true (by kernel_rfl)) k1 bel lt1) trodAll_mk0)), rfl, bel.frame _, fun h => by cases h⟩
theorem over : Rows.standinHoldsRow.holds Try.pinned (OpenSpec.ofChange Rows.standinHoldsSpec) :=
  OpenClaim.holds_of_wide 3 Try.f3 rfl rfl rfl rfl rfl rfl rfl ⟨rfl, rfl, rfl, rfl, rfl⟩ rfl rfl rfl rfl rfl (by kernel_rfl) Try.func3 (by kernel_rfl)
    (of_decide_eq_true (by kernel_rfl)) (by unfold Func.isWrapper; first | (rw [if_pos (by decide +kernel)]; kernel_rfl) | (rw [if_neg (by decide +kernel)]; exact ⟨rfl, rfl⟩))
    (fun os started H enc _ => lifted os started H enc)
theorem proved : Rows.StandinHoldsSaid := over
#print axioms proved
end Go.Proofs.Ytgndgjjejgbmoaa.standinHolds
namespace Go.Proofs.Ytgndgjjejgbmoaa
/-- The row, under a short name, for the claim. -/
theorem standinHolds_holds : Rows.StandinHoldsSaid := standinHolds.proved
end Go.Proofs.Ytgndgjjejgbmoaa
