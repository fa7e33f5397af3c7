/- The row of StandinUndoes: behind an approval and its Undo all is as it was, of each card. No condition. -/
import Derived.Test.YtgndgjjejgbmoaaRows
import Derived.Test.YtgndgjjejgbmoaaUn2
namespace Go.Proofs.Ytgndgjjejgbmoaa.standinUndoes
open Go.ChangeShapes Go.WideShapes Go.ChangeAt Go.RowKit Bok
open Go.ChangeMaps (open_string shut_string)
set_option linter.unusedVariables false
theorem own : ownKnob Try.prog.godebug = none := by kernel_rfl
theorem laidOut : laidOutB Try.prog = true := by kernel_rfl
set_option maxRecDepth 100000 in
theorem lifted (os : Os) (started : os.Started) (H : Type) (enc : TypeId × Value → H) :
    ReturnsInHanded {} Try.checked os 5 .any (Rows.standinUndoesSpec.pre6 enc Try.prog Try.f5 Rows.standinUndoesRow.domain false) (Rows.standinUndoesSpec.post enc Try.prog Try.f5 false true false false) := by
  refine returnsInHanded_of_change_sized (C := Try.checked) own started (by kernel_rfl) Try.func5
    (ChangeSpec.witness6 (enc := enc) (C := Try.checked) false ⟨#[], #[.agg #[.int .i64 0, .int .i64 0, .int .i64 0, .int .i64 0], .slice none 0 0, .int .i64 0, .int .i64 0], []⟩ 8 (by kernel_rfl) (by kernel_rfl) (by kernel_rfl) (by kernel_rfl)) ?_
  intro W base args ds gs before hval0 hW hcnd hsz0 _
  have hval : ∀ (j : Nat) t v, Try.f5.params[j]? = some t → args[j]? = some v → Value.okWide Try.prog W .any base t v := hval0
  have hW' := hW
  obtain ⟨p, q, hA0, hV, rfl, hfz, hnd⟩ := hW
  have hA : DataW.TrodAll enc Try.prog W 0 (fun _ => true) true Try.f5.params.toList args.toList ds p := hA0
  rw [Try.params5] at hA hval
  obtain ⟨v0, vs0, d0, ds0, p0, q0, hargs, rfl, rfl, h0, r0⟩ := trodAll_cons hA
  obtain ⟨v1, vs1, d1, ds1, p1, q1, rfl, rfl, rfl, h1, r1⟩ := trodAll_cons r0
  obtain ⟨v2, vs2, d2, ds2, p2, q2, rfl, rfl, rfl, h2, r2⟩ := trodAll_cons r1
  obtain ⟨v3, vs3, d3, ds3, p3, q3, rfl, rfl, rfl, h3, r3⟩ := trodAll_cons r2
  obtain ⟨rfl, rfl, rfl⟩ := trodAll_nil r3
  obtain rfl : args = #[v0, v1, v2, v3] := by cases args; simp_all
  obtain ⟨rfl, rfl⟩ := trodVars_none hV
  have k0 := h0
  have k1 := h1
  have lt0 : ∀ x ∈ p0, x.block < W.heap.size := by obtain ⟨m, hm⟩ := k0; exact DataW.trod_lt m _ _ _ hm
  have lt1 : ∀ x ∈ p1, x.block < W.heap.size := by obtain ⟨m, hm⟩ := k1; exact DataW.trod_lt m _ _ _ hm
  obtain ⟨c0, c1, c2, c3, e0, e1, e2, e3, m, rfl, rfl, rfl, t0, t1, t2, t3⟩ := Joins.open_agg4 Try.underlying23 (by kernel_rfl) (by kernel_rfl) (hval 0 23 v0 rfl rfl) h0
  obtain ⟨a0, x0, _, y0⟩ := DataW.trod_int Try.underlying3 t0
  obtain ⟨a1, x1, _, y1⟩ := DataW.trod_int Try.underlying3 t1
  obtain ⟨a2, x2, _, y2⟩ := DataW.trod_int Try.underlying3 t2
  obtain ⟨a3, x3, _, y3⟩ := DataW.trod_int Try.underlying3 t3
  simp only [List.cons.injEq, and_true] at x0 x1 x2 x3
  subst x0 x1 x2 x3
  obtain ⟨A, cp, T, rfl, hT⟩ := open_tries Try.underlying24 Try.underlying34 rfl (fun j f hj => by
    match j, hj with
    | 0, hj => cases hj; exact Try.underlying3
    | 1, hj => cases hj; exact Try.underlying3
    | 2, hj => cases hj; exact Try.underlying3
    | j + 3, hj => cases hj) (by kernel_rfl) (by kernel_rfl) (okWide_slice Try.underlying24 (hval 1 24 v1 rfl rfl)) h1
  obtain ⟨b2, rfl, rfl, rfl, z2⟩ := open_int Try.underlying3 (hval 2 3 v2 rfl rfl) h2
  obtain ⟨b3, rfl, rfl, rfl, z3⟩ := open_int Try.underlying3 (hval 3 3 v3 rfl rfl) h3
  clear hA0 hval0 hsz0
  refine (undoes_calls W a0 a1 a2 a3 (i64_of y0) (i64_of y1) (i64_of y2) (i64_of y3) A cp T hT b2 b3 (i64_of z2) (i64_of z3)).mono fun e W' ⟨he, bel⟩ => ?_
  subst he
  exact ⟨_, rfl, _, _, _, [], _, [], hW', trodAll_mk1 (shut_bool Try.underlying4 _), (trodAll_cons_mk (Below.trod laidOut (by kernel_rfl) (of_decide_eq_true (by kernel_rfl)) k0 bel lt0) (trodAll_cons_mk (Below.trod laidOut (by kernel_rfl) (of_decide_eq_true (by kernel_rfl)) k1 bel lt1) (trodAll_cons_mk (shut_int Try.underlying3 z2) (trodAll_cons_mk (shut_int Try.underlying3 z3) trodAll_mk0)))), rfl, bel.frame _, fun h => by cases h⟩
theorem over : Rows.standinUndoesRow.holds Try.pinned (OpenSpec.ofChange Rows.standinUndoesSpec) :=
  OpenClaim.holds_of_wide 5 Try.f5 rfl rfl rfl rfl rfl rfl rfl ⟨rfl, rfl, rfl, rfl, rfl⟩ rfl rfl rfl rfl rfl (by kernel_rfl) Try.func5 (by kernel_rfl)
    (of_decide_eq_true (by kernel_rfl)) (by unfold Func.isWrapper; first | (rw [if_pos (by decide +kernel)]; kernel_rfl) | (rw [if_neg (by decide +kernel)]; exact ⟨rfl, rfl⟩))
    (fun os started H enc _ => lifted os started H enc)
theorem proved : Rows.StandinUndoesSaid := over
#print axioms proved
end Go.Proofs.Ytgndgjjejgbmoaa.standinUndoes
namespace Go.Proofs.Ytgndgjjejgbmoaa
/-- The row, under a short name, for the claim. -/
theorem standinUndoes_holds : Rows.StandinUndoesSaid := standinUndoes.proved
end Go.Proofs.Ytgndgjjejgbmoaa
