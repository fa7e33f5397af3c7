/- The row of CardWrites: for every track the program's WriteTrack and the document's answer the same. No condition. (Turned by hand out of a printed row.) -/
import Derived.Test.YtammbclaejgkpaaRows
import Derived.Test.YtammbclaejgkpaaPCx6
import Derived.Test.YtammbclaejgkpaaPureCardWrites
import Derived.WalkKit
import Derived.ProofKit
import Derived.OpenShut
import Derived.ShutString
import Derived.ChangeOld
import Derived.Below
import Derived.SizedLaws
import Derived.Lib.SmallJoins
namespace Go.Proofs.Ytammbclaejgkpaa.cardWrites
open Go.ChangeShapes Go.WideShapes Go.ChangeAt Go.RowKit
open Go.ChangeMaps (open_string shut_string)
set_option linter.unusedVariables false
theorem sized_agg {H : Type} {P : Program} {ts : List TypeId} {ds : List (DataW H)} (h : (DataW.weightsEach P ts ds).all (· ≤ reachBytes) = true) {j : Nat} {t : TypeId} {fs : Array Field} {parts : List (DataW H)} (ht : ts[j]? = some t) (hd : ds[j]? = some (.agg parts)) (hu : P.underlying t = some (.struct fs)) :
    (DataW.weightsEach P (fs.toList.map (·.type)) parts).all (· ≤ reachBytes) = true := by
  refine List.all_eq_true.2 fun n hn => ?_
  exact List.all_eq_true.1 h _ (DataW.weights_mem_each ht hd n (by simpa [DataW.weights, hu] using hn))
theorem str_trod {H : Type} {enc : TypeId × Value → H} {P : Program} {w : World} {base : Nat} {sp : Nat → Bool} {held : Bool} {t : TypeId} {s : ByteArray} (ht : P.underlying t = some .string) (hs : s.size ≤ maxLen) :
    ∃ n, DataW.trod enc P w base sp held n t [.string s] = some (.lit (.string s.data.toList), []) := by
  obtain ⟨n, hn⟩ := shut_string (enc := enc) (w := w) (base := base) (sp := sp) (held := held) ht hs
  exact ⟨n, by simpa [Value.cells] using hn⟩
theorem own : ownKnob Try.prog.godebug = none := by kernel_rfl
set_option maxRecDepth 100000 in
theorem lifted (os : Os) (started : os.Started) (H : Type) (enc : TypeId × Value → H) :
    ReturnsInHanded {} Try.checked os 4 .any (Rows.cardWritesSpec.pre6 enc Try.prog Try.f4 Rows.cardWritesRow.domain false) (Rows.cardWritesSpec.post enc Try.prog Try.f4 false true false false) := by
  refine returnsInHanded_of_change_sized (C := Try.checked) own started (by kernel_rfl) Try.func4
    (ChangeSpec.witness6 (enc := enc) (C := Try.checked) false ⟨#[], #[.agg #[.string ByteArray.empty, .string ByteArray.empty, .string ByteArray.empty, .string ByteArray.empty]], []⟩ 8 (by kernel_rfl) (by kernel_rfl) (by kernel_rfl) (by kernel_rfl)) ?_
  intro W base args ds gs before hval0 hW hcnd hsz0 _
  have hsz : (DataW.weightsEach Try.prog (Try.f4.params.toList ++ Rows.cardWritesSpec.plain.varTypes Try.prog) (ds ++ gs)).all (· ≤ reachBytes) = true := hsz0
  have hval : ∀ (j : Nat) t v, Try.f4.params[j]? = some t → args[j]? = some v → Value.okWide Try.prog W .any base t v := hval0
  have hW' := hW
  obtain ⟨p, q, hA0, hV, rfl, hfz, hnd⟩ := hW
  have hA : DataW.TrodAll enc Try.prog W 0 (fun _ => true) true Try.f4.params.toList args.toList ds p := hA0
  rw [Try.params4] at hA hval hsz
  obtain ⟨v0, vs0, d0, ds0, p0, q0, hargs, rfl, rfl, h0, r0⟩ := trodAll_cons hA
  obtain ⟨rfl, rfl, rfl⟩ := trodAll_nil r0
  obtain rfl : args = #[v0] := by cases args; simp_all
  obtain ⟨rfl, rfl⟩ := trodVars_none hV
  obtain ⟨c0, c1, c2, c3, e0, e1, e2, e3, m, rfl, rfl, rfl, t0, t1, t2, t3⟩ := Joins.open_agg4 Try.underlying24 (by kernel_rfl) (by kernel_rfl) (hval 0 24 v0 rfl rfl) h0
  obtain ⟨a0, x0, g0, y0⟩ := DataW.trod_string Try.underlying9 t0
  obtain ⟨a1, x1, g1, y1⟩ := DataW.trod_string Try.underlying9 t1
  obtain ⟨a2, x2, g2, y2⟩ := DataW.trod_string Try.underlying9 t2
  obtain ⟨a3, x3, g3, y3⟩ := DataW.trod_string Try.underlying9 t3
  subst g0 g1 g2 g3
  simp only [List.cons.injEq, and_true] at x0 x1 x2 x3
  subst x0 x1 x2 x3
  have hin := sized_agg hsz (j := 0) (t := 24) rfl rfl Try.underlying24
  have w0 : a0.size ≤ 140737488351232 := by
    have z := sized_string hin (j := 0) (t := 9) rfl rfl
    rw [Array.length_toList] at z
    exact z
  have w1 : a1.size ≤ 140737488351232 := by
    have z := sized_string hin (j := 1) (t := 9) rfl rfl
    rw [Array.length_toList] at z
    exact z
  have w2 : a2.size ≤ 140737488351232 := by
    have z := sized_string hin (j := 2) (t := 9) rfl rfl
    rw [Array.length_toList] at z
    exact z
  have w3 : a3.size ≤ 140737488351232 := by
    have z := sized_string hin (j := 3) (t := 9) rfl rfl
    rw [Array.length_toList] at z
    exact z
  clear hA0 hval0 hsz0 hsz hin
  obtain ⟨k, hk⟩ := Pure.CardWrites a0 a1 a2 a3 w0 w1 w2 w3
  refine (PC.turnstilelaw5_CardWrites.calls k a0 a1 a2 a3 true W hk).mono fun e W' ⟨he, bel⟩ => ?_
  subst he
  exact ⟨_, rfl, _, _, _, [], _, [], hW', trodAll_mk1 (shut_bool Try.underlying4 _), (trodAll_cons_mk (Joins.shut_agg4 (y0 := (.lit (.string a0.data.toList), [])) (y1 := (.lit (.string a1.data.toList), [])) (y2 := (.lit (.string a2.data.toList), [])) (y3 := (.lit (.string a3.data.toList), [])) Try.underlying24 (by kernel_rfl) (by kernel_rfl) (str_trod Try.underlying9 y0) (str_trod Try.underlying9 y1) (str_trod Try.underlying9 y2) (str_trod Try.underlying9 y3)) trodAll_mk0), rfl, bel.frame _, fun h => by cases h⟩
theorem over : Rows.cardWritesRow.holds Try.pinned (OpenSpec.ofChange Rows.cardWritesSpec) :=
  OpenClaim.holds_of_wide 4 Try.f4 rfl rfl rfl rfl rfl rfl rfl ⟨rfl, rfl, rfl, rfl, rfl⟩ rfl rfl rfl rfl rfl (by kernel_rfl) Try.func4 (by kernel_rfl)
    (of_decide_eq_true (by kernel_rfl)) (by unfold Func.isWrapper; first | (rw [if_pos (by decide +kernel)]; kernel_rfl) | (rw [if_neg (by decide +kernel)]; exact ⟨rfl, rfl⟩))
    (fun os started H enc _ => lifted os started H enc)
theorem proved : Rows.CardWritesSaid := over
#print axioms proved
end Go.Proofs.Ytammbclaejgkpaa.cardWrites
namespace Go.Proofs.Ytammbclaejgkpaa
/-- The row, under a short name, for the claim. -/
theorem cardWrites_holds : Rows.CardWritesSaid := cardWrites.proved
end Go.Proofs.Ytammbclaejgkpaa
