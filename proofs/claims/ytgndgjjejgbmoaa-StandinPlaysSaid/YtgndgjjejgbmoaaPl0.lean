/- Reading of the argument: a row of steps. -/
import Derived.Test.YtgndgjjejgbmoaaPl9
namespace Go.Proofs.Ytgndgjjejgbmoaa.Bok
open Go.ChangeShapes Go.WideShapes Go.ChangeAt Go.RowKit Go.Deep
set_option linter.unusedVariables false
set_option linter.unusedSimpArgs false
variable {H : Type} {enc : TypeId × Value → H} {w : World} {base : Nat} {held : Bool}
theorem weightsAll_has {P : Program} {e : TypeId} : ∀ {l : List (DataW H)} {d : DataW H}, d ∈ l → ∀ n ∈ d.weights P e, n ∈ DataW.weightsAll P e l
  | x :: l, d, h, n, hn => by
    rw [DataW.weightsAll, List.mem_append]
    rcases List.mem_cons.mp h with rfl | h
    · exact .inl hn
    · exact .inr (weightsAll_has h n hn)
theorem cells3 : Try.prog.cellsOf 3 = 1 := by kernel_rfl
theorem cells9 : Try.prog.cellsOf 9 = 1 := by kernel_rfl
theorem cells23 : Try.prog.cellsOf 23 = 4 := by kernel_rfl
theorem cells50 : Try.prog.cellsOf 50 = 9 := by kernel_rfl
instance : Inhabited StepV := ⟨⟨0, 0, 0, 0, 0, 0, ByteArray.empty, 0, 0⟩⟩
theorem open_steps {v : Value} {d : DataW H} {p : List MemPlace} (hv : ∃ a len cap, v = .slice a len cap) (h : DataW.Trod enc Try.prog w base (fun _ => true) held 42 v d p) (hsz : ∀ n ∈ DataW.weights Try.prog 42 d, n ≤ reachBytes) :
    ∃ (A : Option Addr) (cp : Nat) (T : List StepV), v = .slice A T.length cp ∧ Steps w A T := by
  obtain ⟨a, len, cap, rfl⟩ := hv
  obtain ⟨fuel, hf⟩ := h
  rcases open_slice Try.underlying42 hf with ⟨hcs, _⟩ | ⟨x, l, c, m, n, D, Pl, hcs, hb, hl, hm, hmm, hx, hi⟩
  · simp [Value.cells] at hcs
    obtain ⟨rfl, rfl, rfl⟩ := hcs
    exact ⟨none, 0, [], rfl, fun i hi => absurd hi (Nat.not_lt_zero i)⟩
  · simp [Value.cells] at hcs
    obtain ⟨rfl, rfl, rfl⟩ := hcs
    simp only [if_true] at hmm
    subst hmm
    have hd : d = .slice ((List.range len).map D) ((List.range (m - len)).map fun j => D (len + j)) := (Prod.mk.inj hx).1
    have key : ∀ i, i < len → ∃ s : StepV, (I64 s.on ∧ I64 s.u ∧ I64 s.now ∧ s.c.size ≤ 140737488351232) ∧
        w.cell? (x.add (i * 9)) = some (.int .i64 s.kind) ∧ w.cell? (x.add (i * 9 + 1)) = some (.int .i64 s.on) ∧ w.cell? (x.add (i * 9 + 2)) = some (.int .i64 s.L0) ∧ w.cell? (x.add (i * 9 + 3)) = some (.int .i64 s.L1) ∧ w.cell? (x.add (i * 9 + 4)) = some (.int .i64 s.L2) ∧ w.cell? (x.add (i * 9 + 5)) = some (.int .i64 s.W) ∧ w.cell? (x.add (i * 9 + 6)) = some (.string s.c) ∧ w.cell? (x.add (i * 9 + 7)) = some (.int .i64 s.u) ∧ w.cell? (x.add (i * 9 + 8)) = some (.int .i64 s.now) := by
      intro i hil
      obtain ⟨cs', hc, ht'⟩ := hi i (by omega)
      rw [cells50] at hc
      obtain ⟨ys, n', hn', hy, hlen, hyl, hg⟩ := DataW.trod_struct Try.underlying50 ht'
      rw [cells50] at hlen
      obtain ⟨_, hcl, hat⟩ := World.cells?_some hc
      have hyl6 : ys.length = 6 := hyl
      match cs', hlen with
      | [v0, v1, v2, v3, v4, v5, v6, v7, v8], _ =>
        have e0 : ys[0]? = some (ys[0]'(by omega)) := List.getElem?_eq_getElem (by omega)
        have e1 : ys[1]? = some (ys[1]'(by omega)) := List.getElem?_eq_getElem (by omega)
        have e2 : ys[2]? = some (ys[2]'(by omega)) := List.getElem?_eq_getElem (by omega)
        have e3 : ys[3]? = some (ys[3]'(by omega)) := List.getElem?_eq_getElem (by omega)
        have e4 : ys[4]? = some (ys[4]'(by omega)) := List.getElem?_eq_getElem (by omega)
        have e5 : ys[5]? = some (ys[5]'(by omega)) := List.getElem?_eq_getElem (by omega)
        have g0 : DataW.trod enc Try.prog w base (fun _ => true) held n' 3 (([v0, v1, v2, v3, v4, v5, v6, v7, v8].drop 0).take (Try.prog.cellsOf 3)) = ys[0]? := hg 0 _ rfl
        have g1 : DataW.trod enc Try.prog w base (fun _ => true) held n' 3 (([v0, v1, v2, v3, v4, v5, v6, v7, v8].drop 1).take (Try.prog.cellsOf 3)) = ys[1]? := hg 1 _ rfl
        have g2 : DataW.trod enc Try.prog w base (fun _ => true) held n' 23 (([v0, v1, v2, v3, v4, v5, v6, v7, v8].drop 2).take (Try.prog.cellsOf 23)) = ys[2]? := hg 2 _ rfl
        have g3 : DataW.trod enc Try.prog w base (fun _ => true) held n' 9 (([v0, v1, v2, v3, v4, v5, v6, v7, v8].drop 6).take (Try.prog.cellsOf 9)) = ys[3]? := hg 3 _ rfl
        have g4 : DataW.trod enc Try.prog w base (fun _ => true) held n' 3 (([v0, v1, v2, v3, v4, v5, v6, v7, v8].drop 7).take (Try.prog.cellsOf 3)) = ys[4]? := hg 4 _ rfl
        have g5 : DataW.trod enc Try.prog w base (fun _ => true) held n' 3 (([v0, v1, v2, v3, v4, v5, v6, v7, v8].drop 8).take (Try.prog.cellsOf 3)) = ys[5]? := hg 5 _ rfl
        rw [e0] at g0
        rw [e1] at g1
        rw [e2] at g2
        rw [e3] at g3
        rw [e4] at g4
        rw [e5] at g5
        simp only [cells3, cells9, cells23, List.drop_succ_cons, List.drop_zero, List.take_succ_cons, List.take_zero] at g0 g1 g2 g3 g4 g5
        obtain ⟨z0, hz0, _, w0⟩ := DataW.trod_int Try.underlying3 g0
        obtain ⟨z1, hz1, _, w1⟩ := DataW.trod_int Try.underlying3 g1
        obtain ⟨z7, hz7, _, w7⟩ := DataW.trod_int Try.underlying3 g4
        obtain ⟨z8, hz8, _, w8⟩ := DataW.trod_int Try.underlying3 g5
        obtain ⟨s6, hs6, hx6, w6⟩ := DataW.trod_string Try.underlying9 g3
        obtain ⟨xs, n2, hn2, hy2, hlen2, hyl2, hg2⟩ := DataW.trod_struct Try.underlying23 g2
        have hyl4 : xs.length = 4 := hyl2
        have f0 : xs[0]? = some (xs[0]'(by omega)) := List.getElem?_eq_getElem (by omega)
        have f1 : xs[1]? = some (xs[1]'(by omega)) := List.getElem?_eq_getElem (by omega)
        have f2 : xs[2]? = some (xs[2]'(by omega)) := List.getElem?_eq_getElem (by omega)
        have f3 : xs[3]? = some (xs[3]'(by omega)) := List.getElem?_eq_getElem (by omega)
        have k0 : DataW.trod enc Try.prog w base (fun _ => true) held n2 3 (([v2, v3, v4, v5] : List Value).drop 0 |>.take (Try.prog.cellsOf 3)) = xs[0]? := hg2 0 _ rfl
        have k1 : DataW.trod enc Try.prog w base (fun _ => true) held n2 3 (([v2, v3, v4, v5] : List Value).drop 1 |>.take (Try.prog.cellsOf 3)) = xs[1]? := hg2 1 _ rfl
        have k2 : DataW.trod enc Try.prog w base (fun _ => true) held n2 3 (([v2, v3, v4, v5] : List Value).drop 2 |>.take (Try.prog.cellsOf 3)) = xs[2]? := hg2 2 _ rfl
        have k3 : DataW.trod enc Try.prog w base (fun _ => true) held n2 3 (([v2, v3, v4, v5] : List Value).drop 3 |>.take (Try.prog.cellsOf 3)) = xs[3]? := hg2 3 _ rfl
        rw [f0] at k0
        rw [f1] at k1
        rw [f2] at k2
        rw [f3] at k3
        simp only [cells3, List.drop_succ_cons, List.drop_zero, List.take_succ_cons, List.take_zero] at k0 k1 k2 k3
        obtain ⟨z2, hz2, _, _⟩ := DataW.trod_int Try.underlying3 k0
        obtain ⟨z3, hz3, _, _⟩ := DataW.trod_int Try.underlying3 k1
        obtain ⟨z4, hz4, _, _⟩ := DataW.trod_int Try.underlying3 k2
        obtain ⟨z5, hz5, _, _⟩ := DataW.trod_int Try.underlying3 k3
        simp only [List.cons.injEq, and_true] at hz0 hz1 hz2 hz3 hz4 hz5 hs6 hz7 hz8
        subst hz0 hz1 hz2 hz3 hz4 hz5 hs6 hz7 hz8
        have hsize : s6.size ≤ 140737488351232 := by
          have hD : D i = .agg (ys.map (·.1)) := (Prod.mk.inj hy).1
          have hm1 : s6.data.toList.length ∈ DataW.weights Try.prog 50 (D i) := by
            rw [hD]
            have : DataW.weights Try.prog 50 (.agg (ys.map (·.1))) = DataW.weightsEach Try.prog [3, 3, 23, 9, 3, 3] (ys.map (·.1)) := by
              rw [DataW.weights, Try.underlying50]
              rfl
            rw [this]
            refine DataW.weights_mem_each (j := 3) (t := 9) (d := .lit (.string s6.data.toList)) rfl ?_ _ (by simp [DataW.weights])
            rw [List.getElem?_map, e3, hx6]
            rfl
          have hm2 : s6.data.toList.length ∈ DataW.weights Try.prog 42 d := by
            rw [hd, DataW.weights, Try.underlying42]
            simp only []
            rw [List.mem_cons, List.mem_append]
            exact .inr (.inl (weightsAll_has (List.mem_map.mpr ⟨i, List.mem_range.mpr hil, rfl⟩) _ hm1))
          have := hsz _ hm2
          rw [Array.length_toList] at this
          exact this
        have at_ : ∀ (j : Nat) (hj : j < 9), w.cell? (x.add (i * 9 + j)) = [Value.int IntKind.i64 z0, .int .i64 z1, .int .i64 z2, .int .i64 z3, .int .i64 z4, .int .i64 z5, .string s6, .int .i64 z7, .int .i64 z8][j]? := fun j hj => by
          rw [← Go.Deep.add_add]
          exact hat j hj
        exact ⟨⟨z0, z1, z2, z3, z4, z5, s6, z7, z8⟩, ⟨i64_of w1, i64_of w7, i64_of w8, hsize⟩, at_ 0 (by omega), at_ 1 (by omega), at_ 2 (by omega), at_ 3 (by omega), at_ 4 (by omega), at_ 5 (by omega), at_ 6 (by omega), at_ 7 (by omega), at_ 8 (by omega)⟩
    obtain ⟨T, hT, hp⟩ := list_of key
    refine ⟨some x, _, T, by rw [hT], fun i hi' => ?_⟩
    obtain ⟨k1, q0, q1, q2, q3, q4, q5, q6, q7, q8⟩ := hp i hi'
    have af := fun j (hj : 0 < j) => Go.Proofs.YtgndgjjejgbmoaaW.PrintWords.add_field x (i * 9) j hj
    rw [af 1 (by omega)] at q1
    rw [af 2 (by omega)] at q2
    rw [af 3 (by omega)] at q3
    rw [af 4 (by omega)] at q4
    rw [af 5 (by omega)] at q5
    rw [af 6 (by omega)] at q6
    rw [af 7 (by omega)] at q7
    rw [af 8 (by omega)] at q8
    exact ⟨k1, x, rfl, q0, q1, q2, q3, q4, q5, q6, q7, q8⟩
end Go.Proofs.Ytgndgjjejgbmoaa.Bok
