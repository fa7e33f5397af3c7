/- Contract: slices.Delete of one approval. -/
import Derived.Test.YtgndgjjejgbmoaaBk10
import Derived.Deep.RegionLaw
import Derived.Lib.SliceRun
import Derived.Shelf.RegionOpenPlain
namespace Go.Proofs.Ytgndgjjejgbmoaa.Bok
open Go Go.RowKit Go.Maps Go.Proofs.YtgndgjjejgbmoaaW.PrintWords Go.Proofs.YtgndgjjejgbmoaaW.PrintLast Go.Proofs.YtgndgjjejgbmoaaW.PrintMore PStandinHolds
theorem cellsOf_one : ∀ (l : List Ap), ∀ u ∈ cellsOf l, u.oneCell' = true
  | [], u, h => by cases h
  | a :: l, u, h => by
    simp only [cellsOf, List.mem_cons] at h
    rcases h with rfl | rfl | rfl | h
    · rfl
    · rfl
    · rfl
    · exact cellsOf_one l u h
theorem take_cells {cur : List Value} {l : List Ap} {i : Nat} (hi : i ≤ l.length) (e7 : cur.take (l.length * 3) = cellsOf l) : cur.take (i * 3) = cellsOf (l.take i) := by
  have hx : cur.take (i * 3) = (cellsOf l).take (i * 3) := by rw [← e7, List.take_take, Nat.min_eq_left (by omega)]
  have hy : cellsOf l = cellsOf (l.take i) ++ cellsOf (l.drop i) := by rw [← cellsOf_append, List.take_append_drop]
  have hl : (cellsOf (l.take i)).length = i * 3 := by rw [cellsOf_length, List.length_take, Nat.min_eq_left hi]
  rw [hx, hy, ← hl, List.take_left]
theorem del_world {w : World} {g cap i m : Nat} {l : List Ap} (hrow : w.ownsRow 0 73 3 (.slice (some ⟨g, 0, none⟩) l.length cap) l.length (cellsOf l)) (hm : l.length = i + 1 + m) :
    ((w.drew.setCells g (i * 3) (cellsOf (l.drop (i + 1)))).setCells g ((i + m) * 3) [.int .i64 0, .int .i64 0, .int .i64 0]).ownsRow 0 73 3 (.slice (some ⟨g, 0, none⟩) (i + m) cap) (i + m) (cellsOf (l.eraseIdx i)) ∧
    w.grownBy ((w.drew.setCells g (i * 3) (cellsOf (l.drop (i + 1)))).setCells g ((i + m) * 3) [.int .i64 0, .int .i64 0, .int .i64 0]) (some g) := by
  obtain ⟨q1, q2, q3, q4⟩ := setCells_same g (cellsOf (l.drop (i + 1))) (i * 3) w.drew
  obtain ⟨r1, r2, r3, r4⟩ := setCells_same g [.int .i64 0, .int .i64 0, .int .i64 0] ((i + m) * 3) (w.drew.setCells g (i * 3) (cellsOf (l.drop (i + 1))))
  constructor
  · rcases hrow.2 with ⟨e1, _⟩ | ⟨g', cap', cur, e1, e2, e3, e4, e5, e6, e7⟩
    · cases e1
    · injection e1 with e1 _ ec
      injection e1 with e1
      injection e1 with e1
      subst e1
      subst ec
      have hdl : (cellsOf (l.drop (i + 1))).length = m * 3 := by rw [cellsOf_length, List.length_drop, hm]; congr 1; omega
      obtain ⟨cur1, h1, s1, t1⟩ := setCells_row (e := 73) (cellsOf (l.drop (i + 1))) (i * 3) w.drew cur e3 (by rw [hdl]; omega)
      obtain ⟨cur2, h2, s2, t2⟩ := setCells_row (e := 73) [.int .i64 0, .int .i64 0, .int .i64 0] ((i + m) * 3) _ cur1 h1 (by simp; omega)
      have hti : cur.toList.take (i * 3) = cellsOf (l.take i) := take_cells (by omega) e7
      have hcl : cur.toList.length = cap * 3 := by rw [Array.length_toList]; exact e6
      have hA : (cur.toList.take (i * 3) ++ cellsOf (l.drop (i + 1))).length = (i + m) * 3 := by rw [List.length_append, hdl, List.length_take, hcl, Nat.min_eq_left (by omega)]; omega
      have hB : cellsOf (l.eraseIdx i) = cur.toList.take (i * 3) ++ cellsOf (l.drop (i + 1)) := by rw [hti, ← cellsOf_append, List.eraseIdx_eq_take_drop_succ]
      have hC : cur1.toList.take ((i + m) * 3) = cellsOf (l.eraseIdx i) := by rw [t1, hB, ← hA, List.take_left]
      have hD : (cur1.toList.take ((i + m) * 3)).length = (i + m) * 3 := by rw [hC, hB, hA]
      have hE : cur2.toList.take ((i + m) * 3) = cellsOf (l.eraseIdx i) := by
        rw [t2, List.append_assoc]
        generalize hX : cur1.toList.take ((i + m) * 3) = X at hD hC
        rw [← hD, List.take_left, hC]
      have hlen : (l.eraseIdx i).length = i + m := by rw [List.length_eraseIdx_of_lt (by omega)]; omega
      refine ⟨by rw [cellsOf_length, hlen], .inr ⟨g, cap, cur2, rfl, Nat.zero_le _, h2, by omega, e5, by rw [s2, s1]; exact e6, hE⟩⟩
  · refine ⟨r1.trans q1, r2.trans q2, r3.trans q3, by rw [r4, q4]; exact Nat.le_refl _, fun k _ hk => ?_⟩
    have hk' : k ≠ g := fun e => hk (by rw [e])
    rw [setCells_far _ _ k hk', setCells_far _ _ k hk']
    rfl
theorem clear_one (w : World) (g o c : Nat) (ty : TypeId) (cur : Array Value) (h : w.heap[g]? = some (.cells cur 73 (0, 0))) (hs : o + 3 ≤ cur.size) :
    (Builtin.clear_ #[71] ty #[.slice (some ⟨g, o, none⟩) 1 c]).run Try.prog w = .ok (.tuple #[]) (w.setCells g o [.int .i64 0, .int .i64 0, .int .i64 0]) := by
  have hz : (zeroValue 73).run Try.prog w = .ok (.agg #[.int .i64 0, .int .i64 0, .int .i64 0]) w := by
    simp [zeroValue]
    rfl
  have hcel : ∀ j, j < 3 → (w.cell? ⟨g, o + j, none⟩).isSome = true := by
    intro j hj
    have : o + j < cur.size := by omega
    simp [World.cell?, h, this]
  have hst := run_storeCells_cells (P := Try.prog) g o [.int .i64 0, .int .i64 0, .int .i64 0] 0 w (by simpa using hcel) (by intro j hj; simp [World.frozen?, h]) (by simp [Value.oneCell'])
  have hzc : (Builtin.zeroCells (Value.agg #[.int .i64 0, .int .i64 0, .int .i64 0]).cells 1).toList = [.int .i64 0, .int .i64 0, .int .i64 0] := by
    kernel_rfl
  simp only [Nat.add_zero] at hst
  simp [Builtin.clear_, run_underlying Try.underlying71, hz, hzc, hst]
set_option maxRecDepth 100000 in
set_option maxHeartbeats 400000 in
theorem delete_calls (w : World) (g cap i m : Nat) (l : List Ap) (hrow : w.ownsRow 0 73 3 (.slice (some ⟨g, 0, none⟩) l.length cap) l.length (cellsOf l)) (hm : l.length = i + 1 + m) (hln : l.length ≤ 1000000) :
    Calls Try.prog 29 #[.slice (some ⟨g, 0, none⟩) l.length cap, .int .i64 i, .int .i64 (i + 1 : Nat)] w fun e w' => e = .returned (.slice (some ⟨g, 0, none⟩) (i + m) cap) ∧ w'.ownsRow 0 73 3 (.slice (some ⟨g, 0, none⟩) (i + m) cap) (i + m) (cellsOf (l.eraseIdx i)) ∧ w.grownBy w' (some g) := by
  have HD := Aside0.mk (del_world hrow hm)
  have ⟨cur, e3, e4, e6⟩ : ∃ cur, w.heap[g]? = some (.cells cur 73 (0, 0)) ∧ l.length ≤ cap ∧ cur.size = cap * 3 := by
    rcases hrow.2 with ⟨e1, _⟩ | ⟨g', cap', cur, e1, e2, e3, e4, e5, e6, e7⟩
    · cases e1
    · injection e1 with e1 _ ec
      injection e1 with e1
      injection e1 with e1
      subst e1
      subst ec
      exact ⟨cur, e3, e4, e6⟩
  have hcells := hrow.cells (g := g) rfl
  obtain ⟨news, hnews⟩ : ∃ news, news = cellsOf (l.drop (i + 1)) := ⟨_, rfl⟩
  have hdl : news.length = m * 3 := by rw [hnews, cellsOf_length, List.length_drop, hm]; congr 1; omega
  obtain ⟨A, hA, hsrc⟩ : ∃ A : Addr, (if cap = i + 1 then some (⟨g, 0, none⟩ : Addr) else some ⟨g, (i + 1) * 3, none⟩) = some A ∧ Aside0 (∀ t u, news[t]? = some u → w.drew.cell? (A.add t) = some u) := by
    by_cases h : cap = i + 1
    · refine ⟨⟨g, 0, none⟩, by simp [h], ⟨fun t u hu => ?_⟩⟩
      have h0 : news.length = 0 := by rw [hdl]; omega
      rw [List.length_eq_zero_iff.1 h0] at hu
      simp at hu
    · refine ⟨⟨g, (i + 1) * 3, none⟩, by simp [h], ⟨fun t u hu => ?_⟩⟩
      have hy : cellsOf l = cellsOf (l.take (i + 1)) ++ news := by rw [hnews, ← cellsOf_append, List.take_append_drop]
      have hg : (cellsOf l)[(i + 1) * 3 + t]? = some u := by
        rw [hy, List.getElem?_append_right (by rw [cellsOf_length, List.length_take]; omega)]
        rw [← hu]
        congr 1
        rw [cellsOf_length, List.length_take]
        omega
      have := hcells _ _ hg
      rw [Addr.add_lit] at this ⊢
      rw [Nat.zero_add] at this
      exact this
  have s1 : Aside0 (news.length = m * 3) := ⟨hdl⟩
  have s2 : Aside0 (∀ u ∈ news, u.oneCell' = true) := ⟨by rw [hnews]; exact cellsOf_one _⟩
  have s3 : Aside0 (∀ t, t < news.length → (w.drew.cell? ⟨g, 0 + i * 3 + t, none⟩).isSome = true ∧ w.drew.frozen? ⟨g, 0 + i * 3 + t, none⟩ = false) := by
    refine ⟨fun t ht => ?_⟩
    have : i * 3 + t < cur.size := by omega
    have e3' : w.drew.heap[g]? = some (.cells cur 73 (0, 0)) := e3
    rw [Nat.zero_add]
    exact ⟨by simp [World.cell?, e3', this], by simp [World.frozen?, e3']⟩
  obtain ⟨W1, hW1⟩ : ∃ W1, W1 = w.drew.setCells g (0 + i * 3) news := ⟨_, rfl⟩
  have hcl : ∀ ty c, (Builtin.clear_ #[71] ty #[.slice (some ⟨g, (i + m) * 3, none⟩) (i + 1 + m - (i + m)) c]).run Try.prog W1 = .ok (.tuple #[]) (W1.setCells g ((i + m) * 3) [.int .i64 0, .int .i64 0, .int .i64 0]) := by
    intro ty c
    obtain ⟨cur1, h1, t1, _⟩ := setCells_row (e := 73) news (0 + i * 3) w.drew cur e3 (by rw [hdl]; omega)
    rw [← hW1] at h1
    rw [show i + 1 + m - (i + m) = 1 by omega]
    exact clear_one W1 g _ c ty cur1 h1 (by omega)
  have hW : Aside0 (W1 = w.drew.setCells g (0 + i * 3) news) := ⟨hW1⟩
  obtain ⟨i0, hi0, hz1⟩ : ∃ i0, Try.prog.info? 73 = some i0 ∧ i0.size = 3 := by
    have h := info73
    cases h2 : Try.prog.info? 73 with
    | none => rw [h2] at h; cases h
    | some j => rw [h2] at h; injection h with h; injection h with _ h; injection h with h _; exact ⟨j, rfl, h⟩
  replace hnews := Aside0.mk hnews
  have t71 := Try.underlying71
  have hic : i ≤ cap := by omega
  have hjc : i + 1 ≤ cap := by omega
  have hjl : i + 1 ≤ l.length := by omega
  have c0 : decide ((i : Int) = ((i + 1 : Nat) : Int)) = false := decide_eq_false (by omega)
  have c5 : (i : Int) = ((i + 1 : Nat) : Int) ↔ False := by constructor <;> intro h <;> first | omega | exact h.elim
  have n0 : (0 ≤ (i : Int)) = True := eq_true (by omega)
  have n1 : (0 ≤ ((i + 1 : Nat) : Int)) = True := eq_true (by omega)
  have n2 : (0 ≤ (i : Int) + 1) = True := eq_true (by omega)
  have n3 : ((i : Int) + 1 ≤ (i : Int) + 1 + (m : Int)) = True := eq_true (by omega)
  have mixed : Try.prog.follows Departure.mixedOrders = true := by kernel_rfl
  clear hW1 hcells hrow hdl e3 e6
  go_enter Try.func29, Try.ntmps29
  go_wp2_with fail
  go_region_law_o (refine step_append_room rfl (.tmp 22) (.tmp 25) 71 rfl 73 i0 3 t71 hi0 hz1 g 0 i cap (by simp [Act.eval, Act.put]) A m (cap - (i + 1)) news (by simp [Act.eval, Act.put]) s1.out hsrc.out s2.out (by omega) s3.out ?_; rw [← hW.out])
  go_wp2
  go_ret
  have e : W1 = w.drew.setCells g (i * 3) (cellsOf (l.drop (i + 1))) := by rw [hW.out, hnews.out, Nat.zero_add]
  rw [e]
  exact ⟨rfl, HD.out.1, HD.out.2⟩
end Go.Proofs.Ytgndgjjejgbmoaa.Bok
