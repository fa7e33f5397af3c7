/- What ends a call that was given up. -/
import Derived.Test.YtjbhhgecdcgpeaaTb4
import Derived.Defers
import Derived.Recover
namespace Go.Proofs.Ytjbhhgecdcgpeaa.Tb
open Go Go.RowKit Go.Proofs.YtjbhhgecdcgpeaaW.PrintWords Go.Proofs.YtjbhhgecdcgpeaaW.PrintLast Go.Proofs.YtjbhhgecdcgpeaaW.PrintMore Go.Proofs.Ytjbhhgecdcgpeaa.TA
set_option linter.unusedSimpArgs false
set_option linter.unusedVariables false
theorem run_wrong (v : Value) (w : World) : (Instr.typeAssert (.iface 123 v) 20 123 true).run Try.prog w = .ok (.tuple #[v, .bool true]) w := by
  simp [Instr.typeAssert, run_underlying Try.underlying123, go_sem]
set_option maxRecDepth 100000 in
set_option maxHeartbeats 1000000 in
theorem face_panicking (c a : Nat) (x y code at_ : Int) (w : World) (hne : c ≠ a) (hc : w.heap[c]? = some (.cells #[.int .i64 x] 24 (0, 0))) (ha : w.heap[a]? = some (.cells #[.int .i64 y] 3 (0, 0))) (older : List PanicEntry) :
    CallsD Try.prog 41 #[.pointer (some ⟨c, 0, none⟩), .pointer (some ⟨a, 0, none⟩)] (.panicking ({ v := .iface 123 (.agg #[.int .i64 code, .int .i64 at_]), recovered := false } :: older)) w fun e u' w' =>
      e = .returned (.tuple #[]) ∧ u' = .panicking ({ v := .iface 123 (.agg #[.int .i64 code, .int .i64 at_]), recovered := true } :: older) ∧
      w'.heap[c]? = some (.cells #[.int .i64 code] 24 (0, 0)) ∧ w'.heap[a]? = some (.cells #[.int .i64 at_] 3 (0, 0)) ∧ Chg (fun i => i = c ∨ i = a) w w' := by
  refine callsD_of_wpS Try.func41 rfl fun c₀ cs hu => ?_
  apply wpS_seq
  apply wpS_region
  simp [wpOpsS, go_sem, recoverD, hu, Try.ntmps41, Exit.thenS]
  apply wpS_seq
  apply wpS_region
  simp [wpOpsS, go_sem, recoverD, hu, Try.ntmps41, Exit.thenS]
  refine wpS_cond (t := true) (by simp [Act.eval, Array.replicate]) ?_
  simp only [if_true]
  refine wpS_of_wp ?_
  have hra := fun v w => run_wrong v w
  have hT : (#[Value.pointer (some { block := c, off := 0 }), Value.pointer (some { block := a, off := 0 })] ++
          (((((Array.replicate 24 undef).setIfInBounds 5 (.iface 123 (.agg #[.int .i64 code, .int .i64 at_]))).setIfInBounds 2 (.iface 123 (.agg #[.int .i64 code, .int .i64 at_]))).setIfInBounds 6 (.iface 123 (.agg #[.int .i64 code, .int .i64 at_]))).setIfInBounds 7 (.bool true))) = #[.pointer (some ⟨c, 0, none⟩), .pointer (some ⟨a, 0, none⟩), undef, undef, .iface 123 (.agg #[.int .i64 code, .int .i64 at_]), undef, undef, .iface 123 (.agg #[.int .i64 code, .int .i64 at_]), .iface 123 (.agg #[.int .i64 code, .int .i64 at_]), .bool true, undef, undef, undef, undef, undef, undef, undef, undef, undef, undef, undef, undef, undef, undef, undef, undef] := by kernel_rfl
  rw [hT]
  clear hT
  go_upto_region 5 with (fail)
  obtain ⟨w1, hw1⟩ : ∃ w1, w1 = w.alloc (.cells #[.int .i64 code, .int .i64 at_] 123) := ⟨_, rfl⟩
  obtain ⟨g, hg⟩ : ∃ g, g = w.heap.size := ⟨_, rfl⟩
  rw [← hw1, ← hg]
  have hb1 : Below w.heap.size w w1 := by rw [hw1]; exact below_alloc (Below.refl _ _) _
  have hBx : w1.heap[g]? = some (.cells #[.int .i64 code, .int .i64 at_] 123 (0, 0)) := by rw [hw1, hg]; exact heap_alloc_new _ _
  have hc1 := blk_below hc hb1
  have ha1 := blk_below ha hb1
  have hcg : c ≠ g := by have := blk_lt hc; omega
  have hag : a ≠ g := by have := blk_lt ha; omega
  have y0 : w1.cell? ⟨g, 0, none⟩ = some (.int .i64 code) := (blk_cell hBx 0).trans rfl
  have y1 : w1.cell? ⟨g, 1, none⟩ = some (.int .i64 at_) := (blk_cell hBx 1).trans rfl
  have x0 : w1.cell? ⟨c, 0, none⟩ = some (.int .i64 x) := (blk_cell hc1 0).trans rfl
  have x1 : w1.cell? ⟨a, 0, none⟩ = some (.int .i64 y) := (blk_cell ha1 0).trans rfl
  have f0 := blk_frozen hc1 0
  have f1 := blk_frozen ha1 0
  clear hw1 hg hra
  refine start_ (n := 10) (S := fun w' => w'.cell? ⟨g, 0, none⟩ = some (.int .i64 code) ∧ w'.cell? ⟨g, 1, none⟩ = some (.int .i64 at_)) (ds := [9]) #[false, false, false, false, false, false, false, false, false, false] (by kernel_rfl) rfl rfl ⟨y0, y1⟩ (fun hHeld => ?_)
  refine pure_ (i := 0) (N := some 18) (v := ?_) (a' := ?_) #[true, false, false, false, false, false, false, false, false, false] rfl rfl (by kernel_rfl) (fun _ _ _ h => h) (Or.inl ⟨by rfl, ?_⟩) ?_ ?_
  rotate_left
  · intro w'
    go_simp
    with_reducible rfl
  rotate_left
  · simp only [Act.put, List.setIfInBounds_toArray, List.set_cons_zero, List.set_cons_succ, i64_w, i32_w]
    rfl
  refine pure_ (i := 1) (N := some 19) (v := ?_) (a' := ?_) #[true, true, false, false, false, false, false, false, false, false] rfl rfl (by kernel_rfl) (fun _ _ _ h => h) (Or.inl ⟨by rfl, ?_⟩) ?_ ?_
  rotate_left
  · intro w'
    go_simp
    with_reducible rfl
  rotate_left
  · simp only [Act.put, List.setIfInBounds_toArray, List.set_cons_zero, List.set_cons_succ, i64_w, i32_w]
    rfl
  refine pure_ (i := 2) (N := some 20) (v := ?_) (a' := ?_) #[true, true, true, false, false, false, false, false, false, false] rfl rfl (by kernel_rfl) (fun _ _ _ h => h) (Or.inl ⟨by rfl, ?_⟩) ?_ ?_
  rotate_left
  · intro w'
    go_simp
    with_reducible rfl
  rotate_left
  · simp only [Act.put, List.setIfInBounds_toArray, List.set_cons_zero, List.set_cons_succ, i64_w, i32_w]
    rfl
  refine pure_ (i := 4) (N := some 22) (v := ?_) (a' := ?_) #[true, true, true, false, true, false, false, false, false, false] rfl rfl (by kernel_rfl) (fun _ _ _ h => h) (Or.inl ⟨by rfl, ?_⟩) ?_ ?_
  rotate_left
  · intro w'
    go_simp
    with_reducible rfl
  rotate_left
  · simp only [Act.put, List.setIfInBounds_toArray, List.set_cons_zero, List.set_cons_succ, i64_w, i32_w]
    rfl
  refine take_ (i := 3) (N := some 21) (v := ?_) (a' := ?_) #[true, true, true, true, true, false, false, false, false, false] rfl rfl (by kernel_rfl) (fun _ _ _ h => h) (Or.inl ⟨by rfl, ?_⟩) hHeld ?_ ?_
  rotate_left
  · rintro w' ⟨s0, s1⟩
    go_simp
    with_reducible rfl
  rotate_left
  · simp only [Act.put, List.setIfInBounds_toArray, List.set_cons_zero, List.set_cons_succ, i64_w, i32_w]
    rfl
  refine pure_ (i := 6) (N := some 24) (v := ?_) (a' := ?_) #[true, true, true, true, true, false, true, false, false, false] rfl rfl (by kernel_rfl) (fun _ _ _ h => h) (Or.inl ⟨by rfl, ?_⟩) ?_ ?_
  rotate_left
  · intro w'
    go_simp
    with_reducible rfl
  rotate_left
  · simp only [Act.put, List.setIfInBounds_toArray, List.set_cons_zero, List.set_cons_succ, i64_w, i32_w]
    rfl
  refine take_ (i := 5) (N := some 23) (v := ?_) (a' := ?_) #[true, true, true, true, true, true, true, false, false, false] rfl rfl (by kernel_rfl) (fun _ _ _ h => h) (Or.inl ⟨by rfl, ?_⟩) hHeld ?_ ?_
  rotate_left
  · rintro w' ⟨s0, s1⟩
    go_simp
    with_reducible rfl
  rotate_left
  · simp only [Act.put, List.setIfInBounds_toArray, List.set_cons_zero, List.set_cons_succ, i64_w, i32_w]
    rfl
  refine one_ (i := 7) (N := none) #[true, true, true, true, true, true, true, true, false, false] rfl rfl (by kernel_rfl) (by decide) (fun K hK => ?_)
  refine skip_ (w1 := ?_) (by rfl) rfl ?_ ?_
  rotate_left
  · go_simp
    rfl
  refine hK.out _ _ ⟨(World.cell?_setCell_other _ _ _ _ (fun h => hcg (congrArg Addr.block h))).trans y0, (World.cell?_setCell_other _ _ _ _ (fun h => hcg (congrArg Addr.block h))).trans y1⟩ (fun hHeld => ?_)
  clear hK K
  refine pure_ (i := 8) (N := some 25) (v := ?_) (a' := ?_) #[true, true, true, true, true, true, true, true, true, false] rfl rfl (by kernel_rfl) (fun _ _ _ h => h) (Or.inl ⟨by rfl, ?_⟩) ?_ ?_
  rotate_left
  · intro w'
    go_simp
    with_reducible rfl
  rotate_left
  · simp only [Act.put, List.setIfInBounds_toArray, List.set_cons_zero, List.set_cons_succ, i64_w, i32_w]
    rfl
  refine last_ (i := 9) (N := none) #[true, true, true, true, true, true, true, true, true, true] rfl rfl (by kernel_rfl) (by decide) (fun K hK => ?_)
  refine skip_ (w1 := ?_) (by rfl) rfl ?_ ?_
  rotate_left
  · go_simp
    rfl
  refine hK.out _ _ ?_
  clear hK K
  refine done_ (by kernel_rfl) ?_
  obtain ⟨w2, hw2⟩ : ∃ w2, w2 = ((w1.setCell ⟨c, 0, none⟩ (.int .i64 code)).setCell ⟨a, 0, none⟩ (.int .i64 at_)).drew := ⟨_, rfl⟩
  rw [← hw2]
  have r1 : w2.heap[c]? = some (.cells #[.int .i64 code] 24 (0, 0)) := by rw [hw2]; exact blk_far (blk_put hc1 0 _ rfl) (p := ⟨a, 0, none⟩) hne _
  have r2 : w2.heap[a]? = some (.cells #[.int .i64 at_] 3 (0, 0)) := by rw [hw2]; exact blk_put (blk_far ha1 (p := ⟨c, 0, none⟩) (fun h => hne h.symm) _) 0 _ rfl
  have r3 : Chg (fun i => i = c ∨ i = a) w w2 := by
    rw [hw2]
    have hx := ((Chg.of_below (F := fun i => i = c ∨ i = a) hb1).set ⟨c, 0, none⟩ (.int .i64 code) (.inl rfl)).set ⟨a, 0, none⟩ (.int .i64 at_) (.inr rfl)
    exact ⟨hx.os, hx.tape, hx.output, hx.size, hx.block⟩
  clear hw2
  show bodyPostS _ _ _ _ _ _ _ _ _
  cases c₀
  simp_all [bodyPostS, results, Try.results41]
theorem face_idle (c a : Value) (w : World) :
    CallsD Try.prog 41 #[c, a] .returning w fun e u' w' => e = .returned (.tuple #[]) ∧ u' = .returning ∧ w' = w := by
  refine callsD_of_wpS Try.func41 rfl fun c₀ cs hu => ?_
  apply wpS_seq
  apply wpS_region
  simp [wpOpsS, go_sem, recoverD, hu, Try.ntmps41, Exit.thenS]
  apply wpS_seq
  apply wpS_region
  simp [wpOpsS, go_sem, recoverD, hu, Try.ntmps41, Exit.thenS]
  refine wpS_cond (t := false) (by simp [Act.eval, Array.replicate]) ?_
  simp only [Bool.false_eq_true, if_false]
  refine wpS_of_wp (wp_skip ?_)
  cases c₀
  simp_all [bodyPostS, results, Try.results41]
end Go.Proofs.Ytjbhhgecdcgpeaa.Tb
