/- StandinPlays: the contract of step. -/
import Derived.Test.YtgndgjjejgbmoaaPl7
namespace Go.Proofs.Ytgndgjjejgbmoaa.Bok
open Go Go.RowKit Go.Maps Go.Proofs.YtgndgjjejgbmoaaW.PrintWords Go.Proofs.YtgndgjjejgbmoaaW.PrintLast Go.Proofs.YtgndgjjejgbmoaaW.PrintMore PStandinHolds
set_option linter.unusedSimpArgs false
set_option linter.unusedVariables false
theorem Chg.cell_ {F : Nat → Prop} {w w' : World} (h : Chg F w w') {b i : Nat} (hb : ¬ F b) {v : Value} (hc : w.cell? ⟨b, i, none⟩ = some v) : w'.cell? ⟨b, i, none⟩ = some v :=
  (World.cell?_of_block (a := ⟨b, i, none⟩) (h.block b (World.block_lt_of_cell? w ⟨b, i, none⟩ hc) hb)).trans hc
theorem HalfA.chg {N : Nat} {w : World} {F : Nat → Prop} {p r : Nat} {cards L0 L1 L2 W : Int} {c : ByteArray} {n now E : Int} {w' : World} (h : HalfA N w F p r cards L0 L1 L2 W c n now E w') : Chg F w w' := by
  obtain ⟨_, _, _, _, _, _, _, _, _, _, _, _, _, _, _, _, _, _, h, _⟩ := h
  exact h
theorem HalfU.chg {N : Nat} {w : World} {F : Nat → Prop} {p r : Nat} {cards : Int} {c : ByteArray} {u t : Int} {E : Bool} {w' : World} (h : HalfU N w F p r cards c u t E w') : Chg F w w' := by
  obtain ⟨_, _, _, _, _, _, _, _, _, _, _, _, _, h, _⟩ := h
  exact h
theorem byte_string (W : World) (b : Int) : (convert 66 9 (.slice (some ⟨W.heap.size, 0, none⟩) 1 1)).run Try.prog (W.alloc (.cells #[.int .u8 b] 5)) = .ok (.string (strOfNums [b])) (W.alloc (.cells #[.int .u8 b] 5)) := by
  refine own_string (base := 0) (e' := 5) (n := 1) Try.underlying66 Try.underlying5 Try.underlying9 ⟨rfl, .inr ⟨W.heap.size, 1, #[.int .u8 b], rfl, Nat.zero_le _, heap_alloc_new _ _, Nat.le_refl _, by decide, rfl, rfl⟩⟩
/-- What a step leaves. -/
def StepPost (N : Nat) (w : World) (F : Nat → Prop) (p r : Nat) (cards : Int) (w' : World) : Prop := ∃ F', Pair (N + 200) w' F' p r cards ∧ Chg F w w' ∧ (∀ i, F' i → F i ∨ w.heap.size ≤ i)
theorem StepPost.of_below {N : Nat} {w w' : World} {F : Nat → Prop} {p r : Nat} {cards : Int} (h : Pair N w F p r cards) (hb : Below w.heap.size w w') : StepPost N w F p r cards w' :=
  ⟨F, (h.kept (Chg.of_below hb : Chg (fun _ => False) w w') (fun _ _ hf => hf)).mono (by omega), Chg.of_below hb, fun i hi => .inl hi⟩
theorem StepPost.then {N : Nat} {w w1 w' : World} {F F' : Nat → Prop} {p r : Nat} {cards : Int} {M : Nat} (hb : Below w.heap.size w w1) (hP : Pair M w' F' p r cards) (hM : M ≤ N + 200) (hC : Chg F w1 w') (hF : ∀ i, F' i → F i ∨ w1.heap.size ≤ i) : StepPost N w F p r cards w' :=
  ⟨F', hP.mono hM, (Chg.of_below hb).trans hC (fun _ _ h => h), fun i hi => (hF i hi).imp id (fun h => Nat.le_trans hb.size h)⟩
/-- What a round of many finds. -/
def SRel (N : Nat) (w1 : World) (F : Nat → Prop) (p r : Nat) (cards : Int) (tp : Nat) (kq : Nat) (v11 : Value) (w' : World) : Prop :=
  ∃ (i : Nat) (Fi : Nat → Prop), v11 = .int .i64 i ∧ i + kq = tp ∧ Pair (N + i) w' Fi p r cards ∧ Chg F w1 w' ∧ (∀ x, Fi x → F x ∨ w1.heap.size ≤ x)
set_option maxRecDepth 100000 in
set_option maxHeartbeats 2000000 in
theorem step_calls (w : World) {N : Nat} {F : Nat → Prop} {p r : Nat} {cards : Int} (h : Pair N w F p r cards) (hN9 : N ≤ 97000) (kind on L0 L1 L2 W : Int) (c : ByteArray) (u now : Int) (hu : I64 u) (hn : I64 now) (hc : c.size ≤ 140737488351232) :
    Calls Try.prog 15 #[.pointer (some ⟨p, 0, none⟩), .pointer (some ⟨r, 0, none⟩), .agg #[.int .i64 kind, .int .i64 on, .int .i64 L0, .int .i64 L1, .int .i64 L2, .int .i64 W, .string c, .int .i64 u, .int .i64 now]] w fun e w' => e = .returned (.bool true) ∧ StepPost N w F p r cards w' := by
  have hN : N ≤ 98000 := by omega
  have hcs : c.size ≤ maxLen := by unfold maxLen; omega
  go_enter Try.func15, Try.ntmps15
  go_upto_region 1 with (fail)
  obtain ⟨w1, hw1⟩ : ∃ w1, w1 = w.alloc (.cells #[.int .i64 kind, .int .i64 on, .int .i64 L0, .int .i64 L1, .int .i64 L2, .int .i64 W, .string c, .int .i64 u, .int .i64 now] 50) := ⟨_, rfl⟩
  rw [← hw1]
  have B1 : Below w.heap.size w w1 := by rw [hw1]; exact below_alloc (Below.refl _ _) _
  have hbox : w1.heap[w.heap.size]? = some (.cells #[.int .i64 kind, .int .i64 on, .int .i64 L0, .int .i64 L1, .int .i64 L2, .int .i64 W, .string c, .int .i64 u, .int .i64 now] 50 (0, 0)) := by rw [hw1]; exact heap_alloc_new _ _
  clear hw1
  have hgF : ¬ F w.heap.size := fun hf => Nat.lt_irrefl _ (h.lt _ hf)
  have hP1 : Pair N w1 F p r cards := h.kept (Chg.of_below B1 : Chg (fun _ => False) w w1) (fun _ _ hf => hf)
  obtain ⟨g, hg⟩ : ∃ g, g = w.heap.size := ⟨_, rfl⟩
  rw [← hg] at hbox hgF ⊢
  have hgl : g < w1.heap.size := (Array.getElem?_eq_some_iff.mp hbox).1
  have hgw : w.heap.size ≤ g := by omega
  clear hg
  have y0 : w1.cell? ⟨g, 0, none⟩ = some (.int .i64 kind) := by simp [World.cell?, hbox]
  have y2 : w1.cell? ⟨g, 2, none⟩ = some (.int .i64 L0) := by simp [World.cell?, hbox]
  have y3 : w1.cell? ⟨g, 3, none⟩ = some (.int .i64 L1) := by simp [World.cell?, hbox]
  have y4 : w1.cell? ⟨g, 4, none⟩ = some (.int .i64 L2) := by simp [World.cell?, hbox]
  have y5 : w1.cell? ⟨g, 5, none⟩ = some (.int .i64 W) := by simp [World.cell?, hbox]
  have y6 : w1.cell? ⟨g, 6, none⟩ = some (.string c) := by simp [World.cell?, hbox]
  have y7 : w1.cell? ⟨g, 7, none⟩ = some (.int .i64 u) := by simp [World.cell?, hbox]
  have y8 : w1.cell? ⟨g, 8, none⟩ = some (.int .i64 now) := by simp [World.cell?, hbox]
  have hBd : Below w.heap.size w w1.drew := below_step B1 ⟨rfl, rfl, rfl, Nat.le_refl _, fun _ _ => rfl⟩
  have hPd : Pair N w1.drew F p r cards := hP1.kept (Chg.of_below (⟨rfl, rfl, rfl, Nat.le_refl _, fun _ _ => rfl⟩ : Below w1.heap.size w1 w1.drew) : Chg (fun _ => False) w1 w1.drew) (fun _ _ hf => hf)
  by_cases k1 : kind = 1
  · subst k1
    go_upto_region 3 with (fail)
    refine start_ (n := 22) (S := fun w' => w'.cell? ⟨g, 2, none⟩ = some (.int .i64 L0) ∧ w'.cell? ⟨g, 3, none⟩ = some (.int .i64 L1) ∧ w'.cell? ⟨g, 4, none⟩ = some (.int .i64 L2) ∧ w'.cell? ⟨g, 5, none⟩ = some (.int .i64 W) ∧ w'.cell? ⟨g, 6, none⟩ = some (.string c) ∧ w'.cell? ⟨g, 7, none⟩ = some (.int .i64 u) ∧ w'.cell? ⟨g, 8, none⟩ = some (.int .i64 now)) (ds := [19]) #[false, false, false, false, false, false, false, false, false, false, false, false, false, false, false, false, false, false, false, false, false, false] (by kernel_rfl) rfl rfl ⟨y2, y3, y4, y5, y6, y7, y8⟩ (fun hHeld => ?_)
    refine pure_ (i := 0) (N := some 17) (v := ?_) (a' := ?_) #[true, false, false, false, false, false, false, false, false, false, false, false, false, false, false, false, false, false, false, false, false, false] rfl rfl (by kernel_rfl) (fun _ _ _ h => h) (Or.inl ⟨by rfl, ?_⟩) ?_ ?_
    rotate_left
    · intro w'
      go_simp
      with_reducible rfl
    rotate_left
    · simp only [Act.put, List.setIfInBounds_toArray, List.set_cons_zero, List.set_cons_succ, i64_w, i32_w]
      rfl
    refine pure_ (i := 1) (N := some 18) (v := ?_) (a' := ?_) #[true, true, false, false, false, false, false, false, false, false, false, false, false, false, false, false, false, false, false, false, false, false] rfl rfl (by kernel_rfl) (fun _ _ _ h => h) (Or.inl ⟨by rfl, ?_⟩) ?_ ?_
    rotate_left
    · intro w'
      go_simp
      with_reducible rfl
    rotate_left
    · simp only [Act.put, List.setIfInBounds_toArray, List.set_cons_zero, List.set_cons_succ, i64_w, i32_w]
      rfl
    refine pure_ (i := 3) (N := some 20) (v := ?_) (a' := ?_) #[true, true, false, true, false, false, false, false, false, false, false, false, false, false, false, false, false, false, false, false, false, false] rfl rfl (by kernel_rfl) (fun _ _ _ h => h) (Or.inl ⟨by rfl, ?_⟩) ?_ ?_
    rotate_left
    · intro w'
      go_simp
      with_reducible rfl
    rotate_left
    · simp only [Act.put, List.setIfInBounds_toArray, List.set_cons_zero, List.set_cons_succ, i64_w, i32_w]
      rfl
    refine pure_ (i := 5) (N := some 22) (v := ?_) (a' := ?_) #[true, true, false, true, false, true, false, false, false, false, false, false, false, false, false, false, false, false, false, false, false, false] rfl rfl (by kernel_rfl) (fun _ _ _ h => h) (Or.inl ⟨by rfl, ?_⟩) ?_ ?_
    rotate_left
    · intro w'
      go_simp
      with_reducible rfl
    rotate_left
    · simp only [Act.put, List.setIfInBounds_toArray, List.set_cons_zero, List.set_cons_succ, i64_w, i32_w]
      rfl
    refine pure_ (i := 7) (N := some 24) (v := ?_) (a' := ?_) #[true, true, false, true, false, true, false, true, false, false, false, false, false, false, false, false, false, false, false, false, false, false] rfl rfl (by kernel_rfl) (fun _ _ _ h => h) (Or.inl ⟨by rfl, ?_⟩) ?_ ?_
    rotate_left
    · intro w'
      go_simp
      with_reducible rfl
    rotate_left
    · simp only [Act.put, List.setIfInBounds_toArray, List.set_cons_zero, List.set_cons_succ, i64_w, i32_w]
      rfl
    refine pure_ (i := 10) (N := some 27) (v := ?_) (a' := ?_) #[true, true, false, true, false, true, false, true, false, false, true, false, false, false, false, false, false, false, false, false, false, false] rfl rfl (by kernel_rfl) (fun _ _ _ h => h) (Or.inl ⟨by rfl, ?_⟩) ?_ ?_
    rotate_left
    · intro w'
      go_simp
      with_reducible rfl
    rotate_left
    · simp only [Act.put, List.setIfInBounds_toArray, List.set_cons_zero, List.set_cons_succ, i64_w, i32_w]
      rfl
    refine pure_ (i := 11) (N := some 28) (v := ?_) (a' := ?_) #[true, true, false, true, false, true, false, true, false, false, true, true, false, false, false, false, false, false, false, false, false, false] rfl rfl (by kernel_rfl) (fun _ _ _ h => h) (Or.inl ⟨by rfl, ?_⟩) ?_ ?_
    rotate_left
    · intro w'
      go_simp
      with_reducible rfl
    rotate_left
    · simp only [Act.put, List.setIfInBounds_toArray, List.set_cons_zero, List.set_cons_succ, i64_w, i32_w]
      rfl
    refine pure_ (i := 13) (N := some 30) (v := ?_) (a' := ?_) #[true, true, false, true, false, true, false, true, false, false, true, true, false, true, false, false, false, false, false, false, false, false] rfl rfl (by kernel_rfl) (fun _ _ _ h => h) (Or.inl ⟨by rfl, ?_⟩) ?_ ?_
    rotate_left
    · intro w'
      go_simp
      with_reducible rfl
    rotate_left
    · simp only [Act.put, List.setIfInBounds_toArray, List.set_cons_zero, List.set_cons_succ, i64_w, i32_w]
      rfl
    refine pure_ (i := 15) (N := some 32) (v := ?_) (a' := ?_) #[true, true, false, true, false, true, false, true, false, false, true, true, false, true, false, true, false, false, false, false, false, false] rfl rfl (by kernel_rfl) (fun _ _ _ h => h) (Or.inl ⟨by rfl, ?_⟩) ?_ ?_
    rotate_left
    · intro w'
      go_simp
      with_reducible rfl
    rotate_left
    · simp only [Act.put, List.setIfInBounds_toArray, List.set_cons_zero, List.set_cons_succ, i64_w, i32_w]
      rfl
    refine pure_ (i := 17) (N := some 34) (v := ?_) (a' := ?_) #[true, true, false, true, false, true, false, true, false, false, true, true, false, true, false, true, false, true, false, false, false, false] rfl rfl (by kernel_rfl) (fun _ _ _ h => h) (Or.inl ⟨by rfl, ?_⟩) ?_ ?_
    rotate_left
    · intro w'
      go_simp
      with_reducible rfl
    rotate_left
    · simp only [Act.put, List.setIfInBounds_toArray, List.set_cons_zero, List.set_cons_succ, i64_w, i32_w]
      rfl
    refine take_ (i := 2) (N := some 19) (v := ?_) (a' := ?_) #[true, true, true, true, false, true, false, true, false, false, true, true, false, true, false, true, false, true, false, false, false, false] rfl rfl (by kernel_rfl) (fun _ _ _ h => h) (Or.inl ⟨by rfl, ?_⟩) hHeld ?_ ?_
    rotate_left
    · rintro w' ⟨s0, s1, s2, s3, s4, s5, s6⟩
      go_simp
      with_reducible rfl
    rotate_left
    · simp only [Act.put, List.setIfInBounds_toArray, List.set_cons_zero, List.set_cons_succ, i64_w, i32_w]
      rfl
    refine take_ (i := 4) (N := some 21) (v := ?_) (a' := ?_) #[true, true, true, true, true, true, false, true, false, false, true, true, false, true, false, true, false, true, false, false, false, false] rfl rfl (by kernel_rfl) (fun _ _ _ h => h) (Or.inl ⟨by rfl, ?_⟩) hHeld ?_ ?_
    rotate_left
    · rintro w' ⟨s0, s1, s2, s3, s4, s5, s6⟩
      go_simp
      with_reducible rfl
    rotate_left
    · simp only [Act.put, List.setIfInBounds_toArray, List.set_cons_zero, List.set_cons_succ, i64_w, i32_w]
      rfl
    refine take_ (i := 6) (N := some 23) (v := ?_) (a' := ?_) #[true, true, true, true, true, true, true, true, false, false, true, true, false, true, false, true, false, true, false, false, false, false] rfl rfl (by kernel_rfl) (fun _ _ _ h => h) (Or.inl ⟨by rfl, ?_⟩) hHeld ?_ ?_
    rotate_left
    · rintro w' ⟨s0, s1, s2, s3, s4, s5, s6⟩
      go_simp
      with_reducible rfl
    rotate_left
    · simp only [Act.put, List.setIfInBounds_toArray, List.set_cons_zero, List.set_cons_succ, i64_w, i32_w]
      rfl
    refine take_ (i := 8) (N := some 25) (v := ?_) (a' := ?_) #[true, true, true, true, true, true, true, true, true, false, true, true, false, true, false, true, false, true, false, false, false, false] rfl rfl (by kernel_rfl) (fun _ _ _ h => h) (Or.inl ⟨by rfl, ?_⟩) hHeld ?_ ?_
    rotate_left
    · rintro w' ⟨s0, s1, s2, s3, s4, s5, s6⟩
      go_simp
      with_reducible rfl
    rotate_left
    · simp only [Act.put, List.setIfInBounds_toArray, List.set_cons_zero, List.set_cons_succ, i64_w, i32_w]
      rfl
    refine take_ (i := 12) (N := some 29) (v := ?_) (a' := ?_) #[true, true, true, true, true, true, true, true, true, false, true, true, true, true, false, true, false, true, false, false, false, false] rfl rfl (by kernel_rfl) (fun _ _ _ h => h) (Or.inl ⟨by rfl, ?_⟩) hHeld ?_ ?_
    rotate_left
    · rintro w' ⟨s0, s1, s2, s3, s4, s5, s6⟩
      go_simp
      with_reducible rfl
    rotate_left
    · simp only [Act.put, List.setIfInBounds_toArray, List.set_cons_zero, List.set_cons_succ, i64_w, i32_w]
      rfl
    refine take_ (i := 14) (N := some 31) (v := ?_) (a' := ?_) #[true, true, true, true, true, true, true, true, true, false, true, true, true, true, true, true, false, true, false, false, false, false] rfl rfl (by kernel_rfl) (fun _ _ _ h => h) (Or.inl ⟨by rfl, ?_⟩) hHeld ?_ ?_
    rotate_left
    · rintro w' ⟨s0, s1, s2, s3, s4, s5, s6⟩
      go_simp
      with_reducible rfl
    rotate_left
    · simp only [Act.put, List.setIfInBounds_toArray, List.set_cons_zero, List.set_cons_succ, i64_w, i32_w]
      rfl
    refine take_ (i := 16) (N := some 33) (v := ?_) (a' := ?_) #[true, true, true, true, true, true, true, true, true, false, true, true, true, true, true, true, true, true, false, false, false, false] rfl rfl (by kernel_rfl) (fun _ _ _ h => h) (Or.inl ⟨by rfl, ?_⟩) hHeld ?_ ?_
    rotate_left
    · rintro w' ⟨s0, s1, s2, s3, s4, s5, s6⟩
      go_simp
      with_reducible rfl
    rotate_left
    · simp only [Act.put, List.setIfInBounds_toArray, List.set_cons_zero, List.set_cons_succ, i64_w, i32_w]
      rfl
    refine take_ (i := 18) (N := some 35) (v := ?_) (a' := ?_) #[true, true, true, true, true, true, true, true, true, false, true, true, true, true, true, true, true, true, true, false, false, false] rfl rfl (by kernel_rfl) (fun _ _ _ h => h) (Or.inl ⟨by rfl, ?_⟩) hHeld ?_ ?_
    rotate_left
    · rintro w' ⟨s0, s1, s2, s3, s4, s5, s6⟩
      go_simp
      with_reducible rfl
    rotate_left
    · simp only [Act.put, List.setIfInBounds_toArray, List.set_cons_zero, List.set_cons_succ, i64_w, i32_w]
      rfl
    refine one_ (i := 9) (N := some 26) #[true, true, true, true, true, true, true, true, true, true, true, true, true, true, true, true, true, true, true, false, false, false] rfl rfl (by kernel_rfl) (by decide) (fun K hK => ?_)
    refine goes_ Try.func13 (by kernel_rfl) rfl #[.pointer (some ⟨p, 0, none⟩), .agg #[.int .i64 L0, .int .i64 L1, .int .i64 L2, .int .i64 W], .string c, .int .i64 u, .int .i64 now] (by rfl) rfl rfl (by simp only [List.map_toArray, List.map_cons, List.map_nil]; rfl) ?_
    with_reducible refine (pair_ask1 hPd hN L0 L1 L2 W c hcs u now hu hn).mono ?_
    rintro e wk ⟨E, rfl, hH⟩
    refine ⟨_, rfl, ?_⟩
    refine hK.out _ _ ⟨Chg.cell_ (HalfA.chg hH) hgF y2, Chg.cell_ (HalfA.chg hH) hgF y3, Chg.cell_ (HalfA.chg hH) hgF y4, Chg.cell_ (HalfA.chg hH) hgF y5, Chg.cell_ (HalfA.chg hH) hgF y6, Chg.cell_ (HalfA.chg hH) hgF y7, Chg.cell_ (HalfA.chg hH) hgF y8⟩ (fun hHeld => ?_)
    clear hK K
    refine norm_ (a' := ?_) ?_ ?_
    rotate_left
    · show Act.put _ (some 26) _ = _
      simp only [Act.put, List.setIfInBounds_toArray, List.set_cons_zero, List.set_cons_succ, i64_w, i32_w]
      rfl
    refine last_ (i := 19) (N := some 36) #[true, true, true, true, true, true, true, true, true, true, true, true, true, true, true, true, true, true, true, true, false, false] rfl rfl (by kernel_rfl) (by decide) (fun K hK => ?_)
    refine goes_ Try.func23 (by kernel_rfl) rfl #[.pointer (some ⟨r, 0, none⟩), .agg #[.int .i64 L0, .int .i64 L1, .int .i64 L2, .int .i64 W], .string c, .int .i64 u, .int .i64 now] (by rfl) rfl rfl (by simp only [List.map_toArray, List.map_cons, List.map_nil]; rfl) ?_
    with_reducible refine (pair_ask2 hN hu hn hH).mono ?_
    rintro e wz ⟨rfl, F', hP', hC', hF'⟩
    refine ⟨_, rfl, ?_⟩
    refine hK.out _ _ ?_
    clear hK K
    refine norm_ (a' := ?_) ?_ ?_
    rotate_left
    · show Act.put _ (some 36) _ = _
      simp only [Act.put, List.setIfInBounds_toArray, List.set_cons_zero, List.set_cons_succ, i64_w, i32_w]
      rfl
    refine pure_ (i := 20) (N := some 37) (v := ?_) (a' := ?_) #[true, true, true, true, true, true, true, true, true, true, true, true, true, true, true, true, true, true, true, true, true, false] rfl rfl (by kernel_rfl) (fun _ _ _ h => h) (Or.inl ⟨by rfl, ?_⟩) ?_ ?_
    rotate_left
    · intro w'
      go_simp
      with_reducible rfl
    rotate_left
    · simp only [Act.put, List.setIfInBounds_toArray, List.set_cons_zero, List.set_cons_succ, i64_w, i32_w]
      rfl
    refine pure_ (i := 21) (N := some 6) (v := ?_) (a' := ?_) #[true, true, true, true, true, true, true, true, true, true, true, true, true, true, true, true, true, true, true, true, true, true] rfl rfl (by kernel_rfl) (fun _ _ _ h => h) (Or.inl ⟨by rfl, ?_⟩) ?_ ?_
    rotate_left
    · intro w'
      go_simp
      with_reducible rfl
    rotate_left
    · simp only [Act.put, List.setIfInBounds_toArray, List.set_cons_zero, List.set_cons_succ, i64_w, i32_w]
      rfl
    refine done_ (by kernel_rfl) ?_
    go_wp2
    go_ret
    exact ⟨rfl, StepPost.then hBd hP' (by omega) hC' hF'⟩
  have e1 : decide (kind = 1) = false := decide_eq_false k1
  have e1' : (kind == 1) = false := by simpa using k1
  by_cases k2 : kind = 2
  · subst k2
    go_upto_region 5 with (fail)
    refine start_ (n := 18) (S := fun w' => w'.cell? ⟨g, 6, none⟩ = some (.string c) ∧ w'.cell? ⟨g, 7, none⟩ = some (.int .i64 u) ∧ w'.cell? ⟨g, 8, none⟩ = some (.int .i64 now)) (ds := [15]) #[false, false, false, false, false, false, false, false, false, false, false, false, false, false, false, false, false, false] (by kernel_rfl) rfl rfl ⟨y6, y7, y8⟩ (fun hHeld => ?_)
    refine pure_ (i := 0) (N := some 40) (v := ?_) (a' := ?_) #[true, false, false, false, false, false, false, false, false, false, false, false, false, false, false, false, false, false] rfl rfl (by kernel_rfl) (fun _ _ _ h => h) (Or.inl ⟨by rfl, ?_⟩) ?_ ?_
    rotate_left
    · intro w'
      go_simp
      with_reducible rfl
    rotate_left
    · simp only [Act.put, List.setIfInBounds_toArray, List.set_cons_zero, List.set_cons_succ, i64_w, i32_w]
      rfl
    refine pure_ (i := 1) (N := some 41) (v := ?_) (a' := ?_) #[true, true, false, false, false, false, false, false, false, false, false, false, false, false, false, false, false, false] rfl rfl (by kernel_rfl) (fun _ _ _ h => h) (Or.inl ⟨by rfl, ?_⟩) ?_ ?_
    rotate_left
    · intro w'
      go_simp
      with_reducible rfl
    rotate_left
    · simp only [Act.put, List.setIfInBounds_toArray, List.set_cons_zero, List.set_cons_succ, i64_w, i32_w]
      rfl
    refine pure_ (i := 3) (N := some 43) (v := ?_) (a' := ?_) #[true, true, false, true, false, false, false, false, false, false, false, false, false, false, false, false, false, false] rfl rfl (by kernel_rfl) (fun _ _ _ h => h) (Or.inl ⟨by rfl, ?_⟩) ?_ ?_
    rotate_left
    · intro w'
      go_simp
      with_reducible rfl
    rotate_left
    · simp only [Act.put, List.setIfInBounds_toArray, List.set_cons_zero, List.set_cons_succ, i64_w, i32_w]
      rfl
    refine pure_ (i := 5) (N := some 45) (v := ?_) (a' := ?_) #[true, true, false, true, false, true, false, false, false, false, false, false, false, false, false, false, false, false] rfl rfl (by kernel_rfl) (fun _ _ _ h => h) (Or.inl ⟨by rfl, ?_⟩) ?_ ?_
    rotate_left
    · intro w'
      go_simp
      with_reducible rfl
    rotate_left
    · simp only [Act.put, List.setIfInBounds_toArray, List.set_cons_zero, List.set_cons_succ, i64_w, i32_w]
      rfl
    refine pure_ (i := 8) (N := some 48) (v := ?_) (a' := ?_) #[true, true, false, true, false, true, false, false, true, false, false, false, false, false, false, false, false, false] rfl rfl (by kernel_rfl) (fun _ _ _ h => h) (Or.inl ⟨by rfl, ?_⟩) ?_ ?_
    rotate_left
    · intro w'
      go_simp
      with_reducible rfl
    rotate_left
    · simp only [Act.put, List.setIfInBounds_toArray, List.set_cons_zero, List.set_cons_succ, i64_w, i32_w]
      rfl
    refine pure_ (i := 9) (N := some 49) (v := ?_) (a' := ?_) #[true, true, false, true, false, true, false, false, true, true, false, false, false, false, false, false, false, false] rfl rfl (by kernel_rfl) (fun _ _ _ h => h) (Or.inl ⟨by rfl, ?_⟩) ?_ ?_
    rotate_left
    · intro w'
      go_simp
      with_reducible rfl
    rotate_left
    · simp only [Act.put, List.setIfInBounds_toArray, List.set_cons_zero, List.set_cons_succ, i64_w, i32_w]
      rfl
    refine pure_ (i := 11) (N := some 51) (v := ?_) (a' := ?_) #[true, true, false, true, false, true, false, false, true, true, false, true, false, false, false, false, false, false] rfl rfl (by kernel_rfl) (fun _ _ _ h => h) (Or.inl ⟨by rfl, ?_⟩) ?_ ?_
    rotate_left
    · intro w'
      go_simp
      with_reducible rfl
    rotate_left
    · simp only [Act.put, List.setIfInBounds_toArray, List.set_cons_zero, List.set_cons_succ, i64_w, i32_w]
      rfl
    refine pure_ (i := 13) (N := some 53) (v := ?_) (a' := ?_) #[true, true, false, true, false, true, false, false, true, true, false, true, false, true, false, false, false, false] rfl rfl (by kernel_rfl) (fun _ _ _ h => h) (Or.inl ⟨by rfl, ?_⟩) ?_ ?_
    rotate_left
    · intro w'
      go_simp
      with_reducible rfl
    rotate_left
    · simp only [Act.put, List.setIfInBounds_toArray, List.set_cons_zero, List.set_cons_succ, i64_w, i32_w]
      rfl
    refine take_ (i := 2) (N := some 42) (v := ?_) (a' := ?_) #[true, true, true, true, false, true, false, false, true, true, false, true, false, true, false, false, false, false] rfl rfl (by kernel_rfl) (fun _ _ _ h => h) (Or.inl ⟨by rfl, ?_⟩) hHeld ?_ ?_
    rotate_left
    · rintro w' ⟨s0, s1, s2⟩
      go_simp
      with_reducible rfl
    rotate_left
    · simp only [Act.put, List.setIfInBounds_toArray, List.set_cons_zero, List.set_cons_succ, i64_w, i32_w]
      rfl
    refine take_ (i := 4) (N := some 44) (v := ?_) (a' := ?_) #[true, true, true, true, true, true, false, false, true, true, false, true, false, true, false, false, false, false] rfl rfl (by kernel_rfl) (fun _ _ _ h => h) (Or.inl ⟨by rfl, ?_⟩) hHeld ?_ ?_
    rotate_left
    · rintro w' ⟨s0, s1, s2⟩
      go_simp
      with_reducible rfl
    rotate_left
    · simp only [Act.put, List.setIfInBounds_toArray, List.set_cons_zero, List.set_cons_succ, i64_w, i32_w]
      rfl
    refine take_ (i := 6) (N := some 46) (v := ?_) (a' := ?_) #[true, true, true, true, true, true, true, false, true, true, false, true, false, true, false, false, false, false] rfl rfl (by kernel_rfl) (fun _ _ _ h => h) (Or.inl ⟨by rfl, ?_⟩) hHeld ?_ ?_
    rotate_left
    · rintro w' ⟨s0, s1, s2⟩
      go_simp
      with_reducible rfl
    rotate_left
    · simp only [Act.put, List.setIfInBounds_toArray, List.set_cons_zero, List.set_cons_succ, i64_w, i32_w]
      rfl
    refine take_ (i := 10) (N := some 50) (v := ?_) (a' := ?_) #[true, true, true, true, true, true, true, false, true, true, true, true, false, true, false, false, false, false] rfl rfl (by kernel_rfl) (fun _ _ _ h => h) (Or.inl ⟨by rfl, ?_⟩) hHeld ?_ ?_
    rotate_left
    · rintro w' ⟨s0, s1, s2⟩
      go_simp
      with_reducible rfl
    rotate_left
    · simp only [Act.put, List.setIfInBounds_toArray, List.set_cons_zero, List.set_cons_succ, i64_w, i32_w]
      rfl
    refine take_ (i := 12) (N := some 52) (v := ?_) (a' := ?_) #[true, true, true, true, true, true, true, false, true, true, true, true, true, true, false, false, false, false] rfl rfl (by kernel_rfl) (fun _ _ _ h => h) (Or.inl ⟨by rfl, ?_⟩) hHeld ?_ ?_
    rotate_left
    · rintro w' ⟨s0, s1, s2⟩
      go_simp
      with_reducible rfl
    rotate_left
    · simp only [Act.put, List.setIfInBounds_toArray, List.set_cons_zero, List.set_cons_succ, i64_w, i32_w]
      rfl
    refine take_ (i := 14) (N := some 54) (v := ?_) (a' := ?_) #[true, true, true, true, true, true, true, false, true, true, true, true, true, true, true, false, false, false] rfl rfl (by kernel_rfl) (fun _ _ _ h => h) (Or.inl ⟨by rfl, ?_⟩) hHeld ?_ ?_
    rotate_left
    · rintro w' ⟨s0, s1, s2⟩
      go_simp
      with_reducible rfl
    rotate_left
    · simp only [Act.put, List.setIfInBounds_toArray, List.set_cons_zero, List.set_cons_succ, i64_w, i32_w]
      rfl
    refine one_ (i := 7) (N := some 47) #[true, true, true, true, true, true, true, true, true, true, true, true, true, true, true, false, false, false] rfl rfl (by kernel_rfl) (by decide) (fun K hK => ?_)
    refine goes_ Try.func17 (by kernel_rfl) rfl #[.pointer (some ⟨p, 0, none⟩), .string c, .int .i64 u, .int .i64 now] (by rfl) rfl rfl (by simp only [List.map_toArray, List.map_cons, List.map_nil]; rfl) ?_
    with_reducible refine (pair_undo1 hPd hN c hcs u now).mono ?_
    rintro e wk ⟨E, rfl, hH⟩
    refine ⟨_, rfl, ?_⟩
    refine hK.out _ _ ⟨Chg.cell_ (HalfU.chg hH) hgF y6, Chg.cell_ (HalfU.chg hH) hgF y7, Chg.cell_ (HalfU.chg hH) hgF y8⟩ (fun hHeld => ?_)
    clear hK K
    refine norm_ (a' := ?_) ?_ ?_
    rotate_left
    · show Act.put _ (some 47) _ = _
      simp only [Act.put, List.setIfInBounds_toArray, List.set_cons_zero, List.set_cons_succ, i64_w, i32_w]
      rfl
    refine last_ (i := 15) (N := some 55) #[true, true, true, true, true, true, true, true, true, true, true, true, true, true, true, true, false, false] rfl rfl (by kernel_rfl) (by decide) (fun K hK => ?_)
    refine goes_ Try.func24 (by kernel_rfl) rfl #[.pointer (some ⟨r, 0, none⟩), .string c, .int .i64 u, .int .i64 now] (by rfl) rfl rfl (by simp only [List.map_toArray, List.map_cons, List.map_nil]; rfl) ?_
    with_reducible refine (pair_undo2 hN hH).mono ?_
    rintro e wz ⟨rfl, F', hP', hC', hF'⟩
    refine ⟨_, rfl, ?_⟩
    refine hK.out _ _ ?_
    clear hK K
    refine norm_ (a' := ?_) ?_ ?_
    rotate_left
    · show Act.put _ (some 55) _ = _
      simp only [Act.put, List.setIfInBounds_toArray, List.set_cons_zero, List.set_cons_succ, i64_w, i32_w]
      rfl
    refine pure_ (i := 16) (N := some 56) (v := ?_) (a' := ?_) #[true, true, true, true, true, true, true, true, true, true, true, true, true, true, true, true, true, false] rfl rfl (by kernel_rfl) (fun _ _ _ h => h) (Or.inl ⟨by rfl, ?_⟩) ?_ ?_
    rotate_left
    · intro w'
      go_simp
      with_reducible rfl
    rotate_left
    · simp only [Act.put, List.setIfInBounds_toArray, List.set_cons_zero, List.set_cons_succ, i64_w, i32_w]
      rfl
    refine pure_ (i := 17) (N := some 6) (v := ?_) (a' := ?_) #[true, true, true, true, true, true, true, true, true, true, true, true, true, true, true, true, true, true] rfl rfl (by kernel_rfl) (fun _ _ _ h => h) (Or.inl ⟨by rfl, ?_⟩) ?_ ?_
    rotate_left
    · intro w'
      go_simp
      with_reducible rfl
    rotate_left
    · simp only [Act.put, List.setIfInBounds_toArray, List.set_cons_zero, List.set_cons_succ, i64_w, i32_w]
      rfl
    refine done_ (by kernel_rfl) ?_
    go_wp2
    go_ret
    exact ⟨rfl, StepPost.then hBd hP' (by omega) hC' hF'⟩
  have e2 : decide (kind = 2) = false := decide_eq_false k2
  have e2' : (kind == 2) = false := by simpa using k2
  by_cases k3 : kind = 3
  · subst k3
    obtain ⟨a, b, hU1, hU2⟩ := pair_used hP1 hN L0 L1 L2 W c hcs now hn
    go_wp2_with (first
      | (go_at_call 12; with_reducible refine hU1.mono ?_; rintro e wk ⟨rfl, hBk⟩; have z2 := pw_cell_below hBk y2; have z3 := pw_cell_below hBk y3; have z4 := pw_cell_below hBk y4; have z5 := pw_cell_below hBk y5; have z6 := pw_cell_below hBk y6; have z8 := pw_cell_below hBk y8)
      | (go_at_call 25; with_reducible refine (hU2 wk hBk).mono ?_; rintro e wz ⟨rfl, hBz⟩))
    go_ret
    exact ⟨rfl, StepPost.of_below h (below_step (below_step B1 hBk) hBz)⟩
  have e3 : decide (kind = 3) = false := decide_eq_false k3
  have e3' : (kind == 3) = false := by simpa using k3
  by_cases k4 : kind = 4
  · subst k4
    obtain ⟨a, hU1, hU2⟩ := pair_len hP1 hN
    go_wp2_with (first
      | (go_at_call 16; with_reducible refine hU1.mono ?_; rintro e wk ⟨rfl, hBk⟩)
      | (go_at_call 26; with_reducible refine (hU2 wk hBk).mono ?_; rintro e wz ⟨rfl, hBz⟩))
    go_ret
    exact ⟨rfl, StepPost.of_below h (below_step (below_step B1 hBk) hBz)⟩
  have e4 : decide (kind = 4) = false := decide_eq_false k4
  have e4' : (kind == 4) = false := by simpa using k4
  by_cases k5 : kind = 5
  · subst k5
    obtain ⟨tp, htp, hcp⟩ : ∃ tp : Nat, tp < 200 ∧ ∀ w, Calls Try.prog 11 #[.int .i64 u, .int .i64 200] w fun e w' => e = .returned (.int .i64 tp) ∧ Drawn0 w w' := by
      have hr := pick_range u 200 (by decide)
      refine ⟨(pickI u 200).toNat, by omega, fun w => ?_⟩
      rw [Int.toNat_of_nonneg hr.1]
      exact pick_calls u 200 hu (by decide) w
    clear hPd hBd
    go_wp2
    go_loopg [11] tp (fun kq v11 w' => SRel N w1 F p r cards tp kq v11 w')
    case atStart => exact ⟨0, F, rfl, Nat.zero_add _, hP1, Chg.refl _ _, fun x hx => .inl hx⟩
    case round =>
      obtain ⟨i, Fi, rfl, HK, hPi, hCi, hFi⟩ := hrel
      replace y2 := hCi.cell_ hgF y2
      replace y3 := hCi.cell_ hgF y3
      replace y4 := hCi.cell_ hgF y4
      replace y5 := hCi.cell_ hgF y5
      replace y6 := hCi.cell_ hgF y6
      replace y7 := hCi.cell_ hgF y7
      replace y8 := hCi.cell_ hgF y8
      have hgFi : ¬ Fi g := fun hf => by
        rcases hFi g hf with h | h
        · exact hgF h
        · omega
      cases gk with
      | zero =>
        have d1 : decide ((i : Int) < (tp : Int)) = false := decide_eq_false (by omega)
        have d2 : (i < tp) = False := eq_false (by omega)
        go_wp2_with (first | (go_at_call 11; with_reducible refine (hcp _).mono ?_; rintro e wb ⟨rfl, kb, rfl⟩))
        go_ret
        have hBb : Below wr.heap.size wr (wr.drewN kb) := pw_below_drewN (Below.refl _ _) _
        refine ⟨rfl, Fi, (hPi.kept (Chg.of_below hBb : Chg (fun _ => False) wr _) (fun _ _ hf => hf)).mono (by omega), ((Chg.of_below B1 : Chg F w w1).trans hCi (fun _ _ h => h)).trans (Chg.of_below hBb : Chg F wr _) (fun _ _ h => h), fun x hx => (hFi x hx).imp id (fun h => Nat.le_trans B1.size h)⟩
      | succ gk =>
        have d1 : decide ((i : Int) < (tp : Int)) = true := decide_eq_true (by omega)
        have d2 : (i < tp) = True := eq_true (by omega)
        have hi2 : (i : Int) ≤ 200 := by omega
        have hi0 : 0 ≤ (i : Int) := by omega
        obtain ⟨sb, hsb⟩ : ∃ sb, strOfNums [(i : Int)] = sb := ⟨_, rfl⟩
        have hs1 : sb.size = 1 := by rw [← hsb]; rfl
        have hcv : ∀ k, (convert 66 9 (.slice (some ⟨wr.heap.size, 0, none⟩) 1 1)).run Try.prog ((wr.drewN k).alloc (.cells #[.int .u8 (i : Int)] 5)) = .ok (.string sb) ((wr.drewN k).alloc (.cells #[.int .u8 (i : Int)] 5)) := fun k => by rw [← hsb]; exact byte_string (wr.drewN k) i
        have hcc0 : c.size + sb.size ≤ 9223372036854775807 := by omega
        have hcc := eq_true hcc0
        have hcc1 : decide (c.size + sb.size ≤ 9223372036854775807) = true := decide_eq_true hcc0
        have hcc2 : (9223372036854775807 < c.size + sb.size) = False := eq_false (by omega)
        have hc1s : (c ++ sb).size ≤ maxLen := by rw [ByteArray.size_append]; unfold maxLen; omega
        clear hsb
        go_upto_region 17 with (first | (go_at_call 11; with_reducible refine (hcp _).mono ?_; rintro e wb ⟨rfl, kb, rfl⟩))
        obtain ⟨c1, hc1e⟩ : ∃ c1, c1 = c ++ sb := ⟨_, rfl⟩
        rw [← hc1e] at hc1s ⊢
        obtain ⟨w6, hw6⟩ : ∃ w6, w6 = (wr.drewN kb).alloc (.cells #[.int .u8 (i : Int)] 5) := ⟨_, rfl⟩
        rw [← hw6]
        have hB6 : Below wr.heap.size wr w6 := by rw [hw6]; exact below_alloc (pw_below_drewN (Below.refl _ _) kb) _
        clear hw6 hc1e hcv
        replace y2 := pw_cell_below hB6 y2
        replace y3 := pw_cell_below hB6 y3
        replace y4 := pw_cell_below hB6 y4
        replace y5 := pw_cell_below hB6 y5
        replace y8 := pw_cell_below hB6 y8
        have hBd : Below wr.heap.size wr w6.drew := below_step hB6 ⟨rfl, rfl, rfl, Nat.le_refl _, fun _ _ => rfl⟩
        have hPd : Pair (N + i) w6.drew Fi p r cards := hPi.kept (Chg.of_below hBd : Chg (fun _ => False) wr w6.drew) (fun _ _ hf => hf)
        have hNi : N + i ≤ 98000 := by omega
        have hi64 : I64 (i : Int) := ⟨by omega, by omega⟩
        have hc1 := hc1s
        have hHK := Aside0.mk HK
        clear HK
        refine start_ (n := 17) (S := fun w' => w'.cell? ⟨g, 2, none⟩ = some (.int .i64 L0) ∧ w'.cell? ⟨g, 3, none⟩ = some (.int .i64 L1) ∧ w'.cell? ⟨g, 4, none⟩ = some (.int .i64 L2) ∧ w'.cell? ⟨g, 5, none⟩ = some (.int .i64 W) ∧ w'.cell? ⟨g, 8, none⟩ = some (.int .i64 now)) (ds := [15]) #[false, false, false, false, false, false, false, false, false, false, false, false, false, false, false, false, false] (by kernel_rfl) rfl rfl ⟨y2, y3, y4, y5, y8⟩ (fun hHeld => ?_)
        refine pure_ (i := 0) (N := some 112) (v := ?_) (a' := ?_) #[true, false, false, false, false, false, false, false, false, false, false, false, false, false, false, false, false] rfl rfl (by kernel_rfl) (fun _ _ _ h => h) (Or.inl ⟨by rfl, ?_⟩) ?_ ?_
        rotate_left
        · intro w'
          go_simp
          with_reducible rfl
        rotate_left
        · simp only [Act.put, List.setIfInBounds_toArray, List.set_cons_zero, List.set_cons_succ, i64_w, i32_w]
          rfl
        refine pure_ (i := 1) (N := some 113) (v := ?_) (a' := ?_) #[true, true, false, false, false, false, false, false, false, false, false, false, false, false, false, false, false] rfl rfl (by kernel_rfl) (fun _ _ _ h => h) (Or.inl ⟨by rfl, ?_⟩) ?_ ?_
        rotate_left
        · intro w'
          go_simp
          with_reducible rfl
        rotate_left
        · simp only [Act.put, List.setIfInBounds_toArray, List.set_cons_zero, List.set_cons_succ, i64_w, i32_w]
          rfl
        refine pure_ (i := 3) (N := some 115) (v := ?_) (a' := ?_) #[true, true, false, true, false, false, false, false, false, false, false, false, false, false, false, false, false] rfl rfl (by kernel_rfl) (fun _ _ _ h => h) (Or.inl ⟨by rfl, ?_⟩) ?_ ?_
        rotate_left
        · intro w'
          go_simp
          with_reducible rfl
        rotate_left
        · simp only [Act.put, List.setIfInBounds_toArray, List.set_cons_zero, List.set_cons_succ, i64_w, i32_w]
          rfl
        refine pure_ (i := 4) (N := some 116) (v := ?_) (a' := ?_) #[true, true, false, true, true, false, false, false, false, false, false, false, false, false, false, false, false] rfl rfl (by kernel_rfl) (fun _ _ _ h => h) (Or.inl ⟨by rfl, ?_⟩) ?_ ?_
        rotate_left
        · intro w'
          go_simp
          with_reducible rfl
        rotate_left
        · simp only [Act.put, List.setIfInBounds_toArray, List.set_cons_zero, List.set_cons_succ, i64_w, i32_w]
          rfl
        refine pure_ (i := 5) (N := some 117) (v := ?_) (a' := ?_) #[true, true, false, true, true, true, false, false, false, false, false, false, false, false, false, false, false] rfl rfl (by kernel_rfl) (fun _ _ _ h => h) (Or.inl ⟨by rfl, ?_⟩) ?_ ?_
        rotate_left
        · intro w'
          go_simp
          with_reducible rfl
        rotate_left
        · simp only [Act.put, List.setIfInBounds_toArray, List.set_cons_zero, List.set_cons_succ, i64_w, i32_w]
          rfl
        refine pure_ (i := 8) (N := some 120) (v := ?_) (a' := ?_) #[true, true, false, true, true, true, false, false, true, false, false, false, false, false, false, false, false] rfl rfl (by kernel_rfl) (fun _ _ _ h => h) (Or.inl ⟨by rfl, ?_⟩) ?_ ?_
        rotate_left
        · intro w'
          go_simp
          with_reducible rfl
        rotate_left
        · simp only [Act.put, List.setIfInBounds_toArray, List.set_cons_zero, List.set_cons_succ, i64_w, i32_w]
          rfl
        refine pure_ (i := 9) (N := some 121) (v := ?_) (a' := ?_) #[true, true, false, true, true, true, false, false, true, true, false, false, false, false, false, false, false] rfl rfl (by kernel_rfl) (fun _ _ _ h => h) (Or.inl ⟨by rfl, ?_⟩) ?_ ?_
        rotate_left
        · intro w'
          go_simp
          with_reducible rfl
        rotate_left
        · simp only [Act.put, List.setIfInBounds_toArray, List.set_cons_zero, List.set_cons_succ, i64_w, i32_w]
          rfl
        refine pure_ (i := 11) (N := some 123) (v := ?_) (a' := ?_) #[true, true, false, true, true, true, false, false, true, true, false, true, false, false, false, false, false] rfl rfl (by kernel_rfl) (fun _ _ _ h => h) (Or.inl ⟨by rfl, ?_⟩) ?_ ?_
        rotate_left
        · intro w'
          go_simp
          with_reducible rfl
        rotate_left
        · simp only [Act.put, List.setIfInBounds_toArray, List.set_cons_zero, List.set_cons_succ, i64_w, i32_w]
          rfl
        refine pure_ (i := 12) (N := some 124) (v := ?_) (a' := ?_) #[true, true, false, true, true, true, false, false, true, true, false, true, true, false, false, false, false] rfl rfl (by kernel_rfl) (fun _ _ _ h => h) (Or.inl ⟨by rfl, ?_⟩) ?_ ?_
        rotate_left
        · intro w'
          go_simp
          with_reducible rfl
        rotate_left
        · simp only [Act.put, List.setIfInBounds_toArray, List.set_cons_zero, List.set_cons_succ, i64_w, i32_w]
          rfl
        refine pure_ (i := 13) (N := some 125) (v := ?_) (a' := ?_) #[true, true, false, true, true, true, false, false, true, true, false, true, true, true, false, false, false] rfl rfl (by kernel_rfl) (fun _ _ _ h => h) (Or.inl ⟨by rfl, ?_⟩) ?_ ?_
        rotate_left
        · intro w'
          go_simp
          with_reducible rfl
        rotate_left
        · simp only [Act.put, List.setIfInBounds_toArray, List.set_cons_zero, List.set_cons_succ, i64_w, i32_w]
          rfl
        refine take_ (i := 2) (N := some 114) (v := ?_) (a' := ?_) #[true, true, true, true, true, true, false, false, true, true, false, true, true, true, false, false, false] rfl rfl (by kernel_rfl) (fun _ _ _ h => h) (Or.inl ⟨by rfl, ?_⟩) hHeld ?_ ?_
        rotate_left
        · rintro w' ⟨s0, s1, s2, s3, s4⟩
          go_simp
          with_reducible rfl
        rotate_left
        · simp only [Act.put, List.setIfInBounds_toArray, List.set_cons_zero, List.set_cons_succ, i64_w, i32_w]
          rfl
        refine take_ (i := 6) (N := some 118) (v := ?_) (a' := ?_) #[true, true, true, true, true, true, true, false, true, true, false, true, true, true, false, false, false] rfl rfl (by kernel_rfl) (fun _ _ _ h => h) (Or.inl ⟨by rfl, ?_⟩) hHeld ?_ ?_
        rotate_left
        · rintro w' ⟨s0, s1, s2, s3, s4⟩
          go_simp
          with_reducible rfl
        rotate_left
        · simp only [Act.put, List.setIfInBounds_toArray, List.set_cons_zero, List.set_cons_succ, i64_w, i32_w]
          rfl
        refine take_ (i := 10) (N := some 122) (v := ?_) (a' := ?_) #[true, true, true, true, true, true, true, false, true, true, true, true, true, true, false, false, false] rfl rfl (by kernel_rfl) (fun _ _ _ h => h) (Or.inl ⟨by rfl, ?_⟩) hHeld ?_ ?_
        rotate_left
        · rintro w' ⟨s0, s1, s2, s3, s4⟩
          go_simp
          with_reducible rfl
        rotate_left
        · simp only [Act.put, List.setIfInBounds_toArray, List.set_cons_zero, List.set_cons_succ, i64_w, i32_w]
          rfl
        refine take_ (i := 14) (N := some 126) (v := ?_) (a' := ?_) #[true, true, true, true, true, true, true, false, true, true, true, true, true, true, true, false, false] rfl rfl (by kernel_rfl) (fun _ _ _ h => h) (Or.inl ⟨by rfl, ?_⟩) hHeld ?_ ?_
        rotate_left
        · rintro w' ⟨s0, s1, s2, s3, s4⟩
          go_simp
          with_reducible rfl
        rotate_left
        · simp only [Act.put, List.setIfInBounds_toArray, List.set_cons_zero, List.set_cons_succ, i64_w, i32_w]
          rfl
        refine one_ (i := 7) (N := some 119) #[true, true, true, true, true, true, true, true, true, true, true, true, true, true, true, false, false] rfl rfl (by kernel_rfl) (by decide) (fun K hK => ?_)
        refine goes_ Try.func13 (by kernel_rfl) rfl #[.pointer (some ⟨p, 0, none⟩), .agg #[.int .i64 L0, .int .i64 L1, .int .i64 L2, .int .i64 W], .string c1, .int .i64 i, .int .i64 now] (by rfl) rfl rfl (by simp only [List.map_toArray, List.map_cons, List.map_nil]; rfl) ?_
        with_reducible refine (pair_ask1 hPd hNi L0 L1 L2 W c1 hc1 i now hi64 hn).mono ?_
        rintro e wk ⟨E, rfl, hH⟩
        refine ⟨_, rfl, ?_⟩
        refine hK.out _ _ ⟨Chg.cell_ (HalfA.chg hH) hgFi y2, Chg.cell_ (HalfA.chg hH) hgFi y3, Chg.cell_ (HalfA.chg hH) hgFi y4, Chg.cell_ (HalfA.chg hH) hgFi y5, Chg.cell_ (HalfA.chg hH) hgFi y8⟩ (fun hHeld => ?_)
        clear hK K
        refine norm_ (a' := ?_) ?_ ?_
        rotate_left
        · show Act.put _ (some 119) _ = _
          simp only [Act.put, List.setIfInBounds_toArray, List.set_cons_zero, List.set_cons_succ, i64_w, i32_w]
          rfl
        refine last_ (i := 15) (N := some 127) #[true, true, true, true, true, true, true, true, true, true, true, true, true, true, true, true, false] rfl rfl (by kernel_rfl) (by decide) (fun K hK => ?_)
        refine goes_ Try.func23 (by kernel_rfl) rfl #[.pointer (some ⟨r, 0, none⟩), .agg #[.int .i64 L0, .int .i64 L1, .int .i64 L2, .int .i64 W], .string c1, .int .i64 i, .int .i64 now] (by rfl) rfl rfl (by simp only [List.map_toArray, List.map_cons, List.map_nil]; rfl) ?_
        with_reducible refine (pair_ask2 hNi hi64 hn hH).mono ?_
        rintro e wz ⟨rfl, F', hP', hC', hF'⟩
        refine ⟨_, rfl, ?_⟩
        refine hK.out _ _ ?_
        clear hK K
        refine norm_ (a' := ?_) ?_ ?_
        rotate_left
        · show Act.put _ (some 127) _ = _
          simp only [Act.put, List.setIfInBounds_toArray, List.set_cons_zero, List.set_cons_succ, i64_w, i32_w]
          rfl
        refine pure_ (i := 16) (N := some 128) (v := ?_) (a' := ?_) #[true, true, true, true, true, true, true, true, true, true, true, true, true, true, true, true, true] rfl rfl (by kernel_rfl) (fun _ _ _ h => h) (Or.inl ⟨by rfl, ?_⟩) ?_ ?_
        rotate_left
        · intro w'
          go_simp
          with_reducible rfl
        rotate_left
        · simp only [Act.put, List.setIfInBounds_toArray, List.set_cons_zero, List.set_cons_succ, i64_w, i32_w]
          rfl
        refine done_ (by kernel_rfl) ?_
        go_wp2
        go_roundg gk
        case measure => exact Nat.lt_succ_self _
        case rel =>
          have hC2 : Chg F w1 wz := (hCi.trans (Chg.of_below hBd : Chg F wr w6.drew) (fun _ _ h => h)).trans hC' (fun j hj hf => by
            rcases hFi j hf with h | h
            · exact h
            · omega)
          refine ⟨i + 1, F', rfl, (Nat.add_right_comm i 1 gk).trans hHK.out, hP', hC2, fun x hx => ?_⟩
          rcases hF' x hx with h | h
          · exact hFi x h
          · exact .inr (Nat.le_trans (Nat.le_trans hCi.size hBd.size) h)
  have e5 : decide (kind = 5) = false := decide_eq_false k5
  have e5' : (kind == 5) = false := by simpa using k5
  go_wp2
  go_ret
  exact ⟨rfl, StepPost.of_below h B1⟩
end Go.Proofs.Ytgndgjjejgbmoaa.Bok
