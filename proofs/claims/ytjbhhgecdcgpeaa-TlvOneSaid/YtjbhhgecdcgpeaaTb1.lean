/- The reader of bytes: what a step leaves, what is given up. -/
import Derived.Test.YtjbhhgecdcgpeaaTAx1
import Derived.Maps.AppendAt
import Derived.Carry
import Derived.Deep.RegionWith
import Derived.IntWalk
import Derived.WalkSmall
namespace Go.Proofs.Ytjbhhgecdcgpeaa.Tb
open Go Go.RowKit Go.Proofs.YtjbhhgecdcgpeaaW.PrintWords Go.Proofs.YtjbhhgecdcgpeaaW.PrintLast Go.Proofs.YtjbhhgecdcgpeaaW.PrintMore Go.Proofs.Ytjbhhgecdcgpeaa.TA
set_option linter.unusedSimpArgs false
set_option linter.unusedVariables false
/-- What may be other in w' than in w: the blocks of F, and new ones. -/
structure Chg (F : Nat → Prop) (w w' : World) : Prop where
  os : w'.os = w.os
  tape : w'.tape = w.tape
  output : w'.output = w.output
  size : w.heap.size ≤ w'.heap.size
  block : ∀ i, i < w.heap.size → ¬ F i → w'.heap[i]? = w.heap[i]?
theorem Chg.refl (F : Nat → Prop) (w : World) : Chg F w w := ⟨rfl, rfl, rfl, Nat.le_refl _, fun _ _ _ => rfl⟩
theorem Chg.trans {F G : Nat → Prop} {a b c : World} (h : Chg F a b) (k : Chg G b c) (hG : ∀ i, i < a.heap.size → G i → F i) : Chg F a c :=
  ⟨k.os.trans h.os, k.tape.trans h.tape, k.output.trans h.output, Nat.le_trans h.size k.size, fun i hi hne => (k.block i (Nat.lt_of_lt_of_le hi h.size) (fun hg => hne (hG i hi hg))).trans (h.block i hi hne)⟩
theorem Chg.of_below {F : Nat → Prop} {w w' : World} (h : Below w.heap.size w w') : Chg F w w' := ⟨h.os, h.tape, h.output, h.size, fun i hi _ => h.block i hi⟩
theorem Chg.of_grown {F : Nat → Prop} {w w' : World} {row : Option Nat} (h : w.grownBy w' row) (hr : ∀ k, row = some k → F k) : Chg F w w' := ⟨h.os, h.tape, h.output, h.size, fun i hi hne => h.block i hi (fun e => hne (hr i e.symm))⟩
theorem Chg.below {F : Nat → Prop} {b : Nat} {w0 w w' : World} (h : Chg F w w') (k : Below b w0 w) (hF : ∀ i, F i → b ≤ i) (hb : b ≤ w.heap.size) : Below b w0 w' :=
  k.trans ⟨h.os, h.tape, h.output, h.size, fun i hi => h.block i (by omega) (fun hf => by have := hF i hf; omega)⟩
theorem Chg.grown {F : Nat → Prop} {w w' : World} (h : Chg F w w') (hF : ∀ i, ¬ F i) (row : Option Nat) : w.grownBy w' row := ⟨h.os, h.tape, h.output, h.size, fun i hi _ => h.block i hi (hF i)⟩
theorem setCell_block (w : World) (a : Addr) (u : Value) (i : Nat) (h : i ≠ a.block) : (w.setCell a u).heap[i]? = w.heap[i]? := by
  unfold World.setCell
  simp only [Array.getElem?_modify]
  rw [if_neg (fun e => h e.symm)]
theorem Chg.set {w w' : World} {F : Nat → Prop} (h : Chg F w w') (a : Addr) (u : Value) (ha : F a.block) : Chg F w (w'.setCell a u) :=
  ⟨h.os, h.tape, h.output, by unfold World.setCell; simpa using h.size, fun i hi hf => (setCell_block _ _ _ _ (fun e => hf (by rw [e]; exact ha))).trans (h.block i hi hf)⟩
/-- A call that is given up: why, and where. -/
abbrev gaveUp (code at_ : Int) : Ending := .panicked [{ v := .iface 123 (.agg #[.int .i64 code, .int .i64 at_]), recovered := false }]
/-- Block r is a reader. -/
def Reads (w : World) (r : Nat) (b : ByteArray) (at_ many : Int) : Prop := w.heap[r]? = some (.cells #[.string b, .int .i64 at_, .int .i64 many] 72 (0, 0))
theorem Reads.cell {w : World} {r : Nat} {b : ByteArray} {at_ many : Int} (h : Reads w r b at_ many) : w.cell? ⟨r, 0, none⟩ = some (.string b) ∧ w.cell? ⟨r, 1, none⟩ = some (.int .i64 at_) ∧ w.cell? ⟨r, 2, none⟩ = some (.int .i64 many) := by
  unfold Reads at h
  simp [World.cell?, h]
theorem Reads.frozen {w : World} {r : Nat} {b : ByteArray} {at_ many : Int} (h : Reads w r b at_ many) (i : Nat) : w.frozen? ⟨r, i, none⟩ = false := by
  unfold Reads at h
  simp [World.frozen?, h]
theorem Reads.set1 {w : World} {r : Nat} {b : ByteArray} {at_ many : Int} (h : Reads w r b at_ many) (x : Int) : Reads (w.setCell ⟨r, 1, none⟩ (.int .i64 x)) r b x many := (blk_set h 1 _).trans rfl
theorem Reads.set2 {w : World} {r : Nat} {b : ByteArray} {at_ many : Int} (h : Reads w r b at_ many) (x : Int) : Reads (w.setCell ⟨r, 2, none⟩ (.int .i64 x)) r b at_ x := (blk_set h 2 _).trans rfl
theorem Reads.kept {w w' : World} {r : Nat} {b : ByteArray} {at_ many : Int} (h : Reads w r b at_ many) {F : Nat → Prop} (hc : Chg F w w') (hr : ¬ F r) : Reads w' r b at_ many := (hc.block r (Array.getElem?_eq_some_iff.mp h).1 hr).trans h
set_option maxRecDepth 100000 in
theorem byte_short (w : World) (r : Nat) (b : ByteArray) (at_ many e : Int) (hb : Reads w r b at_ many) (h : e ≤ at_) :
    Calls Try.prog 91 #[.pointer (some ⟨r, 0, none⟩), .int .i64 e] w fun z w' => z = gaveUp 10 e ∧ w' = w := by
  obtain ⟨x0, x1, x2⟩ := hb.cell
  have d1 : decide (e ≤ at_) = true := decide_eq_true h
  go_enter Try.func91, Try.ntmps91
  go_wp2
  exact ⟨rfl, rfl, rfl⟩
set_option maxRecDepth 100000 in
theorem byte_next (w : World) (r : Nat) (b : ByteArray) (at_ many e : Int) (hb : Reads w r b at_ many) (h0 : 0 ≤ at_) (h : at_ < e) (he : e ≤ b.size) (hs : e ≤ 1000000) :
    Calls Try.prog 91 #[.pointer (some ⟨r, 0, none⟩), .int .i64 e] w fun z w' => z = .returned (.int .i64 (bt b at_)) ∧ Reads w' r b (at_ + 1) many ∧ Chg (fun i => i = r) w w' := by
  obtain ⟨x0, x1, x2⟩ := hb.cell
  have f1 := hb.frozen 1
  have d1 : decide (e ≤ at_) = false := decide_eq_false (by omega)
  go_enter Try.func91, Try.ntmps91
  go_upto_region 4 with (fail)
  obtain ⟨w1, hw1⟩ : ∃ w1, w1 = w.setCell ⟨r, 1, none⟩ (.int .i64 (at_ + 1)) := ⟨_, rfl⟩
  rw [← hw1]
  have hR : Reads w1 r b (at_ + 1) many := by rw [hw1]; exact hb.set1 _
  have hC : Chg (fun i => i = r) w w1 := by rw [hw1]; exact (Chg.refl _ _).set _ _ rfl
  clear hw1 x0 x1 x2 f1
  obtain ⟨y0, y1, _⟩ := hR.cell
  have ew : wrap64 at_ = at_ := by unfold wrap64; omega
  have c1 : (0 ≤ at_) = True := eq_true h0
  have c2 : (at_ < (b.size : Int)) = True := eq_true (by omega)
  have c3 : at_.toNat < b.size := by omega
  have hbt := bt_at b at_ c3
  refine start_ (n := 12) (S := fun w' => w'.cell? ⟨r, 0, none⟩ = some (.string b) ∧ w'.cell? ⟨r, 1, none⟩ = some (.int .i64 (at_ + 1))) (ds := []) #[false, false, false, false, false, false, false, false, false, false, false, false] (by kernel_rfl) rfl rfl ⟨y0, y1⟩ (fun hHeld => ?_)
  refine pure_ (i := 0) (N := some 21) (v := ?_) (a' := ?_) #[true, false, false, false, false, false, false, false, false, false, false, false] rfl rfl (by kernel_rfl) (fun _ _ _ h => h) (Or.inl ⟨by rfl, ?_⟩) ?_ ?_
  rotate_left
  · intro w'
    go_simp
    with_reducible rfl
  rotate_left
  · simp only [Act.put, List.setIfInBounds_toArray, List.set_cons_zero, List.set_cons_succ, i64_w, i32_w]
    rfl
  refine pure_ (i := 1) (N := some 22) (v := ?_) (a' := ?_) #[true, true, false, false, false, false, false, false, false, false, false, false] rfl rfl (by kernel_rfl) (fun _ _ _ h => h) (Or.inl ⟨by rfl, ?_⟩) ?_ ?_
  rotate_left
  · intro w'
    go_simp
    with_reducible rfl
  rotate_left
  · simp only [Act.put, List.setIfInBounds_toArray, List.set_cons_zero, List.set_cons_succ, i64_w, i32_w]
    rfl
  refine pure_ (i := 2) (N := some 23) (v := ?_) (a' := ?_) #[true, true, true, false, false, false, false, false, false, false, false, false] rfl rfl (by kernel_rfl) (fun _ _ _ h => h) (Or.inl ⟨by rfl, ?_⟩) ?_ ?_
  rotate_left
  · intro w'
    go_simp
    with_reducible rfl
  rotate_left
  · simp only [Act.put, List.setIfInBounds_toArray, List.set_cons_zero, List.set_cons_succ, i64_w, i32_w]
    rfl
  refine pure_ (i := 4) (N := some 25) (v := ?_) (a' := ?_) #[true, true, true, false, true, false, false, false, false, false, false, false] rfl rfl (by kernel_rfl) (fun _ _ _ h => h) (Or.inl ⟨by rfl, ?_⟩) ?_ ?_
  rotate_left
  · intro w'
    go_simp
    with_reducible rfl
  rotate_left
  · simp only [Act.put, List.setIfInBounds_toArray, List.set_cons_zero, List.set_cons_succ, i64_w, i32_w]
    rfl
  refine pure_ (i := 5) (N := some 26) (v := ?_) (a' := ?_) #[true, true, true, false, true, true, false, false, false, false, false, false] rfl rfl (by kernel_rfl) (fun _ _ _ h => h) (Or.inl ⟨by rfl, ?_⟩) ?_ ?_
  rotate_left
  · intro w'
    go_simp
    with_reducible rfl
  rotate_left
  · simp only [Act.put, List.setIfInBounds_toArray, List.set_cons_zero, List.set_cons_succ, i64_w, i32_w]
    rfl
  refine pure_ (i := 6) (N := some 27) (v := ?_) (a' := ?_) #[true, true, true, false, true, true, true, false, false, false, false, false] rfl rfl (by kernel_rfl) (fun _ _ _ h => h) (Or.inl ⟨by rfl, ?_⟩) ?_ ?_
  rotate_left
  · intro w'
    go_simp
    with_reducible rfl
  rotate_left
  · simp only [Act.put, List.setIfInBounds_toArray, List.set_cons_zero, List.set_cons_succ, i64_w, i32_w]
    rfl
  refine take_ (i := 3) (N := some 24) (v := ?_) (a' := ?_) #[true, true, true, true, true, true, true, false, false, false, false, false] rfl rfl (by kernel_rfl) (fun _ _ _ h => h) (Or.inl ⟨by rfl, ?_⟩) hHeld ?_ ?_
  rotate_left
  · rintro w' ⟨s0, s1⟩
    go_simp
    with_reducible rfl
  rotate_left
  · simp only [Act.put, List.setIfInBounds_toArray, List.set_cons_zero, List.set_cons_succ, i64_w, i32_w]
    rfl
  refine take_ (i := 7) (N := some 28) (v := ?_) (a' := ?_) #[true, true, true, true, true, true, true, true, false, false, false, false] rfl rfl (by kernel_rfl) (fun _ _ _ h => h) (Or.inl ⟨by rfl, ?_⟩) hHeld ?_ ?_
  rotate_left
  · rintro w' ⟨s0, s1⟩
    go_simp
    with_reducible rfl
  rotate_left
  · simp only [Act.put, List.setIfInBounds_toArray, List.set_cons_zero, List.set_cons_succ, i64_w, i32_w]
    rfl
  refine pure_ (i := 8) (N := some 29) (v := ?_) (a' := ?_) #[true, true, true, true, true, true, true, true, true, false, false, false] rfl rfl (by kernel_rfl) (fun _ _ _ h => h) (Or.inl ⟨by rfl, ?_⟩) ?_ ?_
  rotate_left
  · intro w'
    go_simp
    with_reducible rfl
  rotate_left
  · simp only [Act.put, List.setIfInBounds_toArray, List.set_cons_zero, List.set_cons_succ, i64_w, i32_w]
    rfl
  refine take_ (i := 9) (N := some 30) (v := ?_) (a' := ?_) #[true, true, true, true, true, true, true, true, true, true, false, false] rfl rfl (by kernel_rfl) (fun _ _ _ h => h) (Or.inl ⟨by rfl, ?_⟩) hHeld ?_ ?_
  rotate_left
  · rintro w' ⟨s0, s1⟩
    go_simp
    with_reducible rfl
  rotate_left
  · simp only [Act.put, List.setIfInBounds_toArray, List.set_cons_zero, List.set_cons_succ, i64_w, i32_w]
    rfl
  refine pure_ (i := 10) (N := some 31) (v := ?_) (a' := ?_) #[true, true, true, true, true, true, true, true, true, true, true, false] rfl rfl (by kernel_rfl) (fun _ _ _ h => h) (Or.inl ⟨by rfl, ?_⟩) ?_ ?_
  rotate_left
  · intro w'
    go_simp
    with_reducible rfl
  rotate_left
  · simp only [Act.put, List.setIfInBounds_toArray, List.set_cons_zero, List.set_cons_succ, i64_w, i32_w]
    rfl
  refine pure_ (i := 11) (N := some 4) (v := ?_) (a' := ?_) #[true, true, true, true, true, true, true, true, true, true, true, true] rfl rfl (by kernel_rfl) (fun _ _ _ h => h) (Or.inl ⟨by rfl, ?_⟩) ?_ ?_
  rotate_left
  · intro w'
    go_simp
    with_reducible rfl
  rotate_left
  · simp only [Act.put, List.setIfInBounds_toArray, List.set_cons_zero, List.set_cons_succ, i64_w, i32_w]
    rfl
  refine done_ (by kernel_rfl) ?_

  clear ew
  go_wp2
  go_ret
  have hr := bt_range b at_
  have ew : wrap64 (bt b at_) = bt b at_ := by unfold wrap64; omega
  exact ⟨by first | rfl | (rw [ew]; rfl), hR, ⟨hC.os, hC.tape, hC.output, hC.size, hC.block⟩⟩
end Go.Proofs.Ytjbhhgecdcgpeaa.Tb
