/- Contract: Used. -/
import Derived.Test.YtgndgjjejgbmoaaBk3
namespace Go.Proofs.Ytgndgjjejgbmoaa.Bok
open Go Go.RowKit Go.Maps Go.Proofs.YtgndgjjejgbmoaaW.PrintWords Go.Proofs.YtgndgjjejgbmoaaW.PrintLast Go.Proofs.YtgndgjjejgbmoaaW.PrintMore PStandinHolds
def amt (x : Int) : Bool := decide (0 ≤ x) && decide (x ≤ 999999999999)
def rightP (L0 L1 L2 W : Int) : Bool := amt L0 && (amt L1 && (amt L2 && (decide (1 ≤ W) && decide (W ≤ 100000))))
theorem amount_f (x : Int) : standin_amount.f x = some (amt x) := by
  unfold standin_amount.f amt
  by_cases h : x ≥ 0
  · rw [if_pos h]; simp [h]
  · rw [if_neg h]; simp [h]
theorem right_f (L0 L1 L2 W : Int) : standin_right.f L0 L1 L2 W = some (rightP L0 L1 L2 W) := by
  unfold standin_right.f rightP
  simp only [amount_f, Option.bind_some]
  cases amt L0 <;> cases amt L1 <;> cases amt L2 <;> simp
  by_cases h : 1 ≤ W <;> simp [h]
theorem added_l0 (xs : List Int) (hx : ∀ x ∈ xs, 0 ≤ x ∧ x ≤ 999999999999) (hl : xs.length ≤ 1000000) : ∀ n i, n + i = xs.length → Ev (fun k => standin_added_int.l0 k ((xs.take i).sum) xs (xs.length : Int) i) xs.sum := by
  have hb : ∀ i, i ≤ xs.length → 0 ≤ (xs.take i).sum ∧ (xs.take i).sum ≤ 999999999999 * i := by
    intro i
    induction i with
    | zero => intro _; simp
    | succ i ih =>
      intro hi
      have h1 := ih (by omega)
      have h2 := hx xs[i] (List.getElem_mem (by omega))
      rw [← List.take_append_getElem (show i < xs.length by omega), List.sum_append]
      simp only [List.sum_cons, List.sum_nil]
      omega
  intro n
  induction n with
  | zero =>
    intro i hi
    obtain rfl : i = xs.length := by omega
    refine Ev.step (f := fun _ => some xs.sum) (fun k => ?_) (Ev.now _)
    simp only [standin_added_int.l0]
    rw [if_neg (by omega), List.take_length]
  | succ n ih =>
    intro i hi
    have h1 := hb i (by omega)
    have h2 := hx xs[i] (List.getElem_mem (by omega))
    refine Ev.step (fun k => ?_) (ih (i + 1) (by omega))
    simp only [standin_added_int.l0]
    rw [if_pos (by omega), if_pos (by omega), if_pos (by omega)]
    have e1 : rd xs (i : Int) = xs[i] := by unfold rd; rw [Int.toNat_natCast, List.getD_eq_getElem?_getD, List.getElem?_eq_getElem (show i < xs.length by omega)]; rfl
    have e2 : wrap64 ((xs.take i).sum + xs[i]) = (xs.take (i + 1)).sum := by
      rw [← List.take_append_getElem (show i < xs.length by omega), List.sum_append]
      simp only [List.sum_cons, List.sum_nil]
      unfold wrap64
      omega
    have e3 : wrap64 ((i : Int) + 1) = ((i + 1 : Nat) : Int) := by unfold wrap64; omega
    rw [e1, e2, e3]
theorem added_ev (xs : List Int) (hx : ∀ x ∈ xs, 0 ≤ x ∧ x ≤ 999999999999) (hl : xs.length ≤ 1000000) : Ev (fun k => standin_added_int.f k xs) xs.sum := added_l0 xs hx hl xs.length 0 (by omega)
/-- What Used answers. -/
def usedR (L0 L1 L2 W now : Int) (l : List Ap) : Int × Int := if rightP L0 L1 L2 W = true ∧ 0 ≤ now then (((cnt W now l).length : Int), (cnt W now l).sum) else (0, 0)
/-- Approvals as they may stand: ticks and amounts in their bounds, not too many. -/
structure Fine (l : List Ap) : Prop where
  len : l.length ≤ 1000000
  ok : ∀ a ∈ l, (0 ≤ a.at_ ∧ a.at_ ≤ 9223372036854775807) ∧ (0 ≤ a.units ∧ a.units ≤ 999999999999)
theorem cnt_fine {l : List Ap} (h : Fine l) (W now : Int) : (cnt W now l).length ≤ 1000000 ∧ ∀ x ∈ cnt W now l, 0 ≤ x ∧ x ≤ 999999999999 := by
  unfold cnt
  refine ⟨by rw [List.length_map]; exact Nat.le_trans (List.length_filter_le _ _) h.len, fun x hx => ?_⟩
  rw [List.mem_map] at hx
  obtain ⟨a, ha, rfl⟩ := hx
  exact (h.ok a (List.mem_filter.mp ha).1).2
set_option maxRecDepth 100000 in
set_option maxHeartbeats 400000 in
theorem used_calls {F : Nat → Prop} {p m : Nat} {cards place last : Int} {S : St} (w : World) (h : Book w F p m cards place last S) (L0 L1 L2 W : Int) (c : ByteArray) (hc : c.size ≤ maxLen) (now : Int) (h1 : now ≤ 9223372036854775807) (l : List Ap) (hl : S.get c = l) (hf : Fine l) :
    Calls Try.prog 12 #[.pointer (some ⟨p, 0, none⟩), .agg #[.int .i64 L0, .int .i64 L1, .int .i64 L2, .int .i64 W], .string c, .int .i64 now] w fun e w' => e = .returned (.tuple #[.int .i64 (usedR L0 L1 L2 W now l).1, .int .i64 (usedR L0 L1 L2 W now l).2]) ∧ Below w.heap.size w w' := by
  have hr := right_f L0 L1 L2 W
  obtain ⟨b, hb⟩ : ∃ b, rightP L0 L1 L2 W = b := ⟨_, rfl⟩
  rw [hb] at hr
  obtain ⟨hcl, hcu⟩ := cnt_fine hf W now
  obtain ⟨k, hk⟩ := (added_ev _ hcu hcl).rounds
  have hat : ∀ a ∈ l, 0 ≤ a.at_ ∧ a.at_ ≤ 9223372036854775807 := fun a ha => (hf.ok a ha).1
  have hln := hf.len
  go_enter Try.func12, Try.ntmps12
  go_upto_region 1 with (fail)
  obtain ⟨w1, hw1⟩ : ∃ w1, w1 = w.alloc (.cells #[.int .i64 L0, .int .i64 L1, .int .i64 L2, .int .i64 W] 23) := ⟨_, rfl⟩
  rw [← hw1]
  have B1 : Below w.heap.size w w1 := by rw [hw1]; exact below_alloc (Below.refl _ _) _
  have hbk : Book w1 F p m cards place last S := h.kept (Chg.of_below B1 : Chg (fun _ => False) w w1) (fun _ _ hf => hf)
  have hbox : w1.heap[w.heap.size]? = some (.cells #[.int .i64 L0, .int .i64 L1, .int .i64 L2, .int .i64 W] 23 (0, 0)) := by rw [hw1]; exact heap_alloc_new _ _
  have hgl : w.heap.size < w1.heap.size := by rw [hw1]; exact Nat.lt_of_lt_of_eq (Nat.lt_succ_self _) (Array.size_push _).symm
  clear hw1
  have x0 : w1.cell? ⟨w.heap.size, 0, none⟩ = some (.int .i64 L0) := by simp [World.cell?, hbox]
  have x1 : w1.cell? ⟨w.heap.size, 1, none⟩ = some (.int .i64 L1) := by simp [World.cell?, hbox]
  have x2 : w1.cell? ⟨w.heap.size, 2, none⟩ = some (.int .i64 L2) := by simp [World.cell?, hbox]
  have x3 : w1.cell? ⟨w.heap.size, 3, none⟩ = some (.int .i64 W) := by simp [World.cell?, hbox]
  have enter18 : ∀ w2, Below w1.heap.size w1 w2 → w2.cell? ⟨w.heap.size, 0, none⟩ = some (.int .i64 L0) ∧ w2.cell? ⟨w.heap.size, 1, none⟩ = some (.int .i64 L1) ∧ w2.cell? ⟨w.heap.size, 2, none⟩ = some (.int .i64 L2) ∧ w2.cell? ⟨w.heap.size, 3, none⟩ = some (.int .i64 W) := fun w2 hb2 =>
    ⟨pw_cell_below hb2 x0, pw_cell_below hb2 x1, pw_cell_below hb2 x2, pw_cell_below hb2 x3⟩
  clear hbox
  cases b with
  | false =>
    go_wp2_with (first | (go_at_call 18; with_reducible refine (standin_right.calls L0 L1 L2 W false _ hr).mono ?_; rintro e w2 ⟨rfl, hb2⟩))
    go_ret2
    refine ⟨?_, below_step B1 hb2⟩
    unfold usedR
    rw [hb]
    rfl
  | true =>
    by_cases h0 : 0 ≤ now
    · have d0 : decide (now < 0) = false := decide_eq_false (by omega)
      have hU : usedR L0 L1 L2 W now l = (((cnt W now l).length : Int), (cnt W now l).sum) := by unfold usedR; rw [hb]; simp [h0]
      go_wp2_with (first
        | (go_at_call 18; with_reducible refine (standin_right.calls L0 L1 L2 W true _ hr).mono ?_; rintro e w2 ⟨rfl, hb2⟩; obtain ⟨y0, y1, y2, y3⟩ := enter18 w2 hb2)
        | (go_at_call 19; with_reducible refine (counting_calls _ (hbk.kept (Chg.of_below hb2 : Chg (fun _ => False) w1 w2) (fun _ _ hf => hf)) L0 L1 L2 W c hc now h0 h1 l hl hln hat).mono ?_; rintro e w3 ⟨v, rfl, HR, hb3⟩; obtain ⟨A, cp, rfl, hcp, HC⟩ := Kd.R_reads HR)
        | (go_at_call 20; with_reducible refine (standin_added_int.calls k A cp _ _ _ HC hcp hk).mono ?_; rintro e w' ⟨rfl, nd, rfl⟩))
      go_ret2
      exact ⟨by rw [hU]; rfl, pw_below_drewN (below_step (below_step B1 hb2) hb3) _⟩
    · have d0 : decide (now < 0) = true := decide_eq_true (by omega)
      have hU : usedR L0 L1 L2 W now l = (0, 0) := by unfold usedR; rw [hb]; simp [h0]
      go_wp2_with (first | (go_at_call 18; with_reducible refine (standin_right.calls L0 L1 L2 W true _ hr).mono ?_; rintro e w2 ⟨rfl, hb2⟩; obtain ⟨y0, y1, y2, y3⟩ := enter18 w2 hb2))
      go_ret2
      exact ⟨by rw [hU]; rfl, below_step B1 hb2⟩
end Go.Proofs.Ytgndgjjejgbmoaa.Bok
