/- The reader of bytes: a length. -/
import Derived.Test.YtjbhhgecdcgpeaaTb2
namespace Go.Proofs.Ytjbhhgecdcgpeaa.Tb
open Go Go.RowKit Go.Proofs.YtjbhhgecdcgpeaaW.PrintWords Go.Proofs.YtjbhhgecdcgpeaaW.PrintLast Go.Proofs.YtjbhhgecdcgpeaaW.PrintMore Go.Proofs.Ytjbhhgecdcgpeaa.TA
set_option linter.unusedSimpArgs false
set_option linter.unusedVariables false
def lenP (b : ByteArray) (at_ e : Int) : Outc :=
  if e ≤ at_ then .error (10, e) else if bt b at_ < 128 then .ok (bt b at_, at_ + 1) else if bt b at_ = 128 then .error (91, at_) else if 130 < bt b at_ then .error (91, at_) else
  if e < at_ + 1 + bt b at_ - 128 then .error (10, e) else
  if bt b at_ = 129 then (if bt b (at_ + 1) < 128 then .error (91, at_) else .ok (bt b (at_ + 1), at_ + 2))
  else (if bt b (at_ + 1) * 256 + bt b (at_ + 2) < 256 then .error (91, at_) else if 9999 < bt b (at_ + 1) * 256 + bt b (at_ + 2) then .error (91, at_) else .ok (bt b (at_ + 1) * 256 + bt b (at_ + 2), at_ + 3))
set_option maxRecDepth 100000 in
set_option maxHeartbeats 1000000 in
theorem length_calls (w : World) (r : Nat) (b : ByteArray) (at_ many e : Int) (hb : Reads w r b at_ many) (h0 : 0 ≤ at_) (he : e ≤ b.size) (hs : e ≤ 1000000) :
    Calls Try.prog 75 #[.pointer (some ⟨r, 0, none⟩), .int .i64 e] w fun z w' => Ends r b many (lenP b at_ e) w z w' := by
  obtain ⟨x0, x1, _⟩ := hb.cell
  by_cases g1 : e ≤ at_
  · have hp : lenP b at_ e = .error (10, e) := by unfold lenP; rw [if_pos g1]
    rw [hp]
    go_enter Try.func75, Try.ntmps75
    go_wp2_with (go_at_call 91; with_reducible refine (byte_short w r b at_ many e hb g1).mono ?_; rintro z w' ⟨rfl, rfl⟩)
    exact ⟨rfl, Chg.refl _ _, rfl⟩
  obtain ⟨n, hn⟩ : ∃ n, bt b at_ = n := ⟨_, rfl⟩
  have hnr := bt_range b at_
  have hby := byte_next w r b at_ many e hb h0 (by omega) he hs
  rw [hn] at hby hnr
  have n0 := hnr.1
  have n1 := hnr.2
  by_cases g2 : n < 128
  · have hp : lenP b at_ e = .ok (n, at_ + 1) := by unfold lenP; rw [if_neg g1, hn, if_pos g2]
    rw [hp]
    have d2 : decide (n < 128) = true := decide_eq_true g2
    go_enter Try.func75, Try.ntmps75
    go_wp2_with (go_at_call 91; with_reducible refine hby.mono ?_; rintro z w' ⟨rfl, hR, hC⟩; obtain ⟨y0, y1, _⟩ := hR.cell)
    go_ret
    exact ⟨hC, rfl, hR⟩
  have d2 : decide (n < 128) = false := decide_eq_false g2
  by_cases g3 : n = 128
  · have hp : lenP b at_ e = .error (91, at_) := by unfold lenP; rw [if_neg g1, hn, if_neg g2, if_pos g3]
    rw [hp]
    subst g3
    go_enter Try.func75, Try.ntmps75
    go_wp2_with (go_at_call 91; with_reducible refine hby.mono ?_; rintro z w' ⟨rfl, hR, hC⟩; obtain ⟨y0, y1, _⟩ := hR.cell)
    exact ⟨rfl, hC, rfl⟩
  have d3 : (n == 128) = false := beq_eq_false_iff_ne.mpr g3
  by_cases g4 : 130 < n
  · have hp : lenP b at_ e = .error (91, at_) := by unfold lenP; rw [if_neg g1, hn, if_neg g2, if_neg g3, if_pos g4]
    rw [hp]
    have d4 : decide (130 < n) = true := decide_eq_true g4
    go_enter Try.func75, Try.ntmps75
    go_wp2_with (go_at_call 91; with_reducible refine hby.mono ?_; rintro z w' ⟨rfl, hR, hC⟩; obtain ⟨y0, y1, _⟩ := hR.cell)
    exact ⟨rfl, hC, rfl⟩
  have d4 : decide (130 < n) = false := decide_eq_false g4
  by_cases g5 : e < at_ + 1 + n - 128
  · have hp : lenP b at_ e = .error (10, e) := by unfold lenP; rw [if_neg g1, hn, if_neg g2, if_neg g3, if_neg g4, if_pos g5]
    rw [hp]
    have d5 : decide (e < at_ + 1 + n - 128) = true := decide_eq_true g5
    go_enter Try.func75, Try.ntmps75
    go_wp2_with (go_at_call 91; with_reducible refine hby.mono ?_; rintro z w' ⟨rfl, hR, hC⟩; obtain ⟨y0, y1, _⟩ := hR.cell)
    exact ⟨rfl, hC, rfl⟩
  have d5 : decide (e < at_ + 1 + n - 128) = false := decide_eq_false g5
  obtain ⟨s, hsn⟩ : ∃ s, bt b (at_ + 1) = s := ⟨_, rfl⟩
  have hsr := bt_range b (at_ + 1)
  have hby2 := fun w' (hR : Reads w' r b (at_ + 1) many) => byte_next w' r b (at_ + 1) many e hR (by omega) (by omega) he hs
  rw [hsn] at hsr
  simp only [hsn, Int.add_assoc, Int.reduceAdd] at hby2
  have s0 := hsr.1
  have s1 := hsr.2
  by_cases g6 : n = 129
  · have d7 : decide (9999 < s) = false := decide_eq_false (by omega)
    by_cases g7 : s < 128
    · have hp : lenP b at_ e = .error (91, at_) := by unfold lenP; rw [if_neg g1, hn, if_neg g2, if_neg g3, if_neg g4, if_neg g5, if_pos g6, hsn, if_pos g7]
      rw [hp]
      subst g6
      have d8 : decide (s < 128) = true := decide_eq_true g7
      go_enter Try.func75, Try.ntmps75
      go_wp2_with (first
        | (go_at_call 91; with_reducible refine hby.mono ?_; rintro z w2 ⟨rfl, hR, hC⟩; obtain ⟨y0, y1, _⟩ := hR.cell)
        | (go_at_call 91; with_reducible refine (hby2 w2 hR).mono ?_; rintro z w3 ⟨rfl, hR3, hC3⟩; obtain ⟨v0, v1, _⟩ := hR3.cell))
      exact ⟨rfl, hC.trans hC3 (fun _ _ h => h), rfl⟩
    · have hp : lenP b at_ e = .ok (s, at_ + 2) := by unfold lenP; rw [if_neg g1, hn, if_neg g2, if_neg g3, if_neg g4, if_neg g5, if_pos g6, hsn, if_neg g7]
      rw [hp]
      subst g6
      have d8 : decide (s < 128) = false := decide_eq_false g7
      go_enter Try.func75, Try.ntmps75
      go_wp2_with (first
        | (go_at_call 91; with_reducible refine hby.mono ?_; rintro z w2 ⟨rfl, hR, hC⟩; obtain ⟨y0, y1, _⟩ := hR.cell)
        | (go_at_call 91; with_reducible refine (hby2 w2 hR).mono ?_; rintro z w3 ⟨rfl, hR3, hC3⟩; obtain ⟨v0, v1, _⟩ := hR3.cell))
      go_ret
      exact ⟨hC.trans hC3 (fun _ _ h => h), rfl, hR3⟩
  have g6' : n = 130 := by omega
  obtain ⟨t, htn⟩ : ∃ t, bt b (at_ + 2) = t := ⟨_, rfl⟩
  have htr := bt_range b (at_ + 2)
  have hby3 := fun w' (hR : Reads w' r b (at_ + 2) many) => byte_next w' r b (at_ + 2) many e hR (by omega) (by omega) he hs
  rw [htn] at htr
  simp only [htn, Int.add_assoc, Int.reduceAdd] at hby3
  have t0 := htr.1
  have t1 := htr.2
  have ho := or8 (x := s * 256) (y := t) (by omega) (by omega) (by omega) t0 (by omega)
  by_cases g7 : s * 256 + t < 256
  · have hp : lenP b at_ e = .error (91, at_) := by unfold lenP; rw [if_neg g1, hn, if_neg g2, if_neg g3, if_neg g4, if_neg g5, if_neg g6, hsn, htn, if_pos g7]
    rw [hp]
    subst g6'
    have d8 : decide (s * 256 + t < 256) = true := decide_eq_true g7
    go_enter Try.func75, Try.ntmps75
    go_wp2_with (first
      | (go_at_call 91; with_reducible refine hby.mono ?_; rintro z w2 ⟨rfl, hR, hC⟩; obtain ⟨y0, y1, _⟩ := hR.cell)
      | (go_at_call 91; with_reducible refine (hby2 w2 hR).mono ?_; rintro z w3 ⟨rfl, hR3, hC3⟩; obtain ⟨v0, v1, _⟩ := hR3.cell)
      | (go_at_call 91; with_reducible refine (hby3 w3 hR3).mono ?_; rintro z w4 ⟨rfl, hR4, hC4⟩; obtain ⟨u0, u1, _⟩ := hR4.cell))
    exact ⟨rfl, (hC.trans hC3 (fun _ _ h => h)).trans hC4 (fun _ _ h => h), rfl⟩
  have d8 : decide (s * 256 + t < 256) = false := decide_eq_false g7
  by_cases g8 : 9999 < s * 256 + t
  · have hp : lenP b at_ e = .error (91, at_) := by unfold lenP; rw [if_neg g1, hn, if_neg g2, if_neg g3, if_neg g4, if_neg g5, if_neg g6, hsn, htn, if_neg g7, if_pos g8]
    rw [hp]
    subst g6'
    have d9 : decide (9999 < s * 256 + t) = true := decide_eq_true g8
    go_enter Try.func75, Try.ntmps75
    go_wp2_with (first
      | (go_at_call 91; with_reducible refine hby.mono ?_; rintro z w2 ⟨rfl, hR, hC⟩; obtain ⟨y0, y1, _⟩ := hR.cell)
      | (go_at_call 91; with_reducible refine (hby2 w2 hR).mono ?_; rintro z w3 ⟨rfl, hR3, hC3⟩; obtain ⟨v0, v1, _⟩ := hR3.cell)
      | (go_at_call 91; with_reducible refine (hby3 w3 hR3).mono ?_; rintro z w4 ⟨rfl, hR4, hC4⟩; obtain ⟨u0, u1, _⟩ := hR4.cell))
    exact ⟨rfl, (hC.trans hC3 (fun _ _ h => h)).trans hC4 (fun _ _ h => h), rfl⟩
  have d9 : decide (9999 < s * 256 + t) = false := decide_eq_false g8
  have hp : lenP b at_ e = .ok (s * 256 + t, at_ + 3) := by unfold lenP; rw [if_neg g1, hn, if_neg g2, if_neg g3, if_neg g4, if_neg g5, if_neg g6, hsn, htn, if_neg g7, if_neg g8]
  rw [hp]
  subst g6'
  go_enter Try.func75, Try.ntmps75
  go_wp2_with (first
    | (go_at_call 91; with_reducible refine hby.mono ?_; rintro z w2 ⟨rfl, hR, hC⟩; obtain ⟨y0, y1, _⟩ := hR.cell)
    | (go_at_call 91; with_reducible refine (hby2 w2 hR).mono ?_; rintro z w3 ⟨rfl, hR3, hC3⟩; obtain ⟨v0, v1, _⟩ := hR3.cell)
    | (go_at_call 91; with_reducible refine (hby3 w3 hR3).mono ?_; rintro z w4 ⟨rfl, hR4, hC4⟩; obtain ⟨u0, u1, _⟩ := hR4.cell))
  go_ret
  exact ⟨(hC.trans hC3 (fun _ _ h => h)).trans hC4 (fun _ _ h => h), rfl, hR4⟩
end Go.Proofs.Ytjbhhgecdcgpeaa.Tb
