/- The reader of bytes: a tag. -/
import Derived.Test.YtjbhhgecdcgpeaaTb1
import Derived.Laws.BitsLemmas
namespace Go.Proofs.Ytjbhhgecdcgpeaa.Tb
open Go Go.RowKit Go.Proofs.YtjbhhgecdcgpeaaW.PrintWords Go.Proofs.YtjbhhgecdcgpeaaW.PrintLast Go.Proofs.YtjbhhgecdcgpeaaW.PrintMore Go.Proofs.Ytjbhhgecdcgpeaa.TA
set_option linter.unusedSimpArgs false
set_option linter.unusedVariables false
/-- What a reading comes to: a number and the place behind it, or why it is given up, and where. -/
abbrev Outc := Except (Int × Int) (Int × Int)
def byteP (b : ByteArray) (at_ e : Int) : Outc := if e ≤ at_ then .error (10, e) else .ok (bt b at_, at_ + 1)
def tagP (b : ByteArray) (at_ e : Int) : Outc :=
  if e ≤ at_ then .error (10, e) else if bt b at_ = 0 then .error (90, at_) else if bt b at_ % 32 ≠ 31 then .ok (bt b at_, at_ + 1) else
  if e ≤ at_ + 1 then .error (10, e) else if bt b (at_ + 1) = 128 then .error (90, at_ + 1) else if bt b (at_ + 1) < 128 then .ok (bt b at_ * 256 + bt b (at_ + 1), at_ + 2) else
  if e ≤ at_ + 2 then .error (10, e) else if 127 < bt b (at_ + 2) then .error (90, at_ + 2) else .ok ((bt b at_ * 256 + bt b (at_ + 1)) * 256 + bt b (at_ + 2), at_ + 3)
theorem wraps_i64 (n : Int) (h₀ : 0 ≤ n) (h₁ : n < 2 ^ 31) : IntKind.i64.wrap n = n := by rw [IntKind.wrap_i64]; omega
theorem or8 {x y : Int} (hx : 0 ≤ x) (hm : x % 256 = 0) (hl : x < 2147483648) (hy : 0 ≤ y) (h : y < 256) : bits .or .i64 x y = x + y :=
  bits_join .i64 31 (by decide) wraps_i64 8 x y hx hm hl hy h (by omega)
theorem gaveUp_at {c a a' : Int} (h : a = a') : gaveUp c a = gaveUp c a' := by rw [h]
/-- How a reading ends. -/
def Ends (r : Nat) (b : ByteArray) (many : Int) (o : Outc) (w : World) (z : Ending) (w' : World) : Prop := Chg (fun i => i = r) w w' ∧ match o with
  | .ok (x, a) => z = .returned (.int .i64 x) ∧ Reads w' r b a many
  | .error (c, p) => z = gaveUp c p
set_option maxRecDepth 100000 in
set_option maxHeartbeats 1000000 in
theorem tag_calls (w : World) (r : Nat) (b : ByteArray) (at_ many e : Int) (hb : Reads w r b at_ many) (h0 : 0 ≤ at_) (he : e ≤ b.size) (hs : e ≤ 1000000) :
    Calls Try.prog 74 #[.pointer (some ⟨r, 0, none⟩), .int .i64 e] w fun z w' => Ends r b many (tagP b at_ e) w z w' := by
  by_cases g1 : e ≤ at_
  · have hp : tagP b at_ e = .error (10, e) := by unfold tagP; rw [if_pos g1]
    rw [hp]
    go_enter Try.func74, Try.ntmps74
    go_wp2_with (go_at_call 91; with_reducible refine (byte_short w r b at_ many e hb g1).mono ?_; rintro z w' ⟨rfl, rfl⟩)
    exact ⟨rfl, Chg.refl _ _, rfl⟩
  obtain ⟨n, hn⟩ : ∃ n, bt b at_ = n := ⟨_, rfl⟩
  have hnr := bt_range b at_
  have hby := byte_next w r b at_ many e hb h0 (by omega) he hs
  rw [hn] at hby hnr
  have n0 := hnr.1
  have n1 := hnr.2
  by_cases g2 : n = 0
  · have hp : tagP b at_ e = .error (90, at_) := by unfold tagP; rw [if_neg g1, hn, if_pos g2]
    rw [hp]
    subst g2
    go_enter Try.func74, Try.ntmps74
    go_wp2_with (go_at_call 91; with_reducible refine hby.mono ?_; rintro z w' ⟨rfl, hR, hC⟩; obtain ⟨y0, y1, _⟩ := hR.cell)
    exact ⟨rfl, hC, rfl⟩
  have d2 : decide (n = 0) = false := decide_eq_false g2
  by_cases g3 : n % 32 ≠ 31
  · have hp : tagP b at_ e = .ok (n, at_ + 1) := by unfold tagP; rw [if_neg g1, hn, if_neg g2, if_pos g3]
    rw [hp]
    have d3 : decide (n % 32 = 31) = false := decide_eq_false g3
    go_enter Try.func74, Try.ntmps74
    go_wp2_with (go_at_call 91; with_reducible refine hby.mono ?_; rintro z w' ⟨rfl, hR, hC⟩; obtain ⟨y0, y1, _⟩ := hR.cell)
    go_ret
    exact ⟨hC, rfl, hR⟩
  have g3' : n % 32 = 31 := Classical.not_not.mp g3
  have d3 : decide (n % 32 = 31) = true := decide_eq_true g3'
  by_cases g4 : e ≤ at_ + 1
  · have hp : tagP b at_ e = .error (10, e) := by unfold tagP; rw [if_neg g1, hn, if_neg g2, if_neg g3, if_pos g4]
    rw [hp]
    have hsh := fun w' (hR : Reads w' r b (at_ + 1) many) => byte_short w' r b (at_ + 1) many e hR g4
    go_enter Try.func74, Try.ntmps74
    go_wp2_with (first
      | (go_at_call 91; with_reducible refine hby.mono ?_; rintro z w2 ⟨rfl, hR, hC⟩; obtain ⟨y0, y1, _⟩ := hR.cell)
      | (go_at_call 91; with_reducible refine (hsh w2 hR).mono ?_; rintro z w3 ⟨rfl, rfl⟩))
    exact ⟨rfl, hC, rfl⟩
  obtain ⟨s, hsn⟩ : ∃ s, bt b (at_ + 1) = s := ⟨_, rfl⟩
  have hsr := bt_range b (at_ + 1)
  have hby2 := fun w' (hR : Reads w' r b (at_ + 1) many) => byte_next w' r b (at_ + 1) many e hR (by omega) (by omega) he hs
  rw [hsn] at hsr
  simp only [hsn, Int.add_assoc, Int.reduceAdd] at hby2
  have s0 := hsr.1
  have s1 := hsr.2
  by_cases g5 : s = 128
  · have hp : tagP b at_ e = .error (90, at_ + 1) := by unfold tagP; rw [if_neg g1, hn, if_neg g2, if_neg g3, if_neg g4, hsn, if_pos g5]
    rw [hp]
    subst g5
    go_enter Try.func74, Try.ntmps74
    go_wp2_with (first
      | (go_at_call 91; with_reducible refine hby.mono ?_; rintro z w2 ⟨rfl, hR, hC⟩; obtain ⟨y0, y1, _⟩ := hR.cell)
      | (go_at_call 91; with_reducible refine (hby2 w2 hR).mono ?_; rintro z w3 ⟨rfl, hR3, hC3⟩; obtain ⟨v0, v1, _⟩ := hR3.cell))
    exact ⟨rfl, hC.trans hC3 (fun _ _ h => h), gaveUp_at (by omega)⟩
  have d5 : decide (s = 128) = false := decide_eq_false g5
  by_cases g6 : s < 128
  · have hp : tagP b at_ e = .ok (n * 256 + s, at_ + 2) := by unfold tagP; rw [if_neg g1, hn, if_neg g2, if_neg g3, if_neg g4, hsn, if_neg g5, if_pos g6]
    rw [hp]
    have d6 : decide (s < 128) = true := decide_eq_true g6
    go_enter Try.func74, Try.ntmps74
    go_wp2_with (first
      | (go_at_call 91; with_reducible refine hby.mono ?_; rintro z w2 ⟨rfl, hR, hC⟩; obtain ⟨y0, y1, _⟩ := hR.cell)
      | (go_at_call 91; with_reducible refine (hby2 w2 hR).mono ?_; rintro z w3 ⟨rfl, hR3, hC3⟩; obtain ⟨v0, v1, _⟩ := hR3.cell))
    have ho := or8 (x := n * 256) (y := s) (by omega) (by omega) (by omega) s0 (by omega)
    go_ret
    exact ⟨hC.trans hC3 (fun _ _ h => h), by rw [ho]; rfl, hR3⟩
  have d6 : decide (s < 128) = false := decide_eq_false g6
  have ho := or8 (x := n * 256) (y := s) (by omega) (by omega) (by omega) s0 (by omega)
  by_cases g7 : e ≤ at_ + 2
  · have hp : tagP b at_ e = .error (10, e) := by unfold tagP; rw [if_neg g1, hn, if_neg g2, if_neg g3, if_neg g4, hsn, if_neg g5, if_neg g6, if_pos g7]
    rw [hp]
    have hsh := fun w' (hR : Reads w' r b (at_ + 2) many) => byte_short w' r b (at_ + 2) many e hR g7
    go_enter Try.func74, Try.ntmps74
    go_wp2_with (first
      | (go_at_call 91; with_reducible refine hby.mono ?_; rintro z w2 ⟨rfl, hR, hC⟩; obtain ⟨y0, y1, _⟩ := hR.cell)
      | (go_at_call 91; with_reducible refine (hby2 w2 hR).mono ?_; rintro z w3 ⟨rfl, hR3, hC3⟩; obtain ⟨v0, v1, _⟩ := hR3.cell)
      | (go_at_call 91; with_reducible refine (hsh w3 hR3).mono ?_; rintro z w4 ⟨rfl, rfl⟩))
    exact ⟨rfl, hC.trans hC3 (fun _ _ h => h), rfl⟩
  obtain ⟨t, htn⟩ : ∃ t, bt b (at_ + 2) = t := ⟨_, rfl⟩
  have htr := bt_range b (at_ + 2)
  have hby3 := fun w' (hR : Reads w' r b (at_ + 2) many) => byte_next w' r b (at_ + 2) many e hR (by omega) (by omega) he hs
  rw [htn] at htr
  simp only [htn, Int.add_assoc, Int.reduceAdd] at hby3
  have t0 := htr.1
  have t1 := htr.2
  by_cases g8 : 127 < t
  · have hp : tagP b at_ e = .error (90, at_ + 2) := by unfold tagP; rw [if_neg g1, hn, if_neg g2, if_neg g3, if_neg g4, hsn, if_neg g5, if_neg g6, if_neg g7, htn, if_pos g8]
    rw [hp]
    have d8 : decide (127 < t) = true := decide_eq_true g8
    go_enter Try.func74, Try.ntmps74
    go_wp2_with (first
      | (go_at_call 91; with_reducible refine hby.mono ?_; rintro z w2 ⟨rfl, hR, hC⟩; obtain ⟨y0, y1, _⟩ := hR.cell)
      | (go_at_call 91; with_reducible refine (hby2 w2 hR).mono ?_; rintro z w3 ⟨rfl, hR3, hC3⟩; obtain ⟨v0, v1, _⟩ := hR3.cell)
      | (go_at_call 91; with_reducible refine (hby3 w3 hR3).mono ?_; rintro z w4 ⟨rfl, hR4, hC4⟩; obtain ⟨u0, u1, _⟩ := hR4.cell))
    exact ⟨rfl, (hC.trans hC3 (fun _ _ h => h)).trans hC4 (fun _ _ h => h), gaveUp_at (by omega)⟩
  have d8 : decide (127 < t) = false := decide_eq_false g8
  have hp : tagP b at_ e = .ok ((n * 256 + s) * 256 + t, at_ + 3) := by unfold tagP; rw [if_neg g1, hn, if_neg g2, if_neg g3, if_neg g4, hsn, if_neg g5, if_neg g6, if_neg g7, htn, if_neg g8]
  rw [hp]
  have ho2 := or8 (x := (n * 256 + s) * 256) (y := t) (by omega) (by omega) (by omega) t0 (by omega)
  go_enter Try.func74, Try.ntmps74
  go_wp2_with (first
      | (go_at_call 91; with_reducible refine hby.mono ?_; rintro z w2 ⟨rfl, hR, hC⟩; obtain ⟨y0, y1, _⟩ := hR.cell)
      | (go_at_call 91; with_reducible refine (hby2 w2 hR).mono ?_; rintro z w3 ⟨rfl, hR3, hC3⟩; obtain ⟨v0, v1, _⟩ := hR3.cell)
      | (go_at_call 91; with_reducible refine (hby3 w3 hR3).mono ?_; rintro z w4 ⟨rfl, hR4, hC4⟩; obtain ⟨u0, u1, _⟩ := hR4.cell))
  go_ret
  exact ⟨(hC.trans hC3 (fun _ _ h => h)).trans hC4 (fun _ _ h => h), rfl, hR4⟩
end Go.Proofs.Ytjbhhgecdcgpeaa.Tb
