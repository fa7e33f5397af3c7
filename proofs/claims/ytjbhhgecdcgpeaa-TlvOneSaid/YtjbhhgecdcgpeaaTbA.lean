/- The reader of bytes: a digit. -/
import Derived.Test.YtjbhhgecdcgpeaaTb4
namespace Go.Proofs.Ytjbhhgecdcgpeaa.Tb
open Go Go.RowKit Go.Proofs.YtjbhhgecdcgpeaaW.PrintWords Go.Proofs.YtjbhhgecdcgpeaaW.PrintLast Go.Proofs.YtjbhhgecdcgpeaaW.PrintMore Go.Proofs.Ytjbhhgecdcgpeaa.TA
set_option linter.unusedSimpArgs false
set_option linter.unusedVariables false
def digitP (b : ByteArray) (at_ code : Int) : Outc := if (b.size : Int) ≤ at_ then .error (10, b.size) else if bt b at_ < 48 then .error (code, at_) else if 57 < bt b at_ then .error (code, at_) else .ok (bt b at_ - 48, at_ + 1)
theorem digitP_ok {b : ByteArray} {at_ code d a : Int} (h : digitP b at_ code = .ok (d, a)) : at_ < b.size ∧ a = at_ + 1 ∧ 0 ≤ d ∧ d ≤ 9 := by
  unfold digitP at h
  repeat' split at h
  all_goals first | (cases h; done) | (injection h with h; injection h with h1 h2; omega)
set_option maxRecDepth 100000 in
set_option maxHeartbeats 1000000 in
theorem digit_calls (w : World) (r : Nat) (b : ByteArray) (at_ many code : Int) (hb : Reads w r b at_ many) (h0 : 0 ≤ at_) (hs : b.size ≤ 1000000) :
    Calls Try.prog 76 #[.pointer (some ⟨r, 0, none⟩), .int .i64 code] w fun z w' => Ends r b many (digitP b at_ code) w z w' := by
  obtain ⟨x0, x1, _⟩ := hb.cell
  by_cases g1 : (b.size : Int) ≤ at_
  · have hp : digitP b at_ code = .error (10, b.size) := by unfold digitP; rw [if_pos g1]
    rw [hp]
    have hby := byte_short w r b at_ many b.size hb g1
    clear hp
    go_enter Try.func76, Try.ntmps76
    go_wp2_with (go_at_call 91; (with_reducible refine hby.mono ?_); rintro z w' ⟨rfl, rfl⟩)
    exact ⟨rfl, Chg.refl _ _, rfl⟩
  obtain ⟨n, hn⟩ : ∃ n, bt b at_ = n := ⟨_, rfl⟩
  have hnr := bt_range b at_
  have hby := byte_next w r b at_ many b.size hb h0 (by omega) (by omega) (by omega)
  rw [hn] at hby hnr
  have n0 := hnr.1
  have n1 := hnr.2
  by_cases g2 : n < 48
  · have hp : digitP b at_ code = .error (code, at_) := by unfold digitP; rw [if_neg g1, hn, if_pos g2]
    rw [hp]
    have d1 : decide (n < 48) = true := decide_eq_true g2
    clear hp hn
    go_enter Try.func76, Try.ntmps76
    go_wp2_with (go_at_call 91; (with_reducible refine hby.mono ?_); rintro z w' ⟨rfl, hR, hC⟩; obtain ⟨y0, y1, _⟩ := hR.cell)
    exact ⟨rfl, hC, gaveUp_at (by omega)⟩
  have d1 : decide (n < 48) = false := decide_eq_false g2
  by_cases g3 : 57 < n
  · have hp : digitP b at_ code = .error (code, at_) := by unfold digitP; rw [if_neg g1, hn, if_neg g2, if_pos g3]
    rw [hp]
    have d2 : decide (57 < n) = true := decide_eq_true g3
    clear hp hn
    go_enter Try.func76, Try.ntmps76
    go_wp2_with (go_at_call 91; (with_reducible refine hby.mono ?_); rintro z w' ⟨rfl, hR, hC⟩; obtain ⟨y0, y1, _⟩ := hR.cell)
    exact ⟨rfl, hC, gaveUp_at (by omega)⟩
  have d2 : decide (57 < n) = false := decide_eq_false g3
  have hp : digitP b at_ code = .ok (n - 48, at_ + 1) := by unfold digitP; rw [if_neg g1, hn, if_neg g2, if_neg g3]
  rw [hp]
  clear hp hn
  go_enter Try.func76, Try.ntmps76
  go_wp2_with (go_at_call 91; (with_reducible refine hby.mono ?_); rintro z w' ⟨rfl, hR, hC⟩; obtain ⟨y0, y1, _⟩ := hR.cell)
  go_ret
  exact ⟨hC, rfl, hR⟩
end Go.Proofs.Ytjbhhgecdcgpeaa.Tb
