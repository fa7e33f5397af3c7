/- What card.Mask answers: the walk of its code. For every text of at most 2^47 bytes, as the statement's arguments are. -/
import Derived.Test.YtammbclaejgkpaaRead
import Derived.Test.YtammbclaejgkpaaRep
import Derived.Deep.RegionWith
import Derived.Lib.Hide
import Derived.IntWalk
namespace Go.Proofs.Ytammbclaejgkpaa.CardMask
open Go Go.RowKit Go.Proofs.YtammbclaejgkpaaW.PrintWords Go.Proofs.YtammbclaejgkpaaW.PrintLast Go.Proofs.YtammbclaejgkpaaW.PrintMore
def stars (n : Nat) : ByteArray := ⟨(Lib.repeatL [42] n).toArray⟩
theorem stars_size (n : Nat) : (stars n).size = n := by
  show (Lib.repeatL [42] n).toArray.size = n
  rw [List.size_toArray, Lib.repeatL_length]; simp
theorem rep (n : Nat) (w : World) (h : n ≤ 140737488355328) : Calls Try.prog 54 #[.string ⟨#[42]⟩, .int .i64 n] w fun e w' => e = .returned (.string (stars n)) ∧ Below w.heap.size w w' :=
  Go.Proofs.Try.strings_Repeat ⟨#[42]⟩ n w (by omega) (by show 1 * n ≤ _; omega)
theorem rep' (n : Int) (w : World) (h0 : 0 ≤ n) (h : n ≤ 140737488355328) : Calls Try.prog 54 #[.string ⟨#[42]⟩, .int .i64 n] w fun e w' => e = .returned (.string (stars n.toNat)) ∧ Below w.heap.size w w' := by
  obtain ⟨k, rfl⟩ := Int.eq_ofNat_of_zero_le h0
  exact rep k w (by omega)
def mask (s : ByteArray) : ByteArray := if s.size ≤ 10 then stars s.size else s.extract 0 6 ++ stars (s.size - 10) ++ s.extract (s.size - 4) s.size
set_option maxRecDepth 100000 in
set_option maxHeartbeats 1000000 in
theorem mask_long (s : ByteArray) (w : World) (hs : s.size ≤ 140737488355328) (h10 : 10 < s.size) : Calls Try.prog 35 #[.string s] w fun e w' => e = .returned (.string (s.extract 0 6 ++ stars (s.size - 10) ++ s.extract (s.size - 4) s.size)) ∧ Below w.heap.size w w' := by
  have h10b : decide ((s.size : Int) ≤ 10) = false := decide_eq_false (by omega)
  have h10c : decide (s.size ≤ 10) = false := decide_eq_false (by omega)
  have q1 : (6 : Int) ≤ (s.size : Int) := by omega
  have q2 : (s.size : Int) - 4 ≤ (s.size : Int) := by omega
  have q3 : (0 : Int) ≤ (s.size : Int) - 4 := by omega
  have hz : (stars ((s.size : Int) - 10).toNat).size ≤ s.size := by rw [stars_size]; omega
  have w10 : IntKind.i64.wrap ((s.size : Int) - 10) = (s.size : Int) - 10 := IntWalk.i64_in _ (by omega)
  have w4 : IntKind.i64.wrap ((s.size : Int) - 4) = (s.size : Int) - 4 := IntWalk.i64_in _ (by omega)
  have k0 := (by omega : ¬ 9223372036854775807 < min 6 s.size + (stars ((s.size : Int) - 10).toNat).size)
  have k1 : (9223372036854775807 < min 6 s.size + (stars ((s.size : Int) - 10).toNat).size) = False := eq_false k0
  have k3 : (9223372036854775807 < min 6 s.size + (stars ((s.size : Int) - 10).toNat).size + (s.size - (s.size - 4))) = False := eq_false (by omega)
  have k4 : (9223372036854775807 < min 6 s.size + (stars (s.size - 10)).size + (s.size - (s.size - 4))) = False := eq_false (by rw [stars_size]; omega)
  clear k0
  go_enter Try.func35, Try.ntmps35
  go_wp2
  go_region_with (go_at_call 54; refine (rep' _ _ (by omega) (by omega)).mono ?_; rintro e w' ⟨rfl, hb⟩)
  all_goals
    go_wp2
    go_ret
    exact ⟨by first | rfl | (have e10 : ((s.size : Int) - 10).toNat = s.size - 10 := (by omega); rw [← e10]; rfl), below_step (below_drew1 (Below.refl _ _)) hb⟩
set_option maxRecDepth 100000 in
theorem mask_short (s : ByteArray) (w : World) (h10 : s.size ≤ 10) : Calls Try.prog 35 #[.string s] w fun e w' => e = .returned (.string (stars s.size)) ∧ Below w.heap.size w w' := by
  have h10b : decide ((s.size : Int) ≤ 10) = true := decide_eq_true (by omega)
  have h10c : decide (s.size ≤ 10) = true := decide_eq_true (by omega)
  go_enter Try.func35, Try.ntmps35
  go_wp2_with (go_at_call 54; refine (rep s.size _ (by omega)).mono ?_; rintro e w' ⟨rfl, hb⟩)
  go_ret
  exact ⟨rfl, hb⟩
theorem mask_calls (s : ByteArray) (w : World) (hs : s.size ≤ 140737488355328) : Calls Try.prog 35 #[.string s] w fun e w' => e = .returned (.string (mask s)) ∧ Below w.heap.size w w' := by
  unfold mask
  by_cases h : s.size ≤ 10
  · rw [if_pos h]; exact mask_short s w h
  · rw [if_neg h]; exact mask_long s w hs (by omega)
end Go.Proofs.Ytammbclaejgkpaa.CardMask
