/- A plain law: a mask is as long as what it hides, keeps at most ten bytes, and only as they stood; a mask's mask is itself. For all texts. -/
import Derived.Test.YtammbclaejgkpaaPdg
namespace Go.Proofs.Ytammbclaejgkpaa.Pure
open Go.RowKit Go.Proofs.Ytammbclaejgkpaa.PD Go.Proofs.YtammbclaejgkpaaW.PrintWords Go.Proofs.YtammbclaejgkpaaW.PrintLast CardRead Go.Proofs.Ytammbclaejgkpaa.PureD
/-- How many bytes may have been kept among the first i. -/
def most (n i : Nat) : Nat := if n ≤ 10 then 0 else min i 6 + (i - (n - 4))
open CardMask in
theorem mask_mask (s : ByteArray) : mask (mask s) = mask s := by
  refine ext_bt (by rw [mask_size]) (fun i hi => ?_)
  rw [mask_size, mask_size] at hi
  rw [bt_mask (mask s) i (by rw [mask_size]; exact hi), bt_mask s i hi]
  unfold mv
  rw [mask_size]
  split
  · rfl
  · rename_i h
    rw [bt_mask s i hi]
    unfold mv
    rw [if_neg h]
open CardMask in
theorem masks_l0 (s : ByteArray) (hs : s.size ≤ 140737488355328) : ∀ (n i c : Nat), n + i = s.size → c ≤ most s.size i → Ev (fun k => turnstilelaw5_CardMasks.l0 k s (mask s) c i) true := by
  intro n
  induction n with
  | zero =>
    intro i c hi hc
    refine Ev.step (f := fun _ => some true) (fun k => ?_) (Ev.now _)
    simp only [turnstilelaw5_CardMasks.l0]
    have : c ≤ 10 := by unfold most at hc; split at hc <;> omega
    rw [mask_size, if_neg (by omega), if_pos (by omega)]
    unfold card_Mask.f
    rw [mask_size, if_pos hs, mask_mask]
    simp
  | succ n ih =>
    intro i c hi hc
    have e1 : wrap64 ((i : Int) + 1) = ((i + 1 : Nat) : Int) := by rw [w64n (by omega) (by omega)]; rfl
    have hcs : c ≤ 20 + i := by unfold most at hc; split at hc <;> omega
    have e2 : wrap64 ((c : Int) + 1) = ((c + 1 : Nat) : Int) := by rw [w64n (by omega) (by omega)]; rfl
    by_cases h42 : mv s i = 42
    · refine Ev.step (fun k => ?_) (ih (i + 1) c (by omega) ?_)
      · simp only [turnstilelaw5_CardMasks.l0]
        rw [mask_size, if_pos (by omega), if_pos (by omega), bt_mask s i (by omega), if_pos h42, e1]
      · unfold most at hc ⊢
        split at hc
        · rename_i h; rw [if_pos h]; omega
        · rename_i h; rw [if_neg h]; omega
    · have hh : ¬ hid_ s.size i = true := by
        intro h
        apply h42
        unfold mv
        rw [if_pos h]
      refine Ev.step (fun k => ?_) (ih (i + 1) (c + 1) (by omega) ?_)
      · simp only [turnstilelaw5_CardMasks.l0]
        rw [mask_size, if_pos (by omega), if_pos (by omega), bt_mask s i (by omega), if_neg h42, if_pos (by omega), if_pos, e1, e2]
        unfold mv
        rw [if_neg hh]
      · unfold hid_ at hh
        simp at hh
        unfold most at hc ⊢
        rw [if_neg (by omega)] at hc
        rw [if_neg (by omega)]
        omega
theorem CardMasks : turnstilelaw5_CardMasks.Pure := by
  intro a0 hs
  have hs' : a0.size ≤ 140737488355328 := by omega
  have H : Ev (fun k => turnstilelaw5_CardMasks.f k a0) true := by
    refine Ev.bind examples_ev ?_
    unfold card_Mask.f
    rw [if_pos hs']
    simp only [Option.bind_some, if_true]
    refine Ev.step (fun k => ?_) (masks_l0 a0 hs' a0.size 0 0 (by omega) (by omega))
    simp only [turnstilelaw5_CardMasks.j0]
    rw [mask_size, if_neg (by simp)]
    rfl
  exact H.rounds
end Go.Proofs.Ytammbclaejgkpaa.Pure
