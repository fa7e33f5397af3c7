/- A plain law: the check digit, the balance, the number's right and its mask are what the document's own functions answer. For all texts. -/
import Derived.Test.YtammbclaejgkpaaPdg
namespace Go.Proofs.Ytammbclaejgkpaa.Pure
open Go.RowKit Go.Proofs.Ytammbclaejgkpaa.PD Go.Proofs.YtammbclaejgkpaaW.PrintWords Go.Proofs.YtammbclaejgkpaaW.PrintLast CardRead Go.Proofs.Ytammbclaejgkpaa.PureD

theorem set_mid (f : Nat → Int) (i : Nat) (y z : Int) (R : List Int) : ((List.range i).map f ++ y :: R).set i z = (List.range i).map f ++ z :: R := by
  rw [List.set_append_right _ _ (by simp)]
  simp
theorem grow (f : Nat → Int) (i : Nat) (R : List Int) : (List.range i).map f ++ f i :: R = (List.range (i + 1)).map f ++ R := by
  rw [List.range_succ]
  simp
open CardMask in
theorem str_mv (s : ByteArray) : strOfNums ((List.range s.size).map (mv s)) = mask s := by
  have hsz : (strOfNums ((List.range s.size).map (mv s))).size = s.size := by
    rw [← L_size]
    unfold L strOfNums
    rw [List.toList_toArray, List.length_map, List.length_map, List.length_range]
  refine ext_bt (by rw [hsz, mask_size]) (fun i hi => ?_)
  rw [hsz] at hi
  rw [bt_mask s i hi]
  have hl : i < (L (strOfNums ((List.range s.size).map (mv s)))).length := by rw [L_size, hsz]; exact hi
  rw [bt_L _ _ hl]
  have hL : L (strOfNums ((List.range s.size).map (mv s))) = ((List.range s.size).map (mv s)).map (fun n => UInt8.ofNat n.toNat) := by unfold L strOfNums; simp
  have hr : 0 ≤ mv s i ∧ mv s i < 256 := by
    unfold mv
    split
    · omega
    · rw [bt_L s i (by rw [L_size]; exact hi)]
      have := UInt8.toNat_lt (L s)[i]
      omega
  simp only [hL, List.getElem_map, List.getElem_range]
  rw [UInt8.toNat_ofNat']
  omega
open CardMask in
theorem ref_Mask_l0 (s : ByteArray) (hs : s.size ≤ 140737488355328) : ∀ n i, n + i = s.size → Ev (fun k => turnstileref5_Mask.l0 k s ((List.range i).map (mv s) ++ List.replicate n 0) i) (mask s) := by
  intro n
  induction n with
  | zero =>
    intro i hi
    obtain rfl : i = s.size := by omega
    refine Ev.step (f := fun _ => some (mask s)) (fun k => ?_) (Ev.now _)
    simp only [turnstileref5_Mask.l0]
    rw [if_neg (by omega), List.replicate_zero, List.append_nil, str_mv]
  | succ n ih =>
    intro i hi
    refine Ev.step (fun k => ?_) (ih (i + 1) (by omega))
    simp only [turnstileref5_Mask.l0]
    have e1 : wrap64 ((i : Int) + 1) = ((i + 1 : Nat) : Int) := by rw [w64n (by omega) (by omega)]; rfl
    rw [if_pos (by omega), if_pos (by omega), if_pos (by simp; omega)]
    simp only [Option.bind_some, Int.toNat_natCast]
    rw [List.replicate_succ, set_mid, set_mid, e1, ← grow]
    by_cases h10 : (10 : Int) < s.size
    · rw [if_pos h10, w64n (x := (s.size : Int) - 4) (by omega) (by omega)]
      by_cases h6 : (i : Int) < 6
      · rw [if_pos h6, show mv s i = bt s i by unfold mv hid_; rw [if_neg]; simp; omega]
      · rw [if_neg h6]
        by_cases h4 : (s.size : Int) - 4 ≤ i
        · rw [if_pos h4, show mv s i = bt s i by unfold mv hid_; rw [if_neg]; simp; omega]
        · rw [if_neg h4, show mv s i = 42 by unfold mv hid_; rw [if_pos]; simp; omega]
    · rw [if_neg h10, show mv s i = 42 by unfold mv hid_; rw [if_pos]; simp; omega]
open CardMask in
theorem ref_Mask_ev (s : ByteArray) (hs : s.size ≤ 140737488355328) : Ev (fun k => turnstileref5_Mask.f k s) (mask s) := by
  refine Ev.congr (fun k => ?_) (ref_Mask_l0 s hs s.size 0 (by omega))
  unfold turnstileref5_Mask.f
  rw [if_pos (by omega), if_pos (by omega), Int.toNat_natCast]
  simp

theorem CardDigits : turnstilelaw5_CardDigits.Pure := by
  intro a0 hs
  have hs' : a0.size ≤ 140737488355328 := by omega
  have H : Ev (fun k => turnstilelaw5_CardDigits.f k a0) true := by
    refine Ev.bind examples_ev ?_
    refine Ev.bind (card_Digit_ev a0 hs') ?_
    refine Ev.bind (ref_Digit_ev a0 hs') ?_
    simp only [if_true]
    refine Ev.bind (card_Luhn_ev a0 hs') ?_
    refine Ev.bind (ref_Luhn_ev a0 hs') ?_
    simp only [beq_self_eq_true, if_true]
    refine Ev.bind (card_Right_ev a0 hs') ?_
    refine Ev.bind (ref_Right_ev a0 hs') ?_
    simp only [if_true]
    unfold card_Mask.f
    rw [if_pos hs']
    simp only [Option.bind_some]
    refine Ev.bind (ref_Mask_ev a0 hs') ?_
    simp only [beq_self_eq_true]
    exact Ev.now _
  exact H.rounds
end Go.Proofs.Ytammbclaejgkpaa.Pure
