/- A plain law: one digit turned, or two unlike ones side by side exchanged (but 0 and 9), and what was balanced is so no longer. -/
import Derived.Test.YtammbclaejgkpaaDgs
import Derived.Test.YtammbclaejgkpaaPdg
import Derived.Test.YtammbclaejgkpaaTurn
namespace Go.Proofs.Ytammbclaejgkpaa.PureT
open Go Go.RowKit Go.Proofs.YtammbclaejgkpaaW.PrintWords Go.Proofs.YtammbclaejgkpaaW.PrintLast CardRead Go.Proofs.Ytammbclaejgkpaa.PureD
open Go.Proofs.Ytammbclaejgkpaa.Pure (B L B_L L_B L_size L_inj size_B)
theorem size_str (xs : List Int) : (strOfNums xs).size = xs.length := by
  rw [← L_size]
  unfold L strOfNums
  rw [List.toList_toArray, List.length_map]
theorem bt_str (xs : List Int) (h : ∀ x ∈ xs, 0 ≤ x ∧ x < 256) (i : Nat) (hi : i < xs.length) : bt (strOfNums xs) i = xs.getD i 0 := by
  have hl : i < (L (strOfNums xs)).length := by rw [L_size, size_str]; exact hi
  rw [bt_L _ _ hl]
  have hL : L (strOfNums xs) = xs.map (fun n => UInt8.ofNat n.toNat) := by unfold L strOfNums; rw [List.toList_toArray]
  have hr := h xs[i] (List.getElem_mem hi)
  simp only [hL, List.getElem_map]
  rw [UInt8.toNat_ofNat', List.getD_eq_getElem?_getD, List.getElem?_eq_getElem hi, Option.getD_some]
  omega
theorem bytes_range (s : ByteArray) : ∀ x ∈ bytesOf s, 0 ≤ x ∧ x < 256 := by
  intro x hx
  unfold bytesOf at hx
  rw [List.mem_map] at hx
  obtain ⟨b, _, rfl⟩ := hx
  have := UInt8.toNat_lt b
  omega
theorem get_bytes (s : ByteArray) (i : Nat) : (bytesOf s).getD i 0 = bt s i := by
  have := rd_bytesOf s i
  exact this
theorem set_range {xs : List Int} (h : ∀ x ∈ xs, 0 ≤ x ∧ x < 256) (i : Nat) (v : Int) (hv : 0 ≤ v ∧ v < 256) : ∀ x ∈ xs.set i v, 0 ≤ x ∧ x < 256 := by
  intro x hx
  rcases List.mem_or_eq_of_mem_set hx with h' | h'
  · exact h x h'
  · rw [h']; exact hv
theorem sum_diff (s t : ByteArray) (p : Nat) : ∀ J : Nat, (∀ j : Nat, j < J → j ≠ p → term t 1 j = term s 1 j) → sumTo t 1 J = sumTo s 1 J + (if p < J then term t 1 p - term s 1 p else 0) := by
  intro J
  induction J with
  | zero => intro _; simp [sumTo]
  | succ J ih =>
    intro h
    rw [sumTo, sumTo, ih (fun j hj hne => h j (by omega) hne)]
    by_cases hp : J = p
    · subst hp
      rw [if_neg (by omega), if_pos (by omega)]
      omega
    · rw [h J (by omega) hp]
      by_cases h2 : p < J
      · rw [if_pos h2, if_pos (by omega)]; omega
      · rw [if_neg h2, if_neg (by omega)]; omega
theorem sum_diff2 (s t : ByteArray) (p q : Nat) (hpq : p ≠ q) : ∀ J : Nat, (∀ j : Nat, j < J → j ≠ p → j ≠ q → term t 1 j = term s 1 j) → sumTo t 1 J = sumTo s 1 J + (if p < J then term t 1 p - term s 1 p else 0) + (if q < J then term t 1 q - term s 1 q else 0) := by
  intro J
  induction J with
  | zero => intro _; simp [sumTo]
  | succ J ih =>
    intro h
    rw [sumTo, sumTo, ih (fun j hj hne => h j (by omega) hne)]
    by_cases hp : J = p
    · subst hp
      (repeat' split) <;> omega
    · by_cases hq : J = q
      · subst hq
        (repeat' split) <;> omega
      · rw [h J (by omega) hp hq]
        (repeat' split) <;> omega
/-- A term at the i-th place. -/
theorem term_at (s : ByteArray) (n i : Nat) (hn : s.size = n) (hi : i < n) (d : Int) (hd : bt s i = 48 + d) (h0 : 0 ≤ d ∧ d < 10) : term s 1 (n - 1 - i) = luhn (d * (if (n - 1 - i) % 2 = 0 then 1 else 2)) := by
  unfold term
  rw [show ((s.size : Int) - 1 - ((n - 1 - i : Nat) : Int)) = (i : Int) by omega, hd, show (48 + d - 48) % 256 = d by omega]
  congr 2
theorem term_same (s t : ByteArray) (n : Nat) (hs : s.size = n) (ht : t.size = n) (j : Nat) (hj : j < n) (h : bt t (n - 1 - j : Nat) = bt s (n - 1 - j : Nat)) : term t 1 j = term s 1 j := by
  unfold term
  rw [hs, ht, show ((n : Int) - 1 - (j : Int)) = ((n - 1 - j : Nat) : Int) by omega, h]
/-- One digit another: the sum is no longer what it was. -/
theorem sum_one (s t : ByteArray) (n p : Nat) (hs : s.size = n) (ht : t.size = n) (hp : p < n) (h : ∀ i : Nat, i < n → i ≠ p → bt t i = bt s i) (d e : Int) (hd : bt s p = 48 + d) (he : bt t p = 48 + e) (d0 : 0 ≤ d ∧ d < 10) (e0 : 0 ≤ e ∧ e < 10) (hne : d ≠ e)
    (hz : sumTo s 1 n % 10 = 0) : sumTo t 1 n % 10 ≠ 0 := by
  have hd' := sum_diff s t (n - 1 - p) n (fun j hj hne => term_same s t n hs ht j hj (h _ (by omega) (by omega)))
  rw [if_pos (by omega), term_at s n p hs hp d hd d0, term_at t n p ht hp e he e0] at hd'
  rw [hd']
  unfold luhn
  by_cases h2 : (n - 1 - p) % 2 = 0
  · rw [if_pos h2]
    by_cases h3 : 9 < e * 1
    · omega
    · by_cases h4 : 9 < d * 1
      · omega
      · rw [if_neg h3, if_neg h4]; omega
  · rw [if_neg h2]
    by_cases h3 : 9 < e * 2
    · rw [if_pos h3]
      by_cases h4 : 9 < d * 2
      · rw [if_pos h4]; omega
      · rw [if_neg h4]; omega
    · rw [if_neg h3]
      by_cases h4 : 9 < d * 2
      · rw [if_pos h4]; omega
      · rw [if_neg h4]; omega
/-- Two digits side by side exchanged. -/
theorem sum_two (s t : ByteArray) (n p : Nat) (hs : s.size = n) (ht : t.size = n) (hp : p + 1 < n) (h : ∀ i : Nat, i < n → i ≠ p → i ≠ p + 1 → bt t i = bt s i) (d e : Int) (hd : bt s p = 48 + d) (he : bt s (p + 1 : Nat) = 48 + e) (hd' : bt t (p + 1 : Nat) = 48 + d) (he' : bt t p = 48 + e) (d0 : 0 ≤ d ∧ d < 10) (e0 : 0 ≤ e ∧ e < 10)
    (hz : sumTo s 1 n % 10 = 0) : sumTo t 1 n % 10 = 0 ↔ (d = e ∨ (d = 0 ∧ e = 9) ∨ (d = 9 ∧ e = 0)) := by
  have hq := sum_diff2 s t (n - 1 - p) (n - 1 - (p + 1)) (by omega) n (fun j hj h1 h2 => term_same s t n hs ht j hj (h _ (by omega) (by omega) (by omega)))
  rw [if_pos (by omega), if_pos (by omega), term_at s n p hs (by omega) d hd d0, term_at t n p ht (by omega) e he' e0, term_at s n (p + 1) hs hp e he e0, term_at t n (p + 1) ht hp d hd' d0] at hq
  rw [hq]
  unfold luhn
  have a1 : (9 < d * 1) = False := eq_false (by omega)
  have a2 : (9 < e * 1) = False := eq_false (by omega)
  by_cases h2 : (n - 1 - p) % 2 = 0
  · rw [if_pos h2, if_neg (by omega : ¬ (n - 1 - (p + 1)) % 2 = 0)]
    simp only [a1, a2, if_false]
    by_cases h3 : 9 < e * 2
    · rw [if_pos h3]
      by_cases h4 : 9 < d * 2
      · rw [if_pos h4]; omega
      · rw [if_neg h4]; omega
    · rw [if_neg h3]
      by_cases h4 : 9 < d * 2
      · rw [if_pos h4]; omega
      · rw [if_neg h4]; omega
  · rw [if_neg h2, if_pos (by omega : (n - 1 - (p + 1)) % 2 = 0)]
    simp only [a1, a2, if_false]
    by_cases h3 : 9 < e * 2
    · rw [if_pos h3]
      by_cases h4 : 9 < d * 2
      · rw [if_pos h4]; omega
      · rw [if_neg h4]; omega
    · rw [if_neg h3]
      by_cases h4 : 9 < d * 2
      · rw [if_pos h4]; omega
      · rw [if_neg h4]; omega
end Go.Proofs.Ytammbclaejgkpaa.PureT
