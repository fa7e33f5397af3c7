/- Plain laws on sums of digits, and on masks: what the program and the document's own functions answer. No Go, no memory. -/
import Derived.Test.YtammbclaejgkpaaPar
import Derived.Test.YtammbclaejgkpaaPDx4
namespace Go.Proofs.Ytammbclaejgkpaa.PureD
open Go.RowKit Go.Proofs.Ytammbclaejgkpaa.PD Go.Proofs.YtammbclaejgkpaaW.PrintWords Go.Proofs.YtammbclaejgkpaaW.PrintLast CardRead
open Go.Proofs.Ytammbclaejgkpaa.Pure (B L B_L L_B L_size L_inj size_B)

theorem digit_f (c : Int) : turnstileref5_digit.f c = some (dg c) := by
  unfold turnstileref5_digit.f dg
  by_cases h : 48 ≤ c
  · rw [if_pos h]; simp [h]
  · rw [if_neg h]; simp [h]

theorem examples_ev : Ev (fun k => turnstilelaw5_examples.f k) true := Ev.of (fun k => turnstilelaw5_examples.mono k) (k := 60) (by decide +kernel)
/-- Are all bytes digits? n of them are left, from the i-th on. -/
def alld (s : ByteArray) : Nat → Nat → Bool
  | 0, _ => true
  | n + 1, i => dg (bt s i) && alld s n (i + 1)
def digs (s : ByteArray) (a b : Int) : Bool := alld s s.size 0 && (decide (a ≤ s.size) && decide ((s.size : Int) ≤ b))
theorem alld_at {s : ByteArray} : ∀ n i, alld s n i = true → ∀ j : Nat, i ≤ j → j < i + n → dg (bt s j) = true := by
  intro n
  induction n with
  | zero => intro i _ j h1 h2; omega
  | succ n ih =>
    intro i h j h1 h2
    simp only [alld, Bool.and_eq_true] at h
    by_cases hj : j = i
    · rw [hj]; exact h.1
    · exact ih (i + 1) h.2 j (by omega) (by omega)
theorem alld_of {s : ByteArray} : ∀ n i, (∀ j : Nat, i ≤ j → j < i + n → dg (bt s j) = true) → alld s n i = true := by
  intro n
  induction n with
  | zero => intro i _; rfl
  | succ n ih =>
    intro i h
    simp only [alld, Bool.and_eq_true]
    exact ⟨h i (by omega) (by omega), ih (i + 1) (fun j h1 h2 => h j (by omega) (by omega))⟩
theorem digs_yes {s : ByteArray} {a b : Int} (h : digs s a b = true) : (a ≤ s.size ∧ (s.size : Int) ≤ b) ∧ ∀ j : Nat, j < s.size → dg (bt s j) = true := by
  simp only [digs, Bool.and_eq_true, decide_eq_true_eq] at h
  exact ⟨h.2, fun j hj => alld_at _ _ h.1 j (by omega) (by omega)⟩
theorem digs_of {s : ByteArray} {a b : Int} (h1 : a ≤ s.size) (h2 : (s.size : Int) ≤ b) (h : ∀ j : Nat, j < s.size → dg (bt s j) = true) : digs s a b = true := by
  simp only [digs, Bool.and_eq_true, decide_eq_true_eq]
  exact ⟨alld_of _ _ (fun j _ hj => h j (by omega)), h1, h2⟩
theorem w64s {x : Int} (h : 0 ≤ x) (h' : x ≤ 9223372036854775807) : wrap64 x = x := by unfold wrap64; omega
theorem cdigit_f (c : Int) : card_digit.f c = some (dg c) := by
  unfold card_digit.f dg
  by_cases h : 48 ≤ c
  · rw [if_pos h]; simp [h]
  · rw [if_neg h]; simp [h]
theorem card_digits_l0 (s : ByteArray) (hs : s.size ≤ 9223372036854775806) (a b : Int) : ∀ n i, n + i = s.size → Ev (fun k => card_digits.l0 k s a b (s.size : Int) i) (alld s n i && (decide (a ≤ s.size) && decide ((s.size : Int) ≤ b))) := by
  intro n
  induction n with
  | zero =>
    intro i hn
    refine Ev.step (f := fun _ => some (decide (a ≤ s.size) && decide ((s.size : Int) ≤ b))) (fun k => ?_) (by simpa [alld] using Ev.now _)
    simp only [card_digits.l0]
    rw [if_neg (by omega)]
    by_cases h : a ≤ s.size
    · rw [if_pos h]; simp [h]
    · rw [if_neg h]; simp [h]
  | succ n ih =>
    intro i hn
    rw [alld]
    cases h : dg (bt s i) with
    | true =>
      rw [Bool.true_and]
      refine Ev.step (fun k => ?_) (ih (i + 1) (by omega))
      simp only [card_digits.l0]
      rw [if_pos (by omega), if_pos (by omega), if_pos (by omega), cdigit_f, h]
      simp only [Option.bind_some, if_true]
      rw [w64s (by omega) (by omega)]
      rfl
    | false =>
      refine Ev.step (f := fun _ => some false) (fun k => ?_) (by simpa using Ev.now _)
      simp only [card_digits.l0]
      rw [if_pos (by omega), if_pos (by omega), if_pos (by omega), cdigit_f, h]
      simp
theorem card_digits_ev (s : ByteArray) (hs : s.size ≤ 9223372036854775806) (a b : Int) : Ev (fun k => card_digits.f k s a b) (digs s a b) := card_digits_l0 s hs a b s.size 0 (by omega)
theorem ref_digits_l0 (s : ByteArray) (hs : s.size ≤ 9223372036854775806) (a b : Int) : ∀ n i, n + i = s.size → Ev (fun k => turnstileref5_digits.l0 k s a b i) (alld s n i && (decide (a ≤ s.size) && decide ((s.size : Int) ≤ b))) := by
  intro n
  induction n with
  | zero =>
    intro i hn
    refine Ev.step (f := fun _ => some (decide (a ≤ s.size) && decide ((s.size : Int) ≤ b))) (fun k => ?_) (by simpa [alld] using Ev.now _)
    simp only [turnstileref5_digits.l0]
    rw [if_neg (by omega)]
    by_cases h : a ≤ s.size
    · rw [if_pos h]; simp [h]
    · rw [if_neg h]; simp [h]
  | succ n ih =>
    intro i hn
    rw [alld]
    cases h : dg (bt s i) with
    | true =>
      rw [Bool.true_and]
      refine Ev.step (fun k => ?_) (ih (i + 1) (by omega))
      simp only [turnstileref5_digits.l0]
      rw [if_pos (by omega), if_pos (by omega), digit_f, h]
      simp only [Option.bind_some, if_true]
      rw [w64s (by omega) (by omega)]
      rfl
    | false =>
      refine Ev.step (f := fun _ => some false) (fun k => ?_) (by simpa using Ev.now _)
      simp only [turnstileref5_digits.l0]
      rw [if_pos (by omega), if_pos (by omega), digit_f, h]
      simp
theorem ref_digits_ev (s : ByteArray) (hs : s.size ≤ 9223372036854775806) (a b : Int) : Ev (fun k => turnstileref5_digits.f k s a b) (digs s a b) := ref_digits_l0 s hs a b s.size 0 (by omega)

def luhn (d : Int) : Int := if 9 < d then d - 9 else d
/-- What the j-th digit from the end counts. -/
def term (s : ByteArray) (first : Int) (j : Nat) : Int := luhn ((bt s ((s.size : Int) - 1 - j) - 48) % 256 * (if j % 2 = 0 then first else 3 - first))
def sumTo (s : ByteArray) (first : Int) : Nat → Int
  | 0 => 0
  | j + 1 => sumTo s first j + term s first j
theorem term_range (s : ByteArray) {first : Int} (h : first = 1 ∨ first = 2) (j : Nat) : 0 ≤ term s first j ∧ term s first j ≤ 510 := by
  unfold term luhn
  have : 0 ≤ (bt s ((s.size : Int) - 1 - j) - 48) % 256 ∧ (bt s ((s.size : Int) - 1 - j) - 48) % 256 < 256 := by omega
  generalize (bt s ((s.size : Int) - 1 - j) - 48) % 256 = x at *
  rcases h with rfl | rfl <;> split <;> split <;> omega
theorem sumTo_range (s : ByteArray) {first : Int} (h : first = 1 ∨ first = 2) : ∀ j : Nat, 0 ≤ sumTo s first j ∧ sumTo s first j ≤ 510 * j
  | 0 => by simp [sumTo]
  | j + 1 => by
    have h1 := sumTo_range s h j
    have h2 := term_range s h j
    rw [sumTo]
    omega
theorem w64n {x : Int} (h : -1000 ≤ x) (h' : x ≤ 9223372036854775807) : wrap64 x = x := by unfold wrap64; omega
theorem card_sum_l0 (s : ByteArray) (hs : s.size ≤ 140737488355328) {first : Int} (hf : first = 1 ∨ first = 2) : ∀ n j, n + j = s.size → Ev (fun k => card_sum.l0 k s (sumTo s first j) (if j % 2 = 0 then first else 3 - first) ((n : Int) - 1)) (sumTo s first s.size) := by
  intro n
  induction n with
  | zero =>
    intro j hj
    obtain rfl : j = s.size := by omega
    refine Ev.step (f := fun _ => some (sumTo s first s.size)) (fun k => ?_) (Ev.now _)
    simp only [card_sum.l0]
    rw [if_neg (by omega)]
  | succ n ih =>
    intro j hj
    have hr := sumTo_range s hf j
    have ht := term_range s hf j
    have hr2 : sumTo s first j ≤ 510 * 140737488355328 := by omega
    have e0 : (((n + 1 : Nat) : Int) - 1) = (n : Int) := by omega
    have ei : (s.size : Int) - 1 - j = (n : Int) := by omega
    have hx : 0 ≤ (bt s (n : Int) - 48) % 256 ∧ (bt s (n : Int) - 48) % 256 < 256 := by omega
    have hterm : term s first j = luhn ((bt s (n : Int) - 48) % 256 * (if j % 2 = 0 then first else 3 - first)) := by unfold term; rw [ei]
    have hnext : (3 - (if j % 2 = 0 then first else 3 - first)) = (if (j + 1) % 2 = 0 then first else 3 - first) := by
      by_cases h2 : j % 2 = 0
      · rw [if_pos h2, if_neg (by omega)]
      · rw [if_neg h2, if_pos (by omega)]; omega
    have hby : (if j % 2 = 0 then first else 3 - first) = 1 ∨ (if j % 2 = 0 then first else 3 - first) = 2 := by
      split <;> omega
    rw [e0]
    have IH := ih (j + 1) (by omega)
    rw [← hnext] at IH
    refine Ev.step (fun k => ?_) IH
    simp only [card_sum.l0]
    rw [if_pos (by omega), if_pos (by omega), if_pos (by omega)]
    rw [sumTo, hterm]
    generalize (bt s (n : Int) - 48) % 256 = x at *
    generalize (if j % 2 = 0 then first else 3 - first) = by_ at *
    generalize sumTo s first j = t at *
    have hprod : 0 ≤ x * by_ ∧ x * by_ ≤ 510 := by rcases hby with h | h <;> rw [h] <;> omega
    generalize x * by_ = y at *
    unfold luhn
    rw [w64n (x := y) (by omega) (by omega), w64n (x := 3 - by_) (by omega) (by omega), w64n (x := (n : Int) - 1) (by omega) (by omega)]
    by_cases h9 : 9 < y
    · rw [if_pos h9, if_pos h9, w64n (x := y - 9) (by omega) (by omega), w64n (x := t + (y - 9)) (by omega) (by omega)]
    · rw [if_neg (by omega), if_neg h9, w64n (x := t + y) (by omega) (by omega)]
theorem card_sum_ev (s : ByteArray) (hs : s.size ≤ 140737488355328) {first : Int} (hf : first = 1 ∨ first = 2) : Ev (fun k => card_sum.f k s first) (sumTo s first s.size) := by
  refine Ev.congr (fun k => ?_) (card_sum_l0 s hs hf s.size 0 (by omega))
  unfold card_sum.f
  rw [w64n (by omega) (by omega)]
  rfl
theorem ref_sum_l0 (s : ByteArray) (hs : s.size ≤ 140737488355328) : ∀ n j, n + j = s.size → Ev (fun k => turnstileref5_sum.l0 k s (sumTo s 1 j) j) (sumTo s 1 s.size) := by
  intro n
  induction n with
  | zero =>
    intro j hj
    obtain rfl : j = s.size := by omega
    refine Ev.step (f := fun _ => some (sumTo s 1 s.size)) (fun k => ?_) (Ev.now _)
    simp only [turnstileref5_sum.l0]
    rw [if_neg (by omega)]
  | succ n ih =>
    intro j hj
    have hr := sumTo_range s (.inl rfl : (1 : Int) = 1 ∨ (1 : Int) = 2) j
    have hr2 : sumTo s 1 j ≤ 510 * 140737488355328 := by omega
    have hx : 0 ≤ (bt s ((s.size : Int) - 1 - j) - 48) % 256 ∧ (bt s ((s.size : Int) - 1 - j) - 48) % 256 < 256 := by omega
    have e1 : wrap64 ((s.size : Int) - 1) = (s.size : Int) - 1 := w64n (by omega) (by omega)
    have e2 : wrap64 ((s.size : Int) - 1 - j) = (s.size : Int) - 1 - j := w64n (by omega) (by omega)
    have e3 : wrap64 ((j : Int) + 1) = ((j + 1 : Nat) : Int) := by rw [w64n (by omega) (by omega)]; rfl
    have e4 : Int.tmod (j : Int) 2 = (j : Int) % 2 := Int.tmod_eq_emod_of_nonneg (by omega)
    refine Ev.step (fun k => ?_) (ih (j + 1) (by omega))
    simp only [turnstileref5_sum.l0]
    rw [e1, e2, e3, e4, if_pos (by omega), if_pos (by omega), if_pos (by omega), sumTo]
    unfold term luhn
    generalize (bt s ((s.size : Int) - 1 - j) - 48) % 256 = x at *
    generalize sumTo s 1 j = t at *
    by_cases h2 : j % 2 = 0
    · rw [if_neg (by omega), if_pos h2]
      by_cases h9 : 9 < x
      · rw [if_pos h9, if_pos (by omega), w64n (x := t + (x - 9)) (by omega) (by omega)]
        simp
      · rw [if_neg (by omega), if_neg (by omega), w64n (x := t + x) (by omega) (by omega)]
        simp
    · rw [if_pos (by omega), if_neg h2]
      by_cases h9 : 9 < 2 * x
      · rw [if_pos h9, if_pos (by omega), w64n (x := t + (2 * x - 9)) (by omega) (by omega), show 2 * x - 9 = x * (3 - 1) - 9 by omega]
      · rw [if_neg (by omega), if_neg (by omega), w64n (x := t + 2 * x) (by omega) (by omega), show 2 * x = x * (3 - 1) by omega]
theorem ref_sum_ev (s : ByteArray) (hs : s.size ≤ 140737488355328) : Ev (fun k => turnstileref5_sum.f k s) (sumTo s 1 s.size) := ref_sum_l0 s hs s.size 0 (by omega)
/-- Balanced? -/
def bal (s : ByteArray) : Bool := decide (2 ≤ s.size) && (digs s 2 s.size && decide (sumTo s 1 s.size % 10 = 0))
theorem card_Luhn_ev (s : ByteArray) (hs : s.size ≤ 140737488355328) : Ev (fun k => card_Luhn.f k s) (bal s) := by
  have hd := card_digits_ev s (by omega) 2 s.size
  have hsm := card_sum_ev s hs (.inl rfl : (1 : Int) = 1 ∨ (1 : Int) = 2)
  have hr := sumTo_range s (.inl rfl : (1 : Int) = 1 ∨ (1 : Int) = 2) s.size
  refine Ev.bind hd ?_
  unfold bal
  cases h : digs s 2 s.size with
  | false => simp; exact Ev.now _
  | true =>
    have h2 : 2 ≤ s.size := by have := (digs_yes h).1; omega
    simp only [if_true, h2, decide_true, Bool.true_and]
    refine Ev.bind hsm ?_
    rw [Int.tmod_eq_emod_of_nonneg hr.1]
    exact Ev.now _
theorem ref_Luhn_ev (s : ByteArray) (hs : s.size ≤ 140737488355328) : Ev (fun k => turnstileref5_Luhn.f k s) (bal s) := by
  have hd := ref_digits_ev s (by omega) 2 s.size
  have hsm := ref_sum_ev s hs
  have hr := sumTo_range s (.inl rfl : (1 : Int) = 1 ∨ (1 : Int) = 2) s.size
  unfold bal
  by_cases h2 : 2 ≤ s.size
  · refine Ev.congr (f := fun k => (turnstileref5_digits.f k s 2 (s.size : Int)).bind fun t143 => (if t143 = true then ((turnstileref5_sum.f k s).bind fun t144 => (some ((Int.tmod t144 10) == 0))) else (some false))) (fun k => ?_) (Ev.bind hd ?_)
    · unfold turnstileref5_Luhn.f
      rw [if_pos (by omega)]
    · cases h : digs s 2 s.size with
      | false => simp; exact Ev.now _
      | true =>
        simp only [if_true, h2, decide_true, Bool.true_and]
        refine Ev.bind hsm ?_
        rw [Int.tmod_eq_emod_of_nonneg hr.1]
        exact Ev.now _
  · refine Ev.congr (f := fun _ => some false) (fun k => ?_) (by simpa [h2] using Ev.now _)
    unfold turnstileref5_Luhn.f
    rw [if_neg (by omega)]
/-- What Right tells. -/
def rightR (s : ByteArray) : Int := if digs s 12 19 = true then (if sumTo s 1 s.size % 10 = 0 then 0 else 51) else 50
theorem card_Right_ev (s : ByteArray) (hs : s.size ≤ 140737488355328) : Ev (fun k => card_Right.f k s) (rightR s) := by
  have hd := card_digits_ev s (by omega) 12 19
  have hl := card_Luhn_ev s hs
  unfold rightR
  refine Ev.bind hd ?_
  cases h : digs s 12 19 with
  | false => simp; exact Ev.now _
  | true =>
    simp only [if_true]
    refine Ev.bind hl ?_
    obtain ⟨h1, h2⟩ := digs_yes h
    have hb : digs s 2 s.size = true := digs_of (by omega) (by omega) h2
    have hs2 : 2 ≤ s.size := by omega
    unfold bal
    rw [hb]
    by_cases hz : sumTo s 1 s.size % 10 = 0
    · simp [hz, hs2]; exact Ev.now _
    · simp [hz, hs2]; exact Ev.now _
theorem ref_Right_ev (s : ByteArray) (hs : s.size ≤ 140737488355328) : Ev (fun k => turnstileref5_Right.f k s) (rightR s) := by
  have hd := ref_digits_ev s (by omega) 12 19
  have hsm := ref_sum_ev s hs
  have hr := sumTo_range s (.inl rfl : (1 : Int) = 1 ∨ (1 : Int) = 2) s.size
  unfold rightR
  refine Ev.bind hd ?_
  cases h : digs s 12 19 with
  | false => simp; exact Ev.now _
  | true =>
    simp only [if_true]
    refine Ev.bind hsm ?_
    rw [Int.tmod_eq_emod_of_nonneg hr.1]
    by_cases hz : sumTo s 1 s.size % 10 = 0
    · simp only [if_pos hz]; exact Ev.now _
    · simp only [if_neg hz]; exact Ev.now _

theorem bt_L (s : ByteArray) (j : Nat) (h : j < (L s).length) : bt s j = ((L s)[j].toNat : Int) := by
  have h' : j < s.size := by rw [← L_size]; exact h
  unfold bt
  rw [dif_pos (by omega)]
  simp only [Int.toNat_natCast]
  rfl
theorem L_app (a b : ByteArray) : L (a ++ b) = L a ++ L b := by unfold L; rw [ByteArray.data_append]; simp
theorem bt_app_left (s : ByteArray) (c : List UInt8) (j : Nat) (h : j < s.size) : bt (s ++ B c) j = bt s j := by
  have h1 : j < (L s).length := by rw [L_size]; exact h
  have h2 : j < (L (s ++ B c)).length := by rw [L_app, List.length_append]; omega
  rw [bt_L _ _ h2, bt_L _ _ h1]
  congr 2
  simp only [L_app]
  rw [List.getElem_append_left h1]
theorem bt_app_last (s : ByteArray) (c : UInt8) : bt (s ++ B [c]) s.size = (c.toNat : Int) := by
  have h2 : s.size < (L (s ++ B [c])).length := by rw [L_app, List.length_append, L_size, L_B]; simp
  rw [bt_L _ _ h2]
  congr 2
  simp only [L_app, L_B]
  rw [List.getElem_append_right (by rw [L_size]; omega)]
  simp [L_size]
theorem size_app (s : ByteArray) (c : UInt8) : (s ++ B [c]).size = s.size + 1 := by rw [ByteArray.size_append, size_B]; rfl
/-- A digit more at the end. -/
theorem sum_app (s : ByteArray) (c : UInt8) (hc : 48 ≤ c.toNat ∧ c.toNat ≤ 57) : ∀ j, j ≤ s.size → sumTo (s ++ B [c]) 1 (j + 1) = ((c.toNat : Int) - 48) + sumTo s 2 j := by
  intro j
  induction j with
  | zero =>
    intro _
    simp only [sumTo, term, Nat.zero_mod, if_true]
    rw [size_app, show (((s.size + 1 : Nat) : Int) - 1 - ((0 : Nat) : Int)) = (s.size : Int) by omega, bt_app_last]
    unfold luhn
    rw [if_neg (by omega)]
    omega
  | succ j ih =>
    intro hj
    have e : term (s ++ B [c]) 1 (j + 1) = term s 2 j := by
      unfold term
      rw [size_app, show (((s.size + 1 : Nat) : Int) - 1 - ((j + 1 : Nat) : Int)) = ((s.size - 1 - j : Nat) : Int) by omega, bt_app_left _ _ _ (by omega), show ((s.size : Int) - 1 - (j : Int)) = ((s.size - 1 - j : Nat) : Int) by omega]
      by_cases h2 : j % 2 = 0
      · rw [if_neg (by omega), if_pos h2]
        rfl
      · rw [if_pos (by omega), if_neg h2]
        rfl
    rw [sumTo, ih (by omega), sumTo, e]
    omega
/-- The digit that balances. -/
def vd (s : ByteArray) : Nat := ((10 - sumTo s 2 s.size % 10) % 10).toNat
theorem vd_lt (s : ByteArray) : vd s < 10 := by unfold vd; omega
def digitR (s : ByteArray) : ByteArray × Int := if digs s 1 18 = true then (B [UInt8.ofNat (48 + vd s)], 0) else (E, 50)
theorem enc_all : ∀ v : Fin 10, Utf8.encode ((48 + v.val : Nat) : Int) = B [UInt8.ofNat (48 + v.val)] := by decide +kernel
theorem card_Digit_ev (s : ByteArray) (hs : s.size ≤ 140737488355328) : Ev (fun k => card_Digit.f k s) (digitR s) := by
  have hd := card_digits_ev s (by omega) 1 18
  have hsm := card_sum_ev s hs (.inr rfl : (2 : Int) = 1 ∨ (2 : Int) = 2)
  have hr := sumTo_range s (.inr rfl : (2 : Int) = 1 ∨ (2 : Int) = 2) s.size
  unfold digitR
  refine Ev.bind hd ?_
  cases h : digs s 1 18 with
  | false => simp; exact Ev.now _
  | true =>
    simp only [if_true]
    refine Ev.bind hsm ?_
    have hv := vd_lt s
    have e1 : wrap32 (wrap64 (48 + Int.tmod (wrap64 (10 - Int.tmod (sumTo s 2 s.size) 10)) 10)) = ((48 + vd s : Nat) : Int) := by
      rw [Int.tmod_eq_emod_of_nonneg hr.1, w64n (x := 10 - sumTo s 2 s.size % 10) (by omega) (by omega), Int.tmod_eq_emod_of_nonneg (by omega), w64n (by omega) (by omega)]
      unfold wrap32 vd
      omega
    rw [e1]
    have e2 := enc_all ⟨vd s, hv⟩
    simp only at e2
    rw [e2]
    exact Ev.now _
theorem ref_Digit_l0 (s : ByteArray) (hs : s.size ≤ 1000) : ∀ n x, n + x = vd s → Ev (fun k => turnstileref5_Digit.l0 k s ((48 + x : Nat) : Int)) (B [UInt8.ofNat (48 + vd s)], 0) := by
  intro n
  have hv := vd_lt s
  have hr := sumTo_range s (.inr rfl : (2 : Int) = 1 ∨ (2 : Int) = 2) s.size
  have str : ∀ x : Nat, x < 10 → strOfNums [((48 + x : Nat) : Int)] = B [UInt8.ofNat (48 + x)] := by
    intro x _
    unfold strOfNums B
    rw [List.map_cons, List.map_nil, Int.toNat_natCast]
  have tn : ∀ x : Nat, x < 10 → (UInt8.ofNat (48 + x)).toNat = 48 + x := by
    intro x hx
    rw [UInt8.toNat_ofNat']
    omega
  have sm : ∀ x : Nat, x < 10 → Ev (fun k => turnstileref5_sum.f k (s ++ B [UInt8.ofNat (48 + x)])) ((x : Int) + sumTo s 2 s.size) := by
    intro x hx
    have h1 := ref_sum_ev (s ++ B [UInt8.ofNat (48 + x)]) (by rw [size_app]; omega)
    rw [size_app, sum_app s _ (by rw [tn x hx]; omega) s.size (by omega), tn x hx] at h1
    rw [show (((48 + x : Nat) : Int) - 48) = (x : Int) by omega] at h1
    exact h1
  have step : ∀ x : Nat, x < 10 → ∀ r, (((x : Int) + sumTo s 2 s.size) % 10 = 0 → r = (B [UInt8.ofNat (48 + x)], 0)) → (¬ ((x : Int) + sumTo s 2 s.size) % 10 = 0 → Ev (fun k => turnstileref5_Digit.l0 k s ((48 + (x + 1) : Nat) : Int)) r) → Ev (fun k => turnstileref5_Digit.l0 k s ((48 + x : Nat) : Int)) r := by
    intro x hx r h1 h2
    refine Ev.step (f := fun k => (turnstileref5_sum.f k (s ++ B [UInt8.ofNat (48 + x)])).bind fun t142 => (if (Int.tmod t142 10) = 0 then (some (B [UInt8.ofNat (48 + x)], 0)) else (turnstileref5_Digit.l0 k s ((48 + (x + 1) : Nat) : Int)))) (fun k => ?_) (Ev.bind (sm x hx) ?_)
    · simp only [turnstileref5_Digit.l0]
      rw [if_pos (by omega)]
      simp only [Option.bind_some, str x hx]
      rw [if_pos (by rw [size_B]; simp; omega), show (((48 + x : Nat) : Int) + 1) % 256 = ((48 + (x + 1) : Nat) : Int) by omega]
    · rw [Int.tmod_eq_emod_of_nonneg (by omega)]
      by_cases hz : ((x : Int) + sumTo s 2 s.size) % 10 = 0
      · simp only [if_pos hz]
        rw [h1 hz]
        exact Ev.now _
      · simp only [if_neg hz]
        exact h2 hz
  induction n with
  | zero =>
    intro x hx
    refine step x (by omega) _ (fun _ => ?_) (fun h => ?_)
    · rw [show x = vd s by omega]
    · refine absurd ?_ h
      unfold vd at hx
      omega
  | succ n ih =>
    intro x hx
    refine step x (by omega) _ (fun h => ?_) (fun _ => ih (x + 1) (by omega))
    exfalso
    unfold vd at hx
    omega
theorem ref_Digit_ev (s : ByteArray) (hs : s.size ≤ 140737488355328) : Ev (fun k => turnstileref5_Digit.f k s) (digitR s) := by
  have hd := ref_digits_ev s (by omega) 1 18
  unfold digitR
  refine Ev.bind hd ?_
  cases h : digs s 1 18 with
  | false => simp; exact Ev.now _
  | true =>
    simp only [if_true]
    have := (digs_yes h).1
    exact ref_Digit_l0 s (by omega) (vd s) 0 (by omega)

/-! Masks -/
open CardMask in
theorem L_stars (n : Nat) : L (stars n) = List.replicate n 42 := by
  have : ∀ n, Lib.repeatL [42] n = List.replicate n (42 : UInt8) := by
    intro n
    induction n with
    | zero => rfl
    | succ n ih => rw [Lib.repeatL, ih, List.replicate_succ]; rfl
  show (Lib.repeatL [42] n).toArray.toList = _
  rw [List.toList_toArray, this]
def hid_ (n i : Nat) : Bool := decide (n ≤ 10) || (decide (6 ≤ i) && decide (i + 4 < n))
def mv (s : ByteArray) (i : Nat) : Int := if hid_ s.size i = true then 42 else bt s i
open CardMask in
theorem mask_L (s : ByteArray) : L (mask s) = if s.size ≤ 10 then List.replicate s.size 42 else (L s).take 6 ++ List.replicate (s.size - 10) 42 ++ (L s).drop (s.size - 4) := by
  unfold mask
  by_cases h : s.size ≤ 10
  · rw [if_pos h, if_pos h, L_stars]
  · rw [if_neg h, if_neg h, L_app, L_app, L_stars]
    have e1 : L (s.extract 0 6) = (L s).take 6 := by
      unfold L
      simp only [ByteArray.data_extract, Array.toList_extract, List.extract_eq_take_drop]
      simp
    have e2 : L (s.extract (s.size - 4) s.size) = (L s).drop (s.size - 4) := by
      unfold L
      simp only [ByteArray.data_extract, Array.toList_extract, List.extract_eq_take_drop]
      rw [List.take_of_length_le]
      rw [List.length_drop]
      have := L_size s
      unfold L at this
      omega
    rw [e1, e2]
open CardMask in
theorem mask_size (s : ByteArray) : (mask s).size = s.size := by
  rw [← L_size, mask_L]
  have := L_size s
  split
  · simp
  · simp; omega
open CardMask in
theorem bt_mask (s : ByteArray) (i : Nat) (hi : i < s.size) : bt (mask s) i = mv s i := by
  have hl : i < (L (mask s)).length := by rw [L_size, mask_size]; exact hi
  rw [bt_L _ _ hl]
  have hs := L_size s
  unfold mv hid_
  by_cases h : s.size ≤ 10
  · simp only [mask_L, if_pos h]
    simp [h]
  · rw [bt_L s i (by rw [hs]; exact hi)]
    simp only [mask_L, if_neg h]
    by_cases h6 : i < 6
    · rw [List.getElem_append_left (by simp; omega), List.getElem_append_left (by simp; omega), List.getElem_take]
      have h6' : ¬ 6 ≤ i := by omega
      simp [h, h6']
    · by_cases h4 : i + 4 < s.size
      · rw [List.getElem_append_left (by simp; omega), List.getElem_append_right (by simp; omega), List.getElem_replicate]
        have : 6 ≤ i := by omega
        simp [h4, this]
      · rw [List.getElem_append_right (by simp; omega), List.getElem_drop]
        simp only [h, h4, decide_false, Bool.and_false, Bool.or_false, Bool.false_eq_true, if_false]
        congr 3
        simp
        omega
theorem ext_bt {a b : ByteArray} (hs : a.size = b.size) (h : ∀ i : Nat, i < a.size → bt a i = bt b i) : a = b := by
  apply L_inj
  refine List.ext_getElem (by rw [L_size, L_size, hs]) (fun i h1 h2 => ?_)
  have := h i (by rw [← L_size]; exact h1)
  rw [bt_L a i h1, bt_L b i h2] at this
  exact UInt8.toNat_inj.mp (by omega)
end Go.Proofs.Ytammbclaejgkpaa.PureD
