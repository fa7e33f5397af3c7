/- A plain law: the program's Expired and the document's answer the same, for every text, year and month. No condition beyond what the statement's arguments are. -/
import Derived.Test.YtammbclaejgkpaaDig
import Derived.Test.YtammbclaejgkpaaPCx9
namespace Go.Proofs.Ytammbclaejgkpaa.Pure
open Go.RowKit Go.Proofs.Ytammbclaejgkpaa.PC Go.Proofs.YtammbclaejgkpaaW.PrintWords Go.Proofs.YtammbclaejgkpaaW.PrintLast CardRead

/-- What Expired tells. -/
def expd (s : ByteArray) (y m : Int) : Bool × Int :=
  if isMonth s = true then (if y < 2000 ∨ 2099 < y ∨ m < 1 ∨ 12 < m then (false, 1) else (decide (12 * (2000 + 10 * (bt s 0 - 48) + (bt s 1 - 48)) + (10 * (bt s 2 - 48) + (bt s 3 - 48)) < 12 * y + m), 0)) else (false, 53)

theorem card_Expired_ev (s : ByteArray) (hs : s.size ≤ 9223372036854775806) (y m : Int) : Ev (fun k => card_Expired.f k s y m) (expd s y m) := by
  have hc := card_digits_ev s hs 4 4
  unfold expd isMonth
  cases hd : digs s 4 4 with
  | false =>
    rw [hd] at hc
    refine Ev.bind (a := (0, 0, false)) (Ev.bind hc ?_) ?_
    · simp only [if_neg Bool.false_ne_true]; exact Ev.now _
    · simp only [if_neg Bool.false_ne_true, Bool.false_and]; exact Ev.now _
  | true =>
    rw [hd] at hc
    obtain ⟨h4, b0, b1, b2, b3⟩ := four hd
    have e0 : (bt s 0 - 48) % 256 = bt s 0 - 48 := by omega
    have e1 : (bt s 1 - 48) % 256 = bt s 1 - 48 := by omega
    have e2 : (bt s 2 - 48) % 256 = bt s 2 - 48 := by omega
    have e3 : (bt s 3 - 48) % 256 = bt s 3 - 48 := by omega
    have hm : Ev (fun k => card_month.f k s) (2000 + ((bt s 0 - 48) * 10 + (bt s 1 - 48)), (bt s 2 - 48) * 10 + (bt s 3 - 48), decide (1 ≤ 10 * (bt s 2 - 48) + (bt s 3 - 48)) && decide (10 * (bt s 2 - 48) + (bt s 3 - 48) ≤ 12)) := by
      refine Ev.bind hc ?_
      refine Ev.congr (fun k => ?_) (Ev.now _)
      rw [if_pos rfl, if_pos (by omega), if_pos (by omega), if_pos (by omega), if_pos (by omega), e0, e1, e2, e3]
      generalize bt s 2 = c2 at *
      generalize bt s 3 = c3 at *
      by_cases h : (c2 - 48) * 10 + (c3 - 48) ≥ 1
      · rw [if_pos h]
        have h' : 1 ≤ 10 * (c2 - 48) + (c3 - 48) := by omega
        by_cases h2 : (c2 - 48) * 10 + (c3 - 48) ≤ 12
        · have h2' : 10 * (c2 - 48) + (c3 - 48) ≤ 12 := by omega
          simp [h', h2', h2]
        · have h2' : ¬ 10 * (c2 - 48) + (c3 - 48) ≤ 12 := by omega
          simp [h', h2', h2]
      · rw [if_neg h]
        have h' : ¬ 1 ≤ 10 * (c2 - 48) + (c3 - 48) := by omega
        simp [h']
    refine Ev.bind hm ?_
    refine Ev.congr (fun k => ?_) (Ev.now _)
    simp only [Bool.true_and]
    clear hm hc hd e0 e1 e2 e3
    generalize bt s 0 = c0 at *
    generalize bt s 1 = c1 at *
    generalize bt s 2 = c2 at *
    generalize bt s 3 = c3 at *
    cases hz : (decide (1 ≤ 10 * (c2 - 48) + (c3 - 48)) && decide (10 * (c2 - 48) + (c3 - 48) ≤ 12)) with
    | false => simp
    | true =>
      simp only [Bool.and_eq_true, decide_eq_true_eq] at hz
      simp only [if_true]
      by_cases h1 : y < 2000
      · rw [if_pos h1, if_pos (.inl h1)]
      rw [if_neg h1]
      by_cases h2 : y > 2099
      · rw [if_pos h2, if_pos (.inr (.inl h2))]
      rw [if_neg h2]
      by_cases h3 : m < 1
      · rw [if_pos h3, if_pos (.inr (.inr (.inl h3)))]
      rw [if_neg h3]
      by_cases h5 : m > 12
      · rw [if_pos h5, if_pos (.inr (.inr (.inr h5)))]
      rw [if_neg h5, if_neg (show ¬ (y < 2000 ∨ 2099 < y ∨ m < 1 ∨ 12 < m) by omega)]
      by_cases h6 : y > 2000 + ((c0 - 48) * 10 + (c1 - 48))
      · rw [if_pos h6]
        have : 12 * (2000 + 10 * (c0 - 48) + (c1 - 48)) + (10 * (c2 - 48) + (c3 - 48)) < 12 * y + m := by omega
        simp [this]
      · rw [if_neg h6]
        by_cases h7 : y = 2000 + ((c0 - 48) * 10 + (c1 - 48))
        · rw [if_pos h7]
          by_cases h8 : m > (c2 - 48) * 10 + (c3 - 48)
          · have : 12 * (2000 + 10 * (c0 - 48) + (c1 - 48)) + (10 * (c2 - 48) + (c3 - 48)) < 12 * y + m := by omega
            simp [this, h8]
          · have : ¬ 12 * (2000 + 10 * (c0 - 48) + (c1 - 48)) + (10 * (c2 - 48) + (c3 - 48)) < 12 * y + m := by omega
            simp only [h8, this]
        · rw [if_neg h7]
          have : ¬ 12 * (2000 + 10 * (c0 - 48) + (c1 - 48)) + (10 * (c2 - 48) + (c3 - 48)) < 12 * y + m := by omega
          simp [this]
theorem ref_Expired_ev (s : ByteArray) (hs : s.size ≤ 9223372036854775806) (y m : Int) : Ev (fun k => turnstileref5_Expired.f k s y m) (expd s y m) := by
  have hc := ref_Month_ev s hs
  unfold expd
  refine Ev.bind hc ?_
  cases hd : isMonth s with
  | false => simp only [if_neg Bool.false_ne_true]; exact Ev.now _
  | true =>
    simp only [if_true]
    have h4 : s.size = 4 ∧ (48 ≤ bt s 0 ∧ bt s 0 ≤ 57) ∧ (48 ≤ bt s 1 ∧ bt s 1 ≤ 57) ∧ (48 ≤ bt s 2 ∧ bt s 2 ≤ 57) ∧ (48 ≤ bt s 3 ∧ bt s 3 ≤ 57) := by
      refine four ?_
      unfold isMonth at hd
      simp only [Bool.and_eq_true] at hd
      exact hd.1
    obtain ⟨h4, b0, b1, b2, b3⟩ := h4
    refine Ev.congr (fun k => ?_) (Ev.now _)
    have e0 : (bt s 0 - 48) % 256 = bt s 0 - 48 := by omega
    have e1 : (bt s 1 - 48) % 256 = bt s 1 - 48 := by omega
    have e2 : (bt s 2 - 48) % 256 = bt s 2 - 48 := by omega
    have e3 : (bt s 3 - 48) % 256 = bt s 3 - 48 := by omega
    rw [e0, e1, e2, e3]
    by_cases h1 : y < 2000
    · rw [if_pos h1, if_pos (.inl h1)]
    rw [if_neg h1]
    by_cases h2 : y > 2099
    · rw [if_pos h2, if_pos (.inr (.inl h2))]
    rw [if_neg h2]
    by_cases h3 : m < 1
    · rw [if_pos h3, if_pos (.inr (.inr (.inl h3)))]
    rw [if_neg h3]
    by_cases h5 : m > 12
    · rw [if_pos h5, if_pos (.inr (.inr (.inr h5)))]
    rw [if_neg h5, if_neg (show ¬ (y < 2000 ∨ 2099 < y ∨ m < 1 ∨ 12 < m) by omega), if_pos (by omega), if_pos (by omega), if_pos (by omega), if_pos (by omega), w64s (x := 12 * y) (by omega) (by omega), w64s (x := 12 * y + m) (by omega) (by omega)]
theorem CardExpires : turnstilelaw5_CardExpires.Pure := by
  intro s y m hs hy hm
  refine Ev.rounds (Ev.bind examples_ev (Ev.bind (card_Expired_ev s (by omega) y m) (Ev.bind (ref_Expired_ev s (by omega) y m) ?_)))
  simp
  exact Ev.now _
end Go.Proofs.Ytammbclaejgkpaa.Pure
