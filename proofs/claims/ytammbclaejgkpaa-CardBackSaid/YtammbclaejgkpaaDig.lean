/- Plain laws on digits and months: the document's words for them answer as plain functions do. No Go, no memory. -/
import Derived.Test.YtammbclaejgkpaaTrk
import Derived.Test.YtammbclaejgkpaaPCx5
namespace Go.Proofs.Ytammbclaejgkpaa.Pure
open Go.RowKit Go.Proofs.Ytammbclaejgkpaa.PC Go.Proofs.YtammbclaejgkpaaW.PrintWords Go.Proofs.YtammbclaejgkpaaW.PrintLast CardRead

theorem ref_digits_l0 (s : ByteArray) (hs : s.size ≤ 9223372036854775806) (a b : Int) : ∀ n i, n + i = s.size → Ev (fun k => turnstileref5_digits.l0 k s a b i) (alld s n i && (decide (a ≤ s.size) && decide ((s.size : Int) ≤ b))) := by
  intro n
  induction n with
  | zero =>
    intro i hn
    refine Ev.step (f := fun _ => some (decide (a ≤ s.size) && decide ((s.size : Int) ≤ b))) (fun k => ?_) (by simpa [alld] using Ev.now _)
    simp only [turnstileref5_digits.l0]
    rw [if_neg (by omega)]
    by_cases h : a ≤ s.size
    · rw [if_pos h]; simp [h]
    · rw [if_neg h]; simp [h]
  | succ n ih =>
    intro i hn
    rw [alld]
    cases h : dg (bt s i) with
    | true =>
      rw [Bool.true_and]
      refine Ev.step (fun k => ?_) (ih (i + 1) (by omega))
      simp only [turnstileref5_digits.l0]
      rw [if_pos (by omega), if_pos (by omega), digit_f, h]
      simp only [Option.bind_some, if_true]
      rw [w64s (by omega) (by omega)]
      rfl
    | false =>
      refine Ev.step (f := fun _ => some false) (fun k => ?_) (by simpa using Ev.now _)
      simp only [turnstileref5_digits.l0]
      rw [if_pos (by omega), if_pos (by omega), digit_f, h]
      simp
theorem ref_digits_ev (s : ByteArray) (hs : s.size ≤ 9223372036854775806) (a b : Int) : Ev (fun k => turnstileref5_digits.f k s a b) (digs s a b) := ref_digits_l0 s hs a b s.size 0 (by omega)
/-- Is a text a month? -/
def isMonth (s : ByteArray) : Bool := digs s 4 4 && (decide (1 ≤ 10 * (bt s 2 - 48) + (bt s 3 - 48)) && decide (10 * (bt s 2 - 48) + (bt s 3 - 48) ≤ 12))
theorem four {s : ByteArray} (h : digs s 4 4 = true) : s.size = 4 ∧ (48 ≤ bt s 0 ∧ bt s 0 ≤ 57) ∧ (48 ≤ bt s 1 ∧ bt s 1 ≤ 57) ∧ (48 ≤ bt s 2 ∧ bt s 2 ≤ 57) ∧ (48 ≤ bt s 3 ∧ bt s 3 ≤ 57) := by
  obtain ⟨hsz, hall⟩ := digs_yes h
  have h4 : s.size = 4 := by omega
  exact ⟨h4, dg_yes (hall 0 (by omega)), dg_yes (hall 1 (by omega)), dg_yes (hall 2 (by omega)), dg_yes (hall 3 (by omega))⟩
theorem ref_Month_ev (s : ByteArray) (hs : s.size ≤ 9223372036854775806) : Ev (fun k => turnstileref5_Month.f k s) (isMonth s) := by
  unfold isMonth
  have hr := ref_digits_ev s hs 4 4
  cases hd : digs s 4 4 with
  | false =>
    rw [hd] at hr
    refine Ev.bind hr ?_
    simp only [if_neg Bool.false_ne_true, Bool.false_and]
    exact Ev.now _
  | true =>
    rw [hd] at hr
    obtain ⟨h4, b0, b1, b2, b3⟩ := four hd
    refine Ev.bind hr ?_
    have e2 : (bt s 2 - 48) % 256 = bt s 2 - 48 := by omega
    have e3 : (bt s 3 - 48) % 256 = bt s 3 - 48 := by omega
    refine Ev.congr (f := fun _ => some (true && (decide (1 ≤ 10 * (bt s 2 - 48) + (bt s 3 - 48)) && decide (10 * (bt s 2 - 48) + (bt s 3 - 48) ≤ 12)))) (fun k => ?_) (Ev.now _)
    rw [if_pos rfl, if_pos (by omega), if_pos (by omega), e2, e3]
    by_cases h : 10 * (bt s 2 - 48) + (bt s 3 - 48) ≥ 1
    · rw [if_pos h]; simp [h]
    · rw [if_neg h]; simp [h]
end Go.Proofs.Ytammbclaejgkpaa.Pure
