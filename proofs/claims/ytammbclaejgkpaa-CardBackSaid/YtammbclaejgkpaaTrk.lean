/- A plain law: the document's ReadTrack (as it is printed) answers what the plain function 'CardRead.read' answers, for every text; and the chapter's examples are so. No Go, no memory. -/
import Derived.Test.YtammbclaejgkpaaPCx4
namespace Go.Proofs.Ytammbclaejgkpaa.Pure
open Go.RowKit Go.Proofs.Ytammbclaejgkpaa.PC Go.Proofs.YtammbclaejgkpaaW.PrintWords Go.Proofs.YtammbclaejgkpaaW.PrintLast CardRead

theorem w64 {x : Int} (h : 0 ≤ x) (h' : x ≤ 1000000) : wrap64 x = x := by unfold wrap64; omega
theorem digit_f (c : Int) : turnstileref5_digit.f c = some (dg c) := by
  unfold turnstileref5_digit.f dg
  by_cases h : 48 ≤ c
  · rw [if_pos h]; simp [h]
  · rw [if_neg h]; simp [h]

/-- What is read in a month's place, from its k-th byte on: as the document's 'part' tells it. -/
def mon (s : ByteArray) (fm : Nat) : Nat → Nat → ByteArray × Int × Int
  | 0, i => (E, 0, (i : Int))
  | n + 1, i => if offMonth (i - fm) (bt s ((i : Int) - 1)) (bt s i) = true then (E, 0, (i : Int)) else if i + 1 < fm + 4 then mon s fm n (i + 1) else (s.extract fm (i + 1), ((i + 1 : Nat) : Int), -1)
def sev (s : ByteArray) (fm : Nat) : Nat → Nat → ByteArray × Int × Int
  | 0, i => (E, 0, (i : Int))
  | n + 1, i => if dg (bt s i) = false then (E, 0, (i : Int)) else if i + 1 < fm + 3 then sev s fm n (i + 1) else (s.extract fm (i + 1), ((i + 1 : Nat) : Int), -1)

theorem mon_ev (s : ByteArray) (hs : s.size ≤ 37) (fm : Nat) : ∀ n i, n + i = s.size → fm ≤ i → i < fm + 4 → (fm + 2 < i → bt s ((fm : Int) + 2) = 48 ∨ bt s ((fm : Int) + 2) = 49) →
    Ev (fun k => turnstileref5_part.l0 k s fm 4 ((i - fm : Nat) : Int)) (mon s fm n i) := by
  intro n
  induction n with
  | zero =>
    intro i hn hf hlt hp
    refine Ev.step (f := fun _ => some (E, 0, (i : Int))) (fun k => ?_) (Ev.now _)
    have e : wrap64 ((fm : Int) + ((i - fm : Nat) : Int)) = i := by rw [w64 (by omega) (by omega)]; omega
    simp only [turnstileref5_part.l0]
    rw [if_pos (by omega), e, if_pos (by omega)]
    have : (s.size : Int) = i := by omega
    rw [this]
  | succ n ih =>
    intro i hn hf hlt hp
    have e : wrap64 ((fm : Int) + ((i - fm : Nat) : Int)) = i := by rw [w64 (by omega) (by omega)]; omega
    have e1 : wrap64 (((i - fm : Nat) : Int) + 1) = ((i + 1 - fm : Nat) : Int) := by rw [w64 (by omega) (by omega)]; omega
    have e2 : wrap64 ((fm : Int) + 2) = (fm : Int) + 2 := by rw [w64 (by omega) (by omega)]
    have hd := digit_f (bt s i)
    have no : offMonth (i - fm) (bt s ((i : Int) - 1)) (bt s i) = true → Ev (fun _ : Nat => some (E, (0 : Int), wrap64 ((fm : Int) + ((i - fm : Nat) : Int)))) (mon s fm (n + 1) i) := by
      intro h
      rw [mon, if_pos h]
      simp only [e]
      exact Ev.now _
    have yes : ¬ offMonth (i - fm) (bt s ((i : Int) - 1)) (bt s i) = true → (i - fm = 2 → bt s i = 48 ∨ bt s i = 49) → Ev (fun k => turnstileref5_part.l0 k s fm 4 (wrap64 (((i - fm : Nat) : Int) + 1))) (mon s fm (n + 1) i) := by
      intro h h2
      rw [mon, if_neg h]
      simp only [e1]
      by_cases h4 : i + 1 < fm + 4
      · rw [if_pos h4]
        refine ih (i + 1) (by omega) (by omega) h4 (fun h => ?_)
        have : (i : Int) = (fm : Int) + 2 := by omega
        rw [← this]
        exact h2 (by omega)
      · rw [if_neg h4]
        have hi : i = fm + 3 := by omega
        refine Ev.step (f := fun _ => some (s.extract fm (i + 1), ((i + 1 : Nat) : Int), -1)) (fun k => ?_) (Ev.now _)
        have e4 : wrap64 ((fm : Int) + 4) = ((i + 1 : Nat) : Int) := by rw [w64 (by omega) (by omega)]; omega
        simp only [turnstileref5_part.l0]
        rw [if_neg (by omega), if_pos (by omega), e4, if_pos (by omega), if_pos (by omega), Int.toNat_natCast, Int.toNat_natCast]
    have j4 : ∀ c is_, (is_ = true → Ev (fun k => turnstileref5_part.l0 k s fm 4 (wrap64 (((i - fm : Nat) : Int) + 1))) (mon s fm (n + 1) i)) → (is_ = false → Ev (fun _ : Nat => some (E, (0 : Int), wrap64 ((fm : Int) + ((i - fm : Nat) : Int)))) (mon s fm (n + 1) i)) →
        Ev (fun k => turnstileref5_part.j4 k s fm 4 ((i - fm : Nat) : Int) c is_ false) (mon s fm (n + 1) i) := by
      intro c is_ hy hn
      cases is_ with
      | true =>
        refine Ev.step (fun k => ?_) (hy rfl)
        simp only [turnstileref5_part.j4]
        rw [if_neg (by decide), if_pos trivial]
      | false =>
        refine Ev.step (fun k => ?_) (hn rfl)
        simp only [turnstileref5_part.j4]
        rw [if_neg (by decide), if_neg (by decide)]
    have l0 : ∀ b : Bool, ((((i - fm : Nat) : Int)) == 2) = b → Ev (fun k => turnstileref5_part.j2 k s fm 4 ((i - fm : Nat) : Int) (bt s i) (dg (bt s i)) b) (mon s fm (n + 1) i) → Ev (fun k => turnstileref5_part.l0 k s fm 4 ((i - fm : Nat) : Int)) (mon s fm (n + 1) i) := by
      intro b hb h
      refine Ev.step (fun k => ?_) h
      simp only [turnstileref5_part.l0]
      rw [if_pos (by omega), e, if_neg (by omega), if_pos (by omega), if_pos (by omega), hd, hb]
      simp only [Option.bind_some, if_true]
    have hprev : i - fm = 3 → bt s ((i : Int) - 1) = bt s ((fm : Int) + 2) := fun h => by
      have : (i : Int) - 1 = (fm : Int) + 2 := by omega
      rw [this]
    generalize hc : bt s (i : Int) = c at *
    by_cases h2 : i - fm = 2
    · refine l0 true (beq_iff_eq.mpr (by omega)) ?_
      have J : ∀ is_, is_ = (decide (c = 48) || decide (c = 49)) → Ev (fun k => turnstileref5_part.j3 k s fm 4 ((i - fm : Nat) : Int) c is_) (mon s fm (n + 1) i) := by
        intro is_ his
        refine Ev.step (f := fun k => turnstileref5_part.j4 k s fm 4 ((i - fm : Nat) : Int) c is_ false) (fun k => ?_) (j4 c is_ (fun h => ?_) (fun h => ?_))
        · simp only [turnstileref5_part.j3, if_true]
          rw [if_neg (by omega)]
        · rw [h] at his
          have hcc : c = 48 ∨ c = 49 := by simpa using his.symm
          have hdc : dg c = true := by simp [dg]; omega
          exact yes (by rw [h2]; exact off_2 hdc (by simp; omega)) (fun _ => hcc)
        · rw [h] at his
          have hcc : ¬ c = 48 ∧ ¬ c = 49 := by simpa using his.symm
          refine no ?_
          rw [h2]
          cases hdc : dg c with
          | false => exact off_no hdc
          | true => exact off_2n hdc (by have := dg_yes hdc; simp; omega)
      by_cases a : c = 48
      · refine Ev.step (fun k => ?_) (J true (by simp [a]))
        simp only [turnstileref5_part.j2, if_true]
        rw [if_pos a]
      · refine Ev.step (fun k => ?_) (J (c == 49) (by simp [a]; rfl))
        simp only [turnstileref5_part.j2, if_true]
        rw [if_neg a]
    · refine l0 false (beq_eq_false_iff_ne.mpr (by omega)) ?_
      by_cases h3 : i - fm = 3
      · refine Ev.step (f := fun k => turnstileref5_part.j3 k s fm 4 ((i - fm : Nat) : Int) c (dg c)) (fun k => by simp only [turnstileref5_part.j2]; rw [if_neg (by decide)]) ?_
        refine Ev.step (f := fun k => turnstileref5_part.j4 k s fm 4 ((i - fm : Nat) : Int) c (dg c) (dg c)) (fun k => by simp only [turnstileref5_part.j3, if_true]; rw [if_pos (by omega)]) ?_
        have hm := hp (by omega)
        have hpv := hprev h3
        cases hdc : dg c with
        | false => exact j4 c false (fun h => by cases h) (fun _ => no (off_no hdc))
        | true =>
          have cd := dg_yes hdc
          have red : ∀ k, turnstileref5_part.j4 (k + 1) s fm 4 ((i - fm : Nat) : Int) c true true = if bt s ((fm : Int) + 2) = 48 then (if c = 48 then (if bt s ((fm : Int) + 2) = 49 then (if c ≤ 50 then turnstileref5_part.l0 k s fm 4 (wrap64 (((i - fm : Nat) : Int) + 1)) else some (E, 0, wrap64 ((fm : Int) + ((i - fm : Nat) : Int)))) else some (E, 0, wrap64 ((fm : Int) + ((i - fm : Nat) : Int)))) else turnstileref5_part.l0 k s fm 4 (wrap64 (((i - fm : Nat) : Int) + 1))) else (if bt s ((fm : Int) + 2) = 49 then (if c ≤ 50 then turnstileref5_part.l0 k s fm 4 (wrap64 (((i - fm : Nat) : Int) + 1)) else some (E, 0, wrap64 ((fm : Int) + ((i - fm : Nat) : Int)))) else some (E, 0, wrap64 ((fm : Int) + ((i - fm : Nat) : Int)))) := by
            intro k
            simp only [turnstileref5_part.j4, if_true, e2]
            rw [if_pos (by omega), if_pos (by omega)]
          have no' : offMonth 3 (bt s ((fm : Int) + 2)) c = true → Ev (fun _ : Nat => some (E, (0 : Int), wrap64 ((fm : Int) + ((i - fm : Nat) : Int)))) (mon s fm (n + 1) i) := fun h => no (by rw [h3, hpv]; exact h)
          have yes' : ¬ offMonth 3 (bt s ((fm : Int) + 2)) c = true → Ev (fun k => turnstileref5_part.l0 k s fm 4 (wrap64 (((i - fm : Nat) : Int) + 1))) (mon s fm (n + 1) i) := fun h => yes (by rw [h3, hpv]; exact h) (fun h' => absurd h' h2)
          clear yes no
          generalize bt s ((fm : Int) + 2) = p at *
          rcases hm with hm | hm
          · by_cases a : c = 48
            · refine Ev.step (fun k => ?_) (no' (off_3a hdc (beq_iff_eq.mpr hm) (beq_iff_eq.mpr a)))
              rw [red, if_pos hm, if_pos a, if_neg (by omega)]
            · refine Ev.step (fun k => ?_) (yes' (off_3b hdc (beq_iff_eq.mpr hm) (beq_eq_false_iff_ne.mpr a)))
              rw [red, if_pos hm, if_neg a]
          · by_cases a : c ≤ 50
            · refine Ev.step (fun k => ?_) (yes' (off_3d hdc (beq_iff_eq.mpr hm) (by simp; omega)))
              rw [red, if_neg (by omega), if_pos hm, if_pos a]
            · refine Ev.step (fun k => ?_) (no' (off_3c hdc (beq_iff_eq.mpr hm) (by simp; omega)))
              rw [red, if_neg (by omega), if_pos hm, if_neg a]
      · refine Ev.step (f := fun k => turnstileref5_part.j3 k s fm 4 ((i - fm : Nat) : Int) c (dg c)) (fun k => by simp only [turnstileref5_part.j2]; rw [if_neg (by decide)]) ?_
        refine Ev.step (f := fun k => turnstileref5_part.j4 k s fm 4 ((i - fm : Nat) : Int) c (dg c) false) (fun k => by simp only [turnstileref5_part.j3, if_true]; rw [if_neg (by omega)]) ?_
        refine j4 c (dg c) (fun h => yes ?_ (fun h' => absurd h' h2)) (fun h => no (off_no h))
        obtain h0 | h1 : i - fm = 0 ∨ i - fm = 1 := by omega
        · rw [h0]; exact off_0 h
        · rw [h1]; exact off_1 h

theorem sev_ev (s : ByteArray) (hs : s.size ≤ 37) (fm : Nat) : ∀ n i, n + i = s.size → fm ≤ i → i < fm + 3 →
    Ev (fun k => turnstileref5_part.l0 k s fm 3 ((i - fm : Nat) : Int)) (sev s fm n i) := by
  intro n
  induction n with
  | zero =>
    intro i hn hf hlt
    refine Ev.step (f := fun _ => some (E, 0, (i : Int))) (fun k => ?_) (Ev.now _)
    have e : wrap64 ((fm : Int) + ((i - fm : Nat) : Int)) = i := by rw [w64 (by omega) (by omega)]; omega
    simp only [turnstileref5_part.l0]
    rw [if_pos (by omega), e, if_pos (by omega)]
    have : (s.size : Int) = i := by omega
    rw [this]
  | succ n ih =>
    intro i hn hf hlt
    have e : wrap64 ((fm : Int) + ((i - fm : Nat) : Int)) = i := by rw [w64 (by omega) (by omega)]; omega
    have e1 : wrap64 (((i - fm : Nat) : Int) + 1) = ((i + 1 - fm : Nat) : Int) := by rw [w64 (by omega) (by omega)]; omega
    have hd := digit_f (bt s i)
    refine Ev.step (f := fun k => turnstileref5_part.j2 k s fm 3 ((i - fm : Nat) : Int) (bt s i) (dg (bt s i)) false) (fun k => ?_) ?_
    · simp only [turnstileref5_part.l0]
      rw [if_pos (by omega), e, if_neg (by omega), if_pos (by omega), if_pos (by omega), hd]
      simp only [Option.bind_some]
      rw [if_neg (by decide)]
    refine Ev.step (f := fun k => turnstileref5_part.j3 k s fm 3 ((i - fm : Nat) : Int) (bt s i) (dg (bt s i))) (fun k => by simp only [turnstileref5_part.j2]; rw [if_neg (by decide)]) ?_
    refine Ev.step (f := fun k => turnstileref5_part.j4 k s fm 3 ((i - fm : Nat) : Int) (bt s i) (dg (bt s i)) false) (fun k => by simp only [turnstileref5_part.j3]; rw [if_neg (by decide)]) ?_
    refine Ev.step (f := fun k => if dg (bt s i) = true then turnstileref5_part.l0 k s fm 3 (wrap64 (((i - fm : Nat) : Int) + 1)) else some (E, 0, wrap64 ((fm : Int) + ((i - fm : Nat) : Int)))) (fun k => by simp only [turnstileref5_part.j4]; rw [if_neg (by decide)]) ?_
    rw [sev]
    cases hd : dg (bt s i) with
    | false =>
      rw [if_pos rfl, e]
      exact Ev.now _
    | true =>
      rw [if_neg (by decide)]
      simp only [if_true, e1]
      by_cases h4 : i + 1 < fm + 3
      · rw [if_pos h4]
        exact ih (i + 1) (by omega) (by omega) h4
      · rw [if_neg h4]
        refine Ev.step (f := fun _ => some (s.extract fm (i + 1), ((i + 1 : Nat) : Int), -1)) (fun k => ?_) (Ev.now _)
        have e4 : wrap64 ((fm : Int) + 3) = ((i + 1 : Nat) : Int) := by rw [w64 (by omega) (by omega)]; omega
        simp only [turnstileref5_part.l0]
        rw [if_neg (by omega), if_pos (by omega), e4, if_pos (by omega), if_pos (by omega), Int.toNat_natCast, Int.toNat_natCast]

/-- part, from its first place on. -/
def prt (s : ByteArray) (fm : Nat) (p : ByteArray × Int × Int) (n : Nat) : ByteArray × Int × Int := if n ≠ 0 ∧ bt s fm = 61 then (E, ((fm + 1 : Nat) : Int), -1) else p
theorem prt_ev (s : ByteArray) (hs : s.size ≤ 37) (fm n : Nat) (hn : n + fm = s.size) (many : Int) (p : ByteArray × Int × Int) (hp : Ev (fun k => turnstileref5_part.l0 k s fm many 0) p) :
    Ev (fun k => turnstileref5_part.f k s fm many) (prt s fm p n) := by
  unfold prt
  by_cases hz : n = 0
  · rw [if_neg (by omega)]
    refine Ev.congr (f := fun k => turnstileref5_part.j0 k s fm many false) (fun k => ?_) (Ev.step (fun k => ?_) hp)
    · unfold turnstileref5_part.f
      rw [if_neg (by omega)]
    · simp only [turnstileref5_part.j0]
      rw [if_neg (by decide)]
  · by_cases h61 : bt s fm = 61
    · rw [if_pos ⟨hz, h61⟩]
      refine Ev.congr (f := fun k => turnstileref5_part.j0 k s fm many true) (fun k => ?_) (Ev.step (fun k => ?_) (Ev.now _))
      · unfold turnstileref5_part.f
        rw [if_pos (by omega), if_pos (by omega), beq_iff_eq.mpr h61]
      · simp only [turnstileref5_part.j0, if_true]
        rw [w64 (by omega) (by omega)]
        rfl
    · rw [if_neg (fun h => h61 h.2)]
      refine Ev.congr (f := fun k => turnstileref5_part.j0 k s fm many false) (fun k => ?_) (Ev.step (fun k => ?_) hp)
      · unfold turnstileref5_part.f
        rw [if_pos (by omega), if_pos (by omega), beq_eq_false_iff_ne.mpr h61]
      · simp only [turnstileref5_part.j0]
        rw [if_neg (by decide)]

/-- What stands where part's answer is a fault, or goes on. -/
def goOn (p : ByteArray × Int × Int) (f : ByteArray → Nat → Res) : Res := if p.2.2 ≥ 0 then (E, E, E, E, 52, p.2.2) else f p.1 p.2.1.toNat
theorem serv_go (s pn ex : ByteArray) (fm : Nat) : ∀ n i, n + i = s.size → fm < i → serv s pn ex fm n i = goOn (sev s fm n i) (fun sv j => rest s pn ex sv j (s.size - j) j) := by
  intro n
  induction n with
  | zero => intro i _ _; simp [serv, sev, goOn, bad]
  | succ n ih =>
    intro i hn hfi
    rw [serv, sev, if_neg (by omega)]
    by_cases h1 : dg (bt s i) = false
    · rw [if_pos h1, if_pos h1]; simp [goOn, bad]
    · rw [if_neg h1, if_neg h1]
      by_cases h2 : i + 1 < fm + 3
      · rw [if_pos h2, if_pos h2]; exact ih (i + 1) (by omega) (by omega)
      · rw [if_neg h2, if_neg h2, goOn, if_neg (by simp)]
        simp only [Int.toNat_natCast]
        rw [show s.size - (i + 1) = n by omega]
theorem serv_top (s pn ex : ByteArray) (fm n : Nat) (hn : n + fm = s.size) : serv s pn ex fm n fm = goOn (prt s fm (sev s fm n fm) n) (fun sv j => rest s pn ex sv j (s.size - j) j) := by
  unfold prt
  cases n with
  | zero => simp [serv, sev, goOn, bad]
  | succ n =>
    rw [serv]
    by_cases h61 : bt s fm = 61
    · rw [if_pos ⟨rfl, h61⟩, if_pos ⟨by omega, h61⟩, goOn, if_neg (by simp)]
      simp only [Int.toNat_natCast]
      rw [show s.size - (fm + 1) = n by omega]
    · rw [if_neg (show ¬ (fm = fm ∧ bt s fm = 61) from fun h => h61 h.2), if_neg (show ¬ (n + 1 ≠ 0 ∧ bt s fm = 61) from fun h => h61 h.2), sev]
      by_cases h1 : dg (bt s fm) = false
      · rw [if_pos h1, if_pos h1]; simp [goOn, bad]
      · rw [if_neg h1, if_neg h1, if_pos (by omega), if_pos (by omega)]
        exact serv_go s pn ex fm n (fm + 1) (by omega) (by omega)
theorem expi_go (s pn : ByteArray) (fm : Nat) : ∀ n i, n + i = s.size → fm < i → expi s pn fm n i = goOn (mon s fm n i) (fun ex j => serv s pn ex j (s.size - j) j) := by
  intro n
  induction n with
  | zero => intro i _ _; simp [expi, mon, goOn, bad]
  | succ n ih =>
    intro i hn hfi
    rw [expi, mon, if_neg (by omega)]
    by_cases h1 : offMonth (i - fm) (bt s ((i : Int) - 1)) (bt s i) = true
    · rw [if_pos h1, if_pos h1]; simp [goOn, bad]
    · rw [if_neg h1, if_neg h1]
      by_cases h2 : i + 1 < fm + 4
      · rw [if_pos h2, if_pos h2]; exact ih (i + 1) (by omega) (by omega)
      · rw [if_neg h2, if_neg h2, goOn, if_neg (by simp)]
        simp only [Int.toNat_natCast]
        rw [show s.size - (i + 1) = n by omega]
theorem expi_top (s pn : ByteArray) (fm n : Nat) (hn : n + fm = s.size) : expi s pn fm n fm = goOn (prt s fm (mon s fm n fm) n) (fun ex j => serv s pn ex j (s.size - j) j) := by
  unfold prt
  cases n with
  | zero => simp [expi, mon, goOn, bad]
  | succ n =>
    rw [expi]
    by_cases h61 : bt s fm = 61
    · rw [if_pos ⟨rfl, h61⟩, if_pos ⟨by omega, h61⟩, goOn, if_neg (by simp)]
      simp only [Int.toNat_natCast]
      rw [show s.size - (fm + 1) = n by omega]
    · rw [if_neg (show ¬ (fm = fm ∧ bt s fm = 61) from fun h => h61 h.2), if_neg (show ¬ (n + 1 ≠ 0 ∧ bt s fm = 61) from fun h => h61 h.2), mon]
      by_cases h1 : offMonth (fm - fm) (bt s ((fm : Int) - 1)) (bt s fm) = true
      · rw [if_pos h1, if_pos h1]; simp [goOn, bad]
      · rw [if_neg h1, if_neg h1, if_pos (by omega), if_pos (by omega)]
        exact expi_go s pn fm n (fm + 1) (by omega) (by omega)
/-- Where part goes on it is at a place within the text. -/
theorem mon_place (s : ByteArray) (fm : Nat) : ∀ n i, n + i = s.size → (mon s fm n i).2.2 ≥ 0 ∨ ∃ j : Nat, (mon s fm n i).2.1 = j ∧ j ≤ s.size := by
  intro n
  induction n with
  | zero => intro i _; exact .inl (by simp [mon])
  | succ n ih =>
    intro i hn
    rw [mon]
    split
    · exact .inl (by simp)
    · split
      · exact ih (i + 1) (by omega)
      · exact .inr ⟨i + 1, rfl, by omega⟩
theorem sev_place (s : ByteArray) (fm : Nat) : ∀ n i, n + i = s.size → (sev s fm n i).2.2 ≥ 0 ∨ ∃ j : Nat, (sev s fm n i).2.1 = j ∧ j ≤ s.size := by
  intro n
  induction n with
  | zero => intro i _; exact .inl (by simp [sev])
  | succ n ih =>
    intro i hn
    rw [sev]
    split
    · exact .inl (by simp)
    · split
      · exact ih (i + 1) (by omega)
      · exact .inr ⟨i + 1, rfl, by omega⟩
theorem prt_place {s : ByteArray} {fm n : Nat} (hn : n + fm = s.size) {p : ByteArray × Int × Int} (h : p.2.2 ≥ 0 ∨ ∃ j : Nat, p.2.1 = j ∧ j ≤ s.size) : (prt s fm p n).2.2 ≥ 0 ∨ ∃ j : Nat, (prt s fm p n).2.1 = j ∧ j ≤ s.size := by
  unfold prt
  split
  · exact .inr ⟨fm + 1, rfl, by omega⟩
  · exact h
theorem rest_ev (s : ByteArray) (hs : s.size ≤ 37) (x : Nat) (hx : x ≤ s.size) (ex sv : ByteArray) (fm : Nat) (hfm : fm ≤ s.size) : ∀ n i, n + i = s.size → Ev (fun k => turnstileref5_ReadTrack.l1 k s x ex fm sv i) (rest s (s.extract 0 x) ex sv fm n i) := by
  intro n
  induction n with
  | zero =>
    intro i hn
    refine Ev.step (f := fun _ => some (s.extract 0 x, ex, sv, s.extract fm s.size, 0, 0)) (fun k => ?_) (Ev.now _)
    simp only [turnstileref5_ReadTrack.l1]
    rw [if_neg (by omega), if_pos (by omega), if_pos (by omega), if_pos (by omega), if_pos (by omega), Int.toNat_natCast, Int.toNat_natCast]
  | succ n ih =>
    intro i hn
    have hd := digit_f (bt s i)
    rw [rest]
    cases h : dg (bt s i) with
    | true =>
      rw [if_pos rfl]
      refine Ev.step (fun k => ?_) (ih (i + 1) (by omega))
      simp only [turnstileref5_ReadTrack.l1]
      rw [if_pos (by omega), if_pos (by omega), hd, h]
      simp only [Option.bind_some, if_true]
      rw [w64 (by omega) (by omega)]
      rfl
    | false =>
      rw [if_neg (by decide)]
      refine Ev.step (f := fun _ => some (bad i)) (fun k => ?_) (Ev.now _)
      simp only [turnstileref5_ReadTrack.l1]
      rw [if_pos (by omega), if_pos (by omega), hd, h]
      rfl
theorem j2_ev (s : ByteArray) (hs : s.size ≤ 37) (x n : Nat) (hx : n + 1 + x = s.size) : Ev (fun k => turnstileref5_ReadTrack.j2 k s x false) (expi s (s.extract 0 x) (x + 1) n (x + 1)) := by
  have hp : Ev (fun k => turnstileref5_part.f k s ((x + 1 : Nat) : Int) 4) (prt s (x + 1) (mon s (x + 1) n (x + 1)) n) :=
    prt_ev s hs (x + 1) n (by omega) 4 _ (by have := mon_ev s hs (x + 1) n (x + 1) (by omega) (by omega) (by omega) (by omega); simpa using this)
  rw [expi_top s _ (x + 1) n (by omega)]
  have hpl := prt_place (s := s) (fm := x + 1) (n := n) (by omega) (mon_place s (x + 1) n (x + 1) (by omega))
  generalize prt s (x + 1) (mon s (x + 1) n (x + 1)) n = p at hp hpl
  refine Ev.step (f := fun k => (turnstileref5_part.f k s ((x + 1 : Nat) : Int) 4).bind fun bt114 => (if bt114.2.2 ≥ 0 then (some ((⟨#[]⟩ : ByteArray), (⟨#[]⟩ : ByteArray), (⟨#[]⟩ : ByteArray), (⟨#[]⟩ : ByteArray), 52, bt114.2.2)) else ((turnstileref5_part.f k s bt114.2.1 3).bind fun bt117 => (if bt117.2.2 ≥ 0 then (some ((⟨#[]⟩ : ByteArray), (⟨#[]⟩ : ByteArray), (⟨#[]⟩ : ByteArray), (⟨#[]⟩ : ByteArray), 52, bt117.2.2)) else (turnstileref5_ReadTrack.l1 k s x bt114.1 bt117.2.1 bt117.1 bt117.2.1))))) (fun k => ?_) (Ev.bind hp ?_)
  · simp only [turnstileref5_ReadTrack.j2]
    rw [if_neg (by decide), w64 (by omega) (by omega)]
    rfl
  · unfold goOn
    by_cases hb : p.2.2 ≥ 0
    · simp only [if_pos hb]
      exact Ev.now _
    · simp only [if_neg hb]
      obtain ⟨j, hj, hjs⟩ := hpl.resolve_left hb
      rw [hj, Int.toNat_natCast, serv_top s _ _ j (s.size - j) (by omega)]
      have hq : Ev (fun k => turnstileref5_part.f k s (j : Int) 3) (prt s j (sev s j (s.size - j) j) (s.size - j)) :=
        prt_ev s hs j (s.size - j) (by omega) 3 _ (by have := sev_ev s hs j (s.size - j) j (by omega) (by omega) (by omega); simpa using this)
      have hql := prt_place (s := s) (fm := j) (n := s.size - j) (by omega) (sev_place s j (s.size - j) j (by omega))
      generalize prt s j (sev s j (s.size - j) j) (s.size - j) = q at hq hql
      refine Ev.bind hq ?_
      unfold goOn
      by_cases hb2 : q.2.2 ≥ 0
      · simp only [if_pos hb2]
        exact Ev.now _
      · simp only [if_neg hb2]
        obtain ⟨m, hm, hms⟩ := hql.resolve_left hb2
        rw [hm, Int.toNat_natCast]
        exact rest_ev s hs x (by omega) _ _ m hms (s.size - m) m (by omega)
theorem l0_ev (s : ByteArray) (hs : s.size ≤ 37) : ∀ n i, n + i = s.size → i ≤ 19 → Ev (fun k => turnstileref5_ReadTrack.l0 k s i) (pan s n i) := by
  intro n
  induction n with
  | zero =>
    intro i hn hi
    have hb : Ev (fun k => turnstileref5_ReadTrack.j2 k s i true) (bad i) := Ev.step (f := fun _ => some (bad i)) (fun k => by simp only [turnstileref5_ReadTrack.j2, if_true]; rfl) (Ev.now _)
    refine Ev.step (f := fun k => turnstileref5_ReadTrack.j1 k s i) (fun k => ?_) (Ev.step (fun k => ?_) hb)
    · simp only [turnstileref5_ReadTrack.l0]
      rw [if_neg (by omega)]
    · simp only [turnstileref5_ReadTrack.j1]
      by_cases hz : i = 0
      · rw [if_pos (by omega)]
      · rw [if_neg (by omega), if_pos (by omega)]
  | succ n ih =>
    intro i hn hi
    have hd := digit_f (bt s i)
    rw [pan]
    by_cases h0 : dg (bt s i) = true ∧ i < 19
    · rw [if_pos h0]
      refine Ev.step (fun k => ?_) (ih (i + 1) (by omega) (by omega))
      simp only [turnstileref5_ReadTrack.l0]
      rw [if_pos (by omega), if_pos (by omega), if_pos (by omega), hd, h0.1]
      simp only [Option.bind_some, if_true]
      rw [w64 (by omega) (by omega)]
      rfl
    · rw [if_neg h0]
      refine Ev.step (f := fun k => turnstileref5_ReadTrack.j1 k s i) (fun k => ?_) ?_
      · simp only [turnstileref5_ReadTrack.l0]
        rw [if_pos (by omega)]
        by_cases h19 : i < 19
        · rw [if_pos (by omega), if_pos (by omega), hd]
          have : dg (bt s i) = false := by
            cases h : dg (bt s i) with
            | false => rfl
            | true => exact absurd ⟨h, h19⟩ h0
          rw [this]
          simp
        · rw [if_neg (by omega)]
      · by_cases hz : i = 0
        · rw [if_pos (.inr hz)]
          refine Ev.step (f := fun k => turnstileref5_ReadTrack.j2 k s i true) (fun k => ?_) (Ev.step (f := fun _ => some (bad i)) (fun k => by simp only [turnstileref5_ReadTrack.j2, if_true]; rfl) (Ev.now _))
          simp only [turnstileref5_ReadTrack.j1]
          rw [if_pos (by omega)]
        · by_cases h61 : bt s i = 61
          · rw [if_neg (by omega)]
            refine Ev.step (fun k => ?_) (j2_ev s hs i n (by omega))
            simp only [turnstileref5_ReadTrack.j1]
            rw [if_neg (by omega), if_neg (by omega), if_pos (by omega), if_pos (by omega), bne_eq_false_iff_eq.mpr h61]
          · rw [if_pos (.inl h61)]
            refine Ev.step (f := fun k => turnstileref5_ReadTrack.j2 k s i true) (fun k => ?_) (Ev.step (f := fun _ => some (bad i)) (fun k => by simp only [turnstileref5_ReadTrack.j2, if_true]; rfl) (Ev.now _))
            simp only [turnstileref5_ReadTrack.j1]
            rw [if_neg (by omega), if_neg (by omega), if_pos (by omega), if_pos (by omega), bne_iff_ne.mpr h61]

/-- The document's ReadTrack answers what read answers. -/
theorem ref_read (s : ByteArray) : Ev (fun k => turnstileref5_ReadTrack.f k s) (CardRead.read s) := by
  unfold CardRead.read
  by_cases h : 37 < s.size
  · rw [if_pos h]
    refine Ev.congr (f := fun _ => some (bad 37)) (fun k => ?_) (Ev.now _)
    unfold turnstileref5_ReadTrack.f
    rw [if_pos (by omega)]
    rfl
  · rw [if_neg h]
    refine Ev.congr (fun k => ?_) (l0_ev s (by omega) s.size 0 (by omega) (by omega))
    unfold turnstileref5_ReadTrack.f
    rw [if_neg (by omega)]
    rfl
theorem examples_ev : Ev (fun k => turnstilelaw5_examples.f k) true := Ev.of (fun k => turnstilelaw5_examples.mono k) (k := 60) (by decide +kernel)
/-- Are all bytes digits? n of them are left, from the i-th on. -/
def alld (s : ByteArray) : Nat → Nat → Bool
  | 0, _ => true
  | n + 1, i => dg (bt s i) && alld s n (i + 1)
def digs (s : ByteArray) (a b : Int) : Bool := alld s s.size 0 && (decide (a ≤ s.size) && decide ((s.size : Int) ≤ b))
theorem alld_at {s : ByteArray} : ∀ n i, alld s n i = true → ∀ j : Nat, i ≤ j → j < i + n → dg (bt s j) = true := by
  intro n
  induction n with
  | zero => intro i _ j h1 h2; omega
  | succ n ih =>
    intro i h j h1 h2
    simp only [alld, Bool.and_eq_true] at h
    by_cases hj : j = i
    · rw [hj]; exact h.1
    · exact ih (i + 1) h.2 j (by omega) (by omega)
theorem alld_of {s : ByteArray} : ∀ n i, (∀ j : Nat, i ≤ j → j < i + n → dg (bt s j) = true) → alld s n i = true := by
  intro n
  induction n with
  | zero => intro i _; rfl
  | succ n ih =>
    intro i h
    simp only [alld, Bool.and_eq_true]
    exact ⟨h i (by omega) (by omega), ih (i + 1) (fun j h1 h2 => h j (by omega) (by omega))⟩
theorem digs_yes {s : ByteArray} {a b : Int} (h : digs s a b = true) : (a ≤ s.size ∧ (s.size : Int) ≤ b) ∧ ∀ j : Nat, j < s.size → dg (bt s j) = true := by
  simp only [digs, Bool.and_eq_true, decide_eq_true_eq] at h
  exact ⟨h.2, fun j hj => alld_at _ _ h.1 j (by omega) (by omega)⟩
theorem digs_of {s : ByteArray} {a b : Int} (h1 : a ≤ s.size) (h2 : (s.size : Int) ≤ b) (h : ∀ j : Nat, j < s.size → dg (bt s j) = true) : digs s a b = true := by
  simp only [digs, Bool.and_eq_true, decide_eq_true_eq]
  exact ⟨alld_of _ _ (fun j _ hj => h j (by omega)), h1, h2⟩
theorem w64s {x : Int} (h : 0 ≤ x) (h' : x ≤ 9223372036854775807) : wrap64 x = x := by unfold wrap64; omega
theorem cdigit_f (c : Int) : card_digit.f c = some (dg c) := by
  unfold card_digit.f dg
  by_cases h : 48 ≤ c
  · rw [if_pos h]; simp [h]
  · rw [if_neg h]; simp [h]
theorem card_digits_l0 (s : ByteArray) (hs : s.size ≤ 9223372036854775806) (a b : Int) : ∀ n i, n + i = s.size → Ev (fun k => card_digits.l0 k s a b (s.size : Int) i) (alld s n i && (decide (a ≤ s.size) && decide ((s.size : Int) ≤ b))) := by
  intro n
  induction n with
  | zero =>
    intro i hn
    refine Ev.step (f := fun _ => some (decide (a ≤ s.size) && decide ((s.size : Int) ≤ b))) (fun k => ?_) (by simpa [alld] using Ev.now _)
    simp only [card_digits.l0]
    rw [if_neg (by omega)]
    by_cases h : a ≤ s.size
    · rw [if_pos h]; simp [h]
    · rw [if_neg h]; simp [h]
  | succ n ih =>
    intro i hn
    rw [alld]
    cases h : dg (bt s i) with
    | true =>
      rw [Bool.true_and]
      refine Ev.step (fun k => ?_) (ih (i + 1) (by omega))
      simp only [card_digits.l0]
      rw [if_pos (by omega), if_pos (by omega), if_pos (by omega), cdigit_f, h]
      simp only [Option.bind_some, if_true]
      rw [w64s (by omega) (by omega)]
      rfl
    | false =>
      refine Ev.step (f := fun _ => some false) (fun k => ?_) (by simpa using Ev.now _)
      simp only [card_digits.l0]
      rw [if_pos (by omega), if_pos (by omega), if_pos (by omega), cdigit_f, h]
      simp
theorem card_digits_ev (s : ByteArray) (hs : s.size ≤ 9223372036854775806) (a b : Int) : Ev (fun k => card_digits.f k s a b) (digs s a b) := card_digits_l0 s hs a b s.size 0 (by omega)
end Go.Proofs.Ytammbclaejgkpaa.Pure
