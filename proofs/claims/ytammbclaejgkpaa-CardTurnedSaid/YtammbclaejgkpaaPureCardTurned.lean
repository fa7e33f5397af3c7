/- A plain law joined to the walk: CardTurned answers true, whatever numbers it is given. -/
import Derived.Test.YtammbclaejgkpaaPureT
namespace Go.Proofs.Ytammbclaejgkpaa.PureT
open Go Go.RowKit Go.Proofs.YtammbclaejgkpaaW.PrintWords Go.Proofs.YtammbclaejgkpaaW.PrintLast CardRead Go.Proofs.Ytammbclaejgkpaa.PureD
open Go.Proofs.Ytammbclaejgkpaa.Pure (B L B_L L_B L_size L_inj size_B)
open CardTurnedWalk (turned_calls)
theorem dgb {c : Int} (h : dg c = true) : 48 ≤ c ∧ c ≤ 57 := by simpa [dg] using h
theorem turned_walk (a0 : Option Addr) (len0 cap0 : Nat) (z0 : List Int) (a1 a2 a3 : Int) (w : World) (w0 : (a0 = none ∧ len0 = 0 ∧ cap0 = 0 ∧ z0 = []) ∨ ∃ x, a0 = some x ∧ len0 ≤ cap0 ∧ cap0 ≤ maxLen ∧ z0.length = cap0 ∧ (∀ i, i < z0.length → w.cell? (x.add i) = some (.int .i64 (z0.getD i 0))) ∧ ∀ n ∈ z0, (Lit.int .i64 n).wf = true) (w1 : (Lit.int .i64 a1).wf = true) (w2 : (Lit.int .i64 a2).wf = true) (w3 : (Lit.int .i64 a3).wf = true) :
    Calls Try.prog 7 #[.slice a0 len0 cap0, .int .i64 a1, .int .i64 a2, .int .i64 a3] w fun e w' => e = .returned (.bool true) ∧ Below w.heap.size w w' := by
  obtain ⟨l0, rfl, hr0, hm0, hw0, hc0⟩ := ReadsInt.ofRowC w0
  have r1 := pk_range a1 (n := 18) (by omega)
  obtain ⟨m, hm⟩ : ∃ m : Nat, (m : Int) = 1 + pk a1 18 := ⟨(1 + pk a1 18).toNat, by omega⟩
  obtain ⟨D, hDd⟩ : ∃ D, D = B (dl l0 m) := ⟨_, rfl⟩
  have hDs : D.size = m := by rw [hDd, size_B, dl_len]
  have hDg : ∀ j : Nat, j < m → dg (bt D j) = true := by
    intro j hj
    have hl : j < (L (B (dl l0 m))).length := by rw [L_B, dl_len]; exact hj
    rw [hDd, bt_L _ _ hl]
    refine dl_DL l0 m _ ?_
    simp only [L_B]
    exact List.getElem_mem _
  have hdigs : digs D 1 18 = true := digs_of (by omega) (by omega) (fun j hj => hDg j (by omega))
  have eD := digits_ev l0 hw0 m (by omega)
  rw [← hDd] at eD
  have eG := card_Digit_ev D (by omega)
  unfold digitR at eG
  rw [if_pos hdigs] at eG
  have hv := vd_lt D
  obtain ⟨c, hc⟩ : ∃ c, c = UInt8.ofNat (48 + vd D) := ⟨_, rfl⟩
  rw [← hc] at eG
  have hcn : c.toNat = 48 + vd D := by rw [hc, UInt8.toNat_ofNat']; omega
  obtain ⟨S, hS⟩ : ∃ S, S = D ++ B [c] := ⟨_, rfl⟩
  obtain ⟨n, hn⟩ : ∃ n, n = m + 1 := ⟨_, rfl⟩
  have hSs : S.size = n := by rw [hS, size_app, hDs, hn]
  have hSd : ∀ j : Nat, j < n → 48 ≤ bt S j ∧ bt S j ≤ 57 := by
    intro j hj
    by_cases h : j < m
    · rw [hS, bt_app_left _ _ _ (by omega)]
      exact dgb (hDg j h)
    · obtain rfl : j = D.size := by omega
      rw [hS, bt_app_last, hcn]
      omega
  have hSg : ∀ j : Nat, j < S.size → dg (bt S j) = true := by
    intro j hj
    have := hSd j (by omega)
    simp [dg]
    omega
  have hsum : sumTo S 1 n % 10 = 0 := by
    have := sum_app D c (by omega) D.size (by omega)
    rw [hn, ← hDs, hS, this, hcn]
    unfold vd
    omega
  have balS : bal S = true := by
    unfold bal
    rw [digs_of (by omega) (by omega) hSg, hSs, hsum]
    simp
    omega
  have eL3 := card_Luhn_ev S (by omega)
  rw [balS] at eL3
  have eR := card_Right_ev S (by omega)
  have hR : rightR S = if 12 ≤ n then 0 else 50 := by
    unfold rightR
    by_cases h : 12 ≤ n
    · rw [if_pos h, digs_of (by omega) (by omega) hSg, if_pos rfl, hSs, if_pos hsum]
    · rw [if_neg h, if_neg]
      intro h2
      have := (digs_yes h2).1
      omega
  rw [hR] at eR
  have r2 := pk_range a2 (n := (n : Int)) (by omega)
  obtain ⟨p2, hp2⟩ : ∃ p : Nat, (p : Int) = pk a2 n := ⟨(pk a2 n).toNat, by omega⟩
  have r3 := pk_range a3 (n := 9) (by omega)
  have r4 := pk_range a2 (n := (n : Int) - 1) (by omega)
  obtain ⟨p4, hp4⟩ : ∃ p : Nat, (p : Int) = pk a2 ((n : Int) - 1) := ⟨(pk a2 ((n : Int) - 1)).toNat, by omega⟩
  have d2 := hSd p2 (by omega)
  have d4 := hSd p4 (by omega)
  have d5 := hSd (p4 + 1) (by omega)
  obtain ⟨q, hq⟩ : ∃ q, q = bt S p2 - 48 := ⟨_, rfl⟩
  obtain ⟨q3, hq3⟩ : ∃ q3, q3 = (q + 1 + pk a3 9) % 10 := ⟨_, rfl⟩
  have hlb : (bytesOf S).length = n := by rw [bytesOf_length, hSs]
  have digT : ∀ xs : List Int, xs.length = n → (∀ i, i < n → 48 ≤ xs.getD i 0 ∧ xs.getD i 0 ≤ 57) → (∀ x ∈ xs, 0 ≤ x ∧ x < 256) → bal (strOfNums xs) = decide (sumTo (strOfNums xs) 1 n % 10 = 0) := by
    intro xs hl hx hx2
    unfold bal
    rw [size_str, hl, digs_of (by rw [size_str]; omega) (by rw [size_str]; omega) (fun j hj => by
      rw [size_str] at hj
      have := hx j (by omega)
      rw [bt_str xs hx2 j hj]
      simp only [dg, Bool.and_eq_true, decide_eq_true_eq]
      exact this)]
    simp
    omega
  -- one digit turned
  obtain ⟨xs1, hx1⟩ : ∃ xs, xs = (bytesOf S).set p2 (48 + q3) := ⟨_, rfl⟩
  have g1 : ∀ i, i < n → xs1.getD i 0 = if i = p2 then 48 + q3 else bt S i := by
    intro i hi
    rw [hx1, List.getD_eq_getElem?_getD]
    by_cases h : i = p2
    · subst h
      rw [List.getElem?_set_self (by omega), if_pos rfl, Option.getD_some]
    · rw [List.getElem?_set_ne (by omega), ← List.getD_eq_getElem?_getD, if_neg h, get_bytes]
  have x1r : ∀ x ∈ xs1, 0 ≤ x ∧ x < 256 := by rw [hx1]; exact set_range (bytes_range S) p2 _ (by omega)
  have x1l : xs1.length = n := by rw [hx1, List.length_set, hlb]
  have bal1 : bal (strOfNums xs1) = false := by
    rw [digT xs1 x1l (fun i hi => by rw [g1 i hi]; have := hSd i hi; split <;> omega) x1r]
    refine decide_eq_false ?_
    refine sum_one S (strOfNums xs1) n p2 hSs (by rw [size_str, x1l]) (by omega) (fun i hi hne => ?_) q q3 (by omega) ?_ (by omega) (by omega) (by omega) hsum
    · rw [bt_str xs1 x1r i (by omega), g1 i hi, if_neg hne]
    · rw [bt_str xs1 x1r p2 (by omega), g1 p2 (by omega), if_pos rfl]
  have eL1 := card_Luhn_ev (strOfNums xs1) (by rw [size_str]; omega)
  rw [bal1] at eL1
  -- two exchanged
  obtain ⟨xs2, hx2⟩ : ∃ xs, xs = ((bytesOf S).set p4 (bt S (p4 + 1 : Nat))).set (p4 + 1) (bt S p4) := ⟨_, rfl⟩
  have g2 : ∀ i, i < n → xs2.getD i 0 = if i = p4 + 1 then bt S p4 else if i = p4 then bt S (p4 + 1 : Nat) else bt S i := by
    intro i hi
    rw [hx2, List.getD_eq_getElem?_getD]
    by_cases h : i = p4 + 1
    · subst h
      rw [List.getElem?_set_self (by rw [List.length_set]; omega), if_pos rfl, Option.getD_some]
    · rw [List.getElem?_set_ne (by omega), if_neg h]
      by_cases h' : i = p4
      · subst h'
        rw [List.getElem?_set_self (by omega), if_pos rfl, Option.getD_some]
      · rw [List.getElem?_set_ne (by omega), ← List.getD_eq_getElem?_getD, if_neg h', get_bytes]
  have x2r : ∀ x ∈ xs2, 0 ≤ x ∧ x < 256 := by rw [hx2]; exact set_range (set_range (bytes_range S) p4 _ (by omega)) _ _ (by omega)
  have x2l : xs2.length = n := by rw [hx2, List.length_set, List.length_set, hlb]
  have bal2 : bal (strOfNums xs2) = (bt S p4 == bt S (p4 + 1 : Nat) || bt S p4 == 48 && bt S (p4 + 1 : Nat) == 57 || bt S p4 == 57 && bt S (p4 + 1 : Nat) == 48) := by
    rw [digT xs2 x2l (fun i hi => by rw [g2 i hi]; have := hSd i hi; split <;> (try split) <;> omega) x2r]
    have h2 := sum_two S (strOfNums xs2) n p4 hSs (by rw [size_str, x2l]) (by omega) (fun i hi h1 h2 => by rw [bt_str xs2 x2r i (by omega), g2 i hi, if_neg h2, if_neg h1]) (bt S p4 - 48) (bt S (p4 + 1 : Nat) - 48) (by omega) (by omega)
      (by rw [bt_str xs2 x2r (p4 + 1) (by omega), g2 _ (by omega), if_pos rfl]; omega) (by rw [bt_str xs2 x2r p4 (by omega), g2 _ (by omega), if_neg (by omega), if_pos rfl]; omega) (by omega) (by omega) hsum
    simp only [CardTurnedWalk.beqd]
    rw [Bool.eq_iff_iff, decide_eq_true_eq, h2]
    simp only [Bool.or_eq_true, Bool.and_eq_true, decide_eq_true_eq]
    omega
  have eL2 := card_Luhn_ev (strOfNums xs2) (by rw [size_str]; omega)
  obtain ⟨K0, f0⟩ := examples_ev
  obtain ⟨K1, f1⟩ := eD
  obtain ⟨K2, f2⟩ := eG
  obtain ⟨K3, f3⟩ := eL1
  obtain ⟨K4, f4⟩ := eL2
  obtain ⟨K5, f5⟩ := eL3
  obtain ⟨K6, f6⟩ := eR
  have hq0 : 0 ≤ q ∧ q < 10 := by omega
  have wr : ∀ x : Int, 0 ≤ x → x < 1000 → IntKind.i64.wrap x = x := fun x h1 h2 => IntWalk.i64_in _ (by omega)
  have wu : ∀ x : Int, 0 ≤ x → x < 256 → IntKind.u8.wrap x = x := fun x h1 h2 => by unfold IntKind.wrap; simp [IntKind.bits, IntKind.signed]; omega
  refine turned_calls (K0 + K1 + K2 + K3 + K4 + K5 + K6) _ _ l0 a1 a2 a3 w (Kd.C_of_reads (d := (0 : Int)) (h1 := fun _ => rfl) hr0) hc0 (pk a1 18) (pick_f a1 18 (by omega) w1) (wr _ (by omega) (by omega)) D ?_ (by omega)
    (f0 _ (by omega)) (B [c]) (f2 _ (by omega)) rfl S hS.symm n hSs (by omega) (by omega) p2 (by rw [hp2]; exact pick_f a2 n (by omega) w2) (by omega) (pk a3 9) (pick_f a3 9 (by omega) w3) p4 (by rw [hp4]; exact pick_f a2 _ (by omega) w2) (by omega)
    (bt S p2) q (q + 1) (q + 1 + pk a3 9) q3 (48 + q3) (48 + q3) (get_bytes S p2) (by rw [hq]; exact wu _ (by omega) (by omega)) (wr _ (by omega) (by omega)) (wr _ (by omega) (by omega)) (wr _ (by omega) (by omega)) (by rw [hq3]; exact Int.tmod_eq_emod_of_nonneg (by omega)) (wr _ (by omega) (by omega)) (wu _ (by omega) (by omega))
    (strOfNums xs1) (strOfNums xs2) (by rw [hx1]) (f3 _ (by omega)) (wr _ (by omega) (by omega)) (p4 + 1) (by omega) (by omega) (wr _ (by omega) (by omega)) (bt S p4) (bt S (p4 + 1 : Nat)) (get_bytes S p4) (get_bytes S (p4 + 1)) (by rw [hx2]) _ (f4 _ (by omega)) (f5 _ (by omega)) _ (f6 _ (by omega)) ⟨bal2⟩ ⟨?_⟩
  · rw [← hm]; exact f1 _ (by omega)
  · split <;> omega
end Go.Proofs.Ytammbclaejgkpaa.PureT
