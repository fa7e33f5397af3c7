/- The plain law: what ParseSub reads BuildSub builds as these bytes. -/
import Derived.Test.YtjbhhgecdcgpeaaTbJ
import Derived.Test.YtjbhhgecdcgpeaaTbC
namespace Go.Proofs.Ytjbhhgecdcgpeaa.Tb
open Go Go.RowKit Go.Proofs.YtjbhhgecdcgpeaaW.PrintWords Go.Proofs.YtjbhhgecdcgpeaaW.PrintLast Go.Proofs.YtjbhhgecdcgpeaaW.PrintMore Go.Proofs.Ytjbhhgecdcgpeaa.TA
set_option linter.unusedSimpArgs false
set_option linter.unusedVariables false
theorem badV_none : ∀ (v : ByteArray) (k : Nat) (i : Int), badV v k i = none → 0 ≤ i → i + k = v.size → (v.data.toList.drop i.toNat).any badC = false
  | v, 0, i, h, h0, hk => by
    rw [List.drop_eq_nil_of_le (by rw [data_length]; omega)]
    rfl
  | v, k + 1, i, h, h0, hk => by
    have hi : i.toNat < v.size := by omega
    unfold badV at h
    by_cases g1 : bt v i < 32
    · rw [if_pos g1] at h; cases h
    rw [if_neg g1] at h
    by_cases g2 : 126 < bt v i
    · rw [if_pos g2] at h; cases h
    rw [if_neg g2] at h
    have ih := badV_none v k (i + 1) h (by omega) (by omega)
    rw [List.drop_eq_getElem_cons (by rw [data_length]; exact hi), List.any_cons]
    rw [show (i + 1).toNat = i.toNat + 1 by omega] at ih
    rw [ih, Bool.or_false]
    have hb := bt_at v i hi
    show badC (v[i.toNat]'hi) = false
    unfold badC
    rw [decide_eq_false (by omega), decide_eq_false (by omega)]
    rfl
theorem u8_bt (b : ByteArray) (i : Int) (h : i.toNat < b.size) : UInt8.ofNat (bt b i).toNat = b[i.toNat]'h := by
  rw [← bt_at b i h]
  simp
theorem twoP_twoL {b : ByteArray} {at_ code n a : Int} (h : twoP b at_ code = .ok (n, a)) (h0 : 0 ≤ at_) : b.data.toList.drop at_.toNat = twoL n ++ b.data.toList.drop a.toNat := by
  have hk := twoP_ok h
  have e2 := hk.2.1
  have hi : at_.toNat < b.size := by omega
  have hj : (at_ + 1).toNat < b.size := by omega
  unfold twoP at h
  split at h
  · cases h
  rename_i d a1 h1
  split at h
  · cases h
  rename_i d2 a3 h2
  injection h with h
  injection h with h3 h4
  have k1 := digitP_ok h1
  have k2 := digitP_ok h2
  have v1 : d = bt b at_ - 48 := by
    unfold digitP at h1
    repeat' split at h1
    all_goals first | (cases h1; done) | (injection h1 with h1; injection h1 with h5 h6; omega)
  have v2 : d2 = bt b a1 - 48 := by
    unfold digitP at h2
    repeat' split at h2
    all_goals first | (cases h2; done) | (injection h2 with h2; injection h2 with h5 h6; omega)
  have ea : a1 = at_ + 1 := k1.2.1
  subst ea
  have q1 : 48 + n / 10 = bt b at_ := by omega
  have q2 : 48 + n % 10 = bt b (at_ + 1) := by omega
  unfold twoL
  rw [q1, q2, u8_bt b at_ hi, u8_bt b (at_ + 1) hj, e2]
  rw [List.drop_eq_getElem_cons (by rw [data_length]; exact hi), show (at_ + 2).toNat = at_.toNat + 1 + 1 by omega]
  rw [List.drop_eq_getElem_cons (show at_.toNat + 1 < b.data.toList.length by rw [data_length]; omega)]
  have e3 : (at_ + 1).toNat = at_.toNat + 1 := by omega
  simp only [e3]
  rfl
theorem subErr_none {i : Int} {t : Int} {v : ByteArray} (h0 : ¬ i = 500) (h1 : 0 ≤ t) (h2 : t ≤ 99) (h3 : v.size ≤ 99) (h4 : badL v = false) : subErr i ⟨t, v, []⟩ = none := by
  unfold subErr
  rw [if_neg h0, if_neg (by show ¬ t < 0; omega), if_neg (by show ¬ 99 < t; omega), if_neg (by simp), if_neg (by show ¬ 99 < v.size; omega), if_neg (by show ¬ badL v = true; rw [h4]; decide)]
theorem subs_back : ∀ (k : Nat) {b : ByteArray} {at_ : Int} {m : Nat} {l : List S43}, subsP k b at_ m = some (.ok l) → 0 ≤ at_ → at_ ≤ b.size → b.size ≤ 9999 → ∀ acc : List UInt8, bsP l m acc = .ok (acc ++ b.data.toList.drop at_.toNat)
  | 0, _, _, _, _, h, _, _, _ => by simp [subsP] at h
  | k + 1, b, at_, m, l, h, h0, h1, hs => by
    intro acc
    by_cases g1 : at_ < b.size
    case neg =>
      rw [subsP_end g1] at h
      injection h with h
      injection h with h
      subst h
      rw [List.drop_eq_nil_of_le (by rw [data_length]; omega), List.append_nil]
      rfl
    by_cases g2 : m = 500
    · rw [subsP_many g1 g2] at h; cases h
    cases ht : twoP b at_ 90 with
    | error x => rw [subsP_tag g1 g2 ht] at h; cases h
    | ok ta =>
    obtain ⟨t, a2⟩ := ta
    have k1 := twoP_ok ht
    have d1 := twoP_twoL ht h0
    cases hl : twoP b a2 91 with
    | error x => rw [subsP_len g1 g2 ht hl] at h; cases h
    | ok na =>
    obtain ⟨n, a4⟩ := na
    have k2 := twoP_ok hl
    have d2 := twoP_twoL hl (by omega)
    by_cases g4 : b.size - a4 < n
    · rw [subsP_short g1 g2 ht hl g4] at h; cases h
    obtain ⟨v, hv⟩ : ∃ v, v = b.extract a4.toNat (a4 + n).toNat := ⟨_, rfl⟩
    cases hb : badV v v.size 0 with
    | some i => rw [subsP_char g1 g2 ht hl g4 hv hb] at h; cases h
    | none =>
    rw [subsP_next g1 g2 ht hl g4 hv hb] at h
    obtain ⟨o2, ho2, h'⟩ := Option.map_eq_some_iff.mp h
    clear h
    rcases o2 with x | rest
    · cases h'
    injection h' with h'
    subst h'
    have f1 : 0 ≤ a4 + n := by omega
    have f2 : a4 + n ≤ b.size := by omega
    have hvl : v.data.toList = (b.data.toList.drop a4.toNat).take n.toNat := by
      rw [hv, ByteArray.data_extract, Array.toList_extract, List.extract_eq_take_drop, show (a4 + n).toNat - a4.toNat = n.toNat by omega]
    have hvs : v.size = n.toNat := by
      rw [← data_length, hvl, List.length_take, List.length_drop, data_length]
      omega
    have hbl : badL v = false := by
      have := badV_none v v.size 0 hb (Int.le_refl _) (by omega)
      rwa [show (0 : Int).toNat = 0 from rfl, List.drop_zero] at this
    have hd : b.data.toList.drop a4.toNat = v.data.toList ++ b.data.toList.drop (a4 + n).toNat := by
      rw [hvl, show (a4 + n).toNat = a4.toNat + n.toNat by omega, ← List.drop_drop, List.take_append_drop]
    rw [bsP_go (subErr_none (by omega) (by omega) (by omega) (by omega) hbl)]
    have ih := subs_back k ho2 f1 f2 hs (acc ++ subLine ⟨t, v, []⟩)
    rw [show ((m : Int) + 1) = ((m + 1 : Nat) : Int) by omega, ih]
    congr 1
    unfold subLine
    have e4 : ((v.size : Int)) = n := by omega
    simp only [e4]
    rw [d1, d2, hd]
    simp only [List.append_assoc]
theorem two_err {b : ByteArray} {at_ code : Int} {x : Int × Int} (h : twoP b at_ code = .error x) (hc : code ≠ 0) (h0 : 0 ≤ at_) (h1 : at_ ≤ b.size) : x.1 ≠ 0 ∧ 0 ≤ x.2 ∧ x.2 ≤ b.size := by
  have key : ∀ a : Int, 0 ≤ a → a ≤ b.size → ∀ y, digitP b a code = .error y → y.1 ≠ 0 ∧ 0 ≤ y.2 ∧ y.2 ≤ b.size := by
    intro a ha hb y hy
    unfold digitP at hy
    repeat' split at hy
    all_goals first | (cases hy; done) | (injection hy with hy; subst hy; exact ⟨by simp [hc], by show (0 : Int) ≤ _; omega, by show _ ≤ (b.size : Int); omega⟩)
  unfold twoP at h
  split at h
  · rename_i y hy
    injection h with h
    subst h
    exact key at_ h0 h1 _ hy
  rename_i d a1 hd
  have k1 := digitP_ok hd
  split at h
  · rename_i y hy
    injection h with h
    subst h
    exact key a1 (by omega) (by omega) _ hy
  · cases h
theorem badV_range : ∀ (v : ByteArray) (k : Nat) (i j : Int), badV v k i = some j → i ≤ j ∧ j < i + k
  | v, 0, i, j, h => by cases h
  | v, k + 1, i, j, h => by
    unfold badV at h
    split at h
    · injection h with h; omega
    split at h
    · injection h with h; omega
    · have := badV_range v k (i + 1) j h
      omega
theorem subs_err : ∀ (k : Nat) {b : ByteArray} {at_ : Int} {m : Nat} {x : Int × Int}, subsP k b at_ m = some (.error x) → 0 ≤ at_ → at_ ≤ b.size → x.1 ≠ 0 ∧ 0 ≤ x.2 ∧ x.2 ≤ b.size
  | 0, _, _, _, _, h, _, _ => by simp [subsP] at h
  | k + 1, b, at_, m, x, h, h0, h1 => by
    by_cases g1 : at_ < b.size
    case neg => rw [subsP_end g1] at h; cases h
    by_cases g2 : m = 500
    · rw [subsP_many g1 g2] at h
      injection h with h
      injection h with h
      subst h
      exact ⟨by simp, h0, h1⟩
    cases ht : twoP b at_ 90 with
    | error y =>
      rw [subsP_tag g1 g2 ht] at h
      injection h with h
      injection h with h
      subst h
      exact two_err ht (by decide) h0 h1
    | ok ta =>
    obtain ⟨t, a2⟩ := ta
    have k1 := twoP_ok ht
    cases hl : twoP b a2 91 with
    | error y =>
      rw [subsP_len g1 g2 ht hl] at h
      injection h with h
      injection h with h
      subst h
      exact two_err hl (by decide) (by omega) (by omega)
    | ok na =>
    obtain ⟨n, a4⟩ := na
    have k2 := twoP_ok hl
    by_cases g4 : b.size - a4 < n
    · rw [subsP_short g1 g2 ht hl g4] at h
      injection h with h
      injection h with h
      subst h
      exact ⟨by simp, by show (0 : Int) ≤ b.size; omega, Int.le_refl _⟩
    obtain ⟨v, hv⟩ : ∃ v, v = b.extract a4.toNat (a4 + n).toNat := ⟨_, rfl⟩
    have hvs : v.size = n.toNat := by
      rw [hv, ByteArray.size_extract]
      omega
    cases hb : badV v v.size 0 with
    | some i =>
      rw [subsP_char g1 g2 ht hl g4 hv hb] at h
      have := badV_range v _ _ _ hb
      injection h with h
      injection h with h
      subst h
      exact ⟨by simp, by show (0 : Int) ≤ a4 + i; omega, by show a4 + i ≤ (b.size : Int); omega⟩
    | none =>
    rw [subsP_next g1 g2 ht hl g4 hv hb] at h
    obtain ⟨o2, ho2, h'⟩ := Option.map_eq_some_iff.mp h
    clear h
    rcases o2 with y | rest
    · injection h' with h'
      subst h'
      exact subs_err k ho2 (by omega) (by omega)
    · cases h'
/-- What ParseSub answers. -/
theorem parseSub_law (b : ByteArray) : 0 ≤ (parseSubP b).2.2 ∧ (parseSubP b).2.2 ≤ b.size ∧ ((parseSubP b).2.1 ≠ 0 → (parseSubP b).1 = []) ∧ ((parseSubP b).2.1 = 0 → (parseSubP b).2.2 = 0 ∧ buildSubP (parseSubP b).1 = (b, 0)) := by
  unfold parseSubP
  by_cases g : 9999 < b.size
  · rw [if_pos g]
    exact ⟨Int.le_refl _, Int.natCast_nonneg _, fun _ => rfl, fun h => absurd h (by decide)⟩
  rw [if_neg g]
  have h := readSubP_some b
  cases hr : readSubP b with
  | error x =>
    obtain ⟨c, p⟩ := x
    rw [hr] at h
    have := subs_err _ h (Int.le_refl _) (Int.natCast_nonneg _)
    exact ⟨this.2.1, this.2.2, fun _ => rfl, fun hc => absurd hc this.1⟩
  | ok l =>
    rw [hr] at h
    have i2 := subs_back _ h (Int.le_refl _) (Int.natCast_nonneg _) (by omega) []
    refine ⟨Int.le_refl _, Int.natCast_nonneg _, fun hc => absurd rfl hc, fun _ => ⟨rfl, ?_⟩⟩
    show buildSubP l = _
    unfold buildSubP
    rw [show ((0 : Nat) : Int) = 0 from rfl] at i2
    rw [i2, List.nil_append, show (0 : Int).toNat = 0 from rfl, List.drop_zero, bsOut_fits (by rw [data_length]; omega)]
end Go.Proofs.Ytjbhhgecdcgpeaa.Tb
