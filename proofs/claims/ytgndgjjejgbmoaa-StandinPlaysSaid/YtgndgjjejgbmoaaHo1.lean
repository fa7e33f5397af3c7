/- StandinHolds: the plain law: the Book against the list of what was approved. -/
import Derived.Test.YtgndgjjejgbmoaaBk14
namespace Go.Proofs.Ytgndgjjejgbmoaa.Bok
open Go Go.RowKit Go.Maps Go.Proofs.YtgndgjjejgbmoaaW.PrintWords Go.Proofs.YtgndgjjejgbmoaaW.PrintLast Go.Proofs.YtgndgjjejgbmoaaW.PrintMore PStandinHolds
set_option linter.unusedSimpArgs false
set_option linter.unusedVariables false
/-- Which of n things a raw number speaks of. -/
def pickI (c n : Int) : Int := if c < 0 then Int.tmod (-(c + 1)) n else Int.tmod c n
theorem pick_eq (c n : Int) (h0 : -9223372036854775808 ≤ c) (h1 : c ≤ 9223372036854775807) (hn : 0 < n) : turnstilelaw21_pick.f c n = some (pickI c n) := by
  unfold turnstilelaw21_pick.f pickI
  by_cases hc : c < 0
  · rw [if_pos hc, if_pos hc, if_neg (by omega)]
    have e1 : wrap64 (c + 1) = c + 1 := by unfold wrap64; omega
    rw [e1]
    have e2 : wrap64 (-(c + 1)) = -(c + 1) := by unfold wrap64; omega
    rw [e2]
  · rw [if_neg hc, if_neg hc, if_neg (by omega)]
theorem pick_range (c n : Int) (hn : 0 < n) : 0 ≤ pickI c n ∧ pickI c n < n := by
  unfold pickI
  split
  · rw [Int.tmod_eq_emod_of_nonneg (by omega)]
    exact ⟨Int.emod_nonneg _ (by omega), Int.emod_lt_of_pos _ hn⟩
  · rw [Int.tmod_eq_emod_of_nonneg (by omega)]
    exact ⟨Int.emod_nonneg _ (by omega), Int.emod_lt_of_pos _ hn⟩
/-- The k-th card. -/
def cardB (k : Int) : ByteArray := (⟨#[99, 97, 114, 100]⟩ : ByteArray) ++ strOfNums [(wrap64 (65 + k)) % 256]
theorem cardB_size (k : Int) : (cardB k).size = 5 := by
  unfold cardB
  rw [ByteArray.size_append]
  rfl
theorem card_eq (c n : Int) (h0 : -9223372036854775808 ≤ c) (h1 : c ≤ 9223372036854775807) (hn : 0 < n) : turnstilelaw21_card.f c n = some (cardB (pickI c n)) := by
  unfold turnstilelaw21_card.f
  rw [pick_eq c n h0 h1 hn]
  simp only [Option.bind_some]
  rw [if_pos (show 4 + (strOfNums [(wrap64 (65 + pickI c n)) % 256]).size ≤ 9223372036854775807 by
    have : (strOfNums [(wrap64 (65 + pickI c n)) % 256]).size = 1 := rfl
    omega)]
  rfl
/-- The first n cards. -/
def deck (n : Nat) : List ByteArray := (List.range n).map fun (k : Nat) => cardB (k : Int)
theorem mem_deck {k : Int} {n : Nat} (h0 : 0 ≤ k) (h1 : k < n) : cardB k ∈ deck n := List.mem_map.mpr ⟨k.toNat, List.mem_range.mpr (by omega), by rw [Int.toNat_of_nonneg h0]⟩
theorem len_of_nodup {α : Type} [DecidableEq α] : ∀ (l d : List α), l.Nodup → (∀ x ∈ l, x ∈ d) → l.length ≤ d.length
  | [], d, _, _ => Nat.zero_le _
  | x :: l, d, hn, hs => by
    rw [List.nodup_cons] at hn
    have hx := hs x List.mem_cons_self
    have := len_of_nodup l (d.erase x) hn.2 (fun y hy => (List.mem_erase_of_ne (fun e => hn.1 (by rw [← e]; exact hy))).mpr (hs y (List.mem_cons_of_mem _ hy)))
    rw [List.length_erase_of_mem hx] at this
    have hp := List.length_pos_of_mem hx
    rw [List.length_cons]
    omega
theorem len_deck {S : St} {n : Nat} (hn : (S.map (·.1)).Nodup) (hs : ∀ x ∈ S, x.1 ∈ deck n) : S.length ≤ n := by
  have := len_of_nodup (S.map (·.1)) (deck n) hn (fun c hc => by obtain ⟨x, hx, rfl⟩ := List.mem_map.mp hc; exact hs x hx)
  rw [List.length_map] at this
  unfold deck at this
  rw [List.length_map, List.length_range] at this
  exact this
/-- What was approved: card, amount, tick. -/
abbrev Gv := ByteArray × Int × Int
def ofCard (c : ByteArray) (all : List Gv) : List (Int × Int) := (all.filter fun g => decide (g.1 = c)).map (·.2)
/-- The amounts of a card's that count. -/
def cntG (W now : Int) (c : ByteArray) (all : List Gv) : List Int := (all.filter fun g => decide (g.1 = c) && decide (now - g.2.2 < W)).map (·.2.1)
theorem cnt_pairs (W now : Int) (l : List Ap) : cnt W now l = ((l.map fun a => (a.units, a.at_)).filter fun q => decide (now - q.2 < W)).map (·.1) := by
  unfold cnt
  rw [List.filter_map, List.map_map]
  rfl
theorem cntG_pairs (W now : Int) (c : ByteArray) (all : List Gv) : cntG W now c all = ((ofCard c all).filter fun q => decide (now - q.2 < W)).map (·.1) := by
  unfold cntG ofCard
  rw [List.filter_map, List.map_map, List.filter_filter]
  congr 2
  funext g
  simp [Bool.and_comm]
theorem cntG_snoc (W now : Int) (c : ByteArray) (all : List Gv) (g : Gv) : cntG W now c (all ++ [g]) = cntG W now c all ++ (if (decide (g.1 = c) && decide (now - g.2.2 < W)) = true then [g.2.1] else []) := by
  unfold cntG
  rw [List.filter_append, List.map_append]
  congr 1
  by_cases h : (decide (g.1 = c) && decide (now - g.2.2 < W)) = true
  · rw [if_pos h]
    simp only [List.filter_cons, List.filter_nil, h, if_true, List.map_cons, List.map_nil]
  · have h' := (Bool.not_eq_true _).mp h
    rw [if_neg h]
    simp only [List.filter_cons, List.filter_nil, h', Bool.false_eq_true, if_false, List.map_nil]
theorem sum_mono_filter {l : List Gv} {p q : Gv → Bool} (h0 : ∀ g ∈ l, 0 ≤ g.2.1) (h : ∀ g ∈ l, p g = true → q g = true) : (l.filter p).length ≤ (l.filter q).length ∧ ((l.filter p).map (·.2.1)).sum ≤ ((l.filter q).map (·.2.1)).sum := by
  induction l with
  | nil => exact ⟨Nat.le_refl _, Int.le_refl _⟩
  | cons g l ih =>
    have ih' := ih (fun x hx => h0 x (List.mem_cons_of_mem _ hx)) (fun x hx => h x (List.mem_cons_of_mem _ hx))
    have hg := h0 g List.mem_cons_self
    have hi := h g List.mem_cons_self
    cases hp : p g with
    | true =>
      have hq := hi hp
      rw [List.filter_cons_of_pos hp, List.filter_cons_of_pos hq]
      simp only [List.length_cons, List.map_cons, List.sum_cons]
      omega
    | false =>
      rw [List.filter_cons_of_neg (by rw [hp]; exact Bool.false_ne_true)]
      cases hq : q g with
      | true =>
        rw [List.filter_cons_of_pos hq]
        simp only [List.length_cons, List.map_cons, List.sum_cons]
        omega
      | false =>
        rw [List.filter_cons_of_neg (by rw [hq]; exact Bool.false_ne_true)]
        exact ih'
theorem cntG_later {W now now' : Int} {all : List Gv} (h0 : ∀ g ∈ all, 0 ≤ g.2.1) (h : now ≤ now') (c : ByteArray) : (cntG W now' c all).length ≤ (cntG W now c all).length ∧ (cntG W now' c all).sum ≤ (cntG W now c all).sum := by
  unfold cntG
  rw [List.length_map, List.length_map]
  refine sum_mono_filter h0 (fun g _ hg => ?_)
  simp only [Bool.and_eq_true, decide_eq_true_eq] at hg ⊢
  exact ⟨hg.1, by omega⟩
/-- The Book is what the list tells; no card is above the limits. -/
structure Inv (L1 L2 W : Int) (now last : Int) (all : List Gv) (S : St) : Prop where
  corr : ∀ c, (S.get c).map (fun a => (a.units, a.at_)) = ofCard c all
  cards : ∀ x ∈ S, x.1 ∈ deck 7
  given : ∀ g ∈ all, 0 ≤ g.2.1 ∧ g.2.1 ≤ 320 ∧ 0 ≤ g.2.2 ∧ g.2.2 ≤ now
  last : last ≤ now
  bound : ∀ c, ((cntG W now c all).length : Int) ≤ L1 ∧ (cntG W now c all).sum ≤ L2
theorem Inv.tells {L1 L2 W now last : Int} {all : List Gv} {S : St} (h : Inv L1 L2 W now last all S) (now' : Int) (c : ByteArray) : cnt W now' (S.get c) = cntG W now' c all := by
  rw [cnt_pairs, cntG_pairs, h.corr]
theorem Inv.later {L1 L2 W now now' last : Int} {all : List Gv} {S : St} (h : Inv L1 L2 W now last all S) (hn : now ≤ now') : Inv L1 L2 W now' last all S :=
  ⟨h.corr, h.cards, fun g hg => by have := h.given g hg; omega, by have := h.last; omega, fun c => by
    have h1 := h.bound c
    have h2 := cntG_later (W := W) (fun g hg => (h.given g hg).1) hn c
    omega⟩
theorem get_put_same (S : St) (c : ByteArray) (l : List Ap) : (S.put c l).get c = l := by
  unfold St.put St.get
  simp
theorem get_del_other {S : St} {c d : ByteArray} (h : d ≠ c) : (S.del c).get d = S.get d := by
  unfold St.del St.get
  induction S with
  | nil => rfl
  | cons x S ih =>
    by_cases h1 : x.1 = c
    · have h2 : ¬ x.1 = d := fun e => h (e.symm.trans h1)
      rw [List.filter_cons_of_neg (by simp [h1]), List.find?_cons_of_neg (by simpa using h2)]
      exact ih
    · rw [List.filter_cons_of_pos (by simp [h1])]
      by_cases h2 : x.1 = d
      · rw [List.find?_cons_of_pos (by simpa using h2), List.find?_cons_of_pos (by simpa using h2)]
      · rw [List.find?_cons_of_neg (by simpa using h2), List.find?_cons_of_neg (by simpa using h2)]
        exact ih
theorem get_put_other {S : St} {c d : ByteArray} (l : List Ap) (h : d ≠ c) : (S.put c l).get d = S.get d := by
  rw [← get_del_other (S := S) h]
  unfold St.put St.get
  rw [List.find?_cons_of_neg (by simpa using fun e : c = d => h e.symm)]
theorem Inv.ask_e {L0 L1 L2 W now last : Int} {all : List Gv} {S : St} (h : Inv L1 L2 W now last all S) (hR : rightP L0 L1 L2 W = true) (h0 : 0 ≤ now) {c : ByteArray} (hc : ¬ c.size = 0) {n : Int} (hn0 : 0 ≤ n) (hn1 : n ≤ 320) :
    (n ≤ L0 ∧ ((cntG W now c all).length : Int) < L1 ∧ (cntG W now c all).sum + n ≤ L2 → askE last S L0 L1 L2 W c n now = 0) ∧ (¬ (n ≤ L0 ∧ ((cntG W now c all).length : Int) < L1 ∧ (cntG W now c all).sum + n ≤ L2) → askE last S L0 L1 L2 W c n now = 210) := by
  have hl := h.last
  have ha : amt n = true := by unfold amt; simp; omega
  unfold askE
  rw [h.tells]
  simp only [if_neg hc, ha, hR, Bool.true_eq_false, if_false, false_or]
  rw [if_neg (by omega)]
  constructor
  · intro hh
    rw [if_neg (by omega)]
  · intro hh
    rw [if_pos (by omega)]
theorem Inv.yes {L0 L1 L2 W now last place : Int} {all : List Gv} {S : St} (h : Inv L1 L2 W now last all S) (hnd : (S.map (·.1)).Nodup) (hW : 1 ≤ W) (h0 : 0 ≤ now) {c : ByteArray} (hc : c ∈ deck 7) {n : Int} (hn0 : 0 ≤ n) (hn1 : n ≤ 320)
    (hm : ((cntG W now c all).length : Int) < L1 ∧ (cntG W now c all).sum + n ≤ L2) (hE : askE last S L0 L1 L2 W c n now = 0) {place' last' : Int} {S' : St} (hA : AskTo 10 place last S L0 L1 L2 W c n now place' last' S') :
    Inv L1 L2 W now last' (all ++ [(c, n, now)]) S' ∧ cnt W now (S'.get c) = cntG W now c all ++ [n] := by
  have hcards : ∀ x ∈ S.put c (S.get c ++ [⟨place + 1, n, now⟩]), x.1 ∈ deck 7 := by
    intro x hx
    unfold St.put at hx
    rcases List.mem_cons.mp hx with rfl | hx
    · exact hc
    · exact h.cards x (mem_del.mp hx).1
  have hnd1 : ((S.put c (S.get c ++ [⟨place + 1, n, now⟩])).map (·.1)).Nodup := by
    unfold St.put
    rw [List.map_cons, List.nodup_cons]
    refine ⟨fun hx => ?_, nodup_del hnd c⟩
    obtain ⟨x, hx, e⟩ := List.mem_map.mp hx
    exact (mem_del.mp hx).2 e
  have hlen := len_deck hnd1 hcards
  obtain ⟨_, q1, q2⟩ := to_yes hE rfl (by omega) _ _ _ hA
  rw [q1, q2]
  have hdec : (decide (c = c) && decide (now - now < W)) = true := by simp; omega
  have hi : Inv L1 L2 W now now (all ++ [(c, n, now)]) (S.put c (S.get c ++ [⟨place + 1, n, now⟩])) := by
    refine ⟨fun d => ?_, hcards, fun g hg => ?_, Int.le_refl _, fun d => ?_⟩
    · by_cases hd : d = c
      · subst hd
        rw [get_put_same, List.map_append, h.corr]
        unfold ofCard
        rw [List.filter_append, List.map_append]
        simp
      · rw [get_put_other _ hd, h.corr]
        unfold ofCard
        rw [List.filter_append, List.map_append]
        have : ¬ c = d := fun e => hd e.symm
        simp [this]
    · rcases List.mem_append.mp hg with hg | hg
      · exact h.given g hg
      · rw [List.mem_singleton] at hg
        subst hg
        exact ⟨hn0, hn1, h0, Int.le_refl _⟩
    · rw [cntG_snoc]
      by_cases hd : c = d
      · subst hd
        rw [if_pos hdec, List.length_append, List.sum_append]
        simp only [List.length_cons, List.length_nil, List.sum_cons, List.sum_nil]
        omega
      · rw [if_neg (by simp [hd]), List.append_nil]
        exact h.bound d
  refine ⟨hi, ?_⟩
  rw [hi.tells, cntG_snoc, if_pos hdec]
end Go.Proofs.Ytgndgjjejgbmoaa.Bok
