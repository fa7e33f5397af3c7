/- StandinUndoes: the plain law. -/
import Derived.Test.YtgndgjjejgbmoaaRd
namespace Go.Proofs.Ytgndgjjejgbmoaa.Bok
open Go Go.RowKit Go.Maps Go.Proofs.YtgndgjjejgbmoaaW.PrintWords Go.Proofs.YtgndgjjejgbmoaaW.PrintLast Go.Proofs.YtgndgjjejgbmoaaW.PrintMore PStandinHolds
set_option linter.unusedSimpArgs false
set_option linter.unusedVariables false
theorem cardB_max (k : Int) : (cardB k).size ≤ maxLen := by rw [cardB_size]; decide
/-- What a round of asking leaves: cards of the first seven, small amounts. -/
structure UInv (now last : Int) (S : St) : Prop where
  cards : ∀ x ∈ S, x.1 ∈ deck 7
  small : ∀ x ∈ S, ∀ a ∈ x.2, a.units ≤ 320
  last : last ≤ now
theorem UInv.get {now last : Int} {S : St} (h : UInv now last S) (c : ByteArray) : ∀ a ∈ S.get c, a.units ≤ 320 := by
  unfold St.get
  split
  · next x hx => exact h.small x (List.mem_of_find?_eq_some hx)
  · exact fun a ha => by cases ha
theorem nodup_put {S : St} (hn : (S.map (·.1)).Nodup) (c : ByteArray) (l : List Ap) : ((S.put c l).map (·.1)).Nodup := by
  unfold St.put
  rw [List.map_cons, List.nodup_cons]
  refine ⟨fun hx => ?_, nodup_del hn c⟩
  obtain ⟨x, hx, e⟩ := List.mem_map.mp hx
  exact (mem_del.mp hx).2 e
theorem UInv.ask {now last place : Int} {S : St} (h : UInv now last S) (hnd : (S.map (·.1)).Nodup) {L0 L1 L2 W : Int} {c : ByteArray} (hc : c ∈ deck 7) {n : Int} (hn : n ≤ 320) {place' last' : Int} {S' : St} (hA : AskTo 10 place last S L0 L1 L2 W c n now place' last' S') : UInv now last' S' := by
  have hcards : ∀ x ∈ S.put c (S.get c ++ [⟨place + 1, n, now⟩]), x.1 ∈ deck 7 := by
    intro x hx
    unfold St.put at hx
    rcases List.mem_cons.mp hx with rfl | hx
    · exact hc
    · exact h.cards x (mem_del.mp hx).1
  by_cases hE : askE last S L0 L1 L2 W c n now = 0
  · have hlen := len_deck (nodup_put hnd c _) hcards
    obtain ⟨_, q1, q2⟩ := to_yes hE rfl (by omega) _ _ _ hA
    rw [q1, q2]
    refine ⟨hcards, fun x hx => ?_, Int.le_refl _⟩
    unfold St.put at hx
    rcases List.mem_cons.mp hx with rfl | hx
    · intro a ha
      rcases List.mem_append.mp ha with ha | ha
      · exact h.get c a ha
      · rw [List.mem_singleton] at ha
        subst ha
        exact hn
    · exact h.small x (mem_del.mp hx).1
  · obtain ⟨_, rfl, rfl⟩ := to_no hE _ _ _ hA
    exact h
theorem UInv.later {now now' last : Int} {S : St} (h : UInv now last S) (hn : now ≤ now') : UInv now' last S := ⟨h.cards, h.small, by have := h.last; omega⟩
theorem sum_le {l : List Int} {b : Int} (h : ∀ x ∈ l, x ≤ b) : l.sum ≤ b * l.length := by
  induction l with
  | nil => simp
  | cons x l ih =>
    have h1 := h x List.mem_cons_self
    have h2 := ih (fun y hy => h y (List.mem_cons_of_mem _ hy))
    rw [List.sum_cons, List.length_cons, Int.natCast_succ, Int.mul_add]
    omega
/-- An approval that no other is like. -/
theorem wide_ask {now last : Int} {S : St} (h : UInv now last S) (h0 : 0 ≤ now) {c : ByteArray} (hc : ¬ c.size = 0) {N : Nat} (hl : (S.get c).length ≤ N) (hN : N ≤ 1000) : askE last S 999999999999 999999999999 999999999999 1 c 123456789 now = 0 := by
  have hle := h.last
  have h1 : (cnt 1 now (S.get c)).length ≤ N := by
    unfold cnt
    rw [List.length_map]
    exact Nat.le_trans (List.length_filter_le _ _) hl
  have h2 : (cnt 1 now (S.get c)).sum ≤ 320 * ((cnt 1 now (S.get c)).length : Int) := sum_le (fun x hx => by
    unfold cnt at hx
    obtain ⟨a, ha, rfl⟩ := List.mem_map.mp hx
    exact h.get c a (List.mem_filter.mp ha).1)
  have ha : amt 123456789 = true := rfl
  have hr : rightP 999999999999 999999999999 999999999999 1 = true := rfl
  unfold askE
  simp only [if_neg hc, ha, hr, Bool.true_eq_false, if_false, false_or]
  rw [if_neg (by omega), if_neg (by omega)]
theorem not_hit {l : List Ap} (h : ∀ a ∈ l, a.units ≤ 320) (t : Int) : l.findIdx? (hit 123456789 t) = none := by
  rw [List.findIdx?_eq_none_iff]
  intro a ha
  have := h a ha
  unfold hit
  have : ¬ a.units = 123456789 := by omega
  simp [this]
theorem put_del (S : St) (c : ByteArray) (l : List Ap) : (S.put c l).del c = S.del c := by
  unfold St.put St.del
  rw [List.filter_cons_of_neg (by simp), List.filter_filter]
  simp
theorem len_put (S : St) (c : ByteArray) (l : List Ap) : (S.put c l).length = (S.del c).length + 1 := by
  unfold St.put
  rfl
/-- Behind an approval and its Undo all is as it was. -/
theorem undo_back {S : St} (hnd : (S.map (·.1)).Nodup) (hfull : ∀ x ∈ S, x.2 ≠ []) {c : ByteArray} (hs : ∀ a ∈ S.get c, a.units ≤ 320) (place now : Int) {S1 : St} (h1 : S1 = S.put c (S.get c ++ [⟨place, 123456789, now⟩])) :
    undoE S1 c 123456789 now = true ∧ (undoS S1 c 123456789 now).length = S.length ∧ (∀ d, (undoS S1 c 123456789 now).get d = S.get d) := by
  have hg : S1.get c = S.get c ++ [⟨place, 123456789, now⟩] := by rw [h1, get_put_same]
  have hf : (S1.get c).findIdx? (hit 123456789 now) = some (S.get c).length := by
    rw [hg, List.findIdx?_append, not_hit hs]
    simp [hit]
  have hd : S1.del c = S.del c := by rw [h1, put_del]
  have hlen := len_del hnd c
  have herase : (S1.get c).eraseIdx (S.get c).length = S.get c := by
    rw [hg, List.eraseIdx_append_of_length_le (Nat.le_refl _)]
    simp
  unfold undoE undoS
  rw [hf]
  refine ⟨rfl, ?_⟩
  by_cases hl : (S1.get c).length = 1
  · have hl0 : S.get c = [] := by
      rw [hg, List.length_append] at hl
      exact List.length_eq_zero_iff.mp (by simpa using hl)
    have hh : S.has c = false := by
      cases hb : S.has c with
      | false => rfl
      | true =>
        obtain ⟨x, hx, rfl⟩ := mem_of_has hb
        rw [get_of_mem hnd hx] at hl0
        exact absurd hl0 (hfull x hx)
    simp only [hl, if_true]
    rw [hh] at hlen
    refine ⟨by rw [hd]; simpa using hlen, fun d => ?_⟩
    by_cases hdc : d = c
    · subst hdc
      rw [hl0, get_none]
      rw [has_del]
      simp
    · rw [hd, get_del_other hdc]
  · have hpos : 0 < (S.get c).length := by
      rw [hg, List.length_append] at hl
      simp at hl
      exact List.length_pos_iff.mpr hl
    simp only [hl, if_false, herase]
    rw [has_of_get hpos] at hlen
    refine ⟨by rw [len_put, hd]; simpa using hlen, fun d => ?_⟩
    by_cases hdc : d = c
    · subst hdc
      rw [get_put_same]
    · rw [get_put_other _ hdc, h1, get_put_other _ hdc]
end Go.Proofs.Ytgndgjjejgbmoaa.Bok
