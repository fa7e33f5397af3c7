/- StandinForgets: the plain law: the row of cards, that whose last approval is the oldest first. -/
import Derived.Test.YtgndgjjejgbmoaaUn2
namespace Go.Proofs.Ytgndgjjejgbmoaa.Bok
open Go Go.RowKit Go.Maps Go.Proofs.YtgndgjjejgbmoaaW.PrintWords Go.Proofs.YtgndgjjejgbmoaaW.PrintLast Go.Proofs.YtgndgjjejgbmoaaW.PrintMore PStandinHolds
set_option linter.unusedSimpArgs false
set_option linter.unusedVariables false
/-- What the row of cards tells of the Book. -/
structure FInv (i most : Nat) (place last : Int) (S : St) (row : List ByteArray) : Prop where
  keys : ∀ c, S.has c = true ↔ c ∈ row
  len : S.length = row.length
  most : row.length ≤ most
  order : row.Pairwise (fun a b => lastP (S.get a) < lastP (S.get b))
  ones : ∀ c, ∀ a ∈ S.get c, a.units = 1 ∧ 0 ≤ a.at_ ∧ a.at_ ≤ i
  top : ∀ c ∈ row, lastP (S.get c) ≤ place
  last : last ≤ i
def others (c : ByteArray) (row : List ByteArray) : List ByteArray := row.filter (fun d => !decide (d = c))
theorem mem_others {c d : ByteArray} {row : List ByteArray} : d ∈ others c row ↔ d ∈ row ∧ d ≠ c := by
  unfold others
  rw [List.mem_filter]
  simp
theorem len_others {row : List ByteArray} (hn : row.Nodup) (c : ByteArray) : (c ∈ row → (others c row).length + 1 = row.length) ∧ (¬ c ∈ row → (others c row).length = row.length) := by
  unfold others
  induction row with
  | nil => exact ⟨fun h => (by cases h), fun _ => rfl⟩
  | cons x row ih =>
    rw [List.nodup_cons] at hn
    obtain ⟨i1, i2⟩ := ih hn.2
    by_cases h : x = c
    · subst h
      rw [List.filter_cons_of_neg (by simp)]
      exact ⟨fun _ => by rw [i2 hn.1, List.length_cons], fun hh => absurd List.mem_cons_self hh⟩
    · rw [List.filter_cons_of_pos (by simp [h]), List.length_cons, List.length_cons]
      have hm : (c ∈ x :: row) ↔ c ∈ row := by
        rw [List.mem_cons]
        exact ⟨fun e => e.resolve_left (fun q => h q.symm), .inr⟩
      rw [hm]
      exact ⟨fun hh => by rw [i1 hh], fun hh => by rw [i2 hh]⟩
theorem FInv.nodup {i most : Nat} {place last : Int} {S : St} {row : List ByteArray} (h : FInv i most place last S row) : row.Nodup := h.order.imp (fun {a b} hab e => by subst e; omega)
theorem used_ones {l : List Ap} {now : Int} (hn : now ≤ 1000) (h : ∀ a ∈ l, a.units = 1 ∧ 0 ≤ a.at_) : (cnt 100000 now l).length = l.length ∧ (cnt 100000 now l).sum = l.length := by
  induction l with
  | nil => exact ⟨rfl, rfl⟩
  | cons a l ih =>
    obtain ⟨h1, h2⟩ := ih (fun x hx => h x (List.mem_cons_of_mem _ hx))
    have ha := h a List.mem_cons_self
    have e : cnt 100000 now (a :: l) = 1 :: cnt 100000 now l := by
      unfold cnt
      rw [List.filter_cons_of_pos (by simp; omega), List.map_cons, ha.1]
    rw [e, List.length_cons, List.length_cons, List.sum_cons, h1, h2]
    exact ⟨rfl, by omega⟩
theorem FInv.used {i most : Nat} {place last : Int} {S : St} {row : List ByteArray} (h : FInv i most place last S row) (now : Int) (h0 : 0 ≤ now) (hi : now ≤ 1000) (c : ByteArray) : usedR 10 1000 100000 100000 now (S.get c) = (((S.get c).length : Int), ((S.get c).length : Int)) := by
  obtain ⟨h1, h2⟩ := used_ones (now := now) (by omega) (fun a ha => ⟨(h.ones c a ha).1, (h.ones c a ha).2.1⟩)
  have hr : rightP 10 1000 100000 100000 = true := rfl
  unfold usedR
  rw [if_pos ⟨hr, h0⟩, h1, h2]
theorem FInv.ask {i most : Nat} {place last : Int} {S : St} {row : List ByteArray} (h : FInv i most place last S row) (hi : i ≤ 150) {c : ByteArray} (hc : ¬ c.size = 0) (hl : (S.get c).length ≤ i) : askE last S 10 1000 100000 100000 c 1 i = 0 := by
  have hle := h.last
  obtain ⟨h1, h2⟩ := used_ones (now := i) (by omega) (fun a ha => ⟨(h.ones c a ha).1, (h.ones c a ha).2.1⟩)
  have ha : amt 1 = true := rfl
  have hr : rightP 10 1000 100000 100000 = true := rfl
  unfold askE
  simp only [if_neg hc, ha, hr, Bool.true_eq_false, if_false, false_or]
  rw [if_neg (by omega), if_neg (by omega)]
theorem lastP_snoc (l : List Ap) (a : Ap) : lastP (l ++ [a]) = a.place := by
  unfold lastP
  simp
theorem has_put {S : St} {c d : ByteArray} {l : List Ap} : (S.put c l).has d = true ↔ d = c ∨ S.has d = true := by
  have h := has_del (S := S) (c := c) (d := d)
  unfold St.put
  unfold St.has at h ⊢
  rw [List.any_cons, h]
  by_cases hd : d = c
  · simp [hd]
  · have : ¬ c = d := fun e => hd e.symm
    simp [hd, this]
theorem FInv.put {i most : Nat} {place last : Int} {S : St} {row : List ByteArray} (h : FInv i most place last S row) (hnd : (S.map (·.1)).Nodup) (c : ByteArray) {S1 : St} (hS1 : S1 = S.put c (S.get c ++ [⟨place + 1, 1, i⟩])) :
    FInv (i + 1) (others c row ++ [c]).length (place + 1) i S1 (others c row ++ [c]) ∧ (∀ d, d ≠ c → S1.get d = S.get d) ∧ (S1.get c).length = (S.get c).length + 1 := by
  have g1 : S1.get c = S.get c ++ [⟨place + 1, 1, i⟩] := by rw [hS1, get_put_same]
  have g2 : ∀ d, d ≠ c → S1.get d = S.get d := fun d hd => by rw [hS1, get_put_other _ hd]
  refine ⟨⟨fun d => ?_, ?_, Nat.le_refl _, ?_, fun d a ha => ?_, fun d hd => ?_, by omega⟩, g2, by rw [g1, List.length_append]; rfl⟩
  · rw [hS1, has_put, h.keys, List.mem_append, mem_others, List.mem_singleton]
    by_cases hd : d = c
    · simp [hd]
    · simp [hd]
  · rw [hS1, len_put, List.length_append]
    have h1 := len_del hnd c
    have h2 := len_others h.nodup c
    have h3 := h.len
    have h4 := h.keys c
    by_cases hh : S.has c = true
    · rw [if_pos hh] at h1
      replace h2 := h2.1 (h4.mp hh)
      simp only [List.length_cons, List.length_nil]
      omega
    · rw [if_neg hh] at h1
      replace h2 := h2.2 (fun e => hh (h4.mpr e))
      simp only [List.length_cons, List.length_nil]
      omega
  · rw [List.pairwise_append]
    refine ⟨?_, List.pairwise_singleton _ _, fun a ha b hb => ?_⟩
    · have ho : (others c row).Pairwise (fun a b => lastP (S.get a) < lastP (S.get b)) := h.order.sublist (List.filter_sublist)
      refine ho.imp_of_mem (fun {a b} ha hb hab => ?_)
      rw [g2 a (mem_others.mp ha).2, g2 b (mem_others.mp hb).2]
      exact hab
    · rw [List.mem_singleton] at hb
      subst hb
      rw [g1, lastP_snoc, g2 a (mem_others.mp ha).2]
      have := h.top a (mem_others.mp ha).1
      show _ < place + 1
      omega
  · by_cases hd : d = c
    · subst hd
      rw [g1] at ha
      rcases List.mem_append.mp ha with ha | ha
      · have := h.ones d a ha; omega
      · rw [List.mem_singleton] at ha
        subst ha
        exact ⟨rfl, by show (0 : Int) ≤ i; omega, by show (i : Int) ≤ ((i + 1 : Nat) : Int); omega⟩
    · rw [g2 d hd] at ha
      have := h.ones d a ha
      omega
  · rcases List.mem_append.mp hd with hd | hd
    · rw [g2 d (mem_others.mp hd).2]
      have := h.top d (mem_others.mp hd).1
      omega
    · rw [List.mem_singleton] at hd
      subst hd
      rw [g1, lastP_snoc]
      show place + 1 ≤ _
      omega
theorem FInv.weak {i m1 most : Nat} {place last : Int} {S : St} {row : List ByteArray} (h : FInv i m1 place last S row) (hm : row.length ≤ most) : FInv i most place last S row := ⟨h.keys, h.len, hm, h.order, h.ones, h.top, h.last⟩
theorem FInv.drop {i m1 most : Nat} {place last : Int} {S1 : St} {x : ByteArray} {row : List ByteArray} (h : FInv i m1 place last S1 (x :: row)) (hnd : (S1.map (·.1)).Nodup) {c0 : ByteArray} (ho : Oldest S1 c0) (hm : row.length ≤ most) :
    c0 = x ∧ FInv i most place last (S1.del x) row ∧ (S1.del x).get x = [] ∧ ∀ d ∈ row, (S1.del x).get d = S1.get d := by
  have hor := List.pairwise_cons.mp h.order
  have hx0 : c0 = x := by
    obtain ⟨y, hy, hyc, hmin⟩ := ho
    have hk : S1.has c0 = true := by
      unfold St.has
      rw [List.any_eq_true]
      exact ⟨y, hy, by simp [hyc]⟩
    rcases List.mem_cons.mp ((h.keys c0).mp hk) with e | e
    · exact e
    · have h1 := hor.1 c0 e
      obtain ⟨z, hz, hzx⟩ := mem_of_has ((h.keys x).mpr List.mem_cons_self)
      have h2 := hmin z hz
      rw [← get_of_mem hnd hy, ← get_of_mem hnd hz, hyc, hzx] at h2
      omega
  have hne : ∀ d ∈ row, d ≠ x := fun d hd e => by have := hor.1 d hd; rw [e] at this; omega
  have hg : ∀ d ∈ row, (S1.del x).get d = S1.get d := fun d hd => get_del_other (hne d hd)
  have hgx : (S1.del x).get x = [] := get_none (by rw [has_del]; simp)
  refine ⟨hx0, ⟨fun d => ?_, ?_, hm, ?_, fun d a ha => ?_, fun d hd => ?_, h.last⟩, hgx, hg⟩
  · rw [has_del]
    have := h.keys d
    rw [List.mem_cons] at this
    constructor
    · intro hh
      simp only [Bool.and_eq_true, Bool.not_eq_true', decide_eq_false_iff_not] at hh
      exact (this.mp hh.1).resolve_left hh.2
    · intro hd
      simp only [Bool.and_eq_true, Bool.not_eq_true', decide_eq_false_iff_not]
      exact ⟨this.mpr (.inr hd), hne d hd⟩
  · have h1 := len_del hnd x
    rw [if_pos ((h.keys x).mpr List.mem_cons_self)] at h1
    have h2 := h.len
    rw [List.length_cons] at h2
    omega
  · refine hor.2.imp_of_mem (fun {a b} ha hb hab => ?_)
    rw [hg a ha, hg b hb]
    exact hab
  · by_cases hd : d = x
    · subst hd
      rw [hgx] at ha
      cases ha
    · rw [get_del_other hd] at ha
      exact h.ones d a ha
  · rw [hg d hd]
    exact h.top d (List.mem_cons_of_mem _ hd)
end Go.Proofs.Ytgndgjjejgbmoaa.Bok
