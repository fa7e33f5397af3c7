/- StandinPlays: the plain law: the map of cards against the one list of approvals. -/
import Derived.Test.YtgndgjjejgbmoaaPl5
namespace Go.Proofs.Ytgndgjjejgbmoaa.Bok
open Go Go.RowKit Go.Maps Go.Proofs.YtgndgjjejgbmoaaW.PrintWords Go.Proofs.YtgndgjjejgbmoaaW.PrintLast Go.Proofs.YtgndgjjejgbmoaaW.PrintMore PStandinHolds
set_option linter.unusedSimpArgs false
set_option linter.unusedVariables false
/-- Approvals in the order in which they were given, each with its place. -/
abbrev Lp := List (ByteArray × Ap)
def gvOf (l : Lp) : List Gv := l.map fun x => (x.1, x.2.units, x.2.at_)
def apsOf (c : ByteArray) (l : Lp) : List Ap := (l.filter fun x => decide (x.1 = c)).map (·.2)
/-- The map tells what the list tells. -/
structure PRel (place : Int) (S : St) (l : Lp) : Prop where
  get : ∀ c, S.get c = apsOf c l
  incr : l.Pairwise (fun x y => x.2.place < y.2.place)
  top : ∀ x ∈ l, 0 ≤ x.2.place ∧ x.2.place ≤ place
theorem apsOf_ne {c : ByteArray} {l : Lp} : apsOf c l ≠ [] ↔ ∃ x ∈ l, x.1 = c := by
  unfold apsOf
  rw [Ne, List.map_eq_nil_iff, List.filter_eq_nil_iff]
  simp
theorem PRel.has {place : Int} {S : St} {l : Lp} (h : PRel place S l) (hnd : (S.map (·.1)).Nodup) (hfull : ∀ x ∈ S, x.2 ≠ []) (c : ByteArray) : S.has c = true ↔ ∃ x ∈ l, x.1 = c := by
  rw [← apsOf_ne, ← h.get]
  constructor
  · intro hh
    obtain ⟨x, hx, rfl⟩ := mem_of_has hh
    rw [get_of_mem hnd hx]
    exact hfull x hx
  · intro hne
    exact has_of_get (List.length_pos_iff.mpr hne)
theorem PRel.corr {place : Int} {S : St} {l : Lp} (h : PRel place S l) (c : ByteArray) : (S.get c).map (fun a => (a.units, a.at_)) = ofCard c (gvOf l) := by
  rw [h.get]
  unfold apsOf ofCard gvOf
  rw [List.filter_map, List.map_map, List.map_map]
  rfl
theorem PRel.tells {place : Int} {S : St} {l : Lp} (h : PRel place S l) (W now : Int) (c : ByteArray) : cnt W now (S.get c) = cntG W now c (gvOf l) := by
  rw [cnt_pairs, cntG_pairs, h.corr]
theorem PRel.ask_same {place : Int} {S : St} {l : Lp} (h : PRel place S l) (last L0 L1 L2 W : Int) (c : ByteArray) (n now : Int) : askE last S L0 L1 L2 W c n now = askL last (gvOf l) L0 L1 L2 W c n now := by
  unfold askE askL
  rw [h.tells]
  by_cases h1 : L2 - n < (cntG W now c (gvOf l)).sum
  · have h2 : L2 < (cntG W now c (gvOf l)).sum + n := by omega
    simp only [h1, h2]
  · have h2 : ¬ L2 < (cntG W now c (gvOf l)).sum + n := by omega
    simp only [h1, h2]
theorem PRel.used_same {place : Int} {S : St} {l : Lp} (h : PRel place S l) (L0 L1 L2 W now : Int) (c : ByteArray) : usedR L0 L1 L2 W now (S.get c) = usedL L0 L1 L2 W now c (gvOf l) := by
  unfold usedR usedL
  rw [h.tells]
theorem mem_lastsG {c : ByteArray} : ∀ {L : List Gv}, c ∈ lastsG L ↔ ∃ g ∈ L, g.1 = c
  | [] => by constructor <;> intro h <;> simp [lastsG] at h
  | g :: l => by
    unfold lastsG
    split
    · next h =>
      rw [mem_lastsG]
      constructor
      · rintro ⟨x, hx, e⟩; exact ⟨x, List.mem_cons_of_mem _ hx, e⟩
      · rintro ⟨x, hx, e⟩
        rcases List.mem_cons.mp hx with rfl | hx
        · rw [List.any_eq_true] at h
          obtain ⟨y, hy, e2⟩ := h
          exact ⟨y, hy, (of_decide_eq_true e2).trans e⟩
        · exact ⟨x, hx, e⟩
    · rw [List.mem_cons, mem_lastsG]
      constructor
      · rintro (rfl | ⟨x, hx, e⟩)
        · exact ⟨g, List.mem_cons_self, rfl⟩
        · exact ⟨x, List.mem_cons_of_mem _ hx, e⟩
      · rintro ⟨x, hx, e⟩
        rcases List.mem_cons.mp hx with rfl | hx
        · exact .inl e.symm
        · exact .inr ⟨x, hx, e⟩
theorem nodup_lastsG : ∀ (L : List Gv), (lastsG L).Nodup
  | [] => List.nodup_nil
  | g :: l => by
    unfold lastsG
    split
    · exact nodup_lastsG l
    · next h =>
      rw [List.nodup_cons]
      refine ⟨fun hm => h ?_, nodup_lastsG l⟩
      obtain ⟨x, hx, e⟩ := mem_lastsG.mp hm
      rw [List.any_eq_true]
      exact ⟨x, hx, decide_eq_true e⟩
theorem cards_gvOf {c : ByteArray} {l : Lp} : (∃ g ∈ gvOf l, g.1 = c) ↔ ∃ x ∈ l, x.1 = c := by
  unfold gvOf
  constructor
  · rintro ⟨g, hg, e⟩
    obtain ⟨x, hx, rfl⟩ := List.mem_map.mp hg
    exact ⟨x, hx, e⟩
  · rintro ⟨x, hx, e⟩
    exact ⟨_, List.mem_map.mpr ⟨x, hx, rfl⟩, e⟩
theorem PRel.len {place : Int} {S : St} {l : Lp} (h : PRel place S l) (hnd : (S.map (·.1)).Nodup) (hfull : ∀ x ∈ S, x.2 ≠ []) : S.length = (lastsG (gvOf l)).length := by
  have hk : ∀ c, c ∈ S.map (·.1) ↔ S.has c = true := fun c => by
    unfold St.has
    rw [List.any_eq_true, List.mem_map]
    constructor
    · rintro ⟨x, hx, e⟩; exact ⟨x, hx, decide_eq_true e⟩
    · rintro ⟨x, hx, e⟩; exact ⟨x, hx, of_decide_eq_true e⟩
  have h1 := len_of_nodup (S.map (·.1)) (lastsG (gvOf l)) hnd (fun c hc => by rw [mem_lastsG, cards_gvOf, ← h.has hnd hfull, ← hk]; exact hc)
  have h2 := len_of_nodup (lastsG (gvOf l)) (S.map (·.1)) (nodup_lastsG _) (fun c hc => by rw [hk, h.has hnd hfull, ← cards_gvOf, ← mem_lastsG]; exact hc)
  rw [List.length_map] at h1 h2
  omega
theorem gvOf_append (a b : Lp) : gvOf (a ++ b) = gvOf a ++ gvOf b := List.map_append
theorem apsOf_append (c : ByteArray) (a b : Lp) : apsOf c (a ++ b) = apsOf c a ++ apsOf c b := by unfold apsOf; rw [List.filter_append, List.map_append]
theorem PRel.put {place : Int} {S : St} {l : Lp} (h : PRel place S l) (h0 : 0 ≤ place) (c : ByteArray) (n now : Int) : PRel (place + 1) (S.put c (S.get c ++ [⟨place + 1, n, now⟩])) (l ++ [(c, ⟨place + 1, n, now⟩)]) := by
  refine ⟨fun d => ?_, ?_, fun x hx => ?_⟩
  · rw [apsOf_append]
    by_cases hd : d = c
    · subst hd
      rw [get_put_same, h.get]
      congr 1
      simp [apsOf]
    · rw [get_put_other _ hd, h.get]
      have : ¬ c = d := fun e => hd e.symm
      simp [apsOf, this]
  · rw [List.pairwise_append]
    refine ⟨h.incr, List.pairwise_singleton _ _, fun a ha b hb => ?_⟩
    rw [List.mem_singleton] at hb
    subst hb
    have := (h.top a ha).2
    show _ < place + 1
    omega
  · rcases List.mem_append.mp hx with hx | hx
    · have := h.top x hx; omega
    · rw [List.mem_singleton] at hx
      subst hx
      show 0 ≤ place + 1 ∧ place + 1 ≤ place + 1
      omega
theorem lastP_cons (a : Ap) {l : List Ap} (h : l ≠ []) : lastP (a :: l) = lastP l := by
  unfold lastP
  rw [List.getLast?_cons_of_ne_nil h]
theorem lastP_mem {l : List Ap} (h : l ≠ []) : ∃ a ∈ l, lastP l = a.place := by
  refine ⟨l.getLast h, List.getLast_mem h, ?_⟩
  unfold lastP
  rw [List.getLast?_eq_some_getLast h]
theorem apsOf_cons (c : ByteArray) (x : ByteArray × Ap) (l : Lp) : apsOf c (x :: l) = if x.1 = c then x.2 :: apsOf c l else apsOf c l := by
  unfold apsOf
  by_cases h : x.1 = c
  · rw [if_pos h, List.filter_cons_of_pos (by simp [h])]; rfl
  · rw [if_neg h, List.filter_cons_of_neg (by simp [h])]
theorem lp_cons {b : ByteArray} {x : ByteArray × Ap} {l : Lp} (h : ∃ y ∈ l, y.1 = b) : lastP (apsOf b (x :: l)) = lastP (apsOf b l) := by
  rw [apsOf_cons]
  split
  · exact lastP_cons _ (apsOf_ne.mpr h)
  · rfl
theorem lasts_order : ∀ {l : Lp}, l.Pairwise (fun x y => x.2.place < y.2.place) → (lastsG (gvOf l)).Pairwise (fun a b => lastP (apsOf a l) < lastP (apsOf b l))
  | [], _ => List.Pairwise.nil
  | x :: l, hp => by
    rw [List.pairwise_cons] at hp
    have ih := lasts_order hp.2
    have ih' : (lastsG (gvOf l)).Pairwise (fun a b => lastP (apsOf a (x :: l)) < lastP (apsOf b (x :: l))) := by
      refine ih.imp_of_mem (fun {a b} ha hb hab => ?_)
      rw [lp_cons (cards_gvOf.mp (mem_lastsG.mp ha)), lp_cons (cards_gvOf.mp (mem_lastsG.mp hb))]
      exact hab
    show (lastsG ((x.1, x.2.units, x.2.at_) :: gvOf l)).Pairwise _
    unfold lastsG
    split
    · exact ih'
    · next hno =>
      rw [List.pairwise_cons]
      refine ⟨fun b hb => ?_, ih'⟩
      have hb' := cards_gvOf.mp (mem_lastsG.mp hb)
      have he : apsOf x.1 l = [] := by
        have h2 : ¬ (apsOf x.1 l ≠ []) := fun h2 => hno (by
          obtain ⟨y, hy, e⟩ := cards_gvOf.mpr (apsOf_ne.mp h2)
          rw [List.any_eq_true]
          exact ⟨y, hy, decide_eq_true e⟩)
        exact Classical.not_not.mp h2
      rw [lp_cons hb', apsOf_cons, if_pos rfl, he]
      obtain ⟨a, ha, e⟩ := lastP_mem (apsOf_ne.mpr hb')
      rw [e]
      unfold apsOf at ha
      obtain ⟨y, hy, rfl⟩ := List.mem_map.mp ha
      exact hp.1 y (List.mem_filter.mp hy).1
def woL (c : ByteArray) (l : Lp) : Lp := l.filter (fun x => !decide (x.1 = c))
theorem gvOf_wo (c : ByteArray) (l : Lp) : gvOf (woL c l) = woCard c (gvOf l) := by
  unfold gvOf woL woCard
  rw [List.filter_map]
  rfl
theorem PRel.del {place : Int} {S : St} {l : Lp} (h : PRel place S l) (c : ByteArray) : PRel place (S.del c) (woL c l) := by
  refine ⟨fun d => ?_, h.incr.sublist List.filter_sublist, fun x hx => h.top x (List.mem_filter.mp hx).1⟩
  by_cases hd : d = c
  · subst hd
    rw [get_none (by rw [has_del]; simp)]
    have : ¬ (apsOf d (woL d l) ≠ []) := fun h2 => by
      obtain ⟨x, hx, e⟩ := apsOf_ne.mp h2
      have := (List.mem_filter.mp hx).2
      simp [e] at this
    exact (Classical.not_not.mp this).symm
  · rw [get_del_other hd, h.get]
    unfold apsOf woL
    rw [List.filter_filter]
    congr 1
    refine List.filter_congr (fun x hx => ?_)
    by_cases e : x.1 = d
    · have : ¬ x.1 = c := fun q => hd (e.symm.trans q)
      simp [e, this]
      exact fun q => this (e.trans q)
    · simp [e]
theorem PRel.oldest {place : Int} {S : St} {l : Lp} (h : PRel place S l) (hnd : (S.map (·.1)).Nodup) (hfull : ∀ x ∈ S, x.2 ≠ []) {c0 : ByteArray} (ho : Oldest S c0) : (lastsG (gvOf l)).headD ByteArray.empty = c0 := by
  have hor := lasts_order h.incr
  obtain ⟨y, hy, hyc, hmin⟩ := ho
  have hk : S.has c0 = true := by
    unfold St.has
    rw [List.any_eq_true]
    exact ⟨y, hy, by simp [hyc]⟩
  have hm := mem_lastsG.mpr (cards_gvOf.mpr ((h.has hnd hfull c0).mp hk))
  cases hl : lastsG (gvOf l) with
  | nil => rw [hl] at hm; cases hm
  | cons x rest =>
    rw [hl] at hm hor
    rcases List.mem_cons.mp hm with e | e
    · exact e.symm
    · exfalso
      have h1 := (List.pairwise_cons.mp hor).1 c0 e
      have hxh := (h.has hnd hfull x).mpr (cards_gvOf.mp (mem_lastsG.mp (by rw [hl]; exact List.mem_cons_self)))
      obtain ⟨z, hz, hzx⟩ := mem_of_has hxh
      have h2 := hmin z hz
      rw [← get_of_mem hnd hy, ← get_of_mem hnd hz, hyc, hzx, h.get, h.get] at h2
      omega
/-- Behind an approval, and what is forgotten. -/
theorem PRel.asked {place cards : Int} {S S' : St} {l : Lp} (h : PRel place S l) (h0 : 0 ≤ place) (hnd : (S.map (·.1)).Nodup) (hfull : ∀ x ∈ S, x.2 ≠ []) {c : ByteArray} {n now : Int} (hA : Approved cards place S c n now S') :
    ∃ l', PRel (place + 1) S' l' ∧ gvOf l' = forgetL cards (gvOf l ++ [(c, n, now)]) := by
  have h1 := h.put h0 c n now
  obtain ⟨S1, hS1⟩ : ∃ S1, S1 = S.put c (S.get c ++ [⟨place + 1, n, now⟩]) := ⟨_, rfl⟩
  have hnd1 : (S1.map (·.1)).Nodup := by rw [hS1]; exact nodup_put hnd c _
  have hfull1 : ∀ x ∈ S1, x.2 ≠ [] := by
    intro x hx
    rw [hS1] at hx
    unfold St.put at hx
    rcases List.mem_cons.mp hx with rfl | hx
    · simp
    · exact hfull x (mem_del.mp hx).1
  rw [← hS1] at h1
  have hlen := h1.len hnd1 hfull1
  have hgv : gvOf (l ++ [(c, ⟨place + 1, n, now⟩)]) = gvOf l ++ [(c, n, now)] := gvOf_append _ _
  unfold Approved at hA
  rw [← hS1] at hA
  unfold forgetL
  rw [← hgv]
  rcases hA with ⟨hle, rfl⟩ | ⟨hgt, c0, ho, rfl⟩
  · exact ⟨_, h1, by rw [if_neg (by omega)]⟩
  · refine ⟨_, h1.del c0, ?_⟩
    rw [if_pos (by omega), h1.oldest hnd1 hfull1 ho, gvOf_wo]
def er {α : Type} (p : α → Bool) (l : List α) : List α := match l.findIdx? p with | some i => l.eraseIdx i | none => l
theorem er_cons {α : Type} (p : α → Bool) (x : α) (l : List α) : er p (x :: l) = if p x = true then l else x :: er p l := by
  unfold er
  rw [List.findIdx?_cons]
  by_cases h : p x = true
  · rw [if_pos h]; simp [h]
  · rw [if_neg h]
    simp only [h]
    cases l.findIdx? p with
    | none => rfl
    | some i => rfl
def hitL (c : ByteArray) (u t : Int) (x : ByteArray × Ap) : Bool := decide (x.1 = c) && hit u t x.2
theorem er_aps (c : ByteArray) (u t : Int) : ∀ l : Lp, apsOf c (er (hitL c u t) l) = er (hit u t) (apsOf c l) ∧ (∀ d, d ≠ c → apsOf d (er (hitL c u t) l) = apsOf d l) ∧ gvOf (er (hitL c u t) l) = er (hitG c u t) (gvOf l) ∧ (l.findIdx? (hitL c u t)).isSome = ((apsOf c l).findIdx? (hit u t)).isSome ∧ ((gvOf l).findIdx? (hitG c u t)).isSome = ((apsOf c l).findIdx? (hit u t)).isSome ∧ (er (hitL c u t) l).Sublist l
  | [] => ⟨rfl, fun _ _ => rfl, rfl, rfl, rfl, List.Sublist.refl _⟩
  | x :: l => by
    obtain ⟨i1, i2, i3, i4, i5, i6⟩ := er_aps c u t l
    have hg : gvOf (x :: l) = (x.1, x.2.units, x.2.at_) :: gvOf l := rfl
    have hh : hitG c u t (x.1, x.2.units, x.2.at_) = hitL c u t x := rfl
    rw [er_cons, hg, er_cons, hh, List.findIdx?_cons, List.findIdx?_cons, hh, apsOf_cons]
    by_cases hx : x.1 = c
    · rw [if_pos hx, er_cons, List.findIdx?_cons]
      have e : hitL c u t x = hit u t x.2 := by unfold hitL; simp [hx]
      rw [e]
      by_cases hp : hit u t x.2 = true
      · rw [if_pos hp, if_pos hp, if_pos hp]
        refine ⟨rfl, fun d hd => ?_, rfl, by simp [hp], by simp [hp], List.sublist_cons_self _ _⟩
        rw [apsOf_cons, if_neg (fun q => hd (q.symm.trans hx))]
      · rw [if_neg hp, if_neg hp, if_neg hp]
        have hp' := (Bool.not_eq_true _).mp hp
        refine ⟨by rw [apsOf_cons, if_pos hx, i1], fun d hd => by rw [apsOf_cons, apsOf_cons, i2 d hd], by rw [show gvOf (x :: er (hitL c u t) l) = (x.1, x.2.units, x.2.at_) :: gvOf (er (hitL c u t) l) from rfl, i3], by simp [hp', i4], by simp [hp', i5], i6.cons_cons x⟩
    · rw [if_neg hx]
      have e : hitL c u t x = false := by unfold hitL; simp [hx]
      rw [e]
      simp only [Bool.false_eq_true, if_false]
      refine ⟨by rw [apsOf_cons, if_neg hx, i1], fun d hd => by rw [apsOf_cons, apsOf_cons, i2 d hd], by rw [show gvOf (x :: er (hitL c u t) l) = (x.1, x.2.units, x.2.at_) :: gvOf (er (hitL c u t) l) from rfl, i3], by simpa using i4, by simpa using i5, i6.cons_cons x⟩
/-- Behind an Undo. -/
theorem PRel.undone {place : Int} {S : St} {l : Lp} (h : PRel place S l) (c : ByteArray) (u t : Int) :
    undoE S c u t = ((gvOf l).findIdx? (hitG c u t)).isSome ∧ ∃ l', PRel place (undoS S c u t) l' ∧ gvOf l' = undoL c u t (gvOf l) := by
  obtain ⟨i1, i2, i3, i4, i5, i6⟩ := er_aps c u t l
  refine ⟨by unfold undoE; rw [h.get, i5], er (hitL c u t) l, ⟨fun d => ?_, h.incr.sublist i6, fun x hx => h.top x (i6.subset hx)⟩, by rw [i3]; rfl⟩
  have hu : (undoS S c u t).get c = er (hit u t) (S.get c) ∧ ∀ d, d ≠ c → (undoS S c u t).get d = S.get d := by
    unfold undoS er
    cases hf : (S.get c).findIdx? (hit u t) with
    | none => exact ⟨rfl, fun _ _ => rfl⟩
    | some i =>
      simp only []
      have hi := (List.findIdx?_eq_some_iff_getElem.mp hf).1
      by_cases h1 : (S.get c).length = 1
      · rw [if_pos h1]
        refine ⟨?_, fun d hd => get_del_other hd⟩
        rw [get_none (by rw [has_del]; simp)]
        have : ((S.get c).eraseIdx i).length = 0 := by rw [List.length_eraseIdx_of_lt hi]; omega
        exact (List.length_eq_zero_iff.mp this).symm
      · rw [if_neg h1]
        exact ⟨get_put_same _ _ _, fun d hd => get_put_other _ hd⟩
  by_cases hd : d = c
  · subst hd
    rw [hu.1, h.get, i1]
  · rw [hu.2 d hd, h.get, i2 d hd]
end Go.Proofs.Ytgndgjjejgbmoaa.Bok
