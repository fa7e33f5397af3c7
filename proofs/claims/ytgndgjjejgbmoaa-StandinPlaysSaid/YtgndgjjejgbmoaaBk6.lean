/- A Book whose map is stored into, or struck. -/
import Derived.Test.YtgndgjjejgbmoaaBk5
namespace Go.Proofs.Ytgndgjjejgbmoaa.Bok
open Go Go.RowKit Go.Maps Go.Proofs.YtgndgjjejgbmoaaW.PrintWords Go.Proofs.YtgndgjjejgbmoaaW.PrintLast Go.Proofs.YtgndgjjejgbmoaaW.PrintMore PStandinHolds
/-- What a Book's map and rows are, its values named. -/
structure Rows (w : World) (F : Nat → Prop) (p m : Nat) (S : St) (n : Nat) (D : DataW Value) (v : ByteArray → Value) : Prop where
  map : w.ownsMap Try.prog 9 raw m n D
  size : Maps.size D = S.length
  has : ∀ c, Maps.has D (key c) = S.has c
  row : ∀ x ∈ S, D.atKey (key x.1) .nil = .held (v x.1) ∧ w.ownsRow 0 73 3 (v x.1) x.2.length (cellsOf x.2) ∧ (∀ b, (v x.1).ownBlock = some b → F b ∧ b ≠ p ∧ b ≠ m)
  apart : ∀ x ∈ S, ∀ y ∈ S, x.1 ≠ y.1 → ∀ b, (v x.1).ownBlock = some b → (v y.1).ownBlock ≠ some b
theorem Book.open_ {w : World} {F : Nat → Prop} {p m : Nat} {cards place last : Int} {S : St} (h : Book w F p m cards place last S) : ∃ (n : Nat) (D : DataW Value) (v : ByteArray → Value), (n : Int) ≤ place ∧ Rows w F p m S n D v := by
  obtain ⟨n, D, v, h1, h2, h3, h4, h5, h6⟩ := h.rows
  exact ⟨n, D, v, h1, h2, h3, h4, h5, h6⟩
theorem Book.p_ne_m {w : World} {F : Nat → Prop} {p m : Nat} {cards place last : Int} {S : St} (h : Book w F p m cards place last S) : p ≠ m := by
  intro e
  obtain ⟨n, D, v, _, hR⟩ := h.open_
  obtain ⟨es, clock, hb, _⟩ := hR.map
  rw [← e, h.strct] at hb
  cases hb
theorem has_del {S : St} {c d : ByteArray} : (S.del c).has d = (S.has d && !decide (d = c)) := by
  unfold St.del St.has
  induction S with
  | nil => rfl
  | cons x S ih =>
    by_cases h : x.1 = c
    · rw [List.filter_cons_of_neg (by simp [h]), ih, List.any_cons]
      by_cases h2 : d = c
      · simp [h2]
      · have : ¬ x.1 = d := fun e => h2 (e ▸ h)
        simp [this]
    · rw [List.filter_cons_of_pos (by simp [h]), List.any_cons, List.any_cons, ih]
      by_cases h2 : x.1 = d
      · have : ¬ d = c := fun e => h (h2.trans e)
        simp [h2, this]
      · simp [h2]
theorem len_del {S : St} (hn : (S.map (·.1)).Nodup) (c : ByteArray) : (S.del c).length + (if S.has c then 1 else 0) = S.length := by
  unfold St.del St.has
  induction S with
  | nil => rfl
  | cons x S ih =>
    rw [List.map_cons, List.nodup_cons] at hn
    have ih' := ih hn.2
    by_cases h : x.1 = c
    · have hno : S.any (fun y => decide (y.1 = c)) = false := by
        rw [List.any_eq_false]
        intro y hy
        simp only [decide_eq_true_eq]
        intro e
        exact hn.1 (by rw [h, ← e]; exact List.mem_map.mpr ⟨y, hy, rfl⟩)
      rw [hno] at ih'
      rw [List.filter_cons_of_neg (by simp [h]), List.any_cons]
      simp [h] at ih' ⊢
      exact ih'
    · rw [List.filter_cons_of_pos (by simp [h]), List.any_cons]
      simp only [h, decide_false, Bool.false_or, List.length_cons]
      omega
theorem mem_del {S : St} {c : ByteArray} {x : ByteArray × List Ap} : x ∈ S.del c ↔ x ∈ S ∧ x.1 ≠ c := by
  unfold St.del
  rw [List.mem_filter]
  simp
theorem nodup_del {S : St} (hn : (S.map (·.1)).Nodup) (c : ByteArray) : ((S.del c).map (·.1)).Nodup := by
  unfold St.del
  exact hn.sublist ((List.filter_sublist).map _)
theorem Book.put_ {w w2 w3 : World} {F : Nat → Prop} {p m : Nat} {cards place last : Int} {S : St} (h : Book w F p m cards place last S) {n : Nat} {D : DataW Value} {v : ByteArray → Value} {n3 : Nat} (hn : (n3 : Int) ≤ place) (hR : Rows w F p m S n D v)
    {c : ByteArray} {v0 : Value} (hv0 : (S.has c = true ∧ v c = v0) ∨ (S.has c = false ∧ v0.ownBlock = none)) (v' : Value) (l' : List Ap) (hl' : l' ≠ [])
    (hown : w2.ownsRow 0 73 3 v' l'.length (cellsOf l')) (hg : w.grownBy w2 v0.ownBlock) (hat : v'.ownBlock = v0.ownBlock ∨ ∃ b, v'.ownBlock = some b ∧ w.heap.size ≤ b) (hm3 : w3.ownsMap Try.prog 9 raw m n3 (D.put (key c) (.held v'))) (hg3 : w2.grownBy w3 (some m)) :
    Book w3 (fun i => F i ∨ v'.ownBlock = some i) p m cards place last (S.put c l') := by
  have hpm := h.p_ne_m
  have b0 : ∀ b, v0.ownBlock = some b → F b ∧ b ≠ p ∧ b ≠ m := by
    intro b hb
    rcases hv0 with ⟨e1, e2⟩ | ⟨_, e2⟩
    · obtain ⟨x, hx, rfl⟩ := mem_of_has e1
      rw [← e2] at hb
      exact (hR.row x hx).2.2 b hb
    · rw [e2] at hb; cases hb
  have hml := h.lt m h.inm
  have hpl := h.lt p h.inp
  have b' : ∀ b, v'.ownBlock = some b → b < w2.heap.size ∧ b ≠ p ∧ b ≠ m := by
    intro b hb
    have hlt := (hown.lt b hb).2
    rcases hat with e | ⟨b2, e, hge⟩
    · rw [e] at hb
      exact ⟨hlt, (b0 b hb).2⟩
    · rw [e] at hb
      injection hb with hb
      exact ⟨hlt, by omega, by omega⟩
  have keepF : ∀ i, i < w.heap.size → v0.ownBlock ≠ some i → i ≠ m → w3.heap[i]? = w.heap[i]? := fun i hi h1 h2 =>
    (hg3.block i (Nat.lt_of_lt_of_le hi hg.size) (fun e => h2 (by injection e))).trans (hg.block i hi (fun e => h1 e.symm))
  have hTidy := hR.map.tidy (string_keyed Try.underlying9)
  have hIs := hR.map.isMap
  refine ⟨?_, .inl h.inp, .inl h.inm, ?_, ?_, ?_, h.place0, n3, D.put (key c) (.held v'), fun d => if d = c then v' else v d, hn, hm3, ?_, ?_, ?_, ?_⟩
  · exact (keepF p hpl (fun e => (b0 p e).2.1 rfl) hpm).trans h.strct
  · rintro i (hi | hi)
    · exact Nat.lt_of_lt_of_le (h.lt i hi) (Nat.le_trans hg.size hg3.size)
    · exact Nat.lt_of_lt_of_le (b' i hi).1 hg3.size
  · unfold St.put
    rw [List.map_cons, List.nodup_cons]
    refine ⟨fun hx => ?_, nodup_del h.nodup c⟩
    obtain ⟨x, hx, e⟩ := List.mem_map.mp hx
    exact (mem_del.mp hx).2 e
  · intro x hx
    unfold St.put at hx
    rcases List.mem_cons.mp hx with rfl | hx
    · exact hl'
    · exact h.full x (mem_del.mp hx).1
  · rw [Maps.size_put hTidy, hR.has, hR.size]
    have := len_del h.nodup c
    unfold St.put
    rw [List.length_cons]
    split <;> simp_all
  · intro d
    by_cases hd : d = c
    · subst hd
      rw [Maps.has_put_same hIs (show WideAt.IsKeyLit (key d) from trivial)]
      unfold St.put St.has
      simp
    · rw [Maps.has_put_other (fun e => hd (key_inj e)), hR.has]
      unfold St.put
      show _ = List.any _ _
      rw [List.any_cons]
      have := has_del (S := S) (c := c) (d := d)
      unfold St.has at this ⊢
      rw [this]
      have hcd : ¬ c = d := fun e => hd e.symm
      simp [hd, hcd]
  · intro x hx
    unfold St.put at hx
    rcases List.mem_cons.mp hx with rfl | hx
    · simp only [if_true]
      refine ⟨Maps.atKey_put_same hIs (show WideAt.IsKeyLit (key c) from trivial) _ _, hown.kept hg3 ?_, fun b hb => ⟨.inr hb, (b' b hb).2⟩⟩
      cases e : v'.ownBlock with
      | none => exact .inl rfl
      | some b => exact .inr (fun e2 => by injection e2 with e2; exact (b' b e).2.2 e2)
    · obtain ⟨hx, hne⟩ := mem_del.mp hx
      obtain ⟨r1, r2, r3⟩ := hR.row x hx
      simp only [hne, if_false]
      have hne0 : ∀ b, (v x.1).ownBlock = some b → v0.ownBlock ≠ some b := by
        intro b hb e
        rcases hv0 with ⟨e1, e2⟩ | ⟨_, e2⟩
        · obtain ⟨y, hy, ey⟩ := mem_of_has e1
          rw [← e2, ← ey] at e
          exact hR.apart y hy x hx (fun q => hne (q.symm.trans ey)) b e hb
        · rw [e2] at e; cases e
      refine ⟨(Maps.atKey_put_other (fun e => hne (key_inj e)) _ _).trans r1, (r2.kept hg ?_).kept hg3 ?_, fun b hb => ⟨.inl (r3 b hb).1, (r3 b hb).2⟩⟩
      · cases e : (v x.1).ownBlock with
        | none => exact .inl rfl
        | some b => exact .inr (fun e2 => hne0 b e e2.symm)
      · cases e : (v x.1).ownBlock with
        | none => exact .inl rfl
        | some b => exact .inr (fun e2 => by injection e2 with e2; exact (r3 b e).2.2 e2)
  · intro x hx y hy hne b hb
    have other : ∀ z ∈ S, z.1 ≠ c → ∀ b, v'.ownBlock = some b → (v z.1).ownBlock ≠ some b := by
      intro z hz hzc b hb e
      rcases hat with q | ⟨b2, q, hge⟩
      · rw [q] at hb
        rcases hv0 with ⟨e1, e2⟩ | ⟨_, e2⟩
        · obtain ⟨u, hu, eu⟩ := mem_of_has e1
          rw [← e2, ← eu] at hb
          exact hR.apart u hu z hz (fun q => hzc (q.symm.trans eu)) b hb e
        · rw [e2] at hb; cases hb
      · rw [q] at hb
        injection hb with hb
        have := h.lt b ((hR.row z hz).2.2 b e).1
        omega
    unfold St.put at hx hy
    rcases List.mem_cons.mp hx with rfl | hx
    · rcases List.mem_cons.mp hy with rfl | hy
      · exact absurd rfl hne
      · obtain ⟨hy, hyc⟩ := mem_del.mp hy
        simp only [if_true, hyc, if_false] at hb ⊢
        exact other y hy hyc b hb
    · obtain ⟨hx, hxc⟩ := mem_del.mp hx
      rcases List.mem_cons.mp hy with rfl | hy
      · simp only [if_true, hxc, if_false] at hb ⊢
        exact fun e => other x hx hxc b e hb
      · obtain ⟨hy, hyc⟩ := mem_del.mp hy
        simp only [hxc, hyc, if_false] at hb ⊢
        exact hR.apart x hx y hy hne b hb
end Go.Proofs.Ytgndgjjejgbmoaa.Bok
