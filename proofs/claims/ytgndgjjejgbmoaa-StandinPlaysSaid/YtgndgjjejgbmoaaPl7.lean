/- StandinPlays: two Books beside one another: what each call leaves of both. -/
import Derived.Test.YtgndgjjejgbmoaaPl6
namespace Go.Proofs.Ytgndgjjejgbmoaa.Bok
open Go Go.RowKit Go.Maps Go.Proofs.YtgndgjjejgbmoaaW.PrintWords Go.Proofs.YtgndgjjejgbmoaaW.PrintLast Go.Proofs.YtgndgjjejgbmoaaW.PrintMore PStandinHolds
set_option linter.unusedSimpArgs false
set_option linter.unusedVariables false
theorem book_ask {w : World} {F : Nat → Prop} {p m : Nat} {cards place last : Int} {S : St} (hb : Book w F p m cards place last S) {N : Nat} (hg : Good N place S) (hN : N ≤ 999000)
    (L0 L1 L2 W : Int) (c : ByteArray) (hc : c.size ≤ maxLen) (n now : Int) (hn0 : -9223372036854775808 ≤ n) (hn1 : n ≤ 9223372036854775807) (h1 : now ≤ 9223372036854775807) :
    Calls Try.prog 13 #[.pointer (some ⟨p, 0, none⟩), .agg #[.int .i64 L0, .int .i64 L1, .int .i64 L2, .int .i64 W], .string c, .int .i64 n, .int .i64 now] w fun e w' => e = .returned (.int .i64 (askE last S L0 L1 L2 W c n now)) ∧ ∃ F' place' last' S', AskTo cards place last S L0 L1 L2 W c n now place' last' S' ∧ Book w' F' p m cards place' last' S' ∧ Chg F w w' ∧ (∀ i, F' i → F i ∨ w.heap.size ≤ i) ∧ Good (N + 1) place' S' := by
  by_cases hE : askE last S L0 L1 L2 W c n now = 0
  · obtain ⟨q1, q2, q3, q4, q5, q6, q7, q8⟩ := ask0 hE
    rw [hE]
    have hP := hg.place
    refine (ask_yes w hb L0 L1 L2 W c hc n now h1 (hg.fine hN c) (by omega) (fun x hx => ⟨hg.lastP hx (hb.full x hx), by have := (hg.card x hx).2.1; omega, (hg.card x hx).1⟩) (by have := (hg.get c).1; omega) q1 q2 q3 q4 q5 q6 _ rfl _ rfl q7 q8).mono ?_
    rintro e w' ⟨rfl, F', S', hA, hb', hch, hF'⟩
    refine ⟨rfl, F', _, _, S', .inr ⟨hE, rfl, rfl, hA⟩, hb', hch, hF', ?_⟩
    have hg1 : Good (N + 1) (place + 1) (S.put c (S.get c ++ [⟨place + 1, n, now⟩])) := by
      have hg' : Good (N + 1) (place + 1) S := ⟨by omega, fun x hx => ⟨(hg.card x hx).1, by have := (hg.card x hx).2.1; omega, (hg.card x hx).2.2⟩⟩
      refine hg'.put hc (by rw [List.length_append]; have := (hg.get c).1; simpa using this) (fun a ha => ?_)
      rcases List.mem_append.mp ha with ha | ha
      · exact (hg.get c).2 a ha
      · rw [List.mem_singleton] at ha
        subst ha
        have hp0 := hb.place0
        unfold amt at q2
        simp only [Bool.and_eq_true, decide_eq_true_eq] at q2
        exact ⟨⟨⟨q4, h1⟩, q2⟩, by show 0 ≤ place + 1; omega⟩
    rcases hA with ⟨_, rfl⟩ | ⟨_, c0, _, rfl⟩
    · exact hg1
    · exact hg1.del c0
  · refine (ask_no w hb L0 L1 L2 W c hc n now hn0 hn1 h1 (hg.fine hN c) hE).mono ?_
    rintro e w' ⟨rfl, hB⟩
    exact ⟨rfl, F, _, _, S, .inl ⟨hE, rfl, rfl, rfl⟩, hb.kept (Chg.of_below hB : Chg (fun _ => False) w w') (fun _ _ hf => hf), Chg.of_below hB, fun i hi => .inl hi, hg.mono (by omega)⟩
/-- The program's Book p and the document's Book r, of the same approvals; F: their blocks. -/
def Pair (N : Nat) (w : World) (F : Nat → Prop) (p r : Nat) (cards : Int) : Prop :=
  ∃ (Fb : Nat → Prop) (m : Nat) (place last : Int) (S : St) (l : Lp) (v : Value), Book w Fb p m cards place last S ∧ RB w r cards last (gvOf l) v ∧ PRel place S l ∧ Good N place S ∧ l.length ≤ N ∧
    (∀ i, F i ↔ Fb i ∨ i = r ∨ v.ownBlock = some i) ∧ ¬ Fb r ∧ (∀ b, v.ownBlock = some b → ¬ Fb b)
theorem RB.kept {w w' : World} {r : Nat} {cards now : Int} {L : List Gv} {v : Value} (h : RB w r cards now L v) {F : Nat → Prop} (hc : Chg F w w') (hr : ¬ F r) (hv : ∀ b, v.ownBlock = some b → ¬ F b) : RB w' r cards now L v :=
  ⟨(hc.block r (Array.getElem?_eq_some_iff.mp h.strct).1 hr).trans h.strct, own_move h.row (fun k hk => hc.block k (h.row.lt k hk).2 (hv k hk))⟩
theorem Pair.lt {N : Nat} {w : World} {F : Nat → Prop} {p r : Nat} {cards : Int} (h : Pair N w F p r cards) : ∀ i, F i → i < w.heap.size := by
  obtain ⟨Fb, m, place, last, S, l, v, hb, hr, hp, hg, hl, hF, h1, h2⟩ := h
  intro i hi
  rcases (hF i).mp hi with hi | hi | hi
  · exact hb.lt i hi
  · subst hi; exact (Array.getElem?_eq_some_iff.mp hr.strct).1
  · exact (hr.row.lt i hi).2
theorem Pair.kept {N : Nat} {w w' : World} {F : Nat → Prop} {p r : Nat} {cards : Int} (h : Pair N w F p r cards) {G : Nat → Prop} (hc : Chg G w w') (hG : ∀ i, F i → ¬ G i) : Pair N w' F p r cards := by
  obtain ⟨Fb, m, place, last, S, l, v, hb, hr, hp, hg, hl, hF, h1, h2⟩ := h
  exact ⟨Fb, m, place, last, S, l, v, hb.kept hc (fun i hi => hG i ((hF i).mpr (.inl hi))), hr.kept hc (hG r ((hF r).mpr (.inr (.inl rfl)))) (fun b hb => hG b ((hF b).mpr (.inr (.inr hb)))), hp, hg, hl, hF, h1, h2⟩
theorem Pair.mono {N N' : Nat} {w : World} {F : Nat → Prop} {p r : Nat} {cards : Int} (h : Pair N w F p r cards) (hN : N ≤ N') : Pair N' w F p r cards := by
  obtain ⟨Fb, m, place, last, S, l, v, hb, hr, hp, hg, hl, hF, h1, h2⟩ := h
  exact ⟨Fb, m, place, last, S, l, v, hb, hr, hp, hg.mono hN, by omega, hF, h1, h2⟩
theorem okGv_of {N : Nat} {place : Int} {S : St} {l : Lp} (hg : Good N place S) (hp : PRel place S l) : ∀ g ∈ gvOf l, OkGv g := by
  intro g hg'
  obtain ⟨x, hx, rfl⟩ := List.mem_map.mp hg'
  have hm : x.2 ∈ S.get x.1 := by
    rw [hp.get]
    unfold apsOf
    exact List.mem_map.mpr ⟨x, List.mem_filter.mpr ⟨hx, by simp⟩, rfl⟩
  have := ((hg.get x.1).2 _ hm).1
  exact ⟨this.2, this.1⟩
/-- Behind the program's Ask, ahead of the document's. -/
def HalfA (N : Nat) (w : World) (F : Nat → Prop) (p r : Nat) (cards : Int) (L0 L1 L2 W : Int) (c : ByteArray) (n now : Int) (E : Int) (w' : World) : Prop :=
  ∃ (Fb Fb' : Nat → Prop) (m : Nat) (place last place' last' : Int) (S S' : St) (l : Lp) (v : Value), Book w' Fb' p m cards place' last' S' ∧ RB w' r cards last (gvOf l) v ∧ (PRel place S l ∧ 0 ≤ place ∧ (S.map (·.1)).Nodup ∧ (∀ x ∈ S, x.2 ≠ []) ∧ Good N place S) ∧ l.length ≤ N ∧ Good (N + 1) place' S' ∧ AskTo cards place last S L0 L1 L2 W c n now place' last' S' ∧
    E = askE last S L0 L1 L2 W c n now ∧ Chg F w w' ∧ (∀ i, Fb' i → F i ∨ w.heap.size ≤ i) ∧ F r ∧ (∀ b, v.ownBlock = some b → F b) ∧ ¬ Fb' r ∧ (∀ b, v.ownBlock = some b → ¬ Fb' b)
theorem pair_ask1 {N : Nat} {w : World} {F : Nat → Prop} {p r : Nat} {cards : Int} (h : Pair N w F p r cards) (hN : N ≤ 98000) (L0 L1 L2 W : Int) (c : ByteArray) (hc : c.size ≤ maxLen) (n now : Int) (hn : I64 n) (h1 : I64 now) :
    Calls Try.prog 13 #[.pointer (some ⟨p, 0, none⟩), .agg #[.int .i64 L0, .int .i64 L1, .int .i64 L2, .int .i64 W], .string c, .int .i64 n, .int .i64 now] w fun e w' => ∃ E, e = .returned (.int .i64 E) ∧ HalfA N w F p r cards L0 L1 L2 W c n now E w' := by
  obtain ⟨Fb, m, place, last, S, l, v, hb, hr, hp, hg, hl, hF, q1, q2⟩ := h
  refine (book_ask hb hg (by omega) L0 L1 L2 W c hc n now hn.1 hn.2 h1.2).mono ?_
  rintro e w' ⟨rfl, F', place', last', S', hA, hb', hch, hF', hg'⟩
  have hrlt := (Array.getElem?_eq_some_iff.mp hr.strct).1
  refine ⟨_, rfl, Fb, F', m, place, last, place', last', S, S', l, v, hb', hr.kept hch q1 q2, ⟨hp, hb.place0, hb.nodup, hb.full, hg⟩, hl, hg', hA, rfl, ⟨hch.os, hch.tape, hch.output, hch.size, fun i hi hf => hch.block i hi (fun hf' => hf ((hF i).mpr (.inl hf')))⟩, fun i hi => ?_, (hF r).mpr (.inr (.inl rfl)), fun b hb => (hF b).mpr (.inr (.inr hb)), fun hi => ?_, fun b hvb hi => ?_⟩
  · rcases hF' i hi with h | h
    · exact .inl ((hF i).mpr (.inl h))
    · exact .inr h
  · rcases hF' r hi with h | h
    · exact q1 h
    · omega
  · rcases hF' b hi with h | h
    · exact q2 b hvb h
    · have := (hr.row.lt b hvb).2; omega
theorem forgetL_len (cards : Int) (L : List Gv) : (forgetL cards L).length ≤ L.length := by
  unfold forgetL
  split
  · exact List.length_filter_le _ _
  · exact Nat.le_refl _
theorem gvOf_len (l : Lp) : (gvOf l).length = l.length := List.length_map _
theorem pair_ask2 {N : Nat} {w : World} {F : Nat → Prop} {p r : Nat} {cards : Int} (hN : N ≤ 98000) {L0 L1 L2 W : Int} {c : ByteArray} {n now : Int} (hn : I64 n) (h1 : I64 now) {E : Int} {w' : World} (h : HalfA N w F p r cards L0 L1 L2 W c n now E w') :
    Calls Try.prog 23 #[.pointer (some ⟨r, 0, none⟩), .agg #[.int .i64 L0, .int .i64 L1, .int .i64 L2, .int .i64 W], .string c, .int .i64 n, .int .i64 now] w' fun e w'' => e = .returned (.int .i64 E) ∧ ∃ F', Pair (N + 1) w'' F' p r cards ∧ Chg F w w'' ∧ (∀ i, F' i → F i ∨ w.heap.size ≤ i) := by
  obtain ⟨Fb, Fb', m, place, last, place', last', S, S', l, v, hb', hr, ⟨hp, h0, hnd, hfull, hg⟩, hl, hg', hA, hE, hch, hF', hFr, hFv, q1, q2⟩ := h
  have hsame := hp.ask_same last L0 L1 L2 W c n now
  refine (rask_calls w' r cards last (gvOf l) v hr (by rw [gvOf_len]; omega) (okGv_of hg hp) L0 L1 L2 W c n now hn.1 hn.2 h1.2).mono ?_
  rintro e w'' ⟨rfl, nw', L', v', hr', hch', hv', hcase⟩
  rw [← hsame] at hcase ⊢
  have hb'' := hb'.kept hch' (fun i hi hh => by
    rcases hh with hh | hh
    · subst hh; exact q1 hi
    · exact q2 i hh hi)
  have hv2 : ∀ b, v'.ownBlock = some b → ¬ Fb' b := fun b hb hf => by
    rcases hv' b hb with h | h
    · exact q2 b h hf
    · have := hb'.lt b hf; omega
  have hCh : Chg F w w'' := hch.trans hch' (fun i hi hh => by
    rcases hh with hh | hh
    · subst hh; exact hFr
    · exact hFv i hh)
  have fin : ∀ (l' : Lp), PRel place' S' l' → gvOf l' = L' → nw' = last' → l'.length ≤ N + 1 → ∃ F', Pair (N + 1) w'' F' p r cards ∧ Chg F w w'' ∧ (∀ i, F' i → F i ∨ w.heap.size ≤ i) := by
    intro l' hp' hgl hnl hll
    subst hgl
    subst hnl
    refine ⟨fun i => Fb' i ∨ i = r ∨ v'.ownBlock = some i, ⟨Fb', m, place', nw', S', l', v', hb'', hr', hp', hg', hll, fun i => Iff.rfl, q1, hv2⟩, hCh, fun i hi => ?_⟩
    rcases hi with hi | hi | hi
    · exact hF' i hi
    · subst hi; exact .inl hFr
    · rcases hv' i hi with h | h
      · exact .inl (hFv i h)
      · exact .inr (Nat.le_trans hch.size h)
  refine ⟨by rw [hE], ?_⟩
  rcases hA with ⟨a0, a1, a2, a3⟩ | ⟨a0, a1, a2, a3⟩
  · rcases hcase with ⟨_, b1, b2⟩ | ⟨b0, _⟩
    · subst a3
      refine fin l ?_ b2.symm (b1.trans a2.symm) (by omega)
      rw [a1]
      exact hp
    · exact absurd b0 a0
  · rcases hcase with ⟨b0, _⟩ | ⟨_, b1, b2⟩
    · exact absurd a0 b0
    · obtain ⟨l', hl', hgl⟩ := hp.asked h0 hnd hfull a3
      refine fin l' (by rw [a1]; exact hl') (hgl.trans b2.symm) (b1.trans a2.symm) ?_
      have := forgetL_len cards (gvOf l ++ [(c, n, now)])
      rw [← hgl, gvOf_len, List.length_append, gvOf_len] at this
      simp only [List.length_cons, List.length_nil] at this
      omega
/-- Behind the program's Undo, ahead of the document's. -/
def HalfU (N : Nat) (w : World) (F : Nat → Prop) (p r : Nat) (cards : Int) (c : ByteArray) (u t : Int) (E : Bool) (w' : World) : Prop :=
  ∃ (Fb' : Nat → Prop) (m : Nat) (place last : Int) (S : St) (l : Lp) (v : Value), Book w' Fb' p m cards place last (undoS S c u t) ∧ RB w' r cards last (gvOf l) v ∧ PRel place S l ∧ l.length ≤ N ∧ Good N place (undoS S c u t) ∧
    E = undoE S c u t ∧ Chg F w w' ∧ (∀ i, Fb' i → F i ∨ w.heap.size ≤ i) ∧ F r ∧ (∀ b, v.ownBlock = some b → F b) ∧ ¬ Fb' r ∧ (∀ b, v.ownBlock = some b → ¬ Fb' b)
theorem pair_undo1 {N : Nat} {w : World} {F : Nat → Prop} {p r : Nat} {cards : Int} (h : Pair N w F p r cards) (hN : N ≤ 98000) (c : ByteArray) (hc : c.size ≤ maxLen) (u t : Int) :
    Calls Try.prog 17 #[.pointer (some ⟨p, 0, none⟩), .string c, .int .i64 u, .int .i64 t] w fun e w' => ∃ E, e = .returned (.bool E) ∧ HalfU N w F p r cards c u t E w' := by
  obtain ⟨Fb, m, place, last, S, l, v, hb, hr, hp, hg, hl, hF, q1, q2⟩ := h
  have hP := hg.place
  refine (undo_calls w hb c hc u t (by have := (hg.get c).1; omega) (by omega)).mono ?_
  rintro e w' ⟨rfl, F', hb', hch, hF'⟩
  have hrlt := (Array.getElem?_eq_some_iff.mp hr.strct).1
  refine ⟨_, rfl, F', m, place, last, S, l, v, hb', hr.kept hch q1 q2, hp, hl, hg.undo hc u t, rfl, ⟨hch.os, hch.tape, hch.output, hch.size, fun i hi hf => hch.block i hi (fun hf' => hf ((hF i).mpr (.inl hf')))⟩, fun i hi => ?_, (hF r).mpr (.inr (.inl rfl)), fun b hb => (hF b).mpr (.inr (.inr hb)), fun hi => ?_, fun b hvb hi => ?_⟩
  · rcases hF' i hi with h | h
    · exact .inl ((hF i).mpr (.inl h))
    · exact .inr h
  · rcases hF' r hi with h | h
    · exact q1 h
    · omega
  · rcases hF' b hi with h | h
    · exact q2 b hvb h
    · have := (hr.row.lt b hvb).2; omega
theorem pair_undo2 {N : Nat} {w : World} {F : Nat → Prop} {p r : Nat} {cards : Int} (hN : N ≤ 98000) {c : ByteArray} {u t : Int} {E : Bool} {w' : World} (h : HalfU N w F p r cards c u t E w') :
    Calls Try.prog 24 #[.pointer (some ⟨r, 0, none⟩), .string c, .int .i64 u, .int .i64 t] w' fun e w'' => e = .returned (.bool E) ∧ ∃ F', Pair N w'' F' p r cards ∧ Chg F w w'' ∧ (∀ i, F' i → F i ∨ w.heap.size ≤ i) := by
  obtain ⟨Fb', m, place, last, S, l, v, hb', hr, hp, hl, hg', hE, hch, hF', hFr, hFv, q1, q2⟩ := h
  obtain ⟨hu, l', hp', hgl⟩ := hp.undone c u t
  refine (rundo_calls w' r cards last (gvOf l) v hr (by rw [gvOf_len]; omega) c u t).mono ?_
  rintro e w'' ⟨rfl, v', hr', hch', hv'⟩
  rw [← hgl] at hr'
  have hb'' := hb'.kept hch' (fun i hi hh => by subst hh; exact q1 hi)
  have hv2 : ∀ b, v'.ownBlock = some b → ¬ Fb' b := fun b hb hf => by
    rcases hv' b hb with h | h
    · exact q2 b h hf
    · have := hb'.lt b hf; omega
  have hCh : Chg F w w'' := hch.trans hch' (fun i hi hh => by subst hh; exact hFr)
  have hll : l'.length ≤ N := by
    rw [← gvOf_len, hgl]
    unfold undoL
    split
    · exact Nat.le_trans (List.length_eraseIdx_le _ _) (by rw [gvOf_len]; exact hl)
    · rw [gvOf_len]; exact hl
  refine ⟨by rw [hE, hu], fun i => Fb' i ∨ i = r ∨ v'.ownBlock = some i, ⟨Fb', m, place, last, _, l', v', hb'', hr', hp', hg', hll, fun i => Iff.rfl, q1, hv2⟩, hCh, fun i hi => ?_⟩
  rcases hi with hi | hi | hi
  · exact hF' i hi
  · subst hi; exact .inl hFr
  · rcases hv' i hi with h | h
    · exact .inl (hFv i h)
    · exact .inr (Nat.le_trans hch.size h)
/-- Both answers of Used; all stays. -/
theorem pair_used {N : Nat} {w : World} {F : Nat → Prop} {p r : Nat} {cards : Int} (h : Pair N w F p r cards) (hN : N ≤ 98000) (L0 L1 L2 W : Int) (c : ByteArray) (hc : c.size ≤ maxLen) (now : Int) (h1 : I64 now) :
    ∃ a b : Int, (Calls Try.prog 12 #[.pointer (some ⟨p, 0, none⟩), .agg #[.int .i64 L0, .int .i64 L1, .int .i64 L2, .int .i64 W], .string c, .int .i64 now] w fun e w' => e = .returned (.tuple #[.int .i64 a, .int .i64 b]) ∧ Below w.heap.size w w') ∧
      ∀ w', Below w.heap.size w w' → Calls Try.prog 25 #[.pointer (some ⟨r, 0, none⟩), .agg #[.int .i64 L0, .int .i64 L1, .int .i64 L2, .int .i64 W], .string c, .int .i64 now] w' fun e w'' => e = .returned (.tuple #[.int .i64 a, .int .i64 b]) ∧ Below w'.heap.size w' w'' := by
  obtain ⟨Fb, m, place, last, S, l, v, hb, hr, hp, hg, hl, hF, q1, q2⟩ := h
  have hsame := hp.used_same L0 L1 L2 W now c
  refine ⟨_, _, used_calls w hb L0 L1 L2 W c hc now h1.2 _ rfl (hg.fine (by omega) c), fun w' hB => ?_⟩
  rw [hsame]
  exact rused_calls w' r cards last (gvOf l) v (hr.below hB) (by rw [gvOf_len]; omega) (okGv_of hg hp) L0 L1 L2 W c now h1.2
/-- Both answers of Len; all stays. -/
theorem pair_len {N : Nat} {w : World} {F : Nat → Prop} {p r : Nat} {cards : Int} (h : Pair N w F p r cards) (hN : N ≤ 98000) :
    ∃ a : Int, (Calls Try.prog 16 #[.pointer (some ⟨p, 0, none⟩)] w fun e w' => e = .returned (.int .i64 a) ∧ Below w.heap.size w w') ∧
      ∀ w', Below w.heap.size w w' → Calls Try.prog 26 #[.pointer (some ⟨r, 0, none⟩)] w' fun e w'' => e = .returned (.int .i64 a) ∧ Below w'.heap.size w' w'' := by
  obtain ⟨Fb, m, place, last, S, l, v, hb, hr, hp, hg, hl, hF, q1, q2⟩ := h
  have hsame := hp.len hb.nodup hb.full
  refine ⟨(S.length : Int), (len_calls w hb).mono (fun e w' ⟨h1, h2⟩ => ?_), fun w' hB => ?_⟩
  · obtain ⟨k, rfl⟩ := h2
    exact ⟨h1, pw_below_drewN (Below.refl _ _) _⟩
  · rw [hsame]
    exact rlen_calls w' r cards last (gvOf l) v (hr.below hB) (by rw [gvOf_len]; omega)
end Go.Proofs.Ytgndgjjejgbmoaa.Bok
