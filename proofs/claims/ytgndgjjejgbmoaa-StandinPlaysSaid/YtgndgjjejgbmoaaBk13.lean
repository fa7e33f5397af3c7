/- The Book's contracts as the laws use them: a Book apart from what is the law's own. -/
import Derived.Test.YtgndgjjejgbmoaaBk12
namespace Go.Proofs.Ytgndgjjejgbmoaa.Bok
open Go Go.RowKit Go.Maps Go.Proofs.YtgndgjjejgbmoaaW.PrintWords Go.Proofs.YtgndgjjejgbmoaaW.PrintLast Go.Proofs.YtgndgjjejgbmoaaW.PrintMore PStandinHolds
/-- An approval in its bounds. -/
def OkAp (a : Ap) : Prop := ((0 ≤ a.at_ ∧ a.at_ ≤ 9223372036854775807) ∧ (0 ≤ a.units ∧ a.units ≤ 999999999999)) ∧ 0 ≤ a.place
/-- Cards in their bounds, of at most N approvals each. -/
structure Good (N : Nat) (place : Int) (S : St) : Prop where
  place : place ≤ N
  card : ∀ x ∈ S, x.1.size ≤ maxLen ∧ x.2.length ≤ N ∧ ∀ a ∈ x.2, OkAp a
theorem Good.nil : Good 0 0 [] := ⟨by omega, fun x hx => by cases hx⟩
theorem Good.get {N : Nat} {place : Int} {S : St} (h : Good N place S) (c : ByteArray) : (S.get c).length ≤ N ∧ ∀ a ∈ S.get c, OkAp a := by
  unfold St.get
  split
  · next x hx => exact ⟨(h.card x (List.mem_of_find?_eq_some hx)).2.1, (h.card x (List.mem_of_find?_eq_some hx)).2.2⟩
  · exact ⟨Nat.zero_le _, fun a ha => by cases ha⟩
theorem Good.fine {N : Nat} {place : Int} {S : St} (h : Good N place S) (hN : N ≤ 999000) (c : ByteArray) : Fine (S.get c) := ⟨Nat.le_trans (h.get c).1 (by omega), fun a ha => ((h.get c).2 a ha).1⟩
theorem Good.lastP {N : Nat} {place : Int} {S : St} (h : Good N place S) {x : ByteArray × List Ap} (hx : x ∈ S) (hne : x.2 ≠ []) : 0 ≤ lastP x.2 := by
  rw [lastP_get (List.length_pos_iff.mpr hne)]
  exact ((h.card x hx).2.2 _ (List.getElem_mem _)).2
theorem Good.mono {N N' : Nat} {place : Int} {S : St} (h : Good N place S) (hN : N ≤ N') : Good N' place S := ⟨by have := h.place; omega, fun x hx => ⟨(h.card x hx).1, Nat.le_trans (h.card x hx).2.1 hN, (h.card x hx).2.2⟩⟩
theorem Good.del {N : Nat} {place : Int} {S : St} (h : Good N place S) (c : ByteArray) : Good N place (S.del c) := ⟨h.place, fun x hx => h.card x (mem_del.mp hx).1⟩
theorem Good.put {N : Nat} {place : Int} {S : St} (h : Good N place S) {c : ByteArray} (hc : c.size ≤ maxLen) {l : List Ap} (hl : l.length ≤ N) (ha : ∀ a ∈ l, OkAp a) : Good N place (S.put c l) := by
  refine ⟨h.place, fun x hx => ?_⟩
  unfold St.put at hx
  rcases List.mem_cons.mp hx with rfl | hx
  · exact ⟨hc, hl, ha⟩
  · exact h.card x (mem_del.mp hx).1
theorem Good.undo {N : Nat} {place : Int} {S : St} (h : Good N place S) {c : ByteArray} (hc : c.size ≤ maxLen) (u t : Int) : Good N place (undoS S c u t) := by
  unfold undoS
  split
  · exact h
  · split
    · exact h.del c
    · exact h.put hc (Nat.le_trans (List.length_eraseIdx_le _ _) (h.get c).1) (fun a ha => (h.get c).2 a (List.mem_of_mem_eraseIdx ha))
/-- What Ask leaves. -/
def AskTo (cards place last : Int) (S : St) (L0 L1 L2 W : Int) (c : ByteArray) (n now : Int) (place' last' : Int) (S' : St) : Prop :=
  (askE last S L0 L1 L2 W c n now ≠ 0 ∧ place' = place ∧ last' = last ∧ S' = S) ∨ (askE last S L0 L1 L2 W c n now = 0 ∧ place' = place + 1 ∧ last' = now ∧ Approved cards place S c n now S')
theorem ask0 {last : Int} {S : St} {L0 L1 L2 W : Int} {c : ByteArray} {n now : Int} (h : askE last S L0 L1 L2 W c n now = 0) :
    ¬ c.size = 0 ∧ amt n = true ∧ rightP L0 L1 L2 W = true ∧ 0 ≤ now ∧ last ≤ now ∧ ¬ L0 < n ∧ ¬ L1 ≤ ((cnt W now (S.get c)).length : Int) ∧ ¬ L2 - n < (cnt W now (S.get c)).sum := by
  unfold askE at h
  split at h
  · exact absurd h (by decide)
  · next h1 =>
    split at h
    · exact absurd h (by decide)
    · next h2 =>
      split at h
      · exact absurd h (by decide)
      · next h3 =>
        split at h
        · exact absurd h (by decide)
        · next h4 =>
          simp only [not_or, Bool.not_eq_false] at h2 h3 h4
          exact ⟨h1, h2, h3.1, by omega, by omega, h4.1, h4.2.1, h4.2.2⟩
/-- The law's own blocks are Z; a Book lies apart from them; below B all is as it was in w0. -/
structure At (B : Nat) (w0 : World) (Z : Nat → Prop) (p m : Nat) (cards place last : Int) (S : St) (w : World) : Prop where
  book : ∃ F, Book w F p m cards place last S ∧ ∀ i, F i → B ≤ i ∧ ¬ Z i
  own : ∀ i, Z i → B ≤ i ∧ i < w.heap.size
  below : Below B w0 w
  size : B ≤ w.heap.size
/-- What is the law's own stays. -/
def Keep (Z : Nat → Prop) (w w' : World) : Prop := w.heap.size ≤ w'.heap.size ∧ ∀ i, Z i → w'.heap[i]? = w.heap[i]?
theorem Keep.trans {Z : Nat → Prop} {a b c : World} (h : Keep Z a b) (k : Keep Z b c) : Keep Z a c := ⟨Nat.le_trans h.1 k.1, fun i hi => (k.2 i hi).trans (h.2 i hi)⟩
theorem Keep.cell {Z : Nat → Prop} {w w' : World} (h : Keep Z w w') {b i : Nat} (hb : Z b) {v : Value} (hc : w.cell? ⟨b, i, none⟩ = some v) : w'.cell? ⟨b, i, none⟩ = some v := (World.cell?_of_block (a := ⟨b, i, none⟩) (h.2 b hb)).trans hc
theorem At.move {B : Nat} {w0 : World} {Z : Nat → Prop} {p m : Nat} {cards place last : Int} {S : St} {w : World} (h : At B w0 Z p m cards place last S w) {F F' : Nat → Prop} {w' : World} {place' last' : Int} {S' : St} (hF : ∀ i, F i → B ≤ i ∧ ¬ Z i)
    (hb : Book w' F' p m cards place' last' S') (hc : Chg F w w') (hF' : ∀ i, F' i → F i ∨ w.heap.size ≤ i) : At B w0 Z p m cards place' last' S' w' ∧ Keep Z w w' := by
  refine ⟨⟨⟨F', hb, fun i hi => ?_⟩, fun i hi => ⟨(h.own i hi).1, Nat.lt_of_lt_of_le (h.own i hi).2 hc.size⟩, hc.below h.below (fun i hi => (hF i hi).1) h.size, Nat.le_trans h.size hc.size⟩, hc.size, fun i hi => hc.block i (h.own i hi).2 (fun hf => (hF i hf).2 hi)⟩
  rcases hF' i hi with hi | hi
  · exact hF i hi
  · exact ⟨Nat.le_trans h.size hi, fun hz => by have := (h.own i hz).2; omega⟩
/-- A step of the law's own, on its own blocks and on new ones. -/
theorem At.step {B : Nat} {w0 : World} {Z : Nat → Prop} {p m : Nat} {cards place last : Int} {S : St} {w w' : World} (h : At B w0 Z p m cards place last S w) (hc : Chg Z w w') : At B w0 Z p m cards place last S w' := by
  obtain ⟨F, hb, hF⟩ := h.book
  exact ⟨⟨F, hb.kept hc (fun i hi => (hF i hi).2), hF⟩, fun i hi => ⟨(h.own i hi).1, Nat.lt_of_lt_of_le (h.own i hi).2 hc.size⟩, hc.below h.below (fun i hi => (h.own i hi).1) h.size, Nat.le_trans h.size hc.size⟩
/-- Other blocks become the law's own: of its own, or new ones. -/
theorem At.turn {B : Nat} {w0 : World} {Z Z' : Nat → Prop} {p m : Nat} {cards place last : Int} {S : St} {w w' : World} (h : At B w0 Z p m cards place last S w) (hc : Chg Z w w') (hz : ∀ i, Z' i → Z i ∨ (w.heap.size ≤ i ∧ i < w'.heap.size)) : At B w0 Z' p m cards place last S w' := by
  obtain ⟨F, hb, hF⟩ := h.book
  refine ⟨⟨F, hb.kept hc (fun i hi => (hF i hi).2), fun i hi => ⟨(hF i hi).1, fun hz' => ?_⟩⟩, fun i hi => ?_, hc.below h.below (fun i hi => (h.own i hi).1) h.size, Nat.le_trans h.size hc.size⟩
  · rcases hz i hz' with k | k
    · exact (hF i hi).2 k
    · have := hb.lt i hi; omega
  · rcases hz i hi with k | k
    · exact ⟨(h.own i k).1, Nat.lt_of_lt_of_le (h.own i k).2 hc.size⟩
    · exact ⟨Nat.le_trans h.size k.1, k.2⟩
theorem At.ask {B : Nat} {w0 : World} {Z : Nat → Prop} {p m : Nat} {cards place last : Int} {S : St} {w : World} (h : At B w0 Z p m cards place last S w) {N : Nat} (hg : Good N place S) (hN : N ≤ 999000)
    (L0 L1 L2 W : Int) (c : ByteArray) (hc : c.size ≤ maxLen) (n now : Int) (hn0 : -9223372036854775808 ≤ n) (hn1 : n ≤ 9223372036854775807) (h1 : now ≤ 9223372036854775807) :
    Calls Try.prog 13 #[.pointer (some ⟨p, 0, none⟩), .agg #[.int .i64 L0, .int .i64 L1, .int .i64 L2, .int .i64 W], .string c, .int .i64 n, .int .i64 now] w fun e w' => e = .returned (.int .i64 (askE last S L0 L1 L2 W c n now)) ∧ ∃ place' last' S', AskTo cards place last S L0 L1 L2 W c n now place' last' S' ∧ At B w0 Z p m cards place' last' S' w' ∧ Keep Z w w' ∧ Good (N + 1) place' S' := by
  obtain ⟨F, hb, hF⟩ := h.book
  by_cases hE : askE last S L0 L1 L2 W c n now = 0
  · obtain ⟨q1, q2, q3, q4, q5, q6, q7, q8⟩ := ask0 hE
    rw [hE]
    have hP := hg.place
    refine (ask_yes w hb L0 L1 L2 W c hc n now h1 (hg.fine hN c) (by omega) (fun x hx => ⟨hg.lastP hx (hb.full x hx), by have := (hg.card x hx).2.1; omega, (hg.card x hx).1⟩) (by have := (hg.get c).1; omega) q1 q2 q3 q4 q5 q6 _ rfl _ rfl q7 q8).mono ?_
    rintro e w' ⟨rfl, F', S', hA, hb', hch, hF'⟩
    obtain ⟨r1, r2⟩ := h.move hF hb' hch hF'
    refine ⟨rfl, _, _, S', .inr ⟨hE, rfl, rfl, hA⟩, r1, r2, ?_⟩
    have hg1 : Good (N + 1) (place + 1) (S.put c (S.get c ++ [⟨place + 1, n, now⟩])) := by
      have hg' : Good (N + 1) (place + 1) S := ⟨by omega, fun x hx => ⟨(hg.card x hx).1, by have := (hg.card x hx).2.1; omega, (hg.card x hx).2.2⟩⟩
      refine hg'.put hc (by rw [List.length_append]; have := (hg.get c).1; simpa using this) (fun a ha => ?_)
      rcases List.mem_append.mp ha with ha | ha
      · exact (hg.get c).2 a ha
      · rw [List.mem_singleton] at ha
        subst ha
        have hp0 := hb.place0
        unfold amt at q2
        simp only [Bool.and_eq_true, decide_eq_true_eq] at q2
        exact ⟨⟨⟨q4, h1⟩, q2⟩, by show 0 ≤ place + 1; omega⟩
    rcases hA with ⟨_, rfl⟩ | ⟨_, c0, _, rfl⟩
    · exact hg1
    · exact hg1.del c0
  · refine (ask_no w hb L0 L1 L2 W c hc n now hn0 hn1 h1 (hg.fine hN c) hE).mono ?_
    rintro e w' ⟨rfl, hB⟩
    obtain ⟨r1, r2⟩ := h.move hF (hb.kept (Chg.of_below hB : Chg (fun _ => False) w w') (fun _ _ hf => hf)) (Chg.of_below hB : Chg F w w') (fun i hi => .inl hi)
    exact ⟨rfl, _, _, S, .inl ⟨hE, rfl, rfl, rfl⟩, r1, r2, hg.mono (by omega)⟩
theorem At.used {B : Nat} {w0 : World} {Z : Nat → Prop} {p m : Nat} {cards place last : Int} {S : St} {w : World} (h : At B w0 Z p m cards place last S w) {N : Nat} (hg : Good N place S) (hN : N ≤ 999000)
    (L0 L1 L2 W : Int) (c : ByteArray) (hc : c.size ≤ maxLen) (now : Int) (h1 : now ≤ 9223372036854775807) :
    Calls Try.prog 12 #[.pointer (some ⟨p, 0, none⟩), .agg #[.int .i64 L0, .int .i64 L1, .int .i64 L2, .int .i64 W], .string c, .int .i64 now] w fun e w' => e = .returned (.tuple #[.int .i64 (usedR L0 L1 L2 W now (S.get c)).1, .int .i64 (usedR L0 L1 L2 W now (S.get c)).2]) ∧ At B w0 Z p m cards place last S w' ∧ Keep Z w w' := by
  obtain ⟨F, hb, hF⟩ := h.book
  refine (used_calls w hb L0 L1 L2 W c hc now h1 _ rfl (hg.fine hN c)).mono ?_
  rintro e w' ⟨rfl, hB⟩
  exact ⟨rfl, h.move hF (hb.kept (Chg.of_below hB : Chg (fun _ => False) w w') (fun _ _ hf => hf)) (Chg.of_below hB : Chg F w w') (fun i hi => .inl hi)⟩
theorem At.undo {B : Nat} {w0 : World} {Z : Nat → Prop} {p m : Nat} {cards place last : Int} {S : St} {w : World} (h : At B w0 Z p m cards place last S w) {N : Nat} (hg : Good N place S) (hN : N ≤ 999000)
    (c : ByteArray) (hc : c.size ≤ maxLen) (u t : Int) :
    Calls Try.prog 17 #[.pointer (some ⟨p, 0, none⟩), .string c, .int .i64 u, .int .i64 t] w fun e w' => e = .returned (.bool (undoE S c u t)) ∧ At B w0 Z p m cards place last (undoS S c u t) w' ∧ Keep Z w w' ∧ Good N place (undoS S c u t) := by
  obtain ⟨F, hb, hF⟩ := h.book
  have hP := hg.place
  refine (undo_calls w hb c hc u t (by have := (hg.get c).1; omega) (by omega)).mono ?_
  rintro e w' ⟨rfl, F', hb', hch, hF'⟩
  obtain ⟨r1, r2⟩ := h.move hF hb' hch hF'
  exact ⟨rfl, r1, r2, hg.undo hc u t⟩
theorem At.len {B : Nat} {w0 : World} {Z : Nat → Prop} {p m : Nat} {cards place last : Int} {S : St} {w : World} (h : At B w0 Z p m cards place last S w) :
    Calls Try.prog 16 #[.pointer (some ⟨p, 0, none⟩)] w fun e w' => e = .returned (.int .i64 S.length) ∧ At B w0 Z p m cards place last S w' ∧ Keep Z w w' := by
  obtain ⟨F, hb, hF⟩ := h.book
  refine (len_calls w hb).mono ?_
  rintro e w' ⟨rfl, k, rfl⟩
  have hB : Below w.heap.size w (w.drewN k) := pw_below_drewN (Below.refl _ _) _
  exact ⟨rfl, h.move hF (hb.kept (Chg.of_below hB : Chg (fun _ => False) w _) (fun _ _ hf => hf)) (Chg.of_below hB : Chg F w _) (fun i hi => .inl hi)⟩
theorem At.new {B : Nat} {w0 w : World} {Z : Nat → Prop} (hb : Below B w0 w) (hs : B ≤ w.heap.size) (hz : ∀ i, Z i → B ≤ i ∧ i < w.heap.size) (cards : Int) (h1 : 1 ≤ cards) (h2 : cards ≤ 10000) :
    Calls Try.prog 8 #[.int .i64 cards] w fun e w' => ∃ p m, e = .returned (.tuple #[.pointer (some ⟨p, 0, none⟩), .int .i64 0]) ∧ At B w0 Z p m cards 0 0 [] w' ∧ Keep Z w w' := by
  refine (new_good cards w h1 h2).mono ?_
  rintro e w' ⟨p, m, rfl, hbk, hB, hp, hm⟩
  refine ⟨p, m, rfl, ⟨⟨_, hbk, ?_⟩, fun i hi => ⟨(hz i hi).1, Nat.lt_of_lt_of_le (hz i hi).2 hB.size⟩, (Chg.of_below hB : Chg (fun _ => False) w w').below hb (fun _ hf => hf.elim) hs, Nat.le_trans hs hB.size⟩, hB.size, fun i hi => hB.block i (hz i hi).2⟩
  rintro i (rfl | rfl)
  · exact ⟨by omega, fun hi => by have := (hz _ hi).2; omega⟩
  · exact ⟨by omega, fun hi => by have := (hz _ hi).2; omega⟩
end Go.Proofs.Ytgndgjjejgbmoaa.Bok
