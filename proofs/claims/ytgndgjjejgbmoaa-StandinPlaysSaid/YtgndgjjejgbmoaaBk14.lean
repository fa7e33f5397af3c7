/- Contract: known. -/
import Derived.Test.YtgndgjjejgbmoaaBk13
namespace Go.Proofs.Ytgndgjjejgbmoaa.Bok
open Go Go.RowKit Go.Maps Go.Proofs.YtgndgjjejgbmoaaW.PrintWords Go.Proofs.YtgndgjjejgbmoaaW.PrintLast Go.Proofs.YtgndgjjejgbmoaaW.PrintMore PStandinHolds
set_option linter.unusedSimpArgs false
set_option linter.unusedVariables false
/-- A Book beside a box of limits, block g. -/
structure Beside (B : Nat) (w0 : World) (g : Nat) (L0 L1 L2 W : Int) (N : Nat) (p m : Nat) (cards place last : Int) (S : St) (w : World) : Prop where
  ats : At B w0 (fun i => i = g) p m cards place last S w
  good : Good N place S
  box : w.heap[g]? = some (.cells #[.int .i64 L0, .int .i64 L1, .int .i64 L2, .int .i64 W] 23 (0, 0))
theorem Beside.cells {B : Nat} {w0 : World} {g : Nat} {L0 L1 L2 W : Int} {N : Nat} {p m : Nat} {cards place last : Int} {S : St} {w : World} (h : Beside B w0 g L0 L1 L2 W N p m cards place last S w) :
    w.cell? ⟨g, 0, none⟩ = some (.int .i64 L0) ∧ w.cell? ⟨g, 1, none⟩ = some (.int .i64 L1) ∧ w.cell? ⟨g, 2, none⟩ = some (.int .i64 L2) ∧ w.cell? ⟨g, 3, none⟩ = some (.int .i64 W) := by
  have := h.box
  simp [World.cell?, this]
theorem Beside.ask {B : Nat} {w0 : World} {g : Nat} {L0 L1 L2 W : Int} {N : Nat} {p m : Nat} {cards place last : Int} {S : St} {w : World} (h : Beside B w0 g L0 L1 L2 W N p m cards place last S w) (hN : N ≤ 999000)
    (c : ByteArray) (hc : c.size ≤ maxLen) (n now : Int) (hn0 : -9223372036854775808 ≤ n) (hn1 : n ≤ 9223372036854775807) (h1 : now ≤ 9223372036854775807)
    (E place' last' : Int) (S' : St) (hE : askE last S L0 L1 L2 W c n now = E) (hT : ∀ a b d, AskTo cards place last S L0 L1 L2 W c n now a b d → a = place' ∧ b = last' ∧ d = S') :
    Calls Try.prog 13 #[.pointer (some ⟨p, 0, none⟩), .agg #[.int .i64 L0, .int .i64 L1, .int .i64 L2, .int .i64 W], .string c, .int .i64 n, .int .i64 now] w fun e w' => e = .returned (.int .i64 E) ∧ Beside B w0 g L0 L1 L2 W (N + 1) p m cards place' last' S' w' := by
  refine (h.ats.ask h.good hN L0 L1 L2 W c hc n now hn0 hn1 h1).mono ?_
  rintro e w' ⟨rfl, a, b, d, hA, hat, hk, hg⟩
  obtain ⟨rfl, rfl, rfl⟩ := hT _ _ _ hA
  exact ⟨by rw [hE], hat, hg, (hk.2 g rfl).trans h.box⟩
theorem Beside.used {B : Nat} {w0 : World} {g : Nat} {L0 L1 L2 W : Int} {N : Nat} {p m : Nat} {cards place last : Int} {S : St} {w : World} (h : Beside B w0 g L0 L1 L2 W N p m cards place last S w) (hN : N ≤ 999000)
    (c : ByteArray) (hc : c.size ≤ maxLen) (now : Int) (h1 : now ≤ 9223372036854775807) (M0 M1 M2 V : Int) (r1 r2 : Int) (hr : usedR M0 M1 M2 V now (S.get c) = (r1, r2)) :
    Calls Try.prog 12 #[.pointer (some ⟨p, 0, none⟩), .agg #[.int .i64 M0, .int .i64 M1, .int .i64 M2, .int .i64 V], .string c, .int .i64 now] w fun e w' => e = .returned (.tuple #[.int .i64 r1, .int .i64 r2]) ∧ Beside B w0 g L0 L1 L2 W N p m cards place last S w' := by
  refine (h.ats.used h.good hN M0 M1 M2 V c hc now h1).mono ?_
  rintro e w' ⟨rfl, hat, hk⟩
  exact ⟨by rw [hr], hat, h.good, (hk.2 g rfl).trans h.box⟩
theorem Beside.undo {B : Nat} {w0 : World} {g : Nat} {L0 L1 L2 W : Int} {N : Nat} {p m : Nat} {cards place last : Int} {S : St} {w : World} (h : Beside B w0 g L0 L1 L2 W N p m cards place last S w) (hN : N ≤ 999000)
    (c : ByteArray) (hc : c.size ≤ maxLen) (u t : Int) (r : Bool) (S' : St) (hr : undoE S c u t = r) (hS : undoS S c u t = S') :
    Calls Try.prog 17 #[.pointer (some ⟨p, 0, none⟩), .string c, .int .i64 u, .int .i64 t] w fun e w' => e = .returned (.bool r) ∧ Beside B w0 g L0 L1 L2 W N p m cards place last S' w' := by
  refine (h.ats.undo h.good hN c hc u t).mono ?_
  rintro e w' ⟨rfl, hat, hk, hg⟩
  rw [hS] at hat hg
  exact ⟨by rw [hr], hat, hg, (hk.2 g rfl).trans h.box⟩
theorem get1 (K : ByteArray) (l : List Ap) : St.get [(K, l)] K = l := by simp [St.get]
theorem put1 (K : ByteArray) (l l' : List Ap) : St.put [(K, l)] K l' = [(K, l')] := by simp [St.put, St.del]
theorem to_no {cards place last : Int} {S : St} {L0 L1 L2 W : Int} {c : ByteArray} {n now : Int} (h : askE last S L0 L1 L2 W c n now ≠ 0) (a b : Int) (d : St) (hA : AskTo cards place last S L0 L1 L2 W c n now a b d) : a = place ∧ b = last ∧ d = S := by
  rcases hA with ⟨_, h1⟩ | ⟨h0, _⟩
  · exact h1
  · exact absurd h0 h
theorem to_yes {cards place last : Int} {S : St} {L0 L1 L2 W : Int} {c : ByteArray} {n now : Int} (h : askE last S L0 L1 L2 W c n now = 0) {S1 : St} (h1 : S.put c (S.get c ++ [⟨place + 1, n, now⟩]) = S1) (hl : (S1.length : Int) ≤ cards) (a b : Int) (d : St)
    (hA : AskTo cards place last S L0 L1 L2 W c n now a b d) : a = place + 1 ∧ b = now ∧ d = S1 := by
  rcases hA with ⟨h0, _⟩ | ⟨_, q1, q2, q3⟩
  · exact absurd h h0
  · unfold Approved at q3
    rw [h1] at q3
    rcases q3 with ⟨_, q⟩ | ⟨q, _⟩
    · exact ⟨q1, q2, q⟩
    · omega
theorem k1 (K : ByteArray) (hK : K.size = 4) : askE 0 [] 100 2 150 10 K 100 0 = 0 := by simp [askE, amt, rightP, cnt, St.get, hK]
theorem k2 (K : ByteArray) (hK : K.size = 4) : askE 0 [(K, [⟨1, 100, 0⟩])] 100 2 150 10 K 60 1 = 210 := by simp [askE, amt, rightP, cnt, get1, hK]
theorem k3 (K : ByteArray) (hK : K.size = 4) : askE 0 [(K, [⟨1, 100, 0⟩])] 100 2 150 10 K 50 1 = 0 := by simp [askE, amt, rightP, cnt, get1, hK]
theorem k4 (K : ByteArray) (hK : K.size = 4) : askE 1 [(K, [⟨1, 100, 0⟩, ⟨2, 50, 1⟩])] 100 2 150 10 K 0 5 = 210 := by simp [askE, amt, rightP, cnt, get1, hK]
theorem k5 (K : ByteArray) (hK : K.size = 4) : askE 1 [(K, [⟨1, 100, 0⟩, ⟨2, 50, 1⟩])] 100 2 150 10 K 0 10 = 0 := by simp [askE, amt, rightP, cnt, get1, hK]
theorem k6 (K : ByteArray) (hK : K.size = 4) : askE 10 [(K, [⟨1, 100, 0⟩, ⟨3, 0, 10⟩])] 100 2 150 10 K 1 9 = 1 := by simp [askE, amt, rightP, cnt, get1, hK]
theorem k7 (K : ByteArray) : usedR 100 2 150 10 10 (St.get [(K, [⟨1, 100, 0⟩, ⟨2, 50, 1⟩, ⟨3, 0, 10⟩])] K) = (2, 50) := by simp [usedR, amt, rightP, cnt, get1]
theorem k8 (K : ByteArray) : usedR 100 2 150 10 10 (St.get [(K, [⟨1, 100, 0⟩, ⟨3, 0, 10⟩])] K) = (1, 0) := by simp [usedR, amt, rightP, cnt, get1]
theorem k9 (K : ByteArray) : undoE [(K, [⟨1, 100, 0⟩, ⟨2, 50, 1⟩, ⟨3, 0, 10⟩])] K 50 1 = true := by
  unfold undoE
  rw [get1]
  rfl
theorem k10 (K : ByteArray) : undoS [(K, [⟨1, 100, 0⟩, ⟨2, 50, 1⟩, ⟨3, 0, 10⟩])] K 50 1 = [(K, [⟨1, 100, 0⟩, ⟨3, 0, 10⟩])] := by
  unfold undoS
  rw [get1]
  exact put1 K _ _
set_option maxRecDepth 100000 in
set_option maxHeartbeats 2000000 in
theorem known_calls (w : World) : Calls Try.prog 7 #[] w fun e w' => e = .returned (.bool true) ∧ Below w.heap.size w w' := by
  go_enter Try.func7, Try.ntmps7
  go_upto_region 5 with (go_at_call 8; with_reducible refine (At.new (Z := fun _ => False) (Below.refl _ _) (Nat.le_refl _) (fun _ h => h.elim) 3 (by decide) (by decide)).mono ?_; rintro e w1 ⟨p, m, rfl, hA, _⟩)
  obtain ⟨w2, hw2⟩ : ∃ w2, w2 = w1.alloc (.cells #[.int .i64 100, .int .i64 2, .int .i64 150, .int .i64 10] 23) := ⟨_, rfl⟩
  rw [← hw2]
  have h0 : Beside w.heap.size w w1.heap.size 100 2 150 10 0 p m 3 0 0 [] w2 := by
    refine ⟨hA.turn (Chg.of_grown (by rw [hw2]; exact World.grownBy_alloc _ _ none) (fun _ e => by cases e)) (fun i hi => .inr ?_), Good.nil, by rw [hw2]; exact heap_alloc_new _ _⟩
    subst hi
    rw [hw2]
    exact ⟨Nat.le_refl _, Nat.lt_of_lt_of_eq (Nat.lt_succ_self _) (Array.size_push _).symm⟩
  clear hw2 hA
  generalize w1.heap.size = g at h0 ⊢
  have hK : (⟨#[99, 97, 114, 100]⟩ : ByteArray).size = 4 := rfl
  have hKs : (⟨#[99, 97, 114, 100]⟩ : ByteArray).size ≤ maxLen := by decide
  obtain ⟨a0, a1, a2, a3⟩ := h0.cells
  go_upto_region 6 with (go_at_call 13; with_reducible refine (h0.ask (by decide) (⟨#[99, 97, 114, 100]⟩ : ByteArray) hKs 100 0 (by decide) (by decide) (by decide) 0 _ _ _ (k1 (⟨#[99, 97, 114, 100]⟩ : ByteArray) hK) (to_yes (S1 := [((⟨#[99, 97, 114, 100]⟩ : ByteArray), [⟨1, 100, 0⟩])]) (k1 (⟨#[99, 97, 114, 100]⟩ : ByteArray) hK) rfl (by decide))).mono ?_; rintro e w3 ⟨rfl, h1⟩)
  obtain ⟨b0, b1, b2, b3⟩ := h1.cells
  go_upto_region 7 with (go_at_call 13; with_reducible refine (h1.ask (by decide) (⟨#[99, 97, 114, 100]⟩ : ByteArray) hKs 60 1 (by decide) (by decide) (by decide) 210 _ _ _ (k2 (⟨#[99, 97, 114, 100]⟩ : ByteArray) hK) (to_no (by rw [k2 (⟨#[99, 97, 114, 100]⟩ : ByteArray) hK]; decide))).mono ?_; rintro e w4 ⟨rfl, h2⟩)
  obtain ⟨c0, c1, c2, c3⟩ := h2.cells
  go_upto_region 8 with (go_at_call 13; with_reducible refine (h2.ask (by decide) (⟨#[99, 97, 114, 100]⟩ : ByteArray) hKs 50 1 (by decide) (by decide) (by decide) 0 _ _ _ (k3 (⟨#[99, 97, 114, 100]⟩ : ByteArray) hK) (to_yes (S1 := [((⟨#[99, 97, 114, 100]⟩ : ByteArray), [⟨1, 100, 0⟩, ⟨2, 50, 1⟩])]) (k3 (⟨#[99, 97, 114, 100]⟩ : ByteArray) hK) (by simp [get1, put1]) (by decide))).mono ?_; rintro e w5 ⟨rfl, h3⟩)
  obtain ⟨d0, d1, d2, d3⟩ := h3.cells
  go_upto_region 9 with (go_at_call 13; with_reducible refine (h3.ask (by decide) (⟨#[99, 97, 114, 100]⟩ : ByteArray) hKs 0 5 (by decide) (by decide) (by decide) 210 _ _ _ (k4 (⟨#[99, 97, 114, 100]⟩ : ByteArray) hK) (to_no (by rw [k4 (⟨#[99, 97, 114, 100]⟩ : ByteArray) hK]; decide))).mono ?_; rintro e w6 ⟨rfl, h4⟩)
  obtain ⟨e0, e1, e2, e3⟩ := h4.cells
  go_upto_region 10 with (go_at_call 13; with_reducible refine (h4.ask (by decide) (⟨#[99, 97, 114, 100]⟩ : ByteArray) hKs 0 10 (by decide) (by decide) (by decide) 0 _ _ _ (k5 (⟨#[99, 97, 114, 100]⟩ : ByteArray) hK) (to_yes (S1 := [((⟨#[99, 97, 114, 100]⟩ : ByteArray), [⟨1, 100, 0⟩, ⟨2, 50, 1⟩, ⟨3, 0, 10⟩])]) (k5 (⟨#[99, 97, 114, 100]⟩ : ByteArray) hK) (by simp [get1, put1]) (by decide))).mono ?_; rintro e w7 ⟨rfl, h5⟩)
  obtain ⟨f0, f1, f2, f3⟩ := h5.cells
  go_upto_region 11 with (go_at_call 12; with_reducible refine (h5.used (by decide) (⟨#[99, 97, 114, 100]⟩ : ByteArray) hKs 10 (by decide) 100 2 150 10 2 50 (k7 (⟨#[99, 97, 114, 100]⟩ : ByteArray))).mono ?_; rintro e w8 ⟨rfl, h6⟩)
  obtain ⟨i0, i1, i2, i3⟩ := h6.cells
  go_upto_region 12 with (go_at_call 17; with_reducible refine (h6.undo (by decide) (⟨#[99, 97, 114, 100]⟩ : ByteArray) hKs 50 1 true _ (k9 (⟨#[99, 97, 114, 100]⟩ : ByteArray)) (k10 (⟨#[99, 97, 114, 100]⟩ : ByteArray))).mono ?_; rintro e w9 ⟨rfl, h7⟩)
  obtain ⟨j0, j1, j2, j3⟩ := h7.cells
  go_upto_region 13 with (go_at_call 12; with_reducible refine (h7.used (by decide) (⟨#[99, 97, 114, 100]⟩ : ByteArray) hKs 10 (by decide) 100 2 150 10 1 0 (k8 (⟨#[99, 97, 114, 100]⟩ : ByteArray))).mono ?_; rintro e w10 ⟨rfl, h8⟩)
  obtain ⟨l0, l1, l2, l3⟩ := h8.cells
  go_upto_region 14 with (go_at_call 13; with_reducible refine (h8.ask (by decide) (⟨#[99, 97, 114, 100]⟩ : ByteArray) hKs 1 9 (by decide) (by decide) (by decide) 1 _ _ _ (k6 (⟨#[99, 97, 114, 100]⟩ : ByteArray) hK) (to_no (by rw [k6 (⟨#[99, 97, 114, 100]⟩ : ByteArray) hK]; decide))).mono ?_; rintro e w11 ⟨rfl, h9⟩)
  obtain ⟨m0, m1, m2, m3⟩ := h9.cells
  go_wp2
  go_ret
  exact ⟨rfl, h9.ats.below⟩
end Go.Proofs.Ytgndgjjejgbmoaa.Bok
