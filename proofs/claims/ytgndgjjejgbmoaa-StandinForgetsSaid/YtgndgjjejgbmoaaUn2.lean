/- StandinUndoes: the walk. -/
import Derived.Test.YtgndgjjejgbmoaaUn1
namespace Go.Proofs.Ytgndgjjejgbmoaa.Bok
open Go Go.RowKit Go.Maps Go.Proofs.YtgndgjjejgbmoaaW.PrintWords Go.Proofs.YtgndgjjejgbmoaaW.PrintLast Go.Proofs.YtgndgjjejgbmoaaW.PrintMore PStandinHolds
set_option linter.unusedSimpArgs false
set_option linter.unusedVariables false
theorem Keep.get {Z : Nat → Prop} {w w' : World} (h : Keep Z w w') {i : Nat} (hi : Z i) {o : Option Obj} (e : w.heap[i]? = o) : w'.heap[i]? = o := (h.2 i hi).trans e
theorem At.drew {B : Nat} {w0 : World} {Z : Nat → Prop} {p m : Nat} {cards place last : Int} {S : St} {w : World} (h : At B w0 Z p m cards place last S w) : At B w0 Z p m cards place last S w.drew :=
  h.step (Chg.of_below (⟨rfl, rfl, rfl, Nat.le_refl _, fun _ _ => rfl⟩ : Below w.heap.size w w.drew))
theorem At.nodup {B : Nat} {w0 : World} {Z : Nat → Prop} {p m : Nat} {cards place last : Int} {S : St} {w : World} (h : At B w0 Z p m cards place last S w) : (S.map (·.1)).Nodup := by obtain ⟨F, hb, _⟩ := h.book; exact hb.nodup
theorem At.full {B : Nat} {w0 : World} {Z : Nat → Prop} {p m : Nat} {cards place last : Int} {S : St} {w : World} (h : At B w0 Z p m cards place last S w) : ∀ x ∈ S, x.2 ≠ [] := by obtain ⟨F, hb, _⟩ := h.book; exact hb.full
/-- An array of seven, the first k of them filled. -/
def ArrP (w' : World) (g : Nat) (f : ByteArray → Int) (k : Nat) : Prop := ∃ arr : Array Value, w'.heap[g]? = some (.cells arr 56 (0, 0)) ∧ arr.size = 7 ∧ ∀ j : Nat, j < k → arr[j]? = some (.int .i64 (f (cardB j)))
theorem ArrP.at_ {w' : World} {g : Nat} {f : ByteArray → Int} {k j : Nat} (h : ArrP w' g f k) (hj : j < 7) : ∃ v, w'.cell? ⟨g, j, none⟩ = some v ∧ w'.frozen? ⟨g, j, none⟩ = false := by
  obtain ⟨arr, h1, h2, _⟩ := h
  have : j < arr.size := by omega
  exact ⟨arr[j], by simp [World.cell?, h1, this], by simp [World.frozen?, h1]⟩
theorem ArrP.read {w' : World} {g : Nat} {f : ByteArray → Int} {k j : Nat} (h : ArrP w' g f k) (hj : j < k) : w'.cell? ⟨g, j, none⟩ = some (.int .i64 (f (cardB j))) := by
  obtain ⟨arr, h1, h2, h3⟩ := h
  have := h3 j hj
  simp [World.cell?, h1, this]
theorem ArrP.keep {w1 w2 : World} {g : Nat} {f : ByteArray → Int} {k : Nat} (h : ArrP w1 g f k) (e : w2.heap[g]? = w1.heap[g]?) : ArrP w2 g f k := by
  obtain ⟨arr, h1, h2⟩ := h
  exact ⟨arr, e.trans h1, h2⟩
theorem ArrP.far {w1 : World} {g : Nat} {f : ByteArray → Int} {k : Nat} (h : ArrP w1 g f k) {a : Addr} (hne : g ≠ a.block) (u : Value) : ArrP (w1.setCell a u) g f k := h.keep (setCell_block _ _ _ _ hne)
theorem ArrP.set {w1 : World} {g : Nat} {f : ByteArray → Int} {k : Nat} (h : ArrP w1 g f k) (hk : k < 7) : ArrP (w1.setCell ⟨g, k, none⟩ (.int .i64 (f (cardB k)))) g f (k + 1) := by
  obtain ⟨arr, h1, h2, h3⟩ := h
  refine ⟨_, blk_set h1 k _, by simp [h2], fun j hj => ?_⟩
  by_cases e : j = k
  · subst e
    rw [Array.getElem?_setIfInBounds_self_of_lt (by omega)]
  · rw [Array.getElem?_setIfInBounds_ne (fun q => e q.symm)]
    exact h3 j (by omega)
theorem pick_small {k n : Int} (h0 : 0 ≤ k) (h1 : k < n) : pickI k n = k := by
  unfold pickI
  rw [if_neg (by omega), Int.tmod_eq_emod_of_nonneg h0, Int.emod_eq_of_lt h0 h1]
theorem deck_sub {c : ByteArray} (h : c ∈ deck 7) : c ∈ deck 8 := by
  unfold deck at h ⊢
  obtain ⟨k, hk, rfl⟩ := List.mem_map.mp h
  exact List.mem_map.mpr ⟨k, List.mem_range.mpr (by have := List.mem_range.mp hk; omega), rfl⟩
/-- The Book beside the limits and the two arrays. -/
def VRel (B : Nat) (w0 : World) (g ga gs p m : Nat) (L0 L1 L2 W : Int) (fM fS : ByteArray → Int) (place last : Int) (S : St) (full : Bool) (kq : Nat) (v17 : Value) (w' : World) : Prop :=
  ∃ k : Nat, v17 = .int .i64 k ∧ k + kq = 7 ∧ w'.heap[g]? = some (.cells #[.int .i64 L0, .int .i64 L1, .int .i64 L2, .int .i64 W] 23 (0, 0)) ∧ At B w0 (fun x => x = g ∨ x = ga ∨ x = gs) p m 10 place last S w' ∧ ArrP w' ga fM (if full then 7 else k) ∧ ArrP w' gs fS (if full then 7 else k)
/-- What a round of asking finds. -/
def URel (B : Nat) (w0 : World) (g p m : Nat) (L0 L1 L2 W : Int) (top : Nat) (kq : Nat) (v13 v14 : Value) (w' : World) : Prop :=
  ∃ (i : Nat) (now : Int) (place last : Int) (S : St), v13 = .int .i64 now ∧ v14 = .int .i64 i ∧ i + kq = top ∧ (0 ≤ now ∧ now ≤ 8 * i) ∧
    w'.heap[g]? = some (.cells #[.int .i64 L0, .int .i64 L1, .int .i64 L2, .int .i64 W] 23 (0, 0)) ∧ At B w0 (fun x => x = g) p m 10 place last S w' ∧ Good i place S ∧ UInv now last S
set_option maxRecDepth 100000 in
set_option maxHeartbeats 2000000 in
theorem undoes_calls (w : World) (a b c d : Int) (ha : I64 a) (hb : I64 b) (hc : I64 c) (hd : I64 d) (A : Option Addr) (cp : Nat) (T : List (Int × Int × Int)) (hT : Tries w A T) (wh la : Int) (hwh : I64 wh) (hla : I64 la) :
    Calls Try.prog 5 #[.agg #[.int .i64 a, .int .i64 b, .int .i64 c, .int .i64 d], .slice A T.length cp, .int .i64 wh, .int .i64 la] w fun e w' => e = .returned (.bool true) ∧ Below w.heap.size w w' := by
  go_enter Try.func5, Try.ntmps5
  go_upto_region 1 with (fail)
  obtain ⟨w1, hw1⟩ : ∃ w1, w1 = w.alloc (.cells #[.int .i64 a, .int .i64 b, .int .i64 c, .int .i64 d] 23) := ⟨_, rfl⟩
  rw [← hw1]
  have B1 : Below w.heap.size w w1 := by rw [hw1]; exact below_alloc (Below.refl _ _) _
  have hbox : w1.heap[w.heap.size]? = some (.cells #[.int .i64 a, .int .i64 b, .int .i64 c, .int .i64 d] 23 (0, 0)) := by rw [hw1]; exact heap_alloc_new _ _
  have hgl : w.heap.size < w1.heap.size := by rw [hw1]; exact Nat.lt_of_lt_of_eq (Nat.lt_succ_self _) (Array.size_push _).symm
  clear hw1
  have box : ∀ w3 : World, w3.heap[w.heap.size]? = w1.heap[w.heap.size]? → w3.cell? ⟨w.heap.size, 0, none⟩ = some (.int .i64 a) ∧ w3.cell? ⟨w.heap.size, 1, none⟩ = some (.int .i64 b) ∧ w3.cell? ⟨w.heap.size, 2, none⟩ = some (.int .i64 c) ∧ w3.cell? ⟨w.heap.size, 3, none⟩ = some (.int .i64 d) := by
    intro w3 e
    rw [hbox] at e
    simp [World.cell?, e]
  go_upto_region 6 with (first
    | (go_at_call 7; with_reducible refine (known_calls _).mono ?_; rintro e w2 ⟨rfl, hB2⟩)
    | (go_at_call 8; with_reducible refine (At.new (B := w.heap.size) (w0 := w) (Z := fun i => i = w.heap.size) (below_step B1 hB2) (Nat.le_of_lt (Nat.lt_of_lt_of_le hgl hB2.size)) (fun i hi => by rw [hi]; exact ⟨Nat.le_refl _, Nat.lt_of_lt_of_le hgl hB2.size⟩) 10 (by decide) (by decide)).mono ?_; rintro e w3 ⟨p, m, rfl, hA, hK⟩; obtain ⟨x0, x1, x2, x3⟩ := box w3 ((Keep.blk hK rfl).trans (hB2.block _ hgl)))
    | (go_at_call 9; with_reducible refine (limits_calls a b c d ha hb hc hd _).mono ?_; rintro e w4 ⟨rfl, hB4⟩))
  obtain ⟨w5, hw5⟩ : ∃ w5, w5 = w4.alloc (.cells #[.int .i64 (pickI a 300), .int .i64 (pickI b 8), .int .i64 (pickI c 900), .int .i64 (1 + pickI d 40)] 23) := ⟨_, rfl⟩
  rw [← hw5]
  have hA4 : At w.heap.size w (fun i => i = w.heap.size) p m 10 0 0 [] w4 := hA.step (Chg.of_below hB4)
  have hA5 : At w.heap.size w (fun x => x = w4.heap.size) p m 10 0 0 [] w5 := by
    refine hA4.turn (Chg.of_grown (by rw [hw5]; exact World.grownBy_alloc _ _ none) (fun _ e => by cases e)) (fun i hi => .inr ?_)
    subst hi
    rw [hw5]
    exact ⟨Nat.le_refl _, Nat.lt_of_lt_of_eq (Nat.lt_succ_self _) (Array.size_push _).symm⟩
  have hbox5 : w5.heap[w4.heap.size]? = some (.cells #[.int .i64 (pickI a 300), .int .i64 (pickI b 8), .int .i64 (pickI c 900), .int .i64 (1 + pickI d 40)] 23 (0, 0)) := by rw [hw5]; exact heap_alloc_new _ _
  clear hw5 hA4 hA hK x0 x1 x2 x3 box hbox hgl B1
  generalize w4.heap.size = g at hA5 hbox5 ⊢
  generalize pickI a 300 = L0 at hbox5 ⊢
  generalize pickI b 8 = L1 at hbox5 ⊢
  generalize pickI c 900 = L2 at hbox5 ⊢
  generalize 1 + pickI d 40 = W at hbox5 ⊢
  go_wp2
  go_loopg [13, 14] (min T.length 100) (fun kq v13 v14 w' => URel w.heap.size w g p m L0 L1 L2 W (min T.length 100) kq v13 v14 w')
  case atStart =>
    exact ⟨0, 0, 0, 0, [], rfl, rfl, Nat.zero_add _, ⟨Int.le_refl _, Int.le_refl _⟩, hbox5, hA5, Good.nil, fun x hx => (by cases hx), fun x hx => (by cases hx), Int.le_refl _⟩
  case round =>
    obtain ⟨i, now, place, last, S, rfl, rfl, hK, hN, hBx, hAt, hG, hI⟩ := hrel
    cases gk with
    | zero =>
      by_cases hi : (i : Int) < (T.length : Int)
      · have d1 : decide ((i : Int) < (T.length : Int)) = true := decide_eq_true hi
        have d2 : decide ((i : Int) < 100) = false := decide_eq_false (by omega)
        go_upto_region 14 with (fail)
        obtain ⟨w7, hw7⟩ : ∃ w7, w7 = (wr.alloc (.cells #[.int .i64 0, .int .i64 0, .int .i64 0, .int .i64 0, .int .i64 0, .int .i64 0, .int .i64 0] 56)).alloc (.cells #[.int .i64 0, .int .i64 0, .int .i64 0, .int .i64 0, .int .i64 0, .int .i64 0, .int .i64 0] 56) := ⟨_, rfl⟩
        rw [← hw7]
        have hsz : (wr.alloc (.cells #[.int .i64 0, .int .i64 0, .int .i64 0, .int .i64 0, .int .i64 0, .int .i64 0, .int .i64 0] 56)).heap.size = wr.heap.size + 1 := Array.size_push _
        have hsz7 : w7.heap.size = wr.heap.size + 2 := by rw [hw7]; exact (Array.size_push _).trans (congrArg (· + 1) hsz)
        have hB7 : Below wr.heap.size wr w7 := by rw [hw7]; exact below_alloc (below_alloc (Below.refl _ _) _) _
        have hM0 : ∀ f, ArrP w7 wr.heap.size f 0 := fun f => ⟨_, by rw [hw7]; exact (heap_alloc_old _ _ (by rw [hsz]; exact Nat.lt_succ_self _)).trans (heap_alloc_new _ _), rfl, fun j hj => absurd hj (Nat.not_lt_zero j)⟩
        have hS0 : ∀ f, ArrP w7 (wr.heap.size + 1) f 0 := fun f => ⟨_, by rw [hw7, ← hsz]; exact heap_alloc_new _ _, rfl, fun j hj => absurd hj (Nat.not_lt_zero j)⟩
        have hA7 : At w.heap.size w (fun x => x = g ∨ x = wr.heap.size ∨ x = wr.heap.size + 1) p m 10 place last S w7 := by
          refine hAt.turn (Chg.of_below hB7) (fun j hj => ?_)
          rcases hj with hj | hj | hj
          · exact .inl hj
          · exact .inr ⟨by omega, by omega⟩
          · exact .inr ⟨by omega, by omega⟩
        have hbx7 := (hB7.block _ (Array.getElem?_eq_some_iff.mp hBx).1).trans hBx
        have hne0 : wr.heap.size + 1 ≠ wr.heap.size := by omega
        have hgz := (hAt.own g rfl).2
        have hg0 : g ≠ wr.heap.size := by omega
        have hg1 : g ≠ wr.heap.size + 1 := by omega
        clear hgz
        clear hw7 hsz hsz7 hB7 hBx hAt
        generalize wr.heap.size = ga at hM0 hS0 hA7 hne0 hg0 hg1 ⊢
        generalize ga + 1 = gs at hS0 hA7 hne0 hg1 ⊢
        have n0 : 0 ≤ now := hN.1
        have n1 : now ≤ 2000 := by omega
        obtain ⟨fM, hfM⟩ : ∃ fM : ByteArray → Int, fM = fun c => (usedR L0 L1 L2 W now (S.get c)).1 := ⟨_, rfl⟩
        obtain ⟨fS, hfS⟩ : ∃ fS : ByteArray → Int, fS = fun c => (usedR L0 L1 L2 W now (S.get c)).2 := ⟨_, rfl⟩
        have hUseA : ∀ (N : Nat) (pl la : Int) (S2 : St), Good N pl S2 → N ≤ 1000 → (∀ d, S2.get d = S.get d) → ∀ w', At w.heap.size w (fun x => x = g ∨ x = ga ∨ x = gs) p m 10 pl la S2 w' → ∀ c : ByteArray, c.size ≤ maxLen →
            Calls Try.prog 12 #[.pointer (some ⟨p, 0, none⟩), .agg #[.int .i64 L0, .int .i64 L1, .int .i64 L2, .int .i64 W], .string c, .int .i64 now] w' fun e w'' => e = .returned (.tuple #[.int .i64 (fM c), .int .i64 (fS c)]) ∧ At w.heap.size w (fun x => x = g ∨ x = ga ∨ x = gs) p m 10 pl la S2 w'' ∧ Keep (fun x => x = g ∨ x = ga ∨ x = gs) w' w'' := by
          intro N pl la S2 hG2 hN2 hget w' hA c hc
          have := hA.used hG2 (by omega) L0 L1 L2 W c hc now (by omega)
          rw [hget] at this
          rw [hfM, hfS]
          exact this
        have hi1 : i ≤ 100 := by omega
        obtain ⟨cc, hc8, hc5, hcc⟩ : ∃ C, C ∈ deck 8 ∧ C.size = 5 ∧ ∀ w, Calls Try.prog 10 #[.int .i64 wh, .int .i64 8] w fun e w' => e = .returned (.string C) ∧ Below w.heap.size w w' :=
          ⟨_, mem_deck (pick_range wh 8 (by decide)).1 (pick_range wh 8 (by decide)).2, cardB_size _, fun w => card_calls wh 8 hwh (by decide) w⟩
        obtain ⟨lt, hlt, hcl⟩ : ∃ n, (0 ≤ n ∧ n < 50) ∧ ∀ w, Calls Try.prog 11 #[.int .i64 la, .int .i64 50] w fun e w' => e = .returned (.int .i64 n) ∧ Drawn0 w w' := ⟨_, pick_range la 50 (by decide), fun w => pick_calls la 50 hla (by decide) w⟩
        have hccs : cc.size ≤ maxLen := by rw [hc5]; decide
        have hnd := hA7.nodup
        have hgl := (hG.get cc).1
        have hE := wide_ask hI n0 (c := cc) (by omega) (N := i) hgl (by omega)
        obtain ⟨S1, hS1⟩ : ∃ S1, S1 = S.put cc (S.get cc ++ [⟨place + 1, 123456789, now⟩]) := ⟨_, rfl⟩
        have hl1 : S1.length ≤ 8 := by
          rw [hS1]
          refine len_deck (nodup_put hnd cc _) (fun x hx => ?_)
          unfold St.put at hx
          rcases List.mem_cons.mp hx with rfl | hx
          · exact hc8
          · exact deck_sub (hI.cards x (mem_del.mp hx).1)
        obtain ⟨u1, u2, u3⟩ := undo_back hnd hA7.full (hI.get cc) (place + 1) now hS1
        have hWide : ∀ w', At w.heap.size w (fun x => x = g ∨ x = ga ∨ x = gs) p m 10 place last S w' → Calls Try.prog 13 #[.pointer (some ⟨p, 0, none⟩), .agg #[.int .i64 999999999999, .int .i64 999999999999, .int .i64 999999999999, .int .i64 1], .string cc, .int .i64 123456789, .int .i64 now] w' fun e w'' => e = .returned (.int .i64 0) ∧ At w.heap.size w (fun x => x = g ∨ x = ga ∨ x = gs) p m 10 (place + 1) now S1 w'' ∧ Keep (fun x => x = g ∨ x = ga ∨ x = gs) w' w'' ∧ Good (i + 1) (place + 1) S1 := by
          intro w' hA
          have := hA.ask hG (by omega) 999999999999 999999999999 999999999999 1 cc hccs 123456789 now (by decide) (by decide) (by omega)
          rw [hE] at this
          refine this.mono ?_
          rintro e w'' ⟨rfl, a, b, d, hT, h1, h2, h3⟩
          obtain ⟨rfl, rfl, rfl⟩ := to_yes hE hS1.symm (by omega) _ _ _ hT
          exact ⟨rfl, h1, h2, h3⟩
        obtain ⟨S2, hS2⟩ : ∃ S2, S2 = undoS S1 cc 123456789 now := ⟨_, rfl⟩
        rw [← hS2] at u2 u3
        have hUn1 : ∀ w', At w.heap.size w (fun x => x = g ∨ x = ga ∨ x = gs) p m 10 (place + 1) now S1 w' → Good (i + 1) (place + 1) S1 → Calls Try.prog 17 #[.pointer (some ⟨p, 0, none⟩), .string cc, .int .i64 123456789, .int .i64 now] w' fun e w'' => e = .returned (.bool true) ∧ At w.heap.size w (fun x => x = g ∨ x = ga ∨ x = gs) p m 10 (place + 1) now S2 w'' ∧ Keep (fun x => x = g ∨ x = ga ∨ x = gs) w' w'' ∧ Good (i + 1) (place + 1) S2 := by
          intro w' hA hg
          have := hA.undo hg (by omega) cc hccs 123456789 now
          rw [u1, ← hS2] at this
          exact this
        have hUn2 : ∀ (t : Int) w', At w.heap.size w (fun x => x = g ∨ x = ga ∨ x = gs) p m 10 (place + 1) now S2 w' → Good (i + 1) (place + 1) S2 → Calls Try.prog 17 #[.pointer (some ⟨p, 0, none⟩), .string cc, .int .i64 123456789, .int .i64 t] w' fun e w'' => e = .returned (.bool false) ∧ At w.heap.size w (fun x => x = g ∨ x = ga ∨ x = gs) p m 10 (place + 1) now S2 w'' ∧ Keep (fun x => x = g ∨ x = ga ∨ x = gs) w' w'' := by
          intro t w' hA hg
          have hf : (S2.get cc).findIdx? (hit 123456789 t) = none := by rw [u3]; exact not_hit (hI.get cc) t
          have e1 : undoE S2 cc 123456789 t = false := by unfold undoE; rw [hf]; rfl
          have e2 : undoS S2 cc 123456789 t = S2 := by unfold undoS; rw [hf]
          have := hA.undo hg (by omega) cc hccs 123456789 t
          rw [e1, e2] at this
          exact this.mono (fun e w'' ⟨h1, h2, h3, _⟩ => ⟨h1, h2, h3⟩)
        clear hS1 hS2 hE hgl hnd hfM hfS hl1 u1 hI hN hK
        go_wp2
        go_loopg [17] 7 (fun kq v17 w' => VRel w.heap.size w g ga gs p m L0 L1 L2 W fM fS place last S false kq v17 w')
        case atStart => exact ⟨0, rfl, rfl, hbx7, hA7, hM0 fM, hS0 fS⟩
        case round =>
          obtain ⟨k, rfl, HK, hBx, hAt, hM, hS⟩ := hrel
          simp only [Bool.false_eq_true, if_false] at hM hS
          cases gk with
          | zero =>
            have hk7 : k = 7 := HK
            subst hk7
            have hltM := (hAt.own ga (.inr (.inl rfl))).2
            go_upto_region 20 with (first
              | (go_at_call 16; with_reducible refine hAt.len.mono ?_; rintro e wl ⟨rfl, hAl, hKl⟩)
              | (go_at_call 10; with_reducible refine (hcc _).mono ?_; rintro e wc ⟨rfl, hBc⟩))
            have hAc := hAl.step (Chg.of_below hBc)
            have kc : ∀ x, (x = g ∨ x = ga ∨ x = gs) → wc.heap[x]? = wr.heap[x]? := fun x hx => (hBc.block x (Nat.lt_of_lt_of_le (hAt.own x hx).2 hKl.1)).trans (Keep.blk hKl hx)
            go_upto_region 21 with (fail)
            obtain ⟨w9, hw9⟩ : ∃ w9, w9 = wc.alloc (.cells #[.int .i64 999999999999, .int .i64 999999999999, .int .i64 999999999999, .int .i64 1] 23) := ⟨_, rfl⟩
            rw [← hw9]
            have hb9 : w9.heap[wc.heap.size]? = some (.cells #[.int .i64 999999999999, .int .i64 999999999999, .int .i64 999999999999, .int .i64 1] 23 (0, 0)) := by rw [hw9]; exact heap_alloc_new _ _
            have hB9 : Below wc.heap.size wc w9 := by rw [hw9]; exact below_alloc (Below.refl _ _) _
            obtain ⟨b0, b1, b2, b3⟩ := box_cells hb9 rfl
            have hA9 := hAc.step (Chg.of_below hB9)
            have k9 : ∀ x, (x = g ∨ x = ga ∨ x = gs) → w9.heap[x]? = wr.heap[x]? := fun x hx => (hB9.block x (hAc.own x hx).2).trans (kc x hx)
            clear hw9 hb9 kc
            generalize wc.heap.size = gw at b0 b1 b2 b3 ⊢
            go_upto_region 27 with (first
              | (go_at_call 13; with_reducible refine (hWide w9 hA9).mono ?_; rintro e wp ⟨rfl, hAp, hKp, hGp⟩)
              | (go_at_call 17; with_reducible refine (hUn1 wp hAp hGp).mono ?_; rintro e wq ⟨rfl, hAq, hKq, hGq⟩)
              | (go_at_call 17; with_reducible refine (hUn2 now wq hAq hGq).mono ?_; rintro e ws ⟨rfl, hAs, hKs⟩)
              | (go_at_call 11; with_reducible refine (hcl _).mono ?_; rintro e wt ⟨rfl, kt, rfl⟩)
              | (go_at_call 17; with_reducible refine (hUn2 _ _ (hAs.step (Chg.of_below (pw_below_drewN (Below.refl _ _) kt))) hGq).mono ?_; rintro e wv ⟨rfl, hAv, hKv⟩)
              | (go_at_call 16; with_reducible refine hAv.len.mono ?_; rintro e wz ⟨rfl, hAz, hKz⟩))
            have kz : ∀ x, (x = g ∨ x = ga ∨ x = gs) → wz.heap[x]? = wr.heap[x]? := fun x hx => (Keep.blk hKz hx).trans ((Keep.blk hKv hx).trans ((Keep.blk hKs hx).trans ((Keep.blk hKq hx).trans ((Keep.blk hKp hx).trans (k9 x hx)))))
            have hMz := ArrP.keep hM (kz ga (.inr (.inl rfl)))
            have hSz := ArrP.keep hS (kz gs (.inr (.inr rfl)))
            have hBz := (kz g (.inl rfl)).trans hBx
            have hUse3 := hUseA (i + 1) (place + 1) now S2 hGq (by omega) u3
            clear kz k9 b0 b1 b2 b3 hWide hUn1 hUn2 hUseA hAp hKp hAq hKq hAs hKs hAv hKv hKz hA9 hAc hAl hKl hM hS hBx hAt hltM
            go_wp2
            go_loopg [25] 7 (fun kq v25 w' => VRel w.heap.size w g ga gs p m L0 L1 L2 W fM fS (place + 1) now S2 true kq v25 w')
            case atStart => exact ⟨0, rfl, rfl, hBz, hAz, hMz, hSz⟩
            case round =>
              obtain ⟨k, rfl, HK, hBx, hAt, hM, hS⟩ := hrel
              simp only [if_true] at hM hS
              cases gk with
              | zero =>
                have d3 : decide ((k : Int) < 7) = false := decide_eq_false (by omega)
                go_wp2
                go_ret
                exact ⟨rfl, hAt.below⟩
              | succ gk =>
                have hk7 : k < 7 := by omega
                have d3 : decide ((k : Int) < 7) = true := decide_eq_true (by omega)
                have c6 : (0 ≤ (k : Int)) = True := eq_true (by omega)
                have c7 : ((k : Int) < 7) = True := eq_true (by omega)
                have c8 : (k < 7) = True := eq_true hk7
                have hpk : pickI k 7 = k := pick_small (by omega) (by omega)
                have hcC := card_calls k 7 ⟨by omega, by omega⟩ (by decide)
                rw [hpk] at hcC
                have hUsed := hUse3
                replace hAt := hAt.drew
                obtain ⟨y0, y1, y2, y3⟩ := box_cells hBx rfl
                have hltM : ga < wr.heap.size := (hAt.own ga (.inr (.inl rfl))).2
                have hltS : gs < wr.heap.size := (hAt.own gs (.inr (.inr rfl))).2
                have hltG : g < wr.heap.size := (hAt.own g (.inl rfl)).2
                have hHK := Aside0.mk HK
                clear HK hpk
                go_upto_region 30 with (fail)
                refine start_ (n := 11) (S := fun w' => w'.cell? ⟨g, 0, none⟩ = some (.int .i64 L0) ∧ w'.cell? ⟨g, 1, none⟩ = some (.int .i64 L1) ∧ w'.cell? ⟨g, 2, none⟩ = some (.int .i64 L2) ∧ w'.cell? ⟨g, 3, none⟩ = some (.int .i64 W)) (ds := []) #[false, false, false, false, false, false, false, false, false, false, false] (by kernel_rfl) rfl rfl ⟨y0, y1, y2, y3⟩ (fun hHeld => ?_)
                refine pure_ (i := 0) (N := some 145) (v := ?_) (a' := ?_) #[true, false, false, false, false, false, false, false, false, false, false] rfl rfl (by kernel_rfl) (fun _ _ _ h => h) (Or.inl ⟨by rfl, ?_⟩) ?_ ?_
                rotate_left
                · intro w'
                  go_simp
                  with_reducible rfl
                rotate_left
                · simp only [Act.put, List.setIfInBounds_toArray, List.set_cons_zero, List.set_cons_succ, i64_w, i32_w]
                  rfl
                refine pure_ (i := 2) (N := some 147) (v := ?_) (a' := ?_) #[true, false, true, false, false, false, false, false, false, false, false] rfl rfl (by kernel_rfl) (fun _ _ _ h => h) (Or.inl ⟨by rfl, ?_⟩) ?_ ?_
                rotate_left
                · intro w'
                  go_simp
                  with_reducible rfl
                rotate_left
                · simp only [Act.put, List.setIfInBounds_toArray, List.set_cons_zero, List.set_cons_succ, i64_w, i32_w]
                  rfl
                refine pure_ (i := 4) (N := some 149) (v := ?_) (a' := ?_) #[true, false, true, false, true, false, false, false, false, false, false] rfl rfl (by kernel_rfl) (fun _ _ _ h => h) (Or.inl ⟨by rfl, ?_⟩) ?_ ?_
                rotate_left
                · intro w'
                  go_simp
                  with_reducible rfl
                rotate_left
                · simp only [Act.put, List.setIfInBounds_toArray, List.set_cons_zero, List.set_cons_succ, i64_w, i32_w]
                  rfl
                refine take_ (i := 1) (N := some 146) (v := ?_) (a' := ?_) #[true, true, true, false, true, false, false, false, false, false, false] rfl rfl (by kernel_rfl) (fun _ _ _ h => h) (Or.inl ⟨by rfl, ?_⟩) hHeld ?_ ?_
                rotate_left
                · rintro w' ⟨s0, s1, s2, s3⟩
                  go_simp
                  with_reducible rfl
                rotate_left
                · simp only [Act.put, List.setIfInBounds_toArray, List.set_cons_zero, List.set_cons_succ, i64_w, i32_w]
                  rfl
                refine one_ (i := 3) (N := some 148) #[true, true, true, true, true, false, false, false, false, false, false] rfl rfl (by kernel_rfl) (by decide) (fun K hK => ?_)
                refine goes_ Try.func10 (by kernel_rfl) rfl #[.int .i64 k, .int .i64 7] (by rfl) rfl rfl (by simp only [List.map_toArray, List.map_cons, List.map_nil]; rfl) ?_
                with_reducible refine (hcC _).mono ?_
                rintro e wa ⟨rfl, hBa⟩
                refine ⟨_, rfl, ?_⟩
                refine hK.out _ _ ⟨pw_cell_below hBa y0, pw_cell_below hBa y1, pw_cell_below hBa y2, pw_cell_below hBa y3⟩ (fun hHeld => ?_)
                clear hK K
                refine norm_ (a' := ?_) ?_ ?_
                rotate_left
                · show Act.put _ (some 148) _ = _
                  simp only [Act.put, List.setIfInBounds_toArray, List.set_cons_zero, List.set_cons_succ, i64_w, i32_w]
                  rfl
                refine one_ (i := 5) (N := some 150) #[true, true, true, true, true, true, false, false, false, false, false] rfl rfl (by kernel_rfl) (by decide) (fun K hK => ?_)
                refine goes_ Try.func12 (by kernel_rfl) rfl #[.pointer (some ⟨p, 0, none⟩), .agg #[.int .i64 L0, .int .i64 L1, .int .i64 L2, .int .i64 W], .string (cardB k), .int .i64 now] (by rfl) rfl rfl (by simp only [List.map_toArray, List.map_cons, List.map_nil]; rfl) ?_
                with_reducible refine (hUsed _ (hAt.step (Chg.of_below hBa)) (cardB k) (cardB_max k)).mono ?_
                rintro e wk ⟨rfl, hAk, hKk⟩
                refine ⟨_, rfl, ?_⟩
                have hMk := ArrP.keep hM ((Keep.blk hKk (.inr (.inl rfl))).trans (hBa.block _ hltM))
                have hSk := ArrP.keep hS ((Keep.blk hKk (.inr (.inr rfl))).trans (hBa.block _ hltS))
                have z1 := hMk.read hk7
                have z2 := hSk.read hk7
                refine hK.out _ _ ⟨Keep.cell hKk (.inl rfl) (pw_cell_below hBa y0), Keep.cell hKk (.inl rfl) (pw_cell_below hBa y1), Keep.cell hKk (.inl rfl) (pw_cell_below hBa y2), Keep.cell hKk (.inl rfl) (pw_cell_below hBa y3)⟩ (fun hHeld => ?_)
                clear hK K
                refine norm_ (a' := ?_) ?_ ?_
                rotate_left
                · show Act.put _ (some 150) _ = _
                  simp only [Act.put, List.setIfInBounds_toArray, List.set_cons_zero, List.set_cons_succ, i64_w, i32_w]
                  rfl
                refine pure_ (i := 6) (N := some 144) (v := ?_) (a' := ?_) #[true, true, true, true, true, true, true, false, false, false, false] rfl rfl (by kernel_rfl) (fun _ _ _ h => h) (Or.inl ⟨by rfl, ?_⟩) ?_ ?_
                rotate_left
                · intro w'
                  go_simp
                  with_reducible rfl
                rotate_left
                · simp only [Act.put, List.setIfInBounds_toArray, List.set_cons_zero, List.set_cons_succ, i64_w, i32_w]
                  rfl
                refine pure_ (i := 7) (N := some 151) (v := ?_) (a' := ?_) #[true, true, true, true, true, true, true, true, false, false, false] rfl rfl (by kernel_rfl) (fun _ _ _ h => h) (Or.inl ⟨by rfl, ?_⟩) ?_ ?_
                rotate_left
                · intro w'
                  go_simp
                  with_reducible rfl
                rotate_left
                · simp only [Act.put, List.setIfInBounds_toArray, List.set_cons_zero, List.set_cons_succ, i64_w, i32_w]
                  rfl
                refine pure_ (i := 8) (N := some 152) (v := ?_) (a' := ?_) #[true, true, true, true, true, true, true, true, true, false, false] rfl rfl (by kernel_rfl) (fun _ _ _ h => h) (Or.inl ⟨by rfl, ?_⟩) ?_ ?_
                rotate_left
                · intro w'
                  go_simp
                  with_reducible rfl
                rotate_left
                · simp only [Act.put, List.setIfInBounds_toArray, List.set_cons_zero, List.set_cons_succ, i64_w, i32_w]
                  rfl
                refine pure_ (i := 9) (N := some 26) (v := ?_) (a' := ?_) #[true, true, true, true, true, true, true, true, true, true, false] rfl rfl (by kernel_rfl) (fun _ _ _ h => h) (Or.inl ⟨by rfl, ?_⟩) ?_ ?_
                rotate_left
                · intro w'
                  go_simp
                  with_reducible rfl
                rotate_left
                · simp only [Act.put, List.setIfInBounds_toArray, List.set_cons_zero, List.set_cons_succ, i64_w, i32_w]
                  rfl
                refine pure_ (i := 10) (N := some 27) (v := ?_) (a' := ?_) #[true, true, true, true, true, true, true, true, true, true, true] rfl rfl (by kernel_rfl) (fun _ _ _ h => h) (Or.inl ⟨by rfl, ?_⟩) ?_ ?_
                rotate_left
                · intro w'
                  go_simp
                  with_reducible rfl
                rotate_left
                · simp only [Act.put, List.setIfInBounds_toArray, List.set_cons_zero, List.set_cons_succ, i64_w, i32_w]
                  rfl
                refine done_ (by kernel_rfl) ?_
                go_wp2
                go_roundg gk
                case measure => exact Nat.lt_succ_self _
                case rel =>
                  refine ⟨k + 1, rfl, (Nat.add_right_comm k 1 gk).trans hHK.out, ?_, hAk, hMk, hSk⟩
                  exact (Keep.blk hKk (.inl rfl)).trans ((hBa.block _ hltG).trans hBx)
          | succ gk =>
            have hk7 : k < 7 := by omega
            have d3 : decide ((k : Int) < 7) = true := decide_eq_true (by omega)
            have c6 : (0 ≤ (k : Int)) = True := eq_true (by omega)
            have c7 : ((k : Int) < 7) = True := eq_true (by omega)
            have c8 : (k < 7) = True := eq_true hk7
            have hpk : pickI k 7 = k := pick_small (by omega) (by omega)
            have hcC := card_calls k 7 ⟨by omega, by omega⟩ (by decide)
            rw [hpk] at hcC
            have hUsed := hUseA i place last S hG (by omega) (fun _ => rfl)
            replace hAt := hAt.drew
            obtain ⟨y0, y1, y2, y3⟩ := box_cells hBx rfl
            have hltM : ga < wr.heap.size := (hAt.own ga (.inr (.inl rfl))).2
            have hltS : gs < wr.heap.size := (hAt.own gs (.inr (.inr rfl))).2
            have hltG : g < wr.heap.size := (hAt.own g (.inl rfl)).2
            have hne : gs ≠ (⟨ga, k, none⟩ : Addr).block := hne0
            have hHK := Aside0.mk HK
            clear HK hpk
            go_upto_region 17 with (fail)
            refine start_ (n := 15) (S := fun w' => w'.cell? ⟨g, 0, none⟩ = some (.int .i64 L0) ∧ w'.cell? ⟨g, 1, none⟩ = some (.int .i64 L1) ∧ w'.cell? ⟨g, 2, none⟩ = some (.int .i64 L2) ∧ w'.cell? ⟨g, 3, none⟩ = some (.int .i64 W)) (ds := [12, 14]) #[false, false, false, false, false, false, false, false, false, false, false, false, false, false, false] (by kernel_rfl) rfl rfl ⟨y0, y1, y2, y3⟩ (fun hHeld => ?_)
            refine pure_ (i := 0) (N := some 84) (v := ?_) (a' := ?_) #[true, false, false, false, false, false, false, false, false, false, false, false, false, false, false] rfl rfl (by kernel_rfl) (fun _ _ _ h => h) (Or.inl ⟨by rfl, ?_⟩) ?_ ?_
            rotate_left
            · intro w'
              go_simp
              with_reducible rfl
            rotate_left
            · simp only [Act.put, List.setIfInBounds_toArray, List.set_cons_zero, List.set_cons_succ, i64_w, i32_w]
              rfl
            refine pure_ (i := 1) (N := some 85) (v := ?_) (a' := ?_) #[true, true, false, false, false, false, false, false, false, false, false, false, false, false, false] rfl rfl (by kernel_rfl) (fun _ _ _ h => h) (Or.inl ⟨by rfl, ?_⟩) ?_ ?_
            rotate_left
            · intro w'
              go_simp
              with_reducible rfl
            rotate_left
            · simp only [Act.put, List.setIfInBounds_toArray, List.set_cons_zero, List.set_cons_succ, i64_w, i32_w]
              rfl
            refine pure_ (i := 2) (N := some 86) (v := ?_) (a' := ?_) #[true, true, true, false, false, false, false, false, false, false, false, false, false, false, false] rfl rfl (by kernel_rfl) (fun _ _ _ h => h) (Or.inl ⟨by rfl, ?_⟩) ?_ ?_
            rotate_left
            · intro w'
              go_simp
              with_reducible rfl
            rotate_left
            · simp only [Act.put, List.setIfInBounds_toArray, List.set_cons_zero, List.set_cons_succ, i64_w, i32_w]
              rfl
            refine pure_ (i := 4) (N := some 88) (v := ?_) (a' := ?_) #[true, true, true, false, true, false, false, false, false, false, false, false, false, false, false] rfl rfl (by kernel_rfl) (fun _ _ _ h => h) (Or.inl ⟨by rfl, ?_⟩) ?_ ?_
            rotate_left
            · intro w'
              go_simp
              with_reducible rfl
            rotate_left
            · simp only [Act.put, List.setIfInBounds_toArray, List.set_cons_zero, List.set_cons_succ, i64_w, i32_w]
              rfl
            refine pure_ (i := 6) (N := some 90) (v := ?_) (a' := ?_) #[true, true, true, false, true, false, true, false, false, false, false, false, false, false, false] rfl rfl (by kernel_rfl) (fun _ _ _ h => h) (Or.inl ⟨by rfl, ?_⟩) ?_ ?_
            rotate_left
            · intro w'
              go_simp
              with_reducible rfl
            rotate_left
            · simp only [Act.put, List.setIfInBounds_toArray, List.set_cons_zero, List.set_cons_succ, i64_w, i32_w]
              rfl
            refine take_ (i := 3) (N := some 87) (v := ?_) (a' := ?_) #[true, true, true, true, true, false, true, false, false, false, false, false, false, false, false] rfl rfl (by kernel_rfl) (fun _ _ _ h => h) (Or.inl ⟨by rfl, ?_⟩) hHeld ?_ ?_
            rotate_left
            · rintro w' ⟨s0, s1, s2, s3⟩
              go_simp
              with_reducible rfl
            rotate_left
            · simp only [Act.put, List.setIfInBounds_toArray, List.set_cons_zero, List.set_cons_succ, i64_w, i32_w]
              rfl
            refine one_ (i := 5) (N := some 89) #[true, true, true, true, true, true, true, false, false, false, false, false, false, false, false] rfl rfl (by kernel_rfl) (by decide) (fun K hK => ?_)
            refine goes_ Try.func10 (by kernel_rfl) rfl #[.int .i64 k, .int .i64 7] (by rfl) rfl rfl (by simp only [List.map_toArray, List.map_cons, List.map_nil]; rfl) ?_
            with_reducible refine (hcC _).mono ?_
            rintro e wa ⟨rfl, hBa⟩
            refine ⟨_, rfl, ?_⟩
            refine hK.out _ _ ⟨pw_cell_below hBa y0, pw_cell_below hBa y1, pw_cell_below hBa y2, pw_cell_below hBa y3⟩ (fun hHeld => ?_)
            clear hK K
            refine norm_ (a' := ?_) ?_ ?_
            rotate_left
            · show Act.put _ (some 89) _ = _
              simp only [Act.put, List.setIfInBounds_toArray, List.set_cons_zero, List.set_cons_succ, i64_w, i32_w]
              rfl
            refine one_ (i := 7) (N := some 91) #[true, true, true, true, true, true, true, true, false, false, false, false, false, false, false] rfl rfl (by kernel_rfl) (by decide) (fun K hK => ?_)
            refine goes_ Try.func12 (by kernel_rfl) rfl #[.pointer (some ⟨p, 0, none⟩), .agg #[.int .i64 L0, .int .i64 L1, .int .i64 L2, .int .i64 W], .string (cardB k), .int .i64 now] (by rfl) rfl rfl (by simp only [List.map_toArray, List.map_cons, List.map_nil]; rfl) ?_
            with_reducible refine (hUsed _ (hAt.step (Chg.of_below hBa)) (cardB k) (cardB_max k)).mono ?_
            rintro e wk ⟨rfl, hAk, hKk⟩
            refine ⟨_, rfl, ?_⟩
            have hMk := ArrP.keep hM ((Keep.blk hKk (.inr (.inl rfl))).trans (hBa.block _ hltM))
            have hSk := ArrP.keep hS ((Keep.blk hKk (.inr (.inr rfl))).trans (hBa.block _ hltS))
            obtain ⟨zv, z1, z2⟩ := hMk.at_ hk7
            obtain ⟨sv, s1, s2⟩ := (hSk.far (a := ⟨ga, k, none⟩) hne (.int .i64 (fM (cardB k)))).at_ hk7
            refine hK.out _ _ ⟨Keep.cell hKk (.inl rfl) (pw_cell_below hBa y0), Keep.cell hKk (.inl rfl) (pw_cell_below hBa y1), Keep.cell hKk (.inl rfl) (pw_cell_below hBa y2), Keep.cell hKk (.inl rfl) (pw_cell_below hBa y3)⟩ (fun hHeld => ?_)
            clear hK K
            refine norm_ (a' := ?_) ?_ ?_
            rotate_left
            · show Act.put _ (some 91) _ = _
              simp only [Act.put, List.setIfInBounds_toArray, List.set_cons_zero, List.set_cons_succ, i64_w, i32_w]
              rfl
            refine pure_ (i := 8) (N := some 83) (v := ?_) (a' := ?_) #[true, true, true, true, true, true, true, true, true, false, false, false, false, false, false] rfl rfl (by kernel_rfl) (fun _ _ _ h => h) (Or.inl ⟨by rfl, ?_⟩) ?_ ?_
            rotate_left
            · intro w'
              go_simp
              with_reducible rfl
            rotate_left
            · simp only [Act.put, List.setIfInBounds_toArray, List.set_cons_zero, List.set_cons_succ, i64_w, i32_w]
              rfl
            refine pure_ (i := 9) (N := some 92) (v := ?_) (a' := ?_) #[true, true, true, true, true, true, true, true, true, true, false, false, false, false, false] rfl rfl (by kernel_rfl) (fun _ _ _ h => h) (Or.inl ⟨by rfl, ?_⟩) ?_ ?_
            rotate_left
            · intro w'
              go_simp
              with_reducible rfl
            rotate_left
            · simp only [Act.put, List.setIfInBounds_toArray, List.set_cons_zero, List.set_cons_succ, i64_w, i32_w]
              rfl
            refine pure_ (i := 10) (N := some 93) (v := ?_) (a' := ?_) #[true, true, true, true, true, true, true, true, true, true, true, false, false, false, false] rfl rfl (by kernel_rfl) (fun _ _ _ h => h) (Or.inl ⟨by rfl, ?_⟩) ?_ ?_
            rotate_left
            · intro w'
              go_simp
              with_reducible rfl
            rotate_left
            · simp only [Act.put, List.setIfInBounds_toArray, List.set_cons_zero, List.set_cons_succ, i64_w, i32_w]
              rfl
            refine pure_ (i := 11) (N := some 94) (v := ?_) (a' := ?_) #[true, true, true, true, true, true, true, true, true, true, true, true, false, false, false] rfl rfl (by kernel_rfl) (fun _ _ _ h => h) (Or.inl ⟨by rfl, ?_⟩) ?_ ?_
            rotate_left
            · intro w'
              go_simp
              with_reducible rfl
            rotate_left
            · simp only [Act.put, List.setIfInBounds_toArray, List.set_cons_zero, List.set_cons_succ, i64_w, i32_w]
              rfl
            refine last_ (i := 12) (N := none) #[true, true, true, true, true, true, true, true, true, true, true, true, true, false, false] rfl rfl (by kernel_rfl) (by decide) (fun K hK => ?_)
            refine skip_ (w1 := ?_) (by rfl) rfl ?_ ?_
            rotate_left
            · go_simp
              rfl
            refine hK.out _ _ ?_
            clear hK K
            refine pure_ (i := 13) (N := some 95) (v := ?_) (a' := ?_) #[true, true, true, true, true, true, true, true, true, true, true, true, true, true, false] rfl rfl (by kernel_rfl) (fun _ _ _ h => h) (Or.inl ⟨by rfl, ?_⟩) ?_ ?_
            rotate_left
            · intro w'
              go_simp
              with_reducible rfl
            rotate_left
            · simp only [Act.put, List.setIfInBounds_toArray, List.set_cons_zero, List.set_cons_succ, i64_w, i32_w]
              rfl
            refine last_ (i := 14) (N := none) #[true, true, true, true, true, true, true, true, true, true, true, true, true, true, true] rfl rfl (by kernel_rfl) (by decide) (fun K hK => ?_)
            refine skip_ (w1 := ?_) (by rfl) rfl ?_ ?_
            rotate_left
            · go_simp
              rfl
            refine hK.out _ _ ?_
            clear hK K
            refine done_ (by kernel_rfl) ?_
            go_wp2
            go_roundg gk
            case measure => exact Nat.lt_succ_self _
            case rel =>
              refine ⟨k + 1, rfl, (Nat.add_right_comm k 1 gk).trans hHK.out, ?_, hAk.step (((Chg.refl _ _).set ⟨ga, k, none⟩ (.int .i64 (fM (cardB k))) (.inr (.inl rfl))).set ⟨gs, k, none⟩ (.int .i64 (fS (cardB k))) (.inr (.inr rfl))), ?_, ?_⟩
              · exact (setCell_block _ _ _ _ hg1).trans ((setCell_block _ _ _ _ hg0).trans ((Keep.blk hKk (.inl rfl)).trans ((hBa.block _ hltG).trans hBx)))
              · exact (hMk.set hk7).far hne0.symm _
              · exact (hSk.far hne _).set hk7
      · have d1 : decide ((i : Int) < (T.length : Int)) = false := decide_eq_false hi
        go_upto_region 14 with (fail)
        obtain ⟨w7, hw7⟩ : ∃ w7, w7 = (wr.alloc (.cells #[.int .i64 0, .int .i64 0, .int .i64 0, .int .i64 0, .int .i64 0, .int .i64 0, .int .i64 0] 56)).alloc (.cells #[.int .i64 0, .int .i64 0, .int .i64 0, .int .i64 0, .int .i64 0, .int .i64 0, .int .i64 0] 56) := ⟨_, rfl⟩
        rw [← hw7]
        have hsz : (wr.alloc (.cells #[.int .i64 0, .int .i64 0, .int .i64 0, .int .i64 0, .int .i64 0, .int .i64 0, .int .i64 0] 56)).heap.size = wr.heap.size + 1 := Array.size_push _
        have hsz7 : w7.heap.size = wr.heap.size + 2 := by rw [hw7]; exact (Array.size_push _).trans (congrArg (· + 1) hsz)
        have hB7 : Below wr.heap.size wr w7 := by rw [hw7]; exact below_alloc (below_alloc (Below.refl _ _) _) _
        have hM0 : ∀ f, ArrP w7 wr.heap.size f 0 := fun f => ⟨_, by rw [hw7]; exact (heap_alloc_old _ _ (by rw [hsz]; exact Nat.lt_succ_self _)).trans (heap_alloc_new _ _), rfl, fun j hj => absurd hj (Nat.not_lt_zero j)⟩
        have hS0 : ∀ f, ArrP w7 (wr.heap.size + 1) f 0 := fun f => ⟨_, by rw [hw7, ← hsz]; exact heap_alloc_new _ _, rfl, fun j hj => absurd hj (Nat.not_lt_zero j)⟩
        have hA7 : At w.heap.size w (fun x => x = g ∨ x = wr.heap.size ∨ x = wr.heap.size + 1) p m 10 place last S w7 := by
          refine hAt.turn (Chg.of_below hB7) (fun j hj => ?_)
          rcases hj with hj | hj | hj
          · exact .inl hj
          · exact .inr ⟨by omega, by omega⟩
          · exact .inr ⟨by omega, by omega⟩
        have hbx7 := (hB7.block _ (Array.getElem?_eq_some_iff.mp hBx).1).trans hBx
        have hne0 : wr.heap.size + 1 ≠ wr.heap.size := by omega
        have hgz := (hAt.own g rfl).2
        have hg0 : g ≠ wr.heap.size := by omega
        have hg1 : g ≠ wr.heap.size + 1 := by omega
        clear hgz
        clear hw7 hsz hsz7 hB7 hBx hAt
        generalize wr.heap.size = ga at hM0 hS0 hA7 hne0 hg0 hg1 ⊢
        generalize ga + 1 = gs at hS0 hA7 hne0 hg1 ⊢
        have n0 : 0 ≤ now := hN.1
        have n1 : now ≤ 2000 := by omega
        obtain ⟨fM, hfM⟩ : ∃ fM : ByteArray → Int, fM = fun c => (usedR L0 L1 L2 W now (S.get c)).1 := ⟨_, rfl⟩
        obtain ⟨fS, hfS⟩ : ∃ fS : ByteArray → Int, fS = fun c => (usedR L0 L1 L2 W now (S.get c)).2 := ⟨_, rfl⟩
        have hUseA : ∀ (N : Nat) (pl la : Int) (S2 : St), Good N pl S2 → N ≤ 1000 → (∀ d, S2.get d = S.get d) → ∀ w', At w.heap.size w (fun x => x = g ∨ x = ga ∨ x = gs) p m 10 pl la S2 w' → ∀ c : ByteArray, c.size ≤ maxLen →
            Calls Try.prog 12 #[.pointer (some ⟨p, 0, none⟩), .agg #[.int .i64 L0, .int .i64 L1, .int .i64 L2, .int .i64 W], .string c, .int .i64 now] w' fun e w'' => e = .returned (.tuple #[.int .i64 (fM c), .int .i64 (fS c)]) ∧ At w.heap.size w (fun x => x = g ∨ x = ga ∨ x = gs) p m 10 pl la S2 w'' ∧ Keep (fun x => x = g ∨ x = ga ∨ x = gs) w' w'' := by
          intro N pl la S2 hG2 hN2 hget w' hA c hc
          have := hA.used hG2 (by omega) L0 L1 L2 W c hc now (by omega)
          rw [hget] at this
          rw [hfM, hfS]
          exact this
        have hi1 : i ≤ 100 := by omega
        obtain ⟨cc, hc8, hc5, hcc⟩ : ∃ C, C ∈ deck 8 ∧ C.size = 5 ∧ ∀ w, Calls Try.prog 10 #[.int .i64 wh, .int .i64 8] w fun e w' => e = .returned (.string C) ∧ Below w.heap.size w w' :=
          ⟨_, mem_deck (pick_range wh 8 (by decide)).1 (pick_range wh 8 (by decide)).2, cardB_size _, fun w => card_calls wh 8 hwh (by decide) w⟩
        obtain ⟨lt, hlt, hcl⟩ : ∃ n, (0 ≤ n ∧ n < 50) ∧ ∀ w, Calls Try.prog 11 #[.int .i64 la, .int .i64 50] w fun e w' => e = .returned (.int .i64 n) ∧ Drawn0 w w' := ⟨_, pick_range la 50 (by decide), fun w => pick_calls la 50 hla (by decide) w⟩
        have hccs : cc.size ≤ maxLen := by rw [hc5]; decide
        have hnd := hA7.nodup
        have hgl := (hG.get cc).1
        have hE := wide_ask hI n0 (c := cc) (by omega) (N := i) hgl (by omega)
        obtain ⟨S1, hS1⟩ : ∃ S1, S1 = S.put cc (S.get cc ++ [⟨place + 1, 123456789, now⟩]) := ⟨_, rfl⟩
        have hl1 : S1.length ≤ 8 := by
          rw [hS1]
          refine len_deck (nodup_put hnd cc _) (fun x hx => ?_)
          unfold St.put at hx
          rcases List.mem_cons.mp hx with rfl | hx
          · exact hc8
          · exact deck_sub (hI.cards x (mem_del.mp hx).1)
        obtain ⟨u1, u2, u3⟩ := undo_back hnd hA7.full (hI.get cc) (place + 1) now hS1
        have hWide : ∀ w', At w.heap.size w (fun x => x = g ∨ x = ga ∨ x = gs) p m 10 place last S w' → Calls Try.prog 13 #[.pointer (some ⟨p, 0, none⟩), .agg #[.int .i64 999999999999, .int .i64 999999999999, .int .i64 999999999999, .int .i64 1], .string cc, .int .i64 123456789, .int .i64 now] w' fun e w'' => e = .returned (.int .i64 0) ∧ At w.heap.size w (fun x => x = g ∨ x = ga ∨ x = gs) p m 10 (place + 1) now S1 w'' ∧ Keep (fun x => x = g ∨ x = ga ∨ x = gs) w' w'' ∧ Good (i + 1) (place + 1) S1 := by
          intro w' hA
          have := hA.ask hG (by omega) 999999999999 999999999999 999999999999 1 cc hccs 123456789 now (by decide) (by decide) (by omega)
          rw [hE] at this
          refine this.mono ?_
          rintro e w'' ⟨rfl, a, b, d, hT, h1, h2, h3⟩
          obtain ⟨rfl, rfl, rfl⟩ := to_yes hE hS1.symm (by omega) _ _ _ hT
          exact ⟨rfl, h1, h2, h3⟩
        obtain ⟨S2, hS2⟩ : ∃ S2, S2 = undoS S1 cc 123456789 now := ⟨_, rfl⟩
        rw [← hS2] at u2 u3
        have hUn1 : ∀ w', At w.heap.size w (fun x => x = g ∨ x = ga ∨ x = gs) p m 10 (place + 1) now S1 w' → Good (i + 1) (place + 1) S1 → Calls Try.prog 17 #[.pointer (some ⟨p, 0, none⟩), .string cc, .int .i64 123456789, .int .i64 now] w' fun e w'' => e = .returned (.bool true) ∧ At w.heap.size w (fun x => x = g ∨ x = ga ∨ x = gs) p m 10 (place + 1) now S2 w'' ∧ Keep (fun x => x = g ∨ x = ga ∨ x = gs) w' w'' ∧ Good (i + 1) (place + 1) S2 := by
          intro w' hA hg
          have := hA.undo hg (by omega) cc hccs 123456789 now
          rw [u1, ← hS2] at this
          exact this
        have hUn2 : ∀ (t : Int) w', At w.heap.size w (fun x => x = g ∨ x = ga ∨ x = gs) p m 10 (place + 1) now S2 w' → Good (i + 1) (place + 1) S2 → Calls Try.prog 17 #[.pointer (some ⟨p, 0, none⟩), .string cc, .int .i64 123456789, .int .i64 t] w' fun e w'' => e = .returned (.bool false) ∧ At w.heap.size w (fun x => x = g ∨ x = ga ∨ x = gs) p m 10 (place + 1) now S2 w'' ∧ Keep (fun x => x = g ∨ x = ga ∨ x = gs) w' w'' := by
          intro t w' hA hg
          have hf : (S2.get cc).findIdx? (hit 123456789 t) = none := by rw [u3]; exact not_hit (hI.get cc) t
          have e1 : undoE S2 cc 123456789 t = false := by unfold undoE; rw [hf]; rfl
          have e2 : undoS S2 cc 123456789 t = S2 := by unfold undoS; rw [hf]
          have := hA.undo hg (by omega) cc hccs 123456789 t
          rw [e1, e2] at this
          exact this.mono (fun e w'' ⟨h1, h2, h3, _⟩ => ⟨h1, h2, h3⟩)
        clear hS1 hS2 hE hgl hnd hfM hfS hl1 u1 hI hN hK
        go_wp2
        go_loopg [17] 7 (fun kq v17 w' => VRel w.heap.size w g ga gs p m L0 L1 L2 W fM fS place last S false kq v17 w')
        case atStart => exact ⟨0, rfl, rfl, hbx7, hA7, hM0 fM, hS0 fS⟩
        case round =>
          obtain ⟨k, rfl, HK, hBx, hAt, hM, hS⟩ := hrel
          simp only [Bool.false_eq_true, if_false] at hM hS
          cases gk with
          | zero =>
            have hk7 : k = 7 := HK
            subst hk7
            have hltM := (hAt.own ga (.inr (.inl rfl))).2
            go_upto_region 20 with (first
              | (go_at_call 16; with_reducible refine hAt.len.mono ?_; rintro e wl ⟨rfl, hAl, hKl⟩)
              | (go_at_call 10; with_reducible refine (hcc _).mono ?_; rintro e wc ⟨rfl, hBc⟩))
            have hAc := hAl.step (Chg.of_below hBc)
            have kc : ∀ x, (x = g ∨ x = ga ∨ x = gs) → wc.heap[x]? = wr.heap[x]? := fun x hx => (hBc.block x (Nat.lt_of_lt_of_le (hAt.own x hx).2 hKl.1)).trans (Keep.blk hKl hx)
            go_upto_region 21 with (fail)
            obtain ⟨w9, hw9⟩ : ∃ w9, w9 = wc.alloc (.cells #[.int .i64 999999999999, .int .i64 999999999999, .int .i64 999999999999, .int .i64 1] 23) := ⟨_, rfl⟩
            rw [← hw9]
            have hb9 : w9.heap[wc.heap.size]? = some (.cells #[.int .i64 999999999999, .int .i64 999999999999, .int .i64 999999999999, .int .i64 1] 23 (0, 0)) := by rw [hw9]; exact heap_alloc_new _ _
            have hB9 : Below wc.heap.size wc w9 := by rw [hw9]; exact below_alloc (Below.refl _ _) _
            obtain ⟨b0, b1, b2, b3⟩ := box_cells hb9 rfl
            have hA9 := hAc.step (Chg.of_below hB9)
            have k9 : ∀ x, (x = g ∨ x = ga ∨ x = gs) → w9.heap[x]? = wr.heap[x]? := fun x hx => (hB9.block x (hAc.own x hx).2).trans (kc x hx)
            clear hw9 hb9 kc
            generalize wc.heap.size = gw at b0 b1 b2 b3 ⊢
            go_upto_region 27 with (first
              | (go_at_call 13; with_reducible refine (hWide w9 hA9).mono ?_; rintro e wp ⟨rfl, hAp, hKp, hGp⟩)
              | (go_at_call 17; with_reducible refine (hUn1 wp hAp hGp).mono ?_; rintro e wq ⟨rfl, hAq, hKq, hGq⟩)
              | (go_at_call 17; with_reducible refine (hUn2 now wq hAq hGq).mono ?_; rintro e ws ⟨rfl, hAs, hKs⟩)
              | (go_at_call 11; with_reducible refine (hcl _).mono ?_; rintro e wt ⟨rfl, kt, rfl⟩)
              | (go_at_call 17; with_reducible refine (hUn2 _ _ (hAs.step (Chg.of_below (pw_below_drewN (Below.refl _ _) kt))) hGq).mono ?_; rintro e wv ⟨rfl, hAv, hKv⟩)
              | (go_at_call 16; with_reducible refine hAv.len.mono ?_; rintro e wz ⟨rfl, hAz, hKz⟩))
            have kz : ∀ x, (x = g ∨ x = ga ∨ x = gs) → wz.heap[x]? = wr.heap[x]? := fun x hx => (Keep.blk hKz hx).trans ((Keep.blk hKv hx).trans ((Keep.blk hKs hx).trans ((Keep.blk hKq hx).trans ((Keep.blk hKp hx).trans (k9 x hx)))))
            have hMz := ArrP.keep hM (kz ga (.inr (.inl rfl)))
            have hSz := ArrP.keep hS (kz gs (.inr (.inr rfl)))
            have hBz := (kz g (.inl rfl)).trans hBx
            have hUse3 := hUseA (i + 1) (place + 1) now S2 hGq (by omega) u3
            clear kz k9 b0 b1 b2 b3 hWide hUn1 hUn2 hUseA hAp hKp hAq hKq hAs hKs hAv hKv hKz hA9 hAc hAl hKl hM hS hBx hAt hltM
            go_wp2
            go_loopg [25] 7 (fun kq v25 w' => VRel w.heap.size w g ga gs p m L0 L1 L2 W fM fS (place + 1) now S2 true kq v25 w')
            case atStart => exact ⟨0, rfl, rfl, hBz, hAz, hMz, hSz⟩
            case round =>
              obtain ⟨k, rfl, HK, hBx, hAt, hM, hS⟩ := hrel
              simp only [if_true] at hM hS
              cases gk with
              | zero =>
                have d3 : decide ((k : Int) < 7) = false := decide_eq_false (by omega)
                go_wp2
                go_ret
                exact ⟨rfl, hAt.below⟩
              | succ gk =>
                have hk7 : k < 7 := by omega
                have d3 : decide ((k : Int) < 7) = true := decide_eq_true (by omega)
                have c6 : (0 ≤ (k : Int)) = True := eq_true (by omega)
                have c7 : ((k : Int) < 7) = True := eq_true (by omega)
                have c8 : (k < 7) = True := eq_true hk7
                have hpk : pickI k 7 = k := pick_small (by omega) (by omega)
                have hcC := card_calls k 7 ⟨by omega, by omega⟩ (by decide)
                rw [hpk] at hcC
                have hUsed := hUse3
                replace hAt := hAt.drew
                obtain ⟨y0, y1, y2, y3⟩ := box_cells hBx rfl
                have hltM : ga < wr.heap.size := (hAt.own ga (.inr (.inl rfl))).2
                have hltS : gs < wr.heap.size := (hAt.own gs (.inr (.inr rfl))).2
                have hltG : g < wr.heap.size := (hAt.own g (.inl rfl)).2
                have hHK := Aside0.mk HK
                clear HK hpk
                go_upto_region 30 with (fail)
                refine start_ (n := 11) (S := fun w' => w'.cell? ⟨g, 0, none⟩ = some (.int .i64 L0) ∧ w'.cell? ⟨g, 1, none⟩ = some (.int .i64 L1) ∧ w'.cell? ⟨g, 2, none⟩ = some (.int .i64 L2) ∧ w'.cell? ⟨g, 3, none⟩ = some (.int .i64 W)) (ds := []) #[false, false, false, false, false, false, false, false, false, false, false] (by kernel_rfl) rfl rfl ⟨y0, y1, y2, y3⟩ (fun hHeld => ?_)
                refine pure_ (i := 0) (N := some 145) (v := ?_) (a' := ?_) #[true, false, false, false, false, false, false, false, false, false, false] rfl rfl (by kernel_rfl) (fun _ _ _ h => h) (Or.inl ⟨by rfl, ?_⟩) ?_ ?_
                rotate_left
                · intro w'
                  go_simp
                  with_reducible rfl
                rotate_left
                · simp only [Act.put, List.setIfInBounds_toArray, List.set_cons_zero, List.set_cons_succ, i64_w, i32_w]
                  rfl
                refine pure_ (i := 2) (N := some 147) (v := ?_) (a' := ?_) #[true, false, true, false, false, false, false, false, false, false, false] rfl rfl (by kernel_rfl) (fun _ _ _ h => h) (Or.inl ⟨by rfl, ?_⟩) ?_ ?_
                rotate_left
                · intro w'
                  go_simp
                  with_reducible rfl
                rotate_left
                · simp only [Act.put, List.setIfInBounds_toArray, List.set_cons_zero, List.set_cons_succ, i64_w, i32_w]
                  rfl
                refine pure_ (i := 4) (N := some 149) (v := ?_) (a' := ?_) #[true, false, true, false, true, false, false, false, false, false, false] rfl rfl (by kernel_rfl) (fun _ _ _ h => h) (Or.inl ⟨by rfl, ?_⟩) ?_ ?_
                rotate_left
                · intro w'
                  go_simp
                  with_reducible rfl
                rotate_left
                · simp only [Act.put, List.setIfInBounds_toArray, List.set_cons_zero, List.set_cons_succ, i64_w, i32_w]
                  rfl
                refine take_ (i := 1) (N := some 146) (v := ?_) (a' := ?_) #[true, true, true, false, true, false, false, false, false, false, false] rfl rfl (by kernel_rfl) (fun _ _ _ h => h) (Or.inl ⟨by rfl, ?_⟩) hHeld ?_ ?_
                rotate_left
                · rintro w' ⟨s0, s1, s2, s3⟩
                  go_simp
                  with_reducible rfl
                rotate_left
                · simp only [Act.put, List.setIfInBounds_toArray, List.set_cons_zero, List.set_cons_succ, i64_w, i32_w]
                  rfl
                refine one_ (i := 3) (N := some 148) #[true, true, true, true, true, false, false, false, false, false, false] rfl rfl (by kernel_rfl) (by decide) (fun K hK => ?_)
                refine goes_ Try.func10 (by kernel_rfl) rfl #[.int .i64 k, .int .i64 7] (by rfl) rfl rfl (by simp only [List.map_toArray, List.map_cons, List.map_nil]; rfl) ?_
                with_reducible refine (hcC _).mono ?_
                rintro e wa ⟨rfl, hBa⟩
                refine ⟨_, rfl, ?_⟩
                refine hK.out _ _ ⟨pw_cell_below hBa y0, pw_cell_below hBa y1, pw_cell_below hBa y2, pw_cell_below hBa y3⟩ (fun hHeld => ?_)
                clear hK K
                refine norm_ (a' := ?_) ?_ ?_
                rotate_left
                · show Act.put _ (some 148) _ = _
                  simp only [Act.put, List.setIfInBounds_toArray, List.set_cons_zero, List.set_cons_succ, i64_w, i32_w]
                  rfl
                refine one_ (i := 5) (N := some 150) #[true, true, true, true, true, true, false, false, false, false, false] rfl rfl (by kernel_rfl) (by decide) (fun K hK => ?_)
                refine goes_ Try.func12 (by kernel_rfl) rfl #[.pointer (some ⟨p, 0, none⟩), .agg #[.int .i64 L0, .int .i64 L1, .int .i64 L2, .int .i64 W], .string (cardB k), .int .i64 now] (by rfl) rfl rfl (by simp only [List.map_toArray, List.map_cons, List.map_nil]; rfl) ?_
                with_reducible refine (hUsed _ (hAt.step (Chg.of_below hBa)) (cardB k) (cardB_max k)).mono ?_
                rintro e wk ⟨rfl, hAk, hKk⟩
                refine ⟨_, rfl, ?_⟩
                have hMk := ArrP.keep hM ((Keep.blk hKk (.inr (.inl rfl))).trans (hBa.block _ hltM))
                have hSk := ArrP.keep hS ((Keep.blk hKk (.inr (.inr rfl))).trans (hBa.block _ hltS))
                have z1 := hMk.read hk7
                have z2 := hSk.read hk7
                refine hK.out _ _ ⟨Keep.cell hKk (.inl rfl) (pw_cell_below hBa y0), Keep.cell hKk (.inl rfl) (pw_cell_below hBa y1), Keep.cell hKk (.inl rfl) (pw_cell_below hBa y2), Keep.cell hKk (.inl rfl) (pw_cell_below hBa y3)⟩ (fun hHeld => ?_)
                clear hK K
                refine norm_ (a' := ?_) ?_ ?_
                rotate_left
                · show Act.put _ (some 150) _ = _
                  simp only [Act.put, List.setIfInBounds_toArray, List.set_cons_zero, List.set_cons_succ, i64_w, i32_w]
                  rfl
                refine pure_ (i := 6) (N := some 144) (v := ?_) (a' := ?_) #[true, true, true, true, true, true, true, false, false, false, false] rfl rfl (by kernel_rfl) (fun _ _ _ h => h) (Or.inl ⟨by rfl, ?_⟩) ?_ ?_
                rotate_left
                · intro w'
                  go_simp
                  with_reducible rfl
                rotate_left
                · simp only [Act.put, List.setIfInBounds_toArray, List.set_cons_zero, List.set_cons_succ, i64_w, i32_w]
                  rfl
                refine pure_ (i := 7) (N := some 151) (v := ?_) (a' := ?_) #[true, true, true, true, true, true, true, true, false, false, false] rfl rfl (by kernel_rfl) (fun _ _ _ h => h) (Or.inl ⟨by rfl, ?_⟩) ?_ ?_
                rotate_left
                · intro w'
                  go_simp
                  with_reducible rfl
                rotate_left
                · simp only [Act.put, List.setIfInBounds_toArray, List.set_cons_zero, List.set_cons_succ, i64_w, i32_w]
                  rfl
                refine pure_ (i := 8) (N := some 152) (v := ?_) (a' := ?_) #[true, true, true, true, true, true, true, true, true, false, false] rfl rfl (by kernel_rfl) (fun _ _ _ h => h) (Or.inl ⟨by rfl, ?_⟩) ?_ ?_
                rotate_left
                · intro w'
                  go_simp
                  with_reducible rfl
                rotate_left
                · simp only [Act.put, List.setIfInBounds_toArray, List.set_cons_zero, List.set_cons_succ, i64_w, i32_w]
                  rfl
                refine pure_ (i := 9) (N := some 26) (v := ?_) (a' := ?_) #[true, true, true, true, true, true, true, true, true, true, false] rfl rfl (by kernel_rfl) (fun _ _ _ h => h) (Or.inl ⟨by rfl, ?_⟩) ?_ ?_
                rotate_left
                · intro w'
                  go_simp
                  with_reducible rfl
                rotate_left
                · simp only [Act.put, List.setIfInBounds_toArray, List.set_cons_zero, List.set_cons_succ, i64_w, i32_w]
                  rfl
                refine pure_ (i := 10) (N := some 27) (v := ?_) (a' := ?_) #[true, true, true, true, true, true, true, true, true, true, true] rfl rfl (by kernel_rfl) (fun _ _ _ h => h) (Or.inl ⟨by rfl, ?_⟩) ?_ ?_
                rotate_left
                · intro w'
                  go_simp
                  with_reducible rfl
                rotate_left
                · simp only [Act.put, List.setIfInBounds_toArray, List.set_cons_zero, List.set_cons_succ, i64_w, i32_w]
                  rfl
                refine done_ (by kernel_rfl) ?_
                go_wp2
                go_roundg gk
                case measure => exact Nat.lt_succ_self _
                case rel =>
                  refine ⟨k + 1, rfl, (Nat.add_right_comm k 1 gk).trans hHK.out, ?_, hAk, hMk, hSk⟩
                  exact (Keep.blk hKk (.inl rfl)).trans ((hBa.block _ hltG).trans hBx)
          | succ gk =>
            have hk7 : k < 7 := by omega
            have d3 : decide ((k : Int) < 7) = true := decide_eq_true (by omega)
            have c6 : (0 ≤ (k : Int)) = True := eq_true (by omega)
            have c7 : ((k : Int) < 7) = True := eq_true (by omega)
            have c8 : (k < 7) = True := eq_true hk7
            have hpk : pickI k 7 = k := pick_small (by omega) (by omega)
            have hcC := card_calls k 7 ⟨by omega, by omega⟩ (by decide)
            rw [hpk] at hcC
            have hUsed := hUseA i place last S hG (by omega) (fun _ => rfl)
            replace hAt := hAt.drew
            obtain ⟨y0, y1, y2, y3⟩ := box_cells hBx rfl
            have hltM : ga < wr.heap.size := (hAt.own ga (.inr (.inl rfl))).2
            have hltS : gs < wr.heap.size := (hAt.own gs (.inr (.inr rfl))).2
            have hltG : g < wr.heap.size := (hAt.own g (.inl rfl)).2
            have hne : gs ≠ (⟨ga, k, none⟩ : Addr).block := hne0
            have hHK := Aside0.mk HK
            clear HK hpk
            go_upto_region 17 with (fail)
            refine start_ (n := 15) (S := fun w' => w'.cell? ⟨g, 0, none⟩ = some (.int .i64 L0) ∧ w'.cell? ⟨g, 1, none⟩ = some (.int .i64 L1) ∧ w'.cell? ⟨g, 2, none⟩ = some (.int .i64 L2) ∧ w'.cell? ⟨g, 3, none⟩ = some (.int .i64 W)) (ds := [12, 14]) #[false, false, false, false, false, false, false, false, false, false, false, false, false, false, false] (by kernel_rfl) rfl rfl ⟨y0, y1, y2, y3⟩ (fun hHeld => ?_)
            refine pure_ (i := 0) (N := some 84) (v := ?_) (a' := ?_) #[true, false, false, false, false, false, false, false, false, false, false, false, false, false, false] rfl rfl (by kernel_rfl) (fun _ _ _ h => h) (Or.inl ⟨by rfl, ?_⟩) ?_ ?_
            rotate_left
            · intro w'
              go_simp
              with_reducible rfl
            rotate_left
            · simp only [Act.put, List.setIfInBounds_toArray, List.set_cons_zero, List.set_cons_succ, i64_w, i32_w]
              rfl
            refine pure_ (i := 1) (N := some 85) (v := ?_) (a' := ?_) #[true, true, false, false, false, false, false, false, false, false, false, false, false, false, false] rfl rfl (by kernel_rfl) (fun _ _ _ h => h) (Or.inl ⟨by rfl, ?_⟩) ?_ ?_
            rotate_left
            · intro w'
              go_simp
              with_reducible rfl
            rotate_left
            · simp only [Act.put, List.setIfInBounds_toArray, List.set_cons_zero, List.set_cons_succ, i64_w, i32_w]
              rfl
            refine pure_ (i := 2) (N := some 86) (v := ?_) (a' := ?_) #[true, true, true, false, false, false, false, false, false, false, false, false, false, false, false] rfl rfl (by kernel_rfl) (fun _ _ _ h => h) (Or.inl ⟨by rfl, ?_⟩) ?_ ?_
            rotate_left
            · intro w'
              go_simp
              with_reducible rfl
            rotate_left
            · simp only [Act.put, List.setIfInBounds_toArray, List.set_cons_zero, List.set_cons_succ, i64_w, i32_w]
              rfl
            refine pure_ (i := 4) (N := some 88) (v := ?_) (a' := ?_) #[true, true, true, false, true, false, false, false, false, false, false, false, false, false, false] rfl rfl (by kernel_rfl) (fun _ _ _ h => h) (Or.inl ⟨by rfl, ?_⟩) ?_ ?_
            rotate_left
            · intro w'
              go_simp
              with_reducible rfl
            rotate_left
            · simp only [Act.put, List.setIfInBounds_toArray, List.set_cons_zero, List.set_cons_succ, i64_w, i32_w]
              rfl
            refine pure_ (i := 6) (N := some 90) (v := ?_) (a' := ?_) #[true, true, true, false, true, false, true, false, false, false, false, false, false, false, false] rfl rfl (by kernel_rfl) (fun _ _ _ h => h) (Or.inl ⟨by rfl, ?_⟩) ?_ ?_
            rotate_left
            · intro w'
              go_simp
              with_reducible rfl
            rotate_left
            · simp only [Act.put, List.setIfInBounds_toArray, List.set_cons_zero, List.set_cons_succ, i64_w, i32_w]
              rfl
            refine take_ (i := 3) (N := some 87) (v := ?_) (a' := ?_) #[true, true, true, true, true, false, true, false, false, false, false, false, false, false, false] rfl rfl (by kernel_rfl) (fun _ _ _ h => h) (Or.inl ⟨by rfl, ?_⟩) hHeld ?_ ?_
            rotate_left
            · rintro w' ⟨s0, s1, s2, s3⟩
              go_simp
              with_reducible rfl
            rotate_left
            · simp only [Act.put, List.setIfInBounds_toArray, List.set_cons_zero, List.set_cons_succ, i64_w, i32_w]
              rfl
            refine one_ (i := 5) (N := some 89) #[true, true, true, true, true, true, true, false, false, false, false, false, false, false, false] rfl rfl (by kernel_rfl) (by decide) (fun K hK => ?_)
            refine goes_ Try.func10 (by kernel_rfl) rfl #[.int .i64 k, .int .i64 7] (by rfl) rfl rfl (by simp only [List.map_toArray, List.map_cons, List.map_nil]; rfl) ?_
            with_reducible refine (hcC _).mono ?_
            rintro e wa ⟨rfl, hBa⟩
            refine ⟨_, rfl, ?_⟩
            refine hK.out _ _ ⟨pw_cell_below hBa y0, pw_cell_below hBa y1, pw_cell_below hBa y2, pw_cell_below hBa y3⟩ (fun hHeld => ?_)
            clear hK K
            refine norm_ (a' := ?_) ?_ ?_
            rotate_left
            · show Act.put _ (some 89) _ = _
              simp only [Act.put, List.setIfInBounds_toArray, List.set_cons_zero, List.set_cons_succ, i64_w, i32_w]
              rfl
            refine one_ (i := 7) (N := some 91) #[true, true, true, true, true, true, true, true, false, false, false, false, false, false, false] rfl rfl (by kernel_rfl) (by decide) (fun K hK => ?_)
            refine goes_ Try.func12 (by kernel_rfl) rfl #[.pointer (some ⟨p, 0, none⟩), .agg #[.int .i64 L0, .int .i64 L1, .int .i64 L2, .int .i64 W], .string (cardB k), .int .i64 now] (by rfl) rfl rfl (by simp only [List.map_toArray, List.map_cons, List.map_nil]; rfl) ?_
            with_reducible refine (hUsed _ (hAt.step (Chg.of_below hBa)) (cardB k) (cardB_max k)).mono ?_
            rintro e wk ⟨rfl, hAk, hKk⟩
            refine ⟨_, rfl, ?_⟩
            have hMk := ArrP.keep hM ((Keep.blk hKk (.inr (.inl rfl))).trans (hBa.block _ hltM))
            have hSk := ArrP.keep hS ((Keep.blk hKk (.inr (.inr rfl))).trans (hBa.block _ hltS))
            obtain ⟨zv, z1, z2⟩ := hMk.at_ hk7
            obtain ⟨sv, s1, s2⟩ := (hSk.far (a := ⟨ga, k, none⟩) hne (.int .i64 (fM (cardB k)))).at_ hk7
            refine hK.out _ _ ⟨Keep.cell hKk (.inl rfl) (pw_cell_below hBa y0), Keep.cell hKk (.inl rfl) (pw_cell_below hBa y1), Keep.cell hKk (.inl rfl) (pw_cell_below hBa y2), Keep.cell hKk (.inl rfl) (pw_cell_below hBa y3)⟩ (fun hHeld => ?_)
            clear hK K
            refine norm_ (a' := ?_) ?_ ?_
            rotate_left
            · show Act.put _ (some 91) _ = _
              simp only [Act.put, List.setIfInBounds_toArray, List.set_cons_zero, List.set_cons_succ, i64_w, i32_w]
              rfl
            refine pure_ (i := 8) (N := some 83) (v := ?_) (a' := ?_) #[true, true, true, true, true, true, true, true, true, false, false, false, false, false, false] rfl rfl (by kernel_rfl) (fun _ _ _ h => h) (Or.inl ⟨by rfl, ?_⟩) ?_ ?_
            rotate_left
            · intro w'
              go_simp
              with_reducible rfl
            rotate_left
            · simp only [Act.put, List.setIfInBounds_toArray, List.set_cons_zero, List.set_cons_succ, i64_w, i32_w]
              rfl
            refine pure_ (i := 9) (N := some 92) (v := ?_) (a' := ?_) #[true, true, true, true, true, true, true, true, true, true, false, false, false, false, false] rfl rfl (by kernel_rfl) (fun _ _ _ h => h) (Or.inl ⟨by rfl, ?_⟩) ?_ ?_
            rotate_left
            · intro w'
              go_simp
              with_reducible rfl
            rotate_left
            · simp only [Act.put, List.setIfInBounds_toArray, List.set_cons_zero, List.set_cons_succ, i64_w, i32_w]
              rfl
            refine pure_ (i := 10) (N := some 93) (v := ?_) (a' := ?_) #[true, true, true, true, true, true, true, true, true, true, true, false, false, false, false] rfl rfl (by kernel_rfl) (fun _ _ _ h => h) (Or.inl ⟨by rfl, ?_⟩) ?_ ?_
            rotate_left
            · intro w'
              go_simp
              with_reducible rfl
            rotate_left
            · simp only [Act.put, List.setIfInBounds_toArray, List.set_cons_zero, List.set_cons_succ, i64_w, i32_w]
              rfl
            refine pure_ (i := 11) (N := some 94) (v := ?_) (a' := ?_) #[true, true, true, true, true, true, true, true, true, true, true, true, false, false, false] rfl rfl (by kernel_rfl) (fun _ _ _ h => h) (Or.inl ⟨by rfl, ?_⟩) ?_ ?_
            rotate_left
            · intro w'
              go_simp
              with_reducible rfl
            rotate_left
            · simp only [Act.put, List.setIfInBounds_toArray, List.set_cons_zero, List.set_cons_succ, i64_w, i32_w]
              rfl
            refine last_ (i := 12) (N := none) #[true, true, true, true, true, true, true, true, true, true, true, true, true, false, false] rfl rfl (by kernel_rfl) (by decide) (fun K hK => ?_)
            refine skip_ (w1 := ?_) (by rfl) rfl ?_ ?_
            rotate_left
            · go_simp
              rfl
            refine hK.out _ _ ?_
            clear hK K
            refine pure_ (i := 13) (N := some 95) (v := ?_) (a' := ?_) #[true, true, true, true, true, true, true, true, true, true, true, true, true, true, false] rfl rfl (by kernel_rfl) (fun _ _ _ h => h) (Or.inl ⟨by rfl, ?_⟩) ?_ ?_
            rotate_left
            · intro w'
              go_simp
              with_reducible rfl
            rotate_left
            · simp only [Act.put, List.setIfInBounds_toArray, List.set_cons_zero, List.set_cons_succ, i64_w, i32_w]
              rfl
            refine last_ (i := 14) (N := none) #[true, true, true, true, true, true, true, true, true, true, true, true, true, true, true] rfl rfl (by kernel_rfl) (by decide) (fun K hK => ?_)
            refine skip_ (w1 := ?_) (by rfl) rfl ?_ ?_
            rotate_left
            · go_simp
              rfl
            refine hK.out _ _ ?_
            clear hK K
            refine done_ (by kernel_rfl) ?_
            go_wp2
            go_roundg gk
            case measure => exact Nat.lt_succ_self _
            case rel =>
              refine ⟨k + 1, rfl, (Nat.add_right_comm k 1 gk).trans hHK.out, ?_, hAk.step (((Chg.refl _ _).set ⟨ga, k, none⟩ (.int .i64 (fM (cardB k))) (.inr (.inl rfl))).set ⟨gs, k, none⟩ (.int .i64 (fS (cardB k))) (.inr (.inr rfl))), ?_, ?_⟩
              · exact (setCell_block _ _ _ _ hg1).trans ((setCell_block _ _ _ _ hg0).trans ((Keep.blk hKk (.inl rfl)).trans ((hBa.block _ hltG).trans hBx)))
              · exact (hMk.set hk7).far hne0.symm _
              · exact (hSk.far hne _).set hk7
    | succ gk =>
      have hiT : i < T.length := by omega
      have hi2 : i < 100 := by omega
      have d1 : decide ((i : Int) < (T.length : Int)) = true := decide_eq_true (by omega)
      have d2 : decide ((i : Int) < 100) = true := decide_eq_true (by omega)
      have c2 : (0 ≤ (i : Int)) = True := eq_true (by omega)
      have c3 : ((i : Int) < (T.length : Int)) = True := eq_true (by omega)
      have c4 : (i < T.length) = True := eq_true hiT
      obtain ⟨⟨hi0, hi1, hi3⟩, ad, rfl, t0, t1, t2⟩ := hT i hiT
      obtain ⟨tc, htc⟩ : ∃ tc, T[i].1 = tc := ⟨_, rfl⟩
      obtain ⟨tn, htn⟩ : ∃ tn, T[i].2.1 = tn := ⟨_, rfl⟩
      obtain ⟨td, htd⟩ : ∃ td, T[i].2.2 = td := ⟨_, rfl⟩
      rw [htc] at hi0 t0
      rw [htn] at hi1 t1
      rw [htd] at hi3 t2
      clear htc htn htd hT
      have u0 := pw_cell_below hAt.below t0
      have u1 := pw_cell_below hAt.below t1
      have u2 := pw_cell_below hAt.below t2
      obtain ⟨C, hC7, hC5, hcC⟩ : ∃ C, C ∈ deck 7 ∧ C.size = 5 ∧ ∀ w, Calls Try.prog 10 #[.int .i64 tc, .int .i64 7] w fun e w' => e = .returned (.string C) ∧ Below w.heap.size w w' :=
        ⟨_, mem_deck (pick_range tc 7 (by decide)).1 (pick_range tc 7 (by decide)).2, cardB_size _, fun w => card_calls tc 7 hi0 (by decide) w⟩
      obtain ⟨n, hn, hcn⟩ : ∃ n, (0 ≤ n ∧ n < 320) ∧ ∀ w, Calls Try.prog 11 #[.int .i64 tn, .int .i64 320] w fun e w' => e = .returned (.int .i64 n) ∧ Drawn0 w w' := ⟨_, pick_range tn 320 (by decide), fun w => pick_calls tn 320 hi1 (by decide) w⟩
      obtain ⟨dd, hdd, hcd⟩ : ∃ n, (0 ≤ n ∧ n < 9) ∧ ∀ w, Calls Try.prog 11 #[.int .i64 td, .int .i64 9] w fun e w' => e = .returned (.int .i64 n) ∧ Drawn0 w w' := ⟨_, pick_range td 9 (by decide), fun w => pick_calls td 9 hi3 (by decide) w⟩
      obtain ⟨nw, hnw⟩ : ∃ nw, nw = now + dd := ⟨_, rfl⟩
      have e1 : wrap64 (now + dd) = nw := (wrap_id (by omega) (by omega)).trans hnw.symm
      replace hnw := Aside0.mk hnw
      go_upto_region 11 with (first
        | (go_at_call 11; with_reducible refine (hcd _).mono ?_; rintro e wc ⟨rfl, k2, rfl⟩))
      clear e1
      rw [← hnw.out]
      obtain ⟨w6, hw6⟩ : ∃ w6, w6 = wr.drewN k2 := ⟨_, rfl⟩
      rw [← hw6]
      have hB6 : Below wr.heap.size wr w6 := by rw [hw6]; exact pw_below_drewN (Below.refl _ _) _
      replace hAt := (hAt.step (Chg.of_below hB6)).drew
      replace hBx := (hB6.block _ (Array.getElem?_eq_some_iff.mp hBx).1).trans hBx
      replace u0 := pw_cell_below hB6 u0
      replace u1 := pw_cell_below hB6 u1
      replace hI := hI.later (show now ≤ nw by have := hnw.out; omega)
      clear hw6 u2 t0 t1 t2
      obtain ⟨y0, y1, y2, y3⟩ := box_cells hBx rfl
      have hCs : C.size ≤ maxLen := by rw [hC5]; decide
      have q0 : 0 ≤ nw := by have := hnw.out; omega
      have q1 : nw ≤ 2000 := by have := hnw.out; omega
      have hnd := hAt.nodup
      have hAsk : ∀ w', At w.heap.size w (fun x => x = g) p m 10 place last S w' →
          Calls Try.prog 13 #[.pointer (some ⟨p, 0, none⟩), .agg #[.int .i64 L0, .int .i64 L1, .int .i64 L2, .int .i64 W], .string C, .int .i64 n, .int .i64 nw] w' fun e w'' => ∃ (E : Int) (place' last' : Int) (S' : St), e = .returned (.int .i64 E) ∧ UInv nw last' S' ∧ At w.heap.size w (fun x => x = g) p m 10 place' last' S' w'' ∧ Keep (fun x => x = g) w' w'' ∧ Good (i + 1) place' S' := by
        intro w' hA
        refine (hA.ask hG (by omega) L0 L1 L2 W C hCs n nw (by omega) (by omega) (by omega)).mono ?_
        rintro e w'' ⟨rfl, a, b, d, hT, h1, h2, h3⟩
        exact ⟨_, a, b, d, rfl, hI.ask hnd hC7 (by omega) hT, h1, h2, h3⟩
      have hNn := Aside0.mk hN
      have hDd := Aside0.mk hdd
      have hHK := Aside0.mk hK
      clear hN hdd hn hK hI hnd
      refine start_ (n := 16) (S := fun w' => w'.cell? ⟨g, 0, none⟩ = some (.int .i64 L0) ∧ w'.cell? ⟨g, 1, none⟩ = some (.int .i64 L1) ∧ w'.cell? ⟨g, 2, none⟩ = some (.int .i64 L2) ∧ w'.cell? ⟨g, 3, none⟩ = some (.int .i64 W) ∧ w'.cell? (ad.add (i * 3)) = some (.int .i64 tc) ∧ w'.cell? ⟨(ad.add (i * 3)).block, (ad.add (i * 3)).off + 1, none⟩ = some (.int .i64 tn)) (ds := [15]) #[false, false, false, false, false, false, false, false, false, false, false, false, false, false, false, false] (by kernel_rfl) rfl rfl ⟨y0, y1, y2, y3, u0, u1⟩ (fun hHeld => ?_)
      refine pure_ (i := 0) (N := some 63) (v := ?_) (a' := ?_) #[true, false, false, false, false, false, false, false, false, false, false, false, false, false, false, false] rfl rfl (by kernel_rfl) (fun _ _ _ h => h) (Or.inl ⟨by rfl, ?_⟩) ?_ ?_
      rotate_left
      · intro w'
        go_simp
        with_reducible rfl
      rotate_left
      · simp only [Act.put, List.setIfInBounds_toArray, List.set_cons_zero, List.set_cons_succ, i64_w, i32_w]
        rfl
      refine pure_ (i := 2) (N := some 65) (v := ?_) (a' := ?_) #[true, false, true, false, false, false, false, false, false, false, false, false, false, false, false, false] rfl rfl (by kernel_rfl) (fun _ _ _ h => h) (Or.inl ⟨by rfl, ?_⟩) ?_ ?_
      rotate_left
      · intro w'
        go_simp
        with_reducible rfl
      rotate_left
      · simp only [Act.put, List.setIfInBounds_toArray, List.set_cons_zero, List.set_cons_succ, i64_w, i32_w]
        rfl
      refine pure_ (i := 3) (N := some 66) (v := ?_) (a' := ?_) #[true, false, true, true, false, false, false, false, false, false, false, false, false, false, false, false] rfl rfl (by kernel_rfl) (fun _ _ _ h => h) (Or.inl ⟨by rfl, ?_⟩) ?_ ?_
      rotate_left
      · intro w'
        go_simp
        with_reducible rfl
      rotate_left
      · simp only [Act.put, List.setIfInBounds_toArray, List.set_cons_zero, List.set_cons_succ, i64_w, i32_w]
        rfl
      refine pure_ (i := 4) (N := some 67) (v := ?_) (a' := ?_) #[true, false, true, true, true, false, false, false, false, false, false, false, false, false, false, false] rfl rfl (by kernel_rfl) (fun _ _ _ h => h) (Or.inl ⟨by rfl, ?_⟩) ?_ ?_
      rotate_left
      · intro w'
        go_simp
        with_reducible rfl
      rotate_left
      · simp only [Act.put, List.setIfInBounds_toArray, List.set_cons_zero, List.set_cons_succ, i64_w, i32_w]
        rfl
      refine pure_ (i := 5) (N := some 68) (v := ?_) (a' := ?_) #[true, false, true, true, true, true, false, false, false, false, false, false, false, false, false, false] rfl rfl (by kernel_rfl) (fun _ _ _ h => h) (Or.inl ⟨by rfl, ?_⟩) ?_ ?_
      rotate_left
      · intro w'
        go_simp
        with_reducible rfl
      rotate_left
      · simp only [Act.put, List.setIfInBounds_toArray, List.set_cons_zero, List.set_cons_succ, i64_w, i32_w]
        rfl
      refine pure_ (i := 8) (N := some 71) (v := ?_) (a' := ?_) #[true, false, true, true, true, true, false, false, true, false, false, false, false, false, false, false] rfl rfl (by kernel_rfl) (fun _ _ _ h => h) (Or.inl ⟨by rfl, ?_⟩) ?_ ?_
      rotate_left
      · intro w'
        go_simp
        with_reducible rfl
      rotate_left
      · simp only [Act.put, List.setIfInBounds_toArray, List.set_cons_zero, List.set_cons_succ, i64_w, i32_w]
        rfl
      refine pure_ (i := 9) (N := some 72) (v := ?_) (a' := ?_) #[true, false, true, true, true, true, false, false, true, true, false, false, false, false, false, false] rfl rfl (by kernel_rfl) (fun _ _ _ h => h) (Or.inl ⟨by rfl, ?_⟩) ?_ ?_
      rotate_left
      · intro w'
        go_simp
        with_reducible rfl
      rotate_left
      · simp only [Act.put, List.setIfInBounds_toArray, List.set_cons_zero, List.set_cons_succ, i64_w, i32_w]
        rfl
      refine pure_ (i := 10) (N := some 73) (v := ?_) (a' := ?_) #[true, false, true, true, true, true, false, false, true, true, true, false, false, false, false, false] rfl rfl (by kernel_rfl) (fun _ _ _ h => h) (Or.inl ⟨by rfl, ?_⟩) ?_ ?_
      rotate_left
      · intro w'
        go_simp
        with_reducible rfl
      rotate_left
      · simp only [Act.put, List.setIfInBounds_toArray, List.set_cons_zero, List.set_cons_succ, i64_w, i32_w]
        rfl
      refine pure_ (i := 11) (N := some 74) (v := ?_) (a' := ?_) #[true, false, true, true, true, true, false, false, true, true, true, true, false, false, false, false] rfl rfl (by kernel_rfl) (fun _ _ _ h => h) (Or.inl ⟨by rfl, ?_⟩) ?_ ?_
      rotate_left
      · intro w'
        go_simp
        with_reducible rfl
      rotate_left
      · simp only [Act.put, List.setIfInBounds_toArray, List.set_cons_zero, List.set_cons_succ, i64_w, i32_w]
        rfl
      refine pure_ (i := 14) (N := some 77) (v := ?_) (a' := ?_) #[true, false, true, true, true, true, false, false, true, true, true, true, false, false, true, false] rfl rfl (by kernel_rfl) (fun _ _ _ h => h) (Or.inl ⟨by rfl, ?_⟩) ?_ ?_
      rotate_left
      · intro w'
        go_simp
        with_reducible rfl
      rotate_left
      · simp only [Act.put, List.setIfInBounds_toArray, List.set_cons_zero, List.set_cons_succ, i64_w, i32_w]
        rfl
      refine take_ (i := 1) (N := some 64) (v := ?_) (a' := ?_) #[true, true, true, true, true, true, false, false, true, true, true, true, false, false, true, false] rfl rfl (by kernel_rfl) (fun _ _ _ h => h) (Or.inl ⟨by rfl, ?_⟩) hHeld ?_ ?_
      rotate_left
      · rintro w' ⟨s0, s1, s2, s3, s4, s5⟩
        go_simp
        with_reducible rfl
      rotate_left
      · simp only [Act.put, List.setIfInBounds_toArray, List.set_cons_zero, List.set_cons_succ, i64_w, i32_w]
        rfl
      refine take_ (i := 6) (N := some 69) (v := ?_) (a' := ?_) #[true, true, true, true, true, true, true, false, true, true, true, true, false, false, true, false] rfl rfl (by kernel_rfl) (fun _ _ _ h => h) (Or.inl ⟨by rfl, ?_⟩) hHeld ?_ ?_
      rotate_left
      · rintro w' ⟨s0, s1, s2, s3, s4, s5⟩
        go_simp
        with_reducible rfl
      rotate_left
      · simp only [Act.put, List.setIfInBounds_toArray, List.set_cons_zero, List.set_cons_succ, i64_w, i32_w]
        rfl
      refine take_ (i := 12) (N := some 75) (v := ?_) (a' := ?_) #[true, true, true, true, true, true, true, false, true, true, true, true, true, false, true, false] rfl rfl (by kernel_rfl) (fun _ _ _ h => h) (Or.inl ⟨by rfl, ?_⟩) hHeld ?_ ?_
      rotate_left
      · rintro w' ⟨s0, s1, s2, s3, s4, s5⟩
        go_simp
        with_reducible rfl
      rotate_left
      · simp only [Act.put, List.setIfInBounds_toArray, List.set_cons_zero, List.set_cons_succ, i64_w, i32_w]
        rfl
      refine one_ (i := 7) (N := some 70) #[true, true, true, true, true, true, true, true, true, true, true, true, true, false, true, false] rfl rfl (by kernel_rfl) (by decide) (fun K hK => ?_)
      refine goes_ Try.func10 (by kernel_rfl) rfl #[.int .i64 tc, .int .i64 7] (by rfl) rfl rfl (by simp only [List.map_toArray, List.map_cons, List.map_nil]; rfl) ?_
      with_reducible refine (hcC _).mono ?_
      rintro e wa ⟨rfl, hBa⟩
      refine ⟨_, rfl, ?_⟩
      refine hK.out _ _ ⟨pw_cell_below hBa y0, pw_cell_below hBa y1, pw_cell_below hBa y2, pw_cell_below hBa y3, pw_cell_below hBa u0, pw_cell_below hBa u1⟩ (fun hHeld => ?_)
      clear hK K
      refine norm_ (a' := ?_) ?_ ?_
      rotate_left
      · show Act.put _ (some 70) _ = _
        simp only [Act.put, List.setIfInBounds_toArray, List.set_cons_zero, List.set_cons_succ, i64_w, i32_w]
        rfl
      refine one_ (i := 13) (N := some 76) #[true, true, true, true, true, true, true, true, true, true, true, true, true, true, true, false] rfl rfl (by kernel_rfl) (by decide) (fun K hK => ?_)
      refine goes_ Try.func11 (by kernel_rfl) rfl #[.int .i64 tn, .int .i64 320] (by rfl) rfl rfl (by simp only [List.map_toArray, List.map_cons, List.map_nil]; rfl) ?_
      with_reducible refine (hcn _).mono ?_
      rintro e wb ⟨rfl, kb, rfl⟩
      refine ⟨_, rfl, ?_⟩
      refine hK.out _ _ ⟨pw_cell_below (pw_below_drewN hBa kb) y0, pw_cell_below (pw_below_drewN hBa kb) y1, pw_cell_below (pw_below_drewN hBa kb) y2, pw_cell_below (pw_below_drewN hBa kb) y3, pw_cell_below (pw_below_drewN hBa kb) u0, pw_cell_below (pw_below_drewN hBa kb) u1⟩ (fun hHeld => ?_)
      clear hK K
      refine norm_ (a' := ?_) ?_ ?_
      rotate_left
      · show Act.put _ (some 76) _ = _
        simp only [Act.put, List.setIfInBounds_toArray, List.set_cons_zero, List.set_cons_succ, i64_w, i32_w]
        rfl
      refine last_ (i := 15) (N := some 78) #[true, true, true, true, true, true, true, true, true, true, true, true, true, true, true, true] rfl rfl (by kernel_rfl) (by decide) (fun K hK => ?_)
      refine goes_ Try.func13 (by kernel_rfl) rfl #[.pointer (some ⟨p, 0, none⟩), .agg #[.int .i64 L0, .int .i64 L1, .int .i64 L2, .int .i64 W], .string C, .int .i64 n, .int .i64 nw] (by rfl) rfl rfl (by simp only [List.map_toArray, List.map_cons, List.map_nil]; rfl) ?_
      with_reducible refine (hAsk _ (hAt.step (Chg.of_below (pw_below_drewN hBa kb)))).mono ?_
      rintro e wk ⟨E, place', last', S', rfl, hI', hAk, hKk, hG'⟩
      refine ⟨_, rfl, ?_⟩
      refine hK.out _ _ ?_
      clear hK K
      refine norm_ (a' := ?_) ?_ ?_
      rotate_left
      · show Act.put _ (some 78) _ = _
        simp only [Act.put, List.setIfInBounds_toArray, List.set_cons_zero, List.set_cons_succ, i64_w, i32_w]
        rfl
      refine done_ (by kernel_rfl) ?_
      go_wp2
      go_roundg gk
      case measure => exact Nat.lt_succ_self _
      case rel =>
        refine ⟨i + 1, nw, place', last', S', rfl, rfl, ?_, ⟨q0, ?_⟩, (Keep.get hKk rfl ?_), hAk, hG', hI'⟩
        · have := hHK.out; omega
        · have := hnw.out; have := hNn.out; have := hDd.out; omega
        · exact ((hBa.block _ (Array.getElem?_eq_some_iff.mp hBx).1).trans hBx)
end Go.Proofs.Ytgndgjjejgbmoaa.Bok
