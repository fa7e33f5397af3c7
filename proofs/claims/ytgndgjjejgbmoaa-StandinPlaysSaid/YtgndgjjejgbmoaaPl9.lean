/- StandinPlays: the walk. -/
import Derived.Test.YtgndgjjejgbmoaaPl8
namespace Go.Proofs.Ytgndgjjejgbmoaa.Bok
open Go Go.RowKit Go.Maps Go.Proofs.YtgndgjjejgbmoaaW.PrintWords Go.Proofs.YtgndgjjejgbmoaaW.PrintLast Go.Proofs.YtgndgjjejgbmoaaW.PrintMore PStandinHolds
set_option linter.unusedSimpArgs false
set_option linter.unusedVariables false
/-- A step. -/
structure StepV where
  kind : Int
  on : Int
  L0 : Int
  L1 : Int
  L2 : Int
  W : Int
  c : ByteArray
  u : Int
  now : Int
/-- Steps that are read. -/
def Steps (w : World) (A : Option Addr) (T : List StepV) : Prop := ∀ i (h : i < T.length), (I64 T[i].on ∧ I64 T[i].u ∧ I64 T[i].now ∧ T[i].c.size ≤ 140737488351232) ∧ ∃ ad, A = some ad ∧
  w.cell? (ad.add (i * 9)) = some (.int .i64 T[i].kind) ∧ w.cell? ⟨(ad.add (i * 9)).block, (ad.add (i * 9)).off + 1, none⟩ = some (.int .i64 T[i].on) ∧ w.cell? ⟨(ad.add (i * 9)).block, (ad.add (i * 9)).off + 2, none⟩ = some (.int .i64 T[i].L0) ∧ w.cell? ⟨(ad.add (i * 9)).block, (ad.add (i * 9)).off + 3, none⟩ = some (.int .i64 T[i].L1) ∧
  w.cell? ⟨(ad.add (i * 9)).block, (ad.add (i * 9)).off + 4, none⟩ = some (.int .i64 T[i].L2) ∧ w.cell? ⟨(ad.add (i * 9)).block, (ad.add (i * 9)).off + 5, none⟩ = some (.int .i64 T[i].W) ∧ w.cell? ⟨(ad.add (i * 9)).block, (ad.add (i * 9)).off + 6, none⟩ = some (.string T[i].c) ∧ w.cell? ⟨(ad.add (i * 9)).block, (ad.add (i * 9)).off + 7, none⟩ = some (.int .i64 T[i].u) ∧ w.cell? ⟨(ad.add (i * 9)).block, (ad.add (i * 9)).off + 8, none⟩ = some (.int .i64 T[i].now)
/-- One place of the two: no Book on either side, or one on both. -/
def Slot (N : Nat) (w' : World) (F : Nat → Prop) (bp rp : Option Addr) : Prop := (bp = none ∧ rp = none ∧ ∀ i, ¬ F i) ∨ ∃ p r cards, bp = some ⟨p, 0, none⟩ ∧ rp = some ⟨r, 0, none⟩ ∧ Pair N w' F p r cards
theorem Slot.kept {N N' : Nat} {w w' : World} {F : Nat → Prop} {bp rp : Option Addr} (h : Slot N w F bp rp) (hN : N ≤ N') {G : Nat → Prop} (hc : Chg G w w') (hG : ∀ i, F i → ¬ G i) : Slot N' w' F bp rp := by
  rcases h with h | ⟨p, r, cards, h1, h2, h3⟩
  · exact .inl h
  · exact .inr ⟨p, r, cards, h1, h2, (h3.kept hc hG).mono hN⟩
theorem Slot.lt {N : Nat} {w : World} {F : Nat → Prop} {bp rp : Option Addr} (h : Slot N w F bp rp) : ∀ i, F i → i < w.heap.size := by
  rcases h with ⟨_, _, h⟩ | ⟨p, r, cards, h1, h2, h3⟩
  · exact fun i hi => absurd hi (h i)
  · exact h3.lt
/-- Two pointers in a row of two. -/
def PArr (w' : World) (g : Nat) (t : TypeId) (bp : Nat → Option Addr) : Prop := ∃ arr : Array Value, w'.heap[g]? = some (.cells arr t (0, 0)) ∧ arr.size = 2 ∧ ∀ j, j < 2 → arr[j]? = some (.pointer (bp j))
theorem PArr.cell {w' : World} {g : Nat} {t : TypeId} {bp : Nat → Option Addr} (h : PArr w' g t bp) {j : Nat} (hj : j < 2) : w'.cell? ⟨g, j, none⟩ = some (.pointer (bp j)) ∧ w'.frozen? ⟨g, j, none⟩ = false := by
  obtain ⟨arr, h1, h2, h3⟩ := h
  have := h3 j hj
  exact ⟨by simp [World.cell?, h1, this], by simp [World.frozen?, h1]⟩
theorem PArr.keep {w1 w2 : World} {g : Nat} {t : TypeId} {bp : Nat → Option Addr} (h : PArr w1 g t bp) (e : w2.heap[g]? = w1.heap[g]?) : PArr w2 g t bp := by
  obtain ⟨arr, h1, h2⟩ := h
  exact ⟨arr, e.trans h1, h2⟩
def upd {α : Type} (f : Nat → α) (k : Nat) (x : α) : Nat → α := fun j => if j = k then x else f j
theorem PArr.set {w1 : World} {g : Nat} {t : TypeId} {bp : Nat → Option Addr} (h : PArr w1 g t bp) {k : Nat} (hk : k < 2) (x : Option Addr) : PArr (w1.setCell ⟨g, k, none⟩ (.pointer x)) g t (upd bp k x) := by
  obtain ⟨arr, h1, h2, h3⟩ := h
  refine ⟨_, blk_set h1 k _, by simp [h2], fun j hj => ?_⟩
  unfold upd
  by_cases e : j = k
  · subst e
    rw [if_pos rfl, Array.getElem?_setIfInBounds_self_of_lt (by omega)]
  · rw [if_neg e, Array.getElem?_setIfInBounds_ne (fun q => e q.symm)]
    exact h3 j hj
/-- Two places, apart from one another. -/
structure MInv (N : Nat) (B B2 : Nat) (w0 : World) (gb gr : Nat) (F : Nat → Nat → Prop) (bp rp : Nat → Option Addr) (w' : World) : Prop where
  arrb : PArr w' gb 44 bp
  arrr : PArr w' gr 46 rp
  slot : ∀ j, j < 2 → Slot N w' (F j) (bp j) (rp j)
  apart : ∀ i j, i < 2 → j < 2 → i ≠ j → ∀ x, F i x → ¬ F j x
  off : ∀ j, j < 2 → ∀ x, F j x → B2 ≤ x
  below : Below B w0 w'
  size : B2 ≤ w'.heap.size
  lt : B ≤ gb ∧ B ≤ gr ∧ gb < B2 ∧ gr < B2 ∧ gb ≠ gr ∧ B ≤ B2
/-- What changes at one place. -/
theorem MInv.act {N N' B B2 : Nat} {w0 : World} {gb gr : Nat} {F : Nat → Nat → Prop} {bp rp : Nat → Option Addr} {w' w'' : World} (h : MInv N B B2 w0 gb gr F bp rp w') (hN : N ≤ N') {k : Nat} (hk : k < 2) {F' : Nat → Prop} (hc : Chg (F k) w' w'') (hs : Slot N' w'' F' (bp k) (rp k)) (hF : ∀ i, F' i → F k i ∨ w'.heap.size ≤ i) : MInv N' B B2 w0 gb gr (upd F k F') bp rp w'' := by
  refine ⟨h.arrb.keep (hc.block gb (Nat.lt_of_lt_of_le h.lt.2.2.1 h.size) (fun hf => by have := h.off k hk gb hf; have := h.lt; omega)), h.arrr.keep (hc.block gr (Nat.lt_of_lt_of_le h.lt.2.2.2.1 h.size) (fun hf => by have := h.off k hk gr hf; have := h.lt; omega)), fun j hj => ?_, fun i j hi hj hij x hx => ?_, fun j hj x hx => ?_, hc.below h.below (fun i hi => Nat.le_trans h.lt.2.2.2.2.2 (h.off k hk i hi)) (Nat.le_trans h.lt.2.2.2.2.2 h.size), Nat.le_trans h.size hc.size, h.lt⟩
  · unfold upd
    by_cases e : j = k
    · subst e; rw [if_pos rfl]; exact hs
    · rw [if_neg e]; exact (h.slot j hj).kept hN hc (h.apart j k hj hk e)
  · unfold upd at hx ⊢
    by_cases e : i = k
    · rw [if_pos e] at hx
      have e2 : ¬ j = k := fun q => hij (e.trans q.symm)
      rw [if_neg e2]
      rcases hF x hx with hx | hx
      · exact h.apart k j hk hj (fun q => e2 q.symm) x hx
      · exact fun hf => by have := (h.slot j hj).lt x hf; omega
    · rw [if_neg e] at hx
      by_cases e2 : j = k
      · rw [if_pos e2]
        intro hf
        rcases hF x hf with hf | hf
        · exact h.apart i k hi hk e x hx hf
        · have := (h.slot i hi).lt x hx; omega
      · rw [if_neg e2]
        exact h.apart i j hi hj hij x hx
  · unfold upd at hx
    by_cases e : j = k
    · rw [if_pos e] at hx
      rcases hF x hx with hx | hx
      · exact h.off k hk x hx
      · have := h.size; omega
    · rw [if_neg e] at hx
      exact h.off j hj x hx
theorem MInv.later {N N' B B2 : Nat} {w0 : World} {gb gr : Nat} {F : Nat → Nat → Prop} {bp rp : Nat → Option Addr} {w' w'' : World} (h : MInv N B B2 w0 gb gr F bp rp w') (hN : N ≤ N') (hb : Below w'.heap.size w' w'') : MInv N' B B2 w0 gb gr F bp rp w'' :=
  ⟨h.arrb.keep (hb.block gb (Nat.lt_of_lt_of_le h.lt.2.2.1 h.size)), h.arrr.keep (hb.block gr (Nat.lt_of_lt_of_le h.lt.2.2.2.1 h.size)), fun j hj => (h.slot j hj).kept hN (Chg.of_below hb : Chg (fun _ => False) w' w'') (fun _ _ hf => hf), h.apart, h.off, (Chg.of_below hb : Chg (fun _ => False) w' w'').below h.below (fun _ hf => hf.elim) (Nat.le_trans h.lt.2.2.2.2.2 h.size), Nat.le_trans h.size hb.size, h.lt⟩
/-- A new Book at a place, on both sides. -/
theorem MInv.put {N B B2 : Nat} {w0 : World} {gb gr : Nat} {F : Nat → Nat → Prop} {bp rp : Nat → Option Addr} {wr w3 w5 : World} (h : MInv N B B2 w0 gb gr F bp rp wr) {k : Nat} (hk : k < 2) (x y : Option Addr) (hb3 : Below wr.heap.size wr w3) (hb5 : Below (w3.setCell ⟨gb, k, none⟩ (.pointer x)).heap.size (w3.setCell ⟨gb, k, none⟩ (.pointer x)) w5) {F' : Nat → Prop} (hs : Slot N (w5.setCell ⟨gr, k, none⟩ (.pointer y)) F' x y) (hF : ∀ i, F' i → wr.heap.size ≤ i) :
    MInv N B B2 w0 gb gr (upd F k F') (upd bp k x) (upd rp k y) (w5.setCell ⟨gr, k, none⟩ (.pointer y)) := by
  have hlt := h.lt
  have hne : gb ≠ gr := hlt.2.2.2.2.1
  have e4 : (w3.setCell ⟨gb, k, none⟩ (.pointer x)).heap.size = w3.heap.size := by simp [World.setCell]
  have hbl : gb < w3.heap.size := by have := hb3.size; have := h.size; omega
  have hrl : gr < w3.heap.size := by have := hb3.size; have := h.size; omega
  have c4 : Chg (fun i => i = gb ∨ i = gr) wr (w3.setCell ⟨gb, k, none⟩ (.pointer x)) := (Chg.of_below hb3).set _ _ (.inl rfl)
  have c5 : Chg (fun i => i = gb ∨ i = gr) wr w5 := c4.trans (Chg.of_below hb5 : Chg (fun i => i = gb ∨ i = gr) _ _) (fun _ _ h => h)
  have c6 : Chg (fun i => i = gb ∨ i = gr) wr (w5.setCell ⟨gr, k, none⟩ (.pointer y)) := c5.set _ _ (.inr rfl)
  have ab3 : PArr w3 gb 44 bp := h.arrb.keep (hb3.block gb (by have := h.size; omega))
  have ab : PArr (w5.setCell ⟨gr, k, none⟩ (.pointer y)) gb 44 (upd bp k x) := ((ab3.set hk x).keep (hb5.block gb (by rw [e4]; exact hbl))).keep (setCell_block _ _ _ _ hne)
  have ar3 : PArr w3 gr 46 rp := h.arrr.keep (hb3.block gr (by have := h.size; omega))
  have ar : PArr (w5.setCell ⟨gr, k, none⟩ (.pointer y)) gr 46 (upd rp k y) := ((ar3.keep (setCell_block _ _ _ _ hne.symm)).keep (hb5.block gr (by rw [e4]; exact hrl))).set hk y
  refine ⟨ab, ar, fun j hj => ?_, fun i j hi hj hij z hz => ?_, fun j hj z hz => ?_, c6.below h.below (fun i hi => by rcases hi with hi | hi <;> omega) (Nat.le_trans hlt.2.2.2.2.2 h.size), Nat.le_trans h.size c6.size, hlt⟩
  · unfold upd
    by_cases e : j = k
    · subst e; simp only [if_true]; exact hs
    · simp only [if_neg e]
      exact (h.slot j hj).kept (Nat.le_refl _) c6 (fun i hi hf => by have := h.off j hj i hi; rcases hf with hf | hf <;> omega)
  · unfold upd at hz ⊢
    by_cases e : i = k
    · rw [if_pos e] at hz
      have e2 : ¬ j = k := fun q => hij (e.trans q.symm)
      rw [if_neg e2]
      exact fun hf => by have := (h.slot j hj).lt z hf; have := hF z hz; omega
    · rw [if_neg e] at hz
      by_cases e2 : j = k
      · rw [if_pos e2]
        exact fun hf => by have := (h.slot i hi).lt z hz; have := hF z hf; omega
      · rw [if_neg e2]
        exact h.apart i j hi hj hij z hz
  · unfold upd at hz
    by_cases e : j = k
    · rw [if_pos e] at hz
      have := hF z hz; have := h.size; omega
    · rw [if_neg e] at hz
      exact h.off j hj z hz
/-- The first loop. -/
def LRel (B B2 : Nat) (w0 : World) (gc gb gr : Nat) (one two : Int) (kq : Nat) (v11 : Value) (w' : World) : Prop :=
  ∃ (k : Nat) (F : Nat → Nat → Prop) (bp rp : Nat → Option Addr), v11 = .int .i64 k ∧ k + kq = 2 ∧ MInv 0 B B2 w0 gb gr F bp rp w' ∧ w'.heap[gc]? = some (.cells #[.int .i64 one, .int .i64 two] 43 (0, 0))
/-- The second loop. -/
def MRel (B B2 : Nat) (w0 : World) (gb gr : Nat) (top : Nat) (kq : Nat) (v14 : Value) (w' : World) : Prop :=
  ∃ (i : Nat) (F : Nat → Nat → Prop) (bp rp : Nat → Option Addr), v14 = .int .i64 i ∧ i + kq = top ∧ MInv (200 * i) B B2 w0 gb gr F bp rp w'
theorem new_pair {w w3 w4 w5 : World} {p m r : Nat} {cards : Int} : True := trivial
set_option maxRecDepth 100000 in
set_option maxHeartbeats 2000000 in
theorem plays_calls (w : World) (one two : Int) (h1 : I64 one) (h2 : I64 two) (A : Option Addr) (cp : Nat) (T : List StepV) (hT : Steps w A T) :
    Calls Try.prog 4 #[.int .i64 one, .int .i64 two, .slice A T.length cp] w fun e w' => e = .returned (.bool true) ∧ Below w.heap.size w w' := by
  go_enter Try.func4, Try.ntmps4
  go_upto_region 5 with (go_at_call 7; with_reducible refine (known_calls _).mono ?_; rintro e w1 ⟨rfl, hB1⟩)
  obtain ⟨w2, hw2⟩ : ∃ w2, w2 = ((w1.alloc (.cells #[.int .i64 one, .int .i64 two] 43)).alloc (.cells #[.pointer none, .pointer none] 44)).alloc (.cells #[.pointer none, .pointer none] 46) := ⟨_, rfl⟩
  rw [← hw2]
  have s1 : (w1.alloc (.cells #[.int .i64 one, .int .i64 two] 43)).heap.size = w1.heap.size + 1 := Array.size_push _
  have s2 : ((w1.alloc (.cells #[.int .i64 one, .int .i64 two] 43)).alloc (.cells #[.pointer none, .pointer none] 44)).heap.size = w1.heap.size + 2 := (Array.size_push _).trans (congrArg (· + 1) s1)
  have s3 : w2.heap.size = w1.heap.size + 3 := by rw [hw2]; exact (Array.size_push _).trans (congrArg (· + 1) s2)
  have hB2 : Below w1.heap.size w1 w2 := by rw [hw2]; exact below_alloc (below_alloc (below_alloc (Below.refl _ _) _) _) _
  have hc2 : w2.heap[w1.heap.size]? = some (.cells #[.int .i64 one, .int .i64 two] 43 (0, 0)) := by
    rw [hw2]
    exact (heap_alloc_old _ _ (by rw [s2]; omega)).trans ((heap_alloc_old _ _ (by rw [s1]; omega)).trans (heap_alloc_new _ _))
  have hb2 : w2.heap[w1.heap.size + 1]? = some (.cells #[.pointer none, .pointer none] 44 (0, 0)) := by
    rw [hw2, ← s1]
    exact (heap_alloc_old _ _ (by rw [s2, s1]; omega)).trans (heap_alloc_new _ _)
  have hr2 : w2.heap[w1.heap.size + 1 + 1]? = some (.cells #[.pointer none, .pointer none] 46 (0, 0)) := by
    rw [hw2, show w1.heap.size + 1 + 1 = _ from s2.symm]
    exact heap_alloc_new _ _
  have hBa : Below w.heap.size w w2 := below_step hB1 hB2
  have hwz := hB1.size
  clear hw2 s1 s2
  obtain ⟨gc, hgc0⟩ : ∃ gc, gc = w1.heap.size := ⟨_, rfl⟩
  obtain ⟨gb, hgb0⟩ : ∃ gb, gb = w1.heap.size + 1 := ⟨_, rfl⟩
  obtain ⟨gr, hgr0⟩ : ∃ gr, gr = w1.heap.size + 1 + 1 := ⟨_, rfl⟩
  obtain ⟨B2, hB20⟩ : ∃ B2, B2 = w1.heap.size + 3 := ⟨_, rfl⟩
  rw [← hgr0] at hr2 ⊢
  rw [← hgb0] at hb2 ⊢
  rw [← hgc0] at hc2 ⊢
  rw [← hB20] at s3
  have hgcb : gc ≠ gb := by omega
  have hgcr : gc ≠ gr := by omega
  have hgcl : gc < B2 := by omega
  have hM0 : MInv 0 w.heap.size B2 w gb gr (fun _ _ => False) (fun _ => none) (fun _ => none) w2 := by
    refine ⟨⟨_, hb2, rfl, fun j hj => ?_⟩, ⟨_, hr2, rfl, fun j hj => ?_⟩, fun j hj => .inl ⟨rfl, rfl, fun _ h => h⟩, fun _ _ _ _ _ _ h _ => h, fun _ _ _ h => h.elim, hBa, Nat.le_of_eq s3.symm, ⟨by omega, by omega, by omega, by omega, by omega, by omega⟩⟩
    · rcases (by omega : j = 0 ∨ j = 1) with e | e <;> subst e <;> rfl
    · rcases (by omega : j = 0 ∨ j = 1) with e | e <;> subst e <;> rfl
  clear hgc0 hgb0 hgr0 hB20 hb2 hr2 hB2 hB1 hwz s3
  go_wp2
  go_loopg [11] 2 (fun kq v11 w' => LRel w.heap.size B2 w gc gb gr one two kq v11 w')
  case atStart => exact ⟨0, _, _, _, rfl, rfl, hM0, hc2⟩
  case round =>
    obtain ⟨k, F, bp, rp, rfl, HK, hM, hgc⟩ := hrel
    cases gk with
    | zero =>
      have d1 : decide ((k : Int) < 2) = false := decide_eq_false (by omega)
      clear hgc HK
      go_wp2
      go_loopg [14] (min T.length 200) (fun kq v14 w' => MRel w.heap.size B2 w gb gr (min T.length 200) kq v14 w')
      case atStart => exact ⟨0, F, bp, rp, rfl, Nat.zero_add _, hM⟩
      case round =>
        clear hM
        obtain ⟨i, F, bp, rp, rfl, HK, hM⟩ := hrel
        cases gk with
        | zero =>
          by_cases hi : (i : Int) < (T.length : Int)
          · have d3 : decide ((i : Int) < (T.length : Int)) = true := decide_eq_true hi
            have d2 : decide ((i : Int) < 200) = false := decide_eq_false (by omega)
            go_wp2
            go_ret
            exact ⟨rfl, hM.below⟩
          · have d3 : decide ((i : Int) < (T.length : Int)) = false := decide_eq_false hi
            go_wp2
            go_ret
            exact ⟨rfl, hM.below⟩
        | succ gk =>
          have hiT : i < T.length := by omega
          have hi2 : i < 200 := by omega
          have d3 : decide ((i : Int) < (T.length : Int)) = true := decide_eq_true (by omega)
          have d2 : decide ((i : Int) < 200) = true := decide_eq_true (by omega)
          have c2 : (0 ≤ (i : Int)) = True := eq_true (by omega)
          have c3 : ((i : Int) < (T.length : Int)) = True := eq_true (by omega)
          have c4 : (i < T.length) = True := eq_true hiT
          have hi3 : (i : Int) ≤ 200 := by omega
          obtain ⟨⟨hso, hsu, hsn, hsc⟩, ad, rfl, t0, t1, t2, t3, t4, t5, t6, t7, t8⟩ := hT i hiT
          obtain ⟨sv, hsv⟩ : ∃ sv, T[i] = sv := ⟨_, rfl⟩
          rw [hsv] at hso hsu hsn hsc t0 t1 t2 t3 t4 t5 t6 t7 t8
          clear hsv hT
          obtain ⟨k, hk, hck⟩ : ∃ k : Nat, k < 2 ∧ ∀ w, Calls Try.prog 11 #[.int .i64 sv.on, .int .i64 2] w fun e w' => e = .returned (.int .i64 k) ∧ Drawn0 w w' := by
            have hr := pick_range sv.on 2 (by decide)
            refine ⟨(pickI sv.on 2).toNat, by omega, fun w => ?_⟩
            rw [Int.toNat_of_nonneg hr.1]
            exact pick_calls sv.on 2 hso (by decide) w
          have k0 : (0 ≤ (k : Int)) = True := eq_true (by omega)
          have k1 : ((k : Int) < 2) = True := eq_true (by omega)
          have k2 : (k < 2) = True := eq_true hk
          have hMb := hM.below
          replace t0 := pw_cell_below hMb t0
          replace t1 := pw_cell_below hMb t1
          replace t2 := pw_cell_below hMb t2
          replace t3 := pw_cell_below hMb t3
          replace t4 := pw_cell_below hMb t4
          replace t5 := pw_cell_below hMb t5
          replace t6 := pw_cell_below hMb t6
          replace t7 := pw_cell_below hMb t7
          replace t8 := pw_cell_below hMb t8
          have x1 := (hM.arrb.cell hk).1
          have x2 := (hM.arrr.cell hk).1
          have hKK := Aside0.mk HK
          have hN9 : 200 * i ≤ 97000 := by omega
          have hNN : 200 * i ≤ 200 * (i + 1) := by omega
          clear HK
          rcases hM.slot k hk with ⟨q1, q2, _⟩ | ⟨p, r, cards, q1, q2, hP⟩
          · rw [q1] at x1
            rw [q2] at x2
            replace q1 := Aside0.mk q1
            replace q2 := Aside0.mk q2
            go_wp2_with (first | (go_at_call 11; with_reducible refine (hck _).mono ?_; rintro e wb ⟨rfl, kb, rfl⟩))
            go_roundg gk
            case measure => exact Nat.lt_succ_self _
            case rel => exact ⟨i + 1, F, bp, rp, rfl, (Nat.add_right_comm i 1 gk).trans hKK.out, hM.later hNN (pw_below_drewN (Below.refl _ _) kb)⟩
          · rw [q1] at x1
            rw [q2] at x2
            replace q1 := Aside0.mk q1
            replace q2 := Aside0.mk q2
            obtain ⟨A2, n2, cp2, z2⟩ : ∃ A2 n2 cp2, wr.cell? ⟨r, 2, none⟩ = some (.slice A2 n2 cp2) := by
              obtain ⟨Fb, m, place, last, S, l, v, hb, hr, _⟩ := hP
              obtain ⟨A2, cp2, e, _⟩ := hr.form
              exact ⟨A2, _, cp2, by rw [hr.cell.2.2, e]⟩
            by_cases hbig : 1500 < n2
            · have d4 : decide ((1500 : Int) < (n2 : Int)) = true := decide_eq_true (by omega)
              have d5 : (1500 < n2) = True := eq_true hbig
              go_wp2_with (first | (go_at_call 11; with_reducible refine (hck _).mono ?_; rintro e wb ⟨rfl, kb, rfl⟩))
              go_roundg gk
              case measure => exact Nat.lt_succ_self _
              case rel => exact ⟨i + 1, F, bp, rp, rfl, (Nat.add_right_comm i 1 gk).trans hKK.out, hM.later hNN (pw_below_drewN (Below.refl _ _) kb)⟩
            · have d4 : decide ((1500 : Int) < (n2 : Int)) = false := decide_eq_false (by omega)
              have d5 : (1500 < n2) = False := eq_false hbig
              go_upto_region 21 with (first | (go_at_call 11; with_reducible refine (hck _).mono ?_; rintro e wb ⟨rfl, kb, rfl⟩))
              obtain ⟨w6, hw6⟩ : ∃ w6, w6 = wr.drewN kb := ⟨_, rfl⟩
              rw [← hw6]
              have hB6 : Below wr.heap.size wr w6 := by rw [hw6]; exact pw_below_drewN (Below.refl _ _) kb
              clear hw6
              replace t0 := pw_cell_below hB6 t0
              replace t1 := pw_cell_below hB6 t1
              replace t2 := pw_cell_below hB6 t2
              replace t3 := pw_cell_below hB6 t3
              replace t4 := pw_cell_below hB6 t4
              replace t5 := pw_cell_below hB6 t5
              replace t6 := pw_cell_below hB6 t6
              replace t7 := pw_cell_below hB6 t7
              replace t8 := pw_cell_below hB6 t8
              replace x1 := pw_cell_below hB6 x1
              replace x2 := pw_cell_below hB6 x2
              have hBd : Below wr.heap.size wr w6.drew := below_step hB6 ⟨rfl, rfl, rfl, Nat.le_refl _, fun _ _ => rfl⟩
              have hMd := hM.later (Nat.le_refl _) hBd
              have hPd : Pair (200 * i) w6.drew (F k) p r cards := hP.kept (Chg.of_below hBd : Chg (fun _ => False) wr w6.drew) (fun _ _ hf => hf)
              refine start_ (n := 12) (S := fun w' => w'.cell? ⟨gb, k, none⟩ = some (.pointer (some ⟨p, 0, none⟩)) ∧ w'.cell? ⟨gr, k, none⟩ = some (.pointer (some ⟨r, 0, none⟩)) ∧ w'.cell? (ad.add (i * 9)) = some (.int .i64 sv.kind) ∧ w'.cell? ⟨(ad.add (i * 9)).block, (ad.add (i * 9)).off + 1, none⟩ = some (.int .i64 sv.on) ∧ w'.cell? ⟨(ad.add (i * 9)).block, (ad.add (i * 9)).off + 2, none⟩ = some (.int .i64 sv.L0) ∧ w'.cell? ⟨(ad.add (i * 9)).block, (ad.add (i * 9)).off + 3, none⟩ = some (.int .i64 sv.L1) ∧ w'.cell? ⟨(ad.add (i * 9)).block, (ad.add (i * 9)).off + 4, none⟩ = some (.int .i64 sv.L2) ∧ w'.cell? ⟨(ad.add (i * 9)).block, (ad.add (i * 9)).off + 5, none⟩ = some (.int .i64 sv.W) ∧ w'.cell? ⟨(ad.add (i * 9)).block, (ad.add (i * 9)).off + 6, none⟩ = some (.string sv.c) ∧ w'.cell? ⟨(ad.add (i * 9)).block, (ad.add (i * 9)).off + 7, none⟩ = some (.int .i64 sv.u) ∧ w'.cell? ⟨(ad.add (i * 9)).block, (ad.add (i * 9)).off + 8, none⟩ = some (.int .i64 sv.now)) (ds := [10]) #[false, false, false, false, false, false, false, false, false, false, false, false] (by kernel_rfl) rfl rfl ⟨x1, x2, t0, t1, t2, t3, t4, t5, t6, t7, t8⟩ (fun hHeld => ?_)
              refine pure_ (i := 0) (N := some 89) (v := ?_) (a' := ?_) #[true, false, false, false, false, false, false, false, false, false, false, false] rfl rfl (by kernel_rfl) (fun _ _ _ h => h) (Or.inl ⟨by rfl, ?_⟩) ?_ ?_
              rotate_left
              · intro w'
                go_simp
                with_reducible rfl
              rotate_left
              · simp only [Act.put, List.setIfInBounds_toArray, List.set_cons_zero, List.set_cons_succ, i64_w, i32_w]
                rfl
              refine pure_ (i := 1) (N := some 90) (v := ?_) (a' := ?_) #[true, true, false, false, false, false, false, false, false, false, false, false] rfl rfl (by kernel_rfl) (fun _ _ _ h => h) (Or.inl ⟨by rfl, ?_⟩) ?_ ?_
              rotate_left
              · intro w'
                go_simp
                with_reducible rfl
              rotate_left
              · simp only [Act.put, List.setIfInBounds_toArray, List.set_cons_zero, List.set_cons_succ, i64_w, i32_w]
                rfl
              refine pure_ (i := 3) (N := some 92) (v := ?_) (a' := ?_) #[true, true, false, true, false, false, false, false, false, false, false, false] rfl rfl (by kernel_rfl) (fun _ _ _ h => h) (Or.inl ⟨by rfl, ?_⟩) ?_ ?_
              rotate_left
              · intro w'
                go_simp
                with_reducible rfl
              rotate_left
              · simp only [Act.put, List.setIfInBounds_toArray, List.set_cons_zero, List.set_cons_succ, i64_w, i32_w]
                rfl
              refine pure_ (i := 4) (N := some 93) (v := ?_) (a' := ?_) #[true, true, false, true, true, false, false, false, false, false, false, false] rfl rfl (by kernel_rfl) (fun _ _ _ h => h) (Or.inl ⟨by rfl, ?_⟩) ?_ ?_
              rotate_left
              · intro w'
                go_simp
                with_reducible rfl
              rotate_left
              · simp only [Act.put, List.setIfInBounds_toArray, List.set_cons_zero, List.set_cons_succ, i64_w, i32_w]
                rfl
              refine pure_ (i := 6) (N := some 95) (v := ?_) (a' := ?_) #[true, true, false, true, true, false, true, false, false, false, false, false] rfl rfl (by kernel_rfl) (fun _ _ _ h => h) (Or.inl ⟨by rfl, ?_⟩) ?_ ?_
              rotate_left
              · intro w'
                go_simp
                with_reducible rfl
              rotate_left
              · simp only [Act.put, List.setIfInBounds_toArray, List.set_cons_zero, List.set_cons_succ, i64_w, i32_w]
                rfl
              refine pure_ (i := 7) (N := some 96) (v := ?_) (a' := ?_) #[true, true, false, true, true, false, true, true, false, false, false, false] rfl rfl (by kernel_rfl) (fun _ _ _ h => h) (Or.inl ⟨by rfl, ?_⟩) ?_ ?_
              rotate_left
              · intro w'
                go_simp
                with_reducible rfl
              rotate_left
              · simp only [Act.put, List.setIfInBounds_toArray, List.set_cons_zero, List.set_cons_succ, i64_w, i32_w]
                rfl
              refine pure_ (i := 8) (N := some 97) (v := ?_) (a' := ?_) #[true, true, false, true, true, false, true, true, true, false, false, false] rfl rfl (by kernel_rfl) (fun _ _ _ h => h) (Or.inl ⟨by rfl, ?_⟩) ?_ ?_
              rotate_left
              · intro w'
                go_simp
                with_reducible rfl
              rotate_left
              · simp only [Act.put, List.setIfInBounds_toArray, List.set_cons_zero, List.set_cons_succ, i64_w, i32_w]
                rfl
              refine take_ (i := 2) (N := some 91) (v := ?_) (a' := ?_) #[true, true, true, true, true, false, true, true, true, false, false, false] rfl rfl (by kernel_rfl) (fun _ _ _ h => h) (Or.inl ⟨by rfl, ?_⟩) hHeld ?_ ?_
              rotate_left
              · rintro w' ⟨s0, s1, s2, s3, s4, s5, s6, s7, s8, s9, s10⟩
                go_simp
                with_reducible rfl
              rotate_left
              · simp only [Act.put, List.setIfInBounds_toArray, List.set_cons_zero, List.set_cons_succ, i64_w, i32_w]
                rfl
              refine take_ (i := 5) (N := some 94) (v := ?_) (a' := ?_) #[true, true, true, true, true, true, true, true, true, false, false, false] rfl rfl (by kernel_rfl) (fun _ _ _ h => h) (Or.inl ⟨by rfl, ?_⟩) hHeld ?_ ?_
              rotate_left
              · rintro w' ⟨s0, s1, s2, s3, s4, s5, s6, s7, s8, s9, s10⟩
                go_simp
                with_reducible rfl
              rotate_left
              · simp only [Act.put, List.setIfInBounds_toArray, List.set_cons_zero, List.set_cons_succ, i64_w, i32_w]
                rfl
              refine take_ (i := 9) (N := some 98) (v := ?_) (a' := ?_) #[true, true, true, true, true, true, true, true, true, true, false, false] rfl rfl (by kernel_rfl) (fun _ _ _ h => h) (Or.inl ⟨by rfl, ?_⟩) hHeld ?_ ?_
              rotate_left
              · rintro w' ⟨s0, s1, s2, s3, s4, s5, s6, s7, s8, s9, s10⟩
                go_simp
                with_reducible rfl
              rotate_left
              · simp only [Act.put, List.setIfInBounds_toArray, List.set_cons_zero, List.set_cons_succ, i64_w, i32_w]
                rfl
              refine last_ (i := 10) (N := some 99) #[true, true, true, true, true, true, true, true, true, true, true, false] rfl rfl (by kernel_rfl) (by decide) (fun K hK => ?_)
              refine goes_ Try.func15 (by kernel_rfl) rfl #[.pointer (some ⟨p, 0, none⟩), .pointer (some ⟨r, 0, none⟩), .agg #[.int .i64 sv.kind, .int .i64 sv.on, .int .i64 sv.L0, .int .i64 sv.L1, .int .i64 sv.L2, .int .i64 sv.W, .string sv.c, .int .i64 sv.u, .int .i64 sv.now]] (by rfl) rfl rfl (by simp only [List.map_toArray, List.map_cons, List.map_nil]; rfl) ?_
              with_reducible refine (step_calls _ hPd hN9 sv.kind sv.on sv.L0 sv.L1 sv.L2 sv.W sv.c sv.u sv.now hsu hsn hsc).mono ?_
              rintro e wz ⟨rfl, F', hP', hC', hF'⟩
              refine ⟨_, rfl, ?_⟩
              refine hK.out _ _ ?_
              clear hK K
              refine norm_ (a' := ?_) ?_ ?_
              rotate_left
              · show Act.put _ (some 99) _ = _
                simp only [Act.put, List.setIfInBounds_toArray, List.set_cons_zero, List.set_cons_succ, i64_w, i32_w]
                rfl
              refine pure_ (i := 11) (N := some 16) (v := ?_) (a' := ?_) #[true, true, true, true, true, true, true, true, true, true, true, true] rfl rfl (by kernel_rfl) (fun _ _ _ h => h) (Or.inl ⟨by rfl, ?_⟩) ?_ ?_
              rotate_left
              · intro w'
                go_simp
                with_reducible rfl
              rotate_left
              · simp only [Act.put, List.setIfInBounds_toArray, List.set_cons_zero, List.set_cons_succ, i64_w, i32_w]
                rfl
              refine done_ (by kernel_rfl) ?_

              go_wp2
              go_roundg gk
              case measure => exact Nat.lt_succ_self _
              case rel => exact ⟨i + 1, _, bp, rp, rfl, (Nat.add_right_comm i 1 gk).trans hKK.out, hMd.act hNN hk hC' (.inr ⟨p, r, cards, q1.out, q2.out, hP'.mono (by omega)⟩) hF'⟩
    | succ gk =>
      have hk : k < 2 := by omega
      have d1 : decide ((k : Int) < 2) = true := decide_eq_true (by omega)
      have c6 : (0 ≤ (k : Int)) = True := eq_true (by omega)
      have c7 : ((k : Int) < 2) = True := eq_true (by omega)
      have c8 : (k < 2) = True := eq_true hk
      have hkb : (k : Int) ≤ 2 := by omega
      obtain ⟨ck, hck, hcI⟩ : ∃ ck, wr.cell? ⟨gc, k, none⟩ = some (.int .i64 ck) ∧ I64 ck := by
        rcases (by omega : k = 0 ∨ k = 1) with e | e
        · subst e; exact ⟨one, by simp [World.cell?, hgc], h1⟩
        · subst e; exact ⟨two, by simp [World.cell?, hgc], h2⟩
      have hlt := hM.lt
      have hsz := hM.size
      have hHK := Aside0.mk HK
      clear HK
      by_cases hgd : 1 ≤ ck ∧ ck ≤ 10000
      · go_upto_region 11 with (go_at_call 8; with_reducible refine (new_good ck wr hgd.1 hgd.2).mono ?_; rintro e w3 ⟨p, m, rfl, hbk, hB3, hp, hm⟩; obtain ⟨b1, b2⟩ := (hM.arrb.keep (hB3.block gb (by omega))).cell hk)
        obtain ⟨w4, hw4⟩ : ∃ w4, w4 = w3.setCell ⟨gb, k, none⟩ (.pointer (some ⟨p, 0, none⟩)) := ⟨_, rfl⟩
        rw [← hw4]
        have e4 : w4.heap.size = w3.heap.size := by rw [hw4]; simp [World.setCell]
        have hgc4 : w4.heap[gc]? = some (.cells #[.int .i64 one, .int .i64 two] 43 (0, 0)) := by
          rw [hw4]
          exact (setCell_block _ _ _ _ hgcb).trans ((hB3.block gc (by omega)).trans hgc)
        have hck4 : w4.cell? ⟨gc, k, none⟩ = some (.int .i64 ck) := (World.cell?_of_block (a := ⟨gc, k, none⟩) (hgc4.trans hgc.symm)).trans hck
        have har4 : PArr w4 gr 46 rp := by rw [hw4]; exact (hM.arrr.keep (hB3.block gr (by omega))).keep (setCell_block _ _ _ _ hlt.2.2.2.2.1.symm)
        replace hw4 := Aside0.mk hw4
        go_upto_region 12 with (go_at_call 14; with_reducible refine (rnew_good ck w4 hgd.1 hgd.2).mono ?_; rintro e w5 ⟨r, rfl, hrb, hB5, hr⟩; obtain ⟨a1, a2⟩ := (har4.keep (hB5.block gr (by have := hB3.size; omega))).cell hk)
        obtain ⟨w6, hw6⟩ : ∃ w6, w6 = w5.setCell ⟨gr, k, none⟩ (.pointer (some ⟨r, 0, none⟩)) := ⟨_, rfl⟩
        rw [← hw6]
        have hC36 : Chg (fun i => i = gb ∨ i = gr) w3 w6 := by
          rw [hw6]
          refine Chg.set ?_ _ _ (.inr rfl)
          have c4 : Chg (fun i => i = gb ∨ i = gr) w3 w4 := by rw [hw4.out]; exact (Chg.refl _ _).set _ _ (.inl rfl)
          exact c4.trans (Chg.of_below hB5 : Chg (fun i => i = gb ∨ i = gr) w4 w5) (fun _ _ h => h)
        have hbk6 := hbk.kept hC36 (fun i hi hf => by rcases hi with hi | hi <;> rcases hf with hf | hf <;> omega)
        have hrb6 : RB w6 r ck 0 [] (.slice none 0 0) := by
          rw [hw6]
          exact hrb.kept (F := fun i => i = gr) ((Chg.refl _ _).set _ _ rfl) (fun e => by have := hB3.size; omega) (fun b hb => by cases hb)
        have hs : Slot 0 w6 (fun i => (i = p ∨ i = m) ∨ i = r ∨ (Value.slice none 0 0).ownBlock = some i) (some ⟨p, 0, none⟩) (some ⟨r, 0, none⟩) :=
          .inr ⟨p, r, ck, rfl, rfl, _, m, 0, 0, [], [], .slice none 0 0, hbk6, hrb6, ⟨fun _ => rfl, List.Pairwise.nil, fun x hx => (by cases hx)⟩, Good.nil, Nat.le_refl _, fun i => Iff.rfl, fun hi => by
            have q1 := hbk.lt p (.inl rfl)
            have q2 := hbk.lt m (.inr rfl)
            rcases hi with hi | hi <;> omega, fun b hb => by cases hb⟩
        have hM6 : MInv 0 w.heap.size B2 w gb gr (upd F k (fun i => (i = p ∨ i = m) ∨ i = r ∨ (Value.slice none 0 0).ownBlock = some i)) (upd bp k (some ⟨p, 0, none⟩)) (upd rp k (some ⟨r, 0, none⟩)) w6 := by
          rw [hw6] at hs ⊢
          rw [hw4.out] at hB5
          exact hM.put hk (some ⟨p, 0, none⟩) (some ⟨r, 0, none⟩) hB3 hB5 hs (fun i hi => by
            rcases hi with (hi | hi) | hi | hi
            · omega
            · omega
            · have := hB3.size; omega
            · cases hi)
        have hgc6 : w6.heap[gc]? = some (.cells #[.int .i64 one, .int .i64 two] 43 (0, 0)) := by
          rw [hw6]
          exact (setCell_block _ _ _ _ hgcr).trans ((hB5.block gc (by have := hB3.size; omega)).trans hgc4)
        have x1 : w6.cell? ⟨gb, k, none⟩ = some (.pointer (some ⟨p, 0, none⟩)) := by have := (hM6.arrb.cell hk).1; simpa [upd] using this
        have x2 : w6.cell? ⟨gr, k, none⟩ = some (.pointer (some ⟨r, 0, none⟩)) := by have := (hM6.arrr.cell hk).1; simpa [upd] using this
        clear hw6 hw4 hs hbk hbk6 hrb hrb6 hC36 hgc4 hck4 har4 a1 a2 b1 b2
        refine start_ (n := 14) (S := fun w' => w'.cell? ⟨gb, k, none⟩ = some (.pointer (some ⟨p, 0, none⟩)) ∧ w'.cell? ⟨gr, k, none⟩ = some (.pointer (some ⟨r, 0, none⟩))) (ds := []) #[false, false, false, false, false, false, false, false, false, false, false, false, false, false] (by kernel_rfl) rfl rfl ⟨x1, x2⟩ (fun hHeld => ?_)
        refine pure_ (i := 0) (N := some 43) (v := ?_) (a' := ?_) #[true, false, false, false, false, false, false, false, false, false, false, false, false, false] rfl rfl (by kernel_rfl) (fun _ _ _ h => h) (Or.inl ⟨by rfl, ?_⟩) ?_ ?_
        rotate_left
        · intro w'
          go_simp
          with_reducible rfl
        rotate_left
        · simp only [Act.put, List.setIfInBounds_toArray, List.set_cons_zero, List.set_cons_succ, i64_w, i32_w]
          rfl
        refine pure_ (i := 1) (N := some 44) (v := ?_) (a' := ?_) #[true, true, false, false, false, false, false, false, false, false, false, false, false, false] rfl rfl (by kernel_rfl) (fun _ _ _ h => h) (Or.inl ⟨by rfl, ?_⟩) ?_ ?_
        rotate_left
        · intro w'
          go_simp
          with_reducible rfl
        rotate_left
        · simp only [Act.put, List.setIfInBounds_toArray, List.set_cons_zero, List.set_cons_succ, i64_w, i32_w]
          rfl
        refine pure_ (i := 2) (N := some 45) (v := ?_) (a' := ?_) #[true, true, true, false, false, false, false, false, false, false, false, false, false, false] rfl rfl (by kernel_rfl) (fun _ _ _ h => h) (Or.inl ⟨by rfl, ?_⟩) ?_ ?_
        rotate_left
        · intro w'
          go_simp
          with_reducible rfl
        rotate_left
        · simp only [Act.put, List.setIfInBounds_toArray, List.set_cons_zero, List.set_cons_succ, i64_w, i32_w]
          rfl
        refine pure_ (i := 3) (N := some 46) (v := ?_) (a' := ?_) #[true, true, true, true, false, false, false, false, false, false, false, false, false, false] rfl rfl (by kernel_rfl) (fun _ _ _ h => h) (Or.inl ⟨by rfl, ?_⟩) ?_ ?_
        rotate_left
        · intro w'
          go_simp
          with_reducible rfl
        rotate_left
        · simp only [Act.put, List.setIfInBounds_toArray, List.set_cons_zero, List.set_cons_succ, i64_w, i32_w]
          rfl
        refine pure_ (i := 4) (N := some 47) (v := ?_) (a' := ?_) #[true, true, true, true, true, false, false, false, false, false, false, false, false, false] rfl rfl (by kernel_rfl) (fun _ _ _ h => h) (Or.inl ⟨by rfl, ?_⟩) ?_ ?_
        rotate_left
        · intro w'
          go_simp
          with_reducible rfl
        rotate_left
        · simp only [Act.put, List.setIfInBounds_toArray, List.set_cons_zero, List.set_cons_succ, i64_w, i32_w]
          rfl
        refine pure_ (i := 5) (N := some 48) (v := ?_) (a' := ?_) #[true, true, true, true, true, true, false, false, false, false, false, false, false, false] rfl rfl (by kernel_rfl) (fun _ _ _ h => h) (Or.inl ⟨by rfl, ?_⟩) ?_ ?_
        rotate_left
        · intro w'
          go_simp
          with_reducible rfl
        rotate_left
        · simp only [Act.put, List.setIfInBounds_toArray, List.set_cons_zero, List.set_cons_succ, i64_w, i32_w]
          rfl
        refine pure_ (i := 8) (N := some 51) (v := ?_) (a' := ?_) #[true, true, true, true, true, true, false, false, true, false, false, false, false, false] rfl rfl (by kernel_rfl) (fun _ _ _ h => h) (Or.inl ⟨by rfl, ?_⟩) ?_ ?_
        rotate_left
        · intro w'
          go_simp
          with_reducible rfl
        rotate_left
        · simp only [Act.put, List.setIfInBounds_toArray, List.set_cons_zero, List.set_cons_succ, i64_w, i32_w]
          rfl
        refine pure_ (i := 9) (N := some 52) (v := ?_) (a' := ?_) #[true, true, true, true, true, true, false, false, true, true, false, false, false, false] rfl rfl (by kernel_rfl) (fun _ _ _ h => h) (Or.inl ⟨by rfl, ?_⟩) ?_ ?_
        rotate_left
        · intro w'
          go_simp
          with_reducible rfl
        rotate_left
        · simp only [Act.put, List.setIfInBounds_toArray, List.set_cons_zero, List.set_cons_succ, i64_w, i32_w]
          rfl
        refine take_ (i := 6) (N := some 49) (v := ?_) (a' := ?_) #[true, true, true, true, true, true, true, false, true, true, false, false, false, false] rfl rfl (by kernel_rfl) (fun _ _ _ h => h) (Or.inl ⟨by rfl, ?_⟩) hHeld ?_ ?_
        rotate_left
        · rintro w' ⟨s0, s1⟩
          go_simp
          with_reducible rfl
        rotate_left
        · simp only [Act.put, List.setIfInBounds_toArray, List.set_cons_zero, List.set_cons_succ, i64_w, i32_w]
          rfl
        refine pure_ (i := 7) (N := some 50) (v := ?_) (a' := ?_) #[true, true, true, true, true, true, true, true, true, true, false, false, false, false] rfl rfl (by kernel_rfl) (fun _ _ _ h => h) (Or.inl ⟨by rfl, ?_⟩) ?_ ?_
        rotate_left
        · intro w'
          go_simp
          with_reducible rfl
        rotate_left
        · simp only [Act.put, List.setIfInBounds_toArray, List.set_cons_zero, List.set_cons_succ, i64_w, i32_w]
          rfl
        refine take_ (i := 10) (N := some 53) (v := ?_) (a' := ?_) #[true, true, true, true, true, true, true, true, true, true, true, false, false, false] rfl rfl (by kernel_rfl) (fun _ _ _ h => h) (Or.inl ⟨by rfl, ?_⟩) hHeld ?_ ?_
        rotate_left
        · rintro w' ⟨s0, s1⟩
          go_simp
          with_reducible rfl
        rotate_left
        · simp only [Act.put, List.setIfInBounds_toArray, List.set_cons_zero, List.set_cons_succ, i64_w, i32_w]
          rfl
        refine pure_ (i := 11) (N := some 54) (v := ?_) (a' := ?_) #[true, true, true, true, true, true, true, true, true, true, true, true, false, false] rfl rfl (by kernel_rfl) (fun _ _ _ h => h) (Or.inl ⟨by rfl, ?_⟩) ?_ ?_
        rotate_left
        · intro w'
          go_simp
          with_reducible rfl
        rotate_left
        · simp only [Act.put, List.setIfInBounds_toArray, List.set_cons_zero, List.set_cons_succ, i64_w, i32_w]
          rfl
        refine pure_ (i := 12) (N := some 55) (v := ?_) (a' := ?_) #[true, true, true, true, true, true, true, true, true, true, true, true, true, false] rfl rfl (by kernel_rfl) (fun _ _ _ h => h) (Or.inl ⟨by rfl, ?_⟩) ?_ ?_
        rotate_left
        · intro w'
          go_simp
          with_reducible rfl
        rotate_left
        · simp only [Act.put, List.setIfInBounds_toArray, List.set_cons_zero, List.set_cons_succ, i64_w, i32_w]
          rfl
        refine pure_ (i := 13) (N := some 56) (v := ?_) (a' := ?_) #[true, true, true, true, true, true, true, true, true, true, true, true, true, true] rfl rfl (by kernel_rfl) (fun _ _ _ h => h) (Or.inl ⟨by rfl, ?_⟩) ?_ ?_
        rotate_left
        · intro w'
          go_simp
          with_reducible rfl
        rotate_left
        · simp only [Act.put, List.setIfInBounds_toArray, List.set_cons_zero, List.set_cons_succ, i64_w, i32_w]
          rfl
        refine done_ (by kernel_rfl) ?_

        go_wp2
        go_roundg gk
        case measure => exact Nat.lt_succ_self _
        case rel => exact ⟨k + 1, _, _, _, rfl, (Nat.add_right_comm k 1 gk).trans hHK.out, hM6.later (Nat.le_refl _) (⟨rfl, rfl, rfl, Nat.le_refl _, fun _ _ => rfl⟩ : Below w6.heap.size w6 w6.drew), hgc6⟩
      · have hbd : ck < 1 ∨ 10000 < ck := by omega
        go_upto_region 11 with (go_at_call 8; with_reducible refine (new_bad ck wr hbd).mono ?_; rintro e w3 ⟨rfl, hB3⟩; obtain ⟨b1, b2⟩ := (hM.arrb.keep (hB3.block gb (by omega))).cell hk)
        obtain ⟨w4, hw4⟩ : ∃ w4, w4 = w3.setCell ⟨gb, k, none⟩ (.pointer none) := ⟨_, rfl⟩
        rw [← hw4]
        have e4 : w4.heap.size = w3.heap.size := by rw [hw4]; simp [World.setCell]
        have hgc4 : w4.heap[gc]? = some (.cells #[.int .i64 one, .int .i64 two] 43 (0, 0)) := by
          rw [hw4]
          exact (setCell_block _ _ _ _ hgcb).trans ((hB3.block gc (by omega)).trans hgc)
        have hck4 : w4.cell? ⟨gc, k, none⟩ = some (.int .i64 ck) := (World.cell?_of_block (a := ⟨gc, k, none⟩) (hgc4.trans hgc.symm)).trans hck
        have har4 : PArr w4 gr 46 rp := by rw [hw4]; exact (hM.arrr.keep (hB3.block gr (by omega))).keep (setCell_block _ _ _ _ hlt.2.2.2.2.1.symm)
        replace hw4 := Aside0.mk hw4
        go_upto_region 12 with (go_at_call 14; with_reducible refine (rnew_bad ck w4 hbd).mono ?_; rintro e w5 ⟨rfl, hB5⟩; obtain ⟨a1, a2⟩ := (har4.keep (hB5.block gr (by have := hB3.size; omega))).cell hk)
        obtain ⟨w6, hw6⟩ : ∃ w6, w6 = w5.setCell ⟨gr, k, none⟩ (.pointer none) := ⟨_, rfl⟩
        rw [← hw6]
        have hs : Slot 0 w6 (fun _ => False) none none := .inl ⟨rfl, rfl, fun _ h => h⟩
        have hM6 : MInv 0 w.heap.size B2 w gb gr (upd F k (fun _ => False)) (upd bp k none) (upd rp k none) w6 := by
          rw [hw6] at hs ⊢
          rw [hw4.out] at hB5
          exact hM.put hk none none hB3 hB5 hs (fun i hi => hi.elim)
        have hgc6 : w6.heap[gc]? = some (.cells #[.int .i64 one, .int .i64 two] 43 (0, 0)) := by
          rw [hw6]
          exact (setCell_block _ _ _ _ hgcr).trans ((hB5.block gc (by have := hB3.size; omega)).trans hgc4)
        have x1 : w6.cell? ⟨gb, k, none⟩ = some (.pointer none) := by have := (hM6.arrb.cell hk).1; simpa [upd] using this
        have x2 : w6.cell? ⟨gr, k, none⟩ = some (.pointer none) := by have := (hM6.arrr.cell hk).1; simpa [upd] using this
        clear hw6 hw4 hs hgc4 hck4 har4 a1 a2 b1 b2
        refine start_ (n := 14) (S := fun w' => w'.cell? ⟨gb, k, none⟩ = some (.pointer none) ∧ w'.cell? ⟨gr, k, none⟩ = some (.pointer none)) (ds := []) #[false, false, false, false, false, false, false, false, false, false, false, false, false, false] (by kernel_rfl) rfl rfl ⟨x1, x2⟩ (fun hHeld => ?_)
        refine pure_ (i := 0) (N := some 43) (v := ?_) (a' := ?_) #[true, false, false, false, false, false, false, false, false, false, false, false, false, false] rfl rfl (by kernel_rfl) (fun _ _ _ h => h) (Or.inl ⟨by rfl, ?_⟩) ?_ ?_
        rotate_left
        · intro w'
          go_simp
          with_reducible rfl
        rotate_left
        · simp only [Act.put, List.setIfInBounds_toArray, List.set_cons_zero, List.set_cons_succ, i64_w, i32_w]
          rfl
        refine pure_ (i := 1) (N := some 44) (v := ?_) (a' := ?_) #[true, true, false, false, false, false, false, false, false, false, false, false, false, false] rfl rfl (by kernel_rfl) (fun _ _ _ h => h) (Or.inl ⟨by rfl, ?_⟩) ?_ ?_
        rotate_left
        · intro w'
          go_simp
          with_reducible rfl
        rotate_left
        · simp only [Act.put, List.setIfInBounds_toArray, List.set_cons_zero, List.set_cons_succ, i64_w, i32_w]
          rfl
        refine pure_ (i := 2) (N := some 45) (v := ?_) (a' := ?_) #[true, true, true, false, false, false, false, false, false, false, false, false, false, false] rfl rfl (by kernel_rfl) (fun _ _ _ h => h) (Or.inl ⟨by rfl, ?_⟩) ?_ ?_
        rotate_left
        · intro w'
          go_simp
          with_reducible rfl
        rotate_left
        · simp only [Act.put, List.setIfInBounds_toArray, List.set_cons_zero, List.set_cons_succ, i64_w, i32_w]
          rfl
        refine pure_ (i := 3) (N := some 46) (v := ?_) (a' := ?_) #[true, true, true, true, false, false, false, false, false, false, false, false, false, false] rfl rfl (by kernel_rfl) (fun _ _ _ h => h) (Or.inl ⟨by rfl, ?_⟩) ?_ ?_
        rotate_left
        · intro w'
          go_simp
          with_reducible rfl
        rotate_left
        · simp only [Act.put, List.setIfInBounds_toArray, List.set_cons_zero, List.set_cons_succ, i64_w, i32_w]
          rfl
        refine pure_ (i := 4) (N := some 47) (v := ?_) (a' := ?_) #[true, true, true, true, true, false, false, false, false, false, false, false, false, false] rfl rfl (by kernel_rfl) (fun _ _ _ h => h) (Or.inl ⟨by rfl, ?_⟩) ?_ ?_
        rotate_left
        · intro w'
          go_simp
          with_reducible rfl
        rotate_left
        · simp only [Act.put, List.setIfInBounds_toArray, List.set_cons_zero, List.set_cons_succ, i64_w, i32_w]
          rfl
        refine pure_ (i := 5) (N := some 48) (v := ?_) (a' := ?_) #[true, true, true, true, true, true, false, false, false, false, false, false, false, false] rfl rfl (by kernel_rfl) (fun _ _ _ h => h) (Or.inl ⟨by rfl, ?_⟩) ?_ ?_
        rotate_left
        · intro w'
          go_simp
          with_reducible rfl
        rotate_left
        · simp only [Act.put, List.setIfInBounds_toArray, List.set_cons_zero, List.set_cons_succ, i64_w, i32_w]
          rfl
        refine pure_ (i := 8) (N := some 51) (v := ?_) (a' := ?_) #[true, true, true, true, true, true, false, false, true, false, false, false, false, false] rfl rfl (by kernel_rfl) (fun _ _ _ h => h) (Or.inl ⟨by rfl, ?_⟩) ?_ ?_
        rotate_left
        · intro w'
          go_simp
          with_reducible rfl
        rotate_left
        · simp only [Act.put, List.setIfInBounds_toArray, List.set_cons_zero, List.set_cons_succ, i64_w, i32_w]
          rfl
        refine pure_ (i := 9) (N := some 52) (v := ?_) (a' := ?_) #[true, true, true, true, true, true, false, false, true, true, false, false, false, false] rfl rfl (by kernel_rfl) (fun _ _ _ h => h) (Or.inl ⟨by rfl, ?_⟩) ?_ ?_
        rotate_left
        · intro w'
          go_simp
          with_reducible rfl
        rotate_left
        · simp only [Act.put, List.setIfInBounds_toArray, List.set_cons_zero, List.set_cons_succ, i64_w, i32_w]
          rfl
        refine take_ (i := 6) (N := some 49) (v := ?_) (a' := ?_) #[true, true, true, true, true, true, true, false, true, true, false, false, false, false] rfl rfl (by kernel_rfl) (fun _ _ _ h => h) (Or.inl ⟨by rfl, ?_⟩) hHeld ?_ ?_
        rotate_left
        · rintro w' ⟨s0, s1⟩
          go_simp
          with_reducible rfl
        rotate_left
        · simp only [Act.put, List.setIfInBounds_toArray, List.set_cons_zero, List.set_cons_succ, i64_w, i32_w]
          rfl
        refine pure_ (i := 7) (N := some 50) (v := ?_) (a' := ?_) #[true, true, true, true, true, true, true, true, true, true, false, false, false, false] rfl rfl (by kernel_rfl) (fun _ _ _ h => h) (Or.inl ⟨by rfl, ?_⟩) ?_ ?_
        rotate_left
        · intro w'
          go_simp
          with_reducible rfl
        rotate_left
        · simp only [Act.put, List.setIfInBounds_toArray, List.set_cons_zero, List.set_cons_succ, i64_w, i32_w]
          rfl
        refine take_ (i := 10) (N := some 53) (v := ?_) (a' := ?_) #[true, true, true, true, true, true, true, true, true, true, true, false, false, false] rfl rfl (by kernel_rfl) (fun _ _ _ h => h) (Or.inl ⟨by rfl, ?_⟩) hHeld ?_ ?_
        rotate_left
        · rintro w' ⟨s0, s1⟩
          go_simp
          with_reducible rfl
        rotate_left
        · simp only [Act.put, List.setIfInBounds_toArray, List.set_cons_zero, List.set_cons_succ, i64_w, i32_w]
          rfl
        refine pure_ (i := 11) (N := some 54) (v := ?_) (a' := ?_) #[true, true, true, true, true, true, true, true, true, true, true, true, false, false] rfl rfl (by kernel_rfl) (fun _ _ _ h => h) (Or.inl ⟨by rfl, ?_⟩) ?_ ?_
        rotate_left
        · intro w'
          go_simp
          with_reducible rfl
        rotate_left
        · simp only [Act.put, List.setIfInBounds_toArray, List.set_cons_zero, List.set_cons_succ, i64_w, i32_w]
          rfl
        refine pure_ (i := 12) (N := some 55) (v := ?_) (a' := ?_) #[true, true, true, true, true, true, true, true, true, true, true, true, true, false] rfl rfl (by kernel_rfl) (fun _ _ _ h => h) (Or.inl ⟨by rfl, ?_⟩) ?_ ?_
        rotate_left
        · intro w'
          go_simp
          with_reducible rfl
        rotate_left
        · simp only [Act.put, List.setIfInBounds_toArray, List.set_cons_zero, List.set_cons_succ, i64_w, i32_w]
          rfl
        refine pure_ (i := 13) (N := some 56) (v := ?_) (a' := ?_) #[true, true, true, true, true, true, true, true, true, true, true, true, true, true] rfl rfl (by kernel_rfl) (fun _ _ _ h => h) (Or.inl ⟨by rfl, ?_⟩) ?_ ?_
        rotate_left
        · intro w'
          go_simp
          with_reducible rfl
        rotate_left
        · simp only [Act.put, List.setIfInBounds_toArray, List.set_cons_zero, List.set_cons_succ, i64_w, i32_w]
          rfl
        refine done_ (by kernel_rfl) ?_

        go_wp2
        go_roundg gk
        case measure => exact Nat.lt_succ_self _
        case rel => exact ⟨k + 1, _, _, _, rfl, (Nat.add_right_comm k 1 gk).trans hHK.out, hM6.later (Nat.le_refl _) (⟨rfl, rfl, rfl, Nat.le_refl _, fun _ _ => rfl⟩ : Below w6.heap.size w6 w6.drew), hgc6⟩
end Go.Proofs.Ytgndgjjejgbmoaa.Bok
