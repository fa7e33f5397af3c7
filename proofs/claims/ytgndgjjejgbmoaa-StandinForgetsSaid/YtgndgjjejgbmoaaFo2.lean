/- StandinForgets: the walk. -/
import Derived.Test.YtgndgjjejgbmoaaFo1
namespace Go.Proofs.Ytgndgjjejgbmoaa.Bok
open Go Go.RowKit Go.Maps Go.Proofs.YtgndgjjejgbmoaaW.PrintWords Go.Proofs.YtgndgjjejgbmoaaW.PrintLast Go.Proofs.YtgndgjjejgbmoaaW.PrintMore PStandinHolds
set_option linter.unusedSimpArgs false
set_option linter.unusedVariables false
/-- A row of one-cell elements that is read. -/
def RowE {α : Type} (enc : α → Value) (w' : World) (v : Value) (xs : List α) : Prop := ∃ A cp, v = .slice A xs.length cp ∧ ∀ k (h : k < xs.length), ∃ ad, A = some ad ∧ w'.cell? (ad.add k) = some (enc xs[k])
theorem add_block (a : Addr) (n : Nat) : (a.add n).block = a.block := by unfold Addr.add; split <;> rfl
theorem RowE.keep {α : Type} {enc : α → Value} {w1 w2 : World} {v : Value} {xs : List α} (h : RowE enc w1 v xs) (hk : ∀ b, v.ownBlock = some b → w2.heap[b]? = w1.heap[b]?) : RowE enc w2 v xs := by
  obtain ⟨A, cp, rfl, hc⟩ := h
  refine ⟨A, cp, rfl, fun k hk' => ?_⟩
  obtain ⟨ad, rfl, hx⟩ := hc k hk'
  exact ⟨ad, rfl, (World.cell?_of_block (by rw [add_block]; exact hk _ rfl)).trans hx⟩
theorem RowE.nil {α : Type} (enc : α → Value) (w : World) : RowE enc w (.slice none 0 0) [] := ⟨none, 0, rfl, fun k hk => absurd hk (Nat.not_lt_zero k)⟩
theorem RowE.of_own {α : Type} {enc : α → Value} {w : World} {base : Nat} {e : TypeId} {v : Value} {xs : List α} (h : w.ownsRow base e 1 v xs.length (xs.map enc)) : RowE enc w v xs := by
  rcases h.2 with ⟨e1, e2⟩ | ⟨g, cap, cur, e1, e2⟩
  · exact ⟨none, 0, by rw [e1, e2], fun k hk => by omega⟩
  · subst e1
    refine ⟨_, _, rfl, fun k hk => ⟨_, rfl, ?_⟩⟩
    exact h.cells (g := g) rfl _ _ (by rw [List.getElem?_map, List.getElem?_eq_getElem hk]; rfl)
/-- All but the first. -/
theorem RowE.tail {α : Type} {enc : α → Value} {w : World} {b cp : Nat} {x : α} {xs : List α} {n : Nat} (h : RowE enc w (.slice (some ⟨b, 0, none⟩) n cp) (x :: xs)) (m : Nat) (hm : m = xs.length) : RowE enc w (.slice (some ⟨b, 1, none⟩) m (cp - 1)) xs := by
  subst hm
  obtain ⟨A, cp', e, hc⟩ := h
  injection e with e _ _
  subst e
  refine ⟨_, _, rfl, fun k hk => ⟨_, rfl, ?_⟩⟩
  obtain ⟨ad, e, hx⟩ := hc (k + 1) (by rw [List.length_cons]; omega)
  injection e with e
  subst e
  rw [Addr.add_lit] at hx ⊢
  rw [Nat.zero_add] at hx
  rw [Nat.add_comm 1 k]
  exact hx
theorem own_apart {w : World} {b1 b2 e1 e2 s1 s2 n1 n2 : Nat} {v1 v2 : Value} {x1 x2 : List Value} (h1 : w.ownsRow b1 e1 s1 v1 n1 x1) (h2 : w.ownsRow b2 e2 s2 v2 n2 x2) (hne : e1 ≠ e2) : v1.ownBlock = none ∨ v1.ownBlock ≠ v2.ownBlock := by
  cases hb : v1.ownBlock with
  | none => exact .inl rfl
  | some b =>
    refine .inr (fun e => ?_)
    obtain ⟨c1, k1⟩ := own_typed h1 b hb
    obtain ⟨c2, k2⟩ := own_typed h2 b e.symm
    rw [k1] at k2
    injection k2 with k2
    injection k2 with _ k2
    exact hne k2
theorem own_cap {w : World} {base e s n c : Nat} {a : Option Addr} {xs : List Value} (h : w.ownsRow base e s (.slice a n c) n xs) : n ≤ c := by
  rcases h.2 with ⟨e1, e2⟩ | ⟨g, cap, cur, e1, _, _, e4, _⟩
  · omega
  · injection e1 with _ _ e1
    omega
theorem info9 : (Try.prog.info? 9).map (fun i => (i.zero, i.size, i.bytes)) = some (some (.string ByteArray.empty), 1, 16) := by kernel_rfl
/-- Numbers that are read. -/
def Ints (w : World) (A : Option Addr) (T : List Int) : Prop := ∀ i (h : i < T.length), I64 T[i] ∧ ∃ ad, A = some ad ∧ w.cell? (ad.add i) = some (.int .i64 T[i])
def nval (S : St) (C : ByteArray) (l : List ByteArray) : Int := if l.any (fun d => decide (d = C)) = true then ((S.get C).length : Int) + 1 else 1
def lensOf (S : St) (row : List ByteArray) : List Int := row.map fun d => ((S.get d).length : Int)
theorem lensOf_len (S : St) (row : List ByteArray) : (lensOf S row).length = row.length := List.length_map _
theorem lensOf_get (S : St) (row : List ByteArray) (k : Nat) (h : k < (lensOf S row).length) (h2 : k < row.length) : (lensOf S row)[k] = ((S.get row[k]).length : Int) := by simp [lensOf]
theorem others_snoc (C D : ByteArray) (l : List ByteArray) : others C (l ++ [D]) = others C l ++ (if D = C then [] else [D]) := by
  unfold others
  rw [List.filter_append]
  congr 1
  by_cases h : D = C
  · rw [if_pos h]; simp [h]
  · rw [if_neg h]; simp [h]
theorem lensOf_snoc (S : St) (l : List ByteArray) (D : ByteArray) : lensOf S (l ++ [D]) = lensOf S l ++ [((S.get D).length : Int)] := by unfold lensOf; rw [List.map_append]; rfl
/-- What the row's reading finds. -/
def TRel (B : Nat) (w0 wT : World) (Z : Nat → Prop) (p m mo : Nat) (place last : Int) (S : St) (top : Nat) (kq : Nat) (v21 : Value) (w' : World) : Prop :=
  ∃ k : Nat, v21 = .int .i64 k ∧ k + kq = top ∧ At B w0 Z p m mo place last S w' ∧ ∀ x, Z x → w'.heap[x]? = wT.heap[x]?
theorem RowE.cell {α : Type} {enc : α → Value} {w : World} {a : Addr} {n c : Nat} {xs : List α} (h : RowE enc w (.slice (some a) n c) xs) (k : Nat) (hk : k < xs.length) : w.cell? (a.add k) = some (enc xs[k]) := by
  obtain ⟨A, c, e, hc⟩ := h
  injection e with e _ _
  subst e
  obtain ⟨ad, e, hx⟩ := hc k hk
  injection e with e
  subst e
  exact hx
/-- What a round finds. -/
def FRel (B : Nat) (w0 : World) (g p m mo : Nat) (top : Nat) (kq : Nat) (v10 v11 v12 : Value) (w' : World) : Prop :=
  ∃ (i : Nat) (place last : Int) (S : St) (row : List ByteArray), v12 = .int .i64 i ∧ i + kq = top ∧ RowE .string w' v10 row ∧ RowE (.int .i64) w' v11 (lensOf S row) ∧
    w'.heap[g]? = some (.cells #[.int .i64 10, .int .i64 1000, .int .i64 100000, .int .i64 100000] 23 (0, 0)) ∧ At B w0 (fun x => x = g ∨ v10.ownBlock = some x ∨ v11.ownBlock = some x) p m mo place last S w' ∧ Good i place S ∧ FInv i mo place last S row
/-- What the row of others finds. -/
def GRel (w7 : World) (C : ByteArray) (S : St) (row : List ByteArray) (kq : Nat) (v15 v16 v17 v18 : Value) (w' : World) : Prop :=
  ∃ k : Nat, v18 = .int .i64 k ∧ k + kq = row.length ∧ v15 = .int .i64 (nval S C (row.take k)) ∧
    w'.ownsRow w7.heap.size 9 1 v16 (others C (row.take k)).length ((others C (row.take k)).map .string) ∧ w'.ownsRow w7.heap.size 3 1 v17 (lensOf S (others C (row.take k))).length ((lensOf S (others C (row.take k))).map (.int .i64)) ∧ Below w7.heap.size w7 w'
set_option maxRecDepth 100000 in
set_option maxHeartbeats 2000000 in
theorem forgets_calls (w : World) (cards : Int) (hcards : I64 cards) (A : Option Addr) (cp : Nat) (T : List Int) (hT : Ints w A T) :
    Calls Try.prog 6 #[.int .i64 cards, .slice A T.length cp] w fun e w' => e = .returned (.bool true) ∧ Below w.heap.size w w' := by
  obtain ⟨mo, hmo1, hmo9, hcm⟩ : ∃ mo : Nat, 1 ≤ mo ∧ mo ≤ 9 ∧ ∀ w, Calls Try.prog 11 #[.int .i64 cards, .int .i64 9] w fun e w' => e = .returned (.int .i64 ((mo : Int) - 1)) ∧ Drawn0 w w' := by
    have hr := pick_range cards 9 (by decide)
    refine ⟨(pickI cards 9 + 1).toNat, by omega, by omega, fun w => ?_⟩
    have e : (((pickI cards 9 + 1).toNat : Nat) : Int) - 1 = pickI cards 9 := by rw [Int.toNat_of_nonneg (by omega)]; omega
    rw [e]
    exact pick_calls cards 9 hcards (by decide) w
  have em : wrap64 (1 + ((mo : Int) - 1)) = mo := (wrap_id (by omega) (by omega)).trans (by omega)
  have em2 : 1 + ((mo : Int) - 1) = mo := by omega
  have hNew : ∀ w' : World, Below w.heap.size w w' → Calls Try.prog 8 #[.int .i64 mo] w' fun e w'' => ∃ p m, e = .returned (.tuple #[.pointer (some ⟨p, 0, none⟩), .int .i64 0]) ∧ At w.heap.size w (fun _ => False) p m mo 0 0 [] w'' ∧ Keep (fun _ => False) w' w'' :=
    fun w' hb => At.new hb hb.size (fun i hi => hi.elim) mo (by omega) (by omega)
  go_enter Try.func6, Try.ntmps6
  go_upto_region 4 with (first
    | (go_at_call 7; with_reducible refine (known_calls _).mono ?_; rintro e w2 ⟨rfl, hB2⟩)
    | (go_at_call 11; with_reducible refine (hcm _).mono ?_; rintro e w3 ⟨rfl, k3, rfl⟩)
    | (go_at_call 8; with_reducible refine (hNew _ (pw_below_drewN hB2 k3)).mono ?_; rintro e w4 ⟨p, m, rfl, hA, hK⟩))
  go_upto_region 7 with (fail)
  obtain ⟨w5, hw5⟩ : ∃ w5, w5 = w4.alloc (.cells #[.int .i64 10, .int .i64 1000, .int .i64 100000, .int .i64 100000] 23) := ⟨_, rfl⟩
  rw [← hw5]
  have hA5 : At w.heap.size w (fun x => x = w4.heap.size ∨ (Value.slice none 0 0).ownBlock = some x ∨ (Value.slice none 0 0).ownBlock = some x) p m mo 0 0 [] w5 := by
    refine hA.turn (Chg.of_grown (by rw [hw5]; exact World.grownBy_alloc _ _ none) (fun _ e => by cases e)) (fun i hi => .inr ?_)
    rcases hi with hi | hi | hi
    · subst hi
      rw [hw5]
      exact ⟨Nat.le_refl _, Nat.lt_of_lt_of_eq (Nat.lt_succ_self _) (Array.size_push _).symm⟩
    · cases hi
    · cases hi
  have hbox5 : w5.heap[w4.heap.size]? = some (.cells #[.int .i64 10, .int .i64 1000, .int .i64 100000, .int .i64 100000] 23 (0, 0)) := by rw [hw5]; exact heap_alloc_new _ _
  clear hw5 hA hK em em2
  generalize w4.heap.size = g at hA5 hbox5 ⊢
  go_wp2
  go_loopg [10, 11, 12] (min T.length 150) (fun kq v10 v11 v12 w' => FRel w.heap.size w g p m mo (min T.length 150) kq v10 v11 v12 w')
  case atStart =>
    exact ⟨0, 0, 0, [], [], rfl, Nat.zero_add _, RowE.nil _ _, RowE.nil _ _, hbox5, hA5, Good.nil, ⟨fun c => ⟨fun h => (by cases h), fun h => (by cases h)⟩, rfl, Nat.zero_le _, List.Pairwise.nil, fun c a ha => (by cases ha), fun c hc => (by cases hc), Int.le_refl _⟩⟩
  case round =>
    obtain ⟨i, place, last, S, row, rfl, hK, hR10, hR11, hBx, hAt, hG, hI⟩ := hrel
    cases gk with
    | zero =>
      by_cases hi : (i : Int) < (T.length : Int)
      · have d1 : decide ((i : Int) < (T.length : Int)) = true := decide_eq_true hi
        have d2 : decide ((i : Int) < 150) = false := decide_eq_false (by omega)
        go_wp2
        go_ret
        exact ⟨rfl, hAt.below⟩
      · have d1 : decide ((i : Int) < (T.length : Int)) = false := decide_eq_false hi
        go_wp2
        go_ret
        exact ⟨rfl, hAt.below⟩
    | succ gk =>
      have hiT : i < T.length := by omega
      have hi2 : i < 150 := by omega
      have d1 : decide ((i : Int) < (T.length : Int)) = true := decide_eq_true (by omega)
      have d2 : decide ((i : Int) < 150) = true := decide_eq_true (by omega)
      have c2 : (0 ≤ (i : Int)) = True := eq_true (by omega)
      have c3 : ((i : Int) < (T.length : Int)) = True := eq_true (by omega)
      have c4 : (i < T.length) = True := eq_true hiT
      obtain ⟨hi0, ad, rfl, t0⟩ := hT i hiT
      obtain ⟨tc, htc⟩ : ∃ tc, T[i] = tc := ⟨_, rfl⟩
      rw [htc] at hi0 t0
      clear htc hT
      have u0 := pw_cell_below hAt.below t0
      obtain ⟨C, hC5, hcC⟩ : ∃ C : ByteArray, C.size = 5 ∧ ∀ w, Calls Try.prog 10 #[.int .i64 tc, .int .i64 14] w fun e w' => e = .returned (.string C) ∧ Below w.heap.size w w' :=
        ⟨_, cardB_size _, fun w => card_calls tc 14 hi0 (by decide) w⟩
      have hCs : C.size ≤ maxLen := by rw [hC5]; decide
      have hE := hI.ask (by omega) (c := C) (by omega) (hG.get C).1
      have hnd := hAt.nodup
      obtain ⟨S1, hS1⟩ : ∃ S1, S1 = S.put C (S.get C ++ [⟨place + 1, 1, i⟩]) := ⟨_, rfl⟩
      obtain ⟨hF1, hg2, hg1⟩ := hI.put hnd C hS1
      have hAsk : ∀ w', At w.heap.size w (fun x => x = g ∨ u10.ownBlock = some x ∨ u11.ownBlock = some x) p m mo place last S w' → Calls Try.prog 13 #[.pointer (some ⟨p, 0, none⟩), .agg #[.int .i64 10, .int .i64 1000, .int .i64 100000, .int .i64 100000], .string C, .int .i64 1, .int .i64 i] w' fun e w'' => e = .returned (.int .i64 0) ∧ ∃ S', (((S1.length : Int) ≤ mo ∧ S' = S1) ∨ ((mo : Int) < (S1.length : Int) ∧ ∃ c0, Oldest S1 c0 ∧ S' = S1.del c0)) ∧ At w.heap.size w (fun x => x = g ∨ u10.ownBlock = some x ∨ u11.ownBlock = some x) p m mo (place + 1) i S' w'' ∧ Keep (fun x => x = g ∨ u10.ownBlock = some x ∨ u11.ownBlock = some x) w' w'' ∧ Good (i + 1) (place + 1) S' := by
        intro w' hA
        have := hA.ask hG (by omega) 10 1000 100000 100000 C hCs 1 i (by decide) (by decide) (by omega)
        rw [hE] at this
        refine this.mono ?_
        rintro e w'' ⟨rfl, a, b, d, hT, h1, h2, h3⟩
        rcases hT with ⟨h0, _⟩ | ⟨_, rfl, rfl, hap⟩
        · exact absurd hE h0
        · unfold Approved at hap
          rw [← hS1] at hap
          exact ⟨rfl, d, hap, h1, h2, h3⟩
      go_upto_region 16 with (first
        | (go_at_call 10; with_reducible refine (hcC _).mono ?_; rintro e wa ⟨rfl, hBa⟩; obtain ⟨y0, y1, y2, y3⟩ := box_cells ((hBa.block _ (Array.getElem?_eq_some_iff.mp hBx).1).trans hBx) rfl)
        | (go_at_call 13; with_reducible refine (hAsk wa (hAt.step (Chg.of_below hBa))).mono ?_; rintro e w7 ⟨rfl, S', hAp, hA7, hK7, hG7⟩))
      have k7 : ∀ x, (x = g ∨ u10.ownBlock = some x ∨ u11.ownBlock = some x) → w7.heap[x]? = wr.heap[x]? := fun x hx => (Keep.blk hK7 hx).trans (hBa.block x (hAt.own x hx).2)
      replace hR10 := hR10.keep (fun b hb => k7 b (.inr (.inl hb)))
      replace hR11 := hR11.keep (fun b hb => k7 b (.inr (.inr hb)))
      replace hBx := (k7 g (.inl rfl)).trans hBx
      have hpos := hA7.size
      have hGl : ∀ d, (S.get d).length ≤ i := fun d => (hG.get d).1
      have hmo := hI.most
      have hszr : ∀ d ∈ row, d.size ≤ maxLen := fun d hd => by
        obtain ⟨y, hy, rfl⟩ := mem_of_has ((hI.keys d).mpr hd)
        exact (hG.card y hy).1
      clear k7 hK7 hAt hBa hAsk y0 y1 y2 y3 u0 t0 hG hE
      obtain ⟨A10, cp10, rfl, hc10⟩ := hR10
      obtain ⟨A11, cp11, rfl, hc11⟩ := hR11
      rw [lensOf_len] at hA7 ⊢
      have hII := Aside0.mk hI
      have hKK := Aside0.mk hK
      have hol : ∀ k, (others C (row.take k)).length ≤ 9 := fun k => by
        have h1 : (others C (row.take k)).length ≤ (row.take k).length := List.length_filter_le _ _
        rw [List.length_take] at h1
        omega
      clear hI hK
      go_wp2
      go_loopg [15, 16, 17, 18] row.length (fun kq v15 v16 v17 v18 w' => GRel w7 C S row kq v15 v16 v17 v18 w')
      case atStart => exact ⟨0, rfl, Nat.zero_add _, rfl, World.ownsRow_nil _ _ _ _, World.ownsRow_nil _ _ _ _, Below.refl _ _⟩
      case round =>
        obtain ⟨k, rfl, HK, rfl, hO16, hO17, hB⟩ := hrel
        cases gk with
        | zero =>
          have hkk : k = row.length := HK
          subst hkk
          rw [List.take_length] at hO16 hO17 ⊢
          have hI := hII.out
          have hnv : nval S C row = ((S.get C).length : Int) + 1 := by
            unfold nval
            split
            · rfl
            · next hno =>
              have hh : S.has C = false := by
                cases hb : S.has C with
                | false => rfl
                | true => exact absurd (List.any_eq_true.mpr ⟨C, (hI.keys C).mp hb, by simp⟩) hno
              rw [get_none hh]
              rfl
          rw [hnv]
          have hok := hol row.length
          rw [List.take_length] at hok
          have hlen : (lensOf S (others C row)).length ≤ 9 := by rw [lensOf_len]; exact hok
          have hCl := hGl C
          have q1 : ((S.get C).length : Int) ≤ 150 := by omega
          have d3 : decide ((row.length : Int) < (row.length : Int)) = false := decide_eq_false (by omega)
          have hlS : lensOf S1 (others C row ++ [C]) = lensOf S (others C row) ++ [((S.get C).length : Int) + 1] := by
            rw [lensOf_snoc, hg1]
            congr 1
            unfold lensOf
            exact List.map_congr_left (fun d hd => by rw [hg2 d (mem_others.mp hd).2])
          clear hI hII hnv hol hGl
          go_upto_region 28 with (first
            | ((with_reducible refine gate_builtin (b := .append) (xs := #[.tmp 97, .tmp 99]) rfl ?_); at_builtin; refine print_append_cells (w0 := w7) w7.heap.size rfl (.tmp 97) (.tmp 99) 61 9 (.string ByteArray.empty) 1 16 rfl Try.underlying61 info9 rfl (by decide) (by decide) _ _ _ [.string C] rfl rfl rfl (by simp [Value.oneCell']) hO16 hB hB.size (by omega) ?_; intro v1 wv hown1 hB1 hg1' hat1; have hO17v := hO17.kept hg1' (own_apart hO17 hO16 (by decide)))
            | ((with_reducible refine gate_builtin (b := .append) (xs := #[.tmp 101, .tmp 103]) rfl ?_); at_builtin; refine print_append_cells (w0 := w7) w7.heap.size rfl (.tmp 101) (.tmp 103) 60 3 (.int .i64 0) 1 8 rfl Try.underlying60 info3 rfl (by decide) (by decide) _ _ _ [.int .i64 (((S.get C).length : Int) + 1)] rfl rfl rfl (by simp [Value.oneCell']) hO17v hB1 hB1.size (by omega) ?_; intro v2 wu hown2 hB2 hg2' hat2))
          have hown1u := hown1.kept hg2' (own_apart hown1 hO17v (by decide))
          have hlt1 := hown1u.lt
          have hlt2 := hown2.lt
          obtain ⟨b10, c10, rfl, hb10, hc10'⟩ := hown1.form (Nat.succ_pos _)
          obtain ⟨b11, c11, rfl, hb11, hc11'⟩ := hown2.form (Nat.succ_pos _)
          replace hlt1 := (hlt1 b10 rfl).2
          replace hlt2 := (hlt2 b11 rfl).2
          obtain ⟨row1, hrow1⟩ : ∃ r, r = others C row ++ [C] := ⟨_, rfl⟩
          have hn1 : (others C row).length + 1 = row1.length := by rw [hrow1, List.length_append]; rfl
          have hR10 : RowE .string wu (.slice (some ⟨b10, 0, none⟩) row1.length c10) row1 := by
            rw [← hn1]
            refine RowE.of_own (base := w7.heap.size) (e := 9) ?_
            rw [hrow1, List.length_append, List.map_append]
            exact hown1u
          have hR11 : RowE (.int .i64) wu (.slice (some ⟨b11, 0, none⟩) row1.length c11) (lensOf S1 row1) := by
            rw [← hn1, ← lensOf_len S (others C row)]
            refine RowE.of_own (base := w7.heap.size) (e := 3) ?_
            rw [hrow1, hlS, List.length_append, List.map_append]
            exact hown2
          rw [lensOf_len, hn1]
          rw [← hrow1] at hF1
          have hAu : At w.heap.size w (fun x => x = g ∨ some b10 = some x ∨ some b11 = some x) p m mo (place + 1) i S' wu := by
            refine hA7.turn (Chg.of_below hB2) (fun x hx => ?_)
            rcases hx with hx | hx | hx
            · exact .inl (.inl hx)
            · injection hx with hx; subst hx; exact .inr ⟨hb10, hlt1⟩
            · injection hx with hx; subst hx; exact .inr ⟨hb11, hlt2⟩
          have hBu := (hB2.block g (Array.getElem?_eq_some_iff.mp hBx).1).trans hBx
          have hlF := hF1.len
          have hr9 : row1.length ≤ 10 := by omega
          have hrm : row1.length ≤ mo + 1 := by
            have h1 : (others C row).length ≤ row.length := List.length_filter_le _ _
            omega
          have hnd1 : (S1.map (·.1)).Nodup := by rw [hS1]; exact nodup_put hnd C _
          have hcap : row1.length ≤ c10 := by rw [← hn1]; exact own_cap hown1u
          have hcap2 : row1.length ≤ c11 := by rw [← hn1, ← lensOf_len S (others C row)]; exact own_cap hown2
          have hsz1 : ∀ d ∈ row1, d.size ≤ maxLen := fun d hd => by
            rw [hrow1] at hd
            rcases List.mem_append.mp hd with hd | hd
            · exact hszr d (mem_others.mp hd).1
            · rw [List.mem_singleton] at hd; subst hd; exact hCs
          clear hrow1 hlS hn1 hown1 hown2 hown1u hO16 hO17 hO17v hB hB1 hB2 hg1' hg2' hat1 hat2 hc10' hc11' hb10 hb11 hlt1 hlt2 hBx hA7 hc10 hc11 hS1 hg1 hg2
          have hi150 : (i : Int) ≤ 200 := by omega
          rcases hAp with ⟨hle, hSe⟩ | ⟨hgt, c0, hOld, hSe⟩
          · rw [hSe] at hAu hG7
            have d4 : decide ((mo : Int) < (row1.length : Int)) = false := decide_eq_false (by omega)
            have d4n : (mo < row1.length) = False := eq_false (by omega)
            have hFT := hF1.weak (most := mo) (by omega)
            have hAtT := hAu
            have RT10 := hR10
            have RT11 := hR11
            have hBT := hBu
            have hszF := hsz1
            clear hSe hAu hR10 hR11 hBu hF1 hsz1 hlF hle hr9 hcap hcap2 hnd1
            have hc10 := fun k (h : k < row1.length) => RT10.cell k h
            have hc11 := fun k (h : k < row1.length) => RT11.cell k (by rw [lensOf_len]; exact h)
            have hlenF := hFT.len
            go_upto_region 36 with (go_at_call 16; with_reducible refine hAtT.len.mono ?_; rintro e wl ⟨rfl, hAl, hKl⟩)
            obtain ⟨ad10, hd10⟩ : ∃ ad10 : Addr, ad10 = ⟨b10, 0, none⟩ := ⟨_, rfl⟩
            obtain ⟨ad11, hd11⟩ : ∃ ad11 : Addr, ad11 = ⟨b11, 0, none⟩ := ⟨_, rfl⟩
            rw [← hd10, ← hd11]
            rw [← hd10] at hc10
            rw [← hd11] at hc11
            have hz10 : ∀ k, (ad10.add k).block = b10 := fun k => by rw [add_block, hd10]
            have hz11 : ∀ k, (ad11.add k).block = b11 := fun k => by rw [add_block, hd11]
            have hDD := Aside0.mk (And.intro hd10 hd11)
            clear hd10 hd11
            go_wp2
            go_loopg [21] row1.length (fun kq v21 w' => TRel w.heap.size w wu (fun x => x = g ∨ some b10 = some x ∨ some b11 = some x) p m mo (place + 1) i S1 row1.length kq v21 w')
            case atStart => exact ⟨0, rfl, Nat.zero_add _, hAl, fun x hx => Keep.blk hKl hx⟩
            case round =>
              obtain ⟨k, rfl, HK, hAt, hkp⟩ := hrel
              cases gk with
              | zero =>
                have d5 : decide ((k : Int) < (row1.length : Int)) = false := decide_eq_false (by omega)
                go_wp2
                go_roundg gk
                case measure => exact Nat.lt_succ_self _
                case rel =>
                  obtain ⟨hd10, hd11⟩ := hDD.out
                  subst hd10
                  subst hd11
                  refine ⟨i + 1, place + 1, i, S1, row1, rfl, ?_, RT10.keep (fun b hb => hkp b (.inr (.inl hb))), ?_, (hkp g (.inl rfl)).trans hBT, hAt, hG7, hFT⟩
                  · exact (Nat.add_right_comm i 1 gk).trans hKK.out
                  · rw [← lensOf_len S1 row1]
                    rw [← lensOf_len S1 row1] at RT11
                    exact RT11.keep (fun b hb => hkp b (.inr (.inr hb)))
              | succ gk =>
                have hk : k < row1.length := by omega
                have d5 : decide ((k : Int) < (row1.length : Int)) = true := decide_eq_true (by omega)
                have c6 : (0 ≤ (k : Int)) = True := eq_true (by omega)
                have c7 : ((k : Int) < (row1.length : Int)) = True := eq_true (by omega)
                have c8 : (k < row1.length) = True := eq_true hk
                have x0 := hc10 k hk
                have x1 := hc11 k hk
                rw [lensOf_get S1 row1 k _ hk] at x1
                have hcks := hszF row1[k] (List.getElem_mem hk)
                obtain ⟨ck, hck⟩ : ∃ ck, row1[k] = ck := ⟨_, rfl⟩
                rw [hck] at x0 x1 hcks
                clear hck
                have hUs := hFT.used (i : Int) (by omega) (by omega) ck
                obtain ⟨nk, hnk⟩ : ∃ nk : Int, ((St.get S1 ck).length : Int) = nk := ⟨_, rfl⟩
                rw [hnk] at x1 hUs
                have hUsed : ∀ (_ : ByteArray) w', At w.heap.size w (fun x => x = g ∨ some b10 = some x ∨ some b11 = some x) p m mo (place + 1) i S1 w' → Calls Try.prog 12 #[.pointer (some ⟨p, 0, none⟩), .agg #[.int .i64 10, .int .i64 1000, .int .i64 100000, .int .i64 100000], .string ck, .int .i64 i] w' fun e w'' => e = .returned (.tuple #[.int .i64 nk, .int .i64 nk]) ∧ At w.heap.size w (fun x => x = g ∨ some b10 = some x ∨ some b11 = some x) p m mo (place + 1) i S1 w'' ∧ Keep (fun x => x = g ∨ some b10 = some x ∨ some b11 = some x) w' w'' := by
                  intro _ w' hA
                  have := hA.used hG7 (by omega) 10 1000 100000 100000 ck hcks i (by omega)
                  rw [hUs] at this
                  exact this
                obtain ⟨y0, y1, y2, y3⟩ := box_cells ((hkp g (.inl rfl)).trans hBT) rfl
                have xr : wr.cell? (ad10.add k) = some (.string ck) := (World.cell?_of_block (hkp _ (.inr (.inl (by rw [hz10]))))).trans x0
                have xm : wr.cell? (ad11.add k) = some (.int .i64 nk) := (World.cell?_of_block (hkp _ (.inr (.inr (by rw [hz11]))))).trans x1
                have hKr : ∀ wk, Keep (fun x => x = g ∨ some b10 = some x ∨ some b11 = some x) wr.drew wk → wk.cell? (ad10.add k) = some (.string ck) := fun wk hK => (World.cell?_of_block (Keep.blk hK (.inr (.inl (by rw [hz10]))))).trans xr
                have hKm : ∀ wk, Keep (fun x => x = g ∨ some b10 = some x ∨ some b11 = some x) wr.drew wk → wk.cell? (ad11.add k) = some (.int .i64 nk) := fun wk hK => (World.cell?_of_block (Keep.blk hK (.inr (.inr (by rw [hz11]))))).trans xm
                have hk200 : (k : Int) ≤ 200 := by omega
                have hHK := Aside0.mk HK
                clear HK hnk hUs x0 x1
                go_upto_region 39 with (fail)
                refine start_ (n := 13) (S := fun w' => w'.cell? ⟨g, 0, none⟩ = some (.int .i64 10) ∧ w'.cell? ⟨g, 1, none⟩ = some (.int .i64 1000) ∧ w'.cell? ⟨g, 2, none⟩ = some (.int .i64 100000) ∧ w'.cell? ⟨g, 3, none⟩ = some (.int .i64 100000) ∧ w'.cell? (ad10.add k) = some (.string ck)) (ds := []) #[false, false, false, false, false, false, false, false, false, false, false, false, false] (by kernel_rfl) rfl rfl ⟨y0, y1, y2, y3, xr⟩ (fun hHeld => ?_)
                refine pure_ (i := 0) (N := some 137) (v := ?_) (a' := ?_) #[true, false, false, false, false, false, false, false, false, false, false, false, false] rfl rfl (by kernel_rfl) (fun _ _ _ h => h) (Or.inl ⟨by rfl, ?_⟩) ?_ ?_
                rotate_left
                · intro w'
                  go_simp
                  with_reducible rfl
                rotate_left
                · simp only [Act.put, List.setIfInBounds_toArray, List.set_cons_zero, List.set_cons_succ, i64_w, i32_w]
                  rfl
                refine pure_ (i := 2) (N := some 139) (v := ?_) (a' := ?_) #[true, false, true, false, false, false, false, false, false, false, false, false, false] rfl rfl (by kernel_rfl) (fun _ _ _ h => h) (Or.inl ⟨by rfl, ?_⟩) ?_ ?_
                rotate_left
                · intro w'
                  go_simp
                  with_reducible rfl
                rotate_left
                · simp only [Act.put, List.setIfInBounds_toArray, List.set_cons_zero, List.set_cons_succ, i64_w, i32_w]
                  rfl
                refine pure_ (i := 3) (N := some 140) (v := ?_) (a' := ?_) #[true, false, true, true, false, false, false, false, false, false, false, false, false] rfl rfl (by kernel_rfl) (fun _ _ _ h => h) (Or.inl ⟨by rfl, ?_⟩) ?_ ?_
                rotate_left
                · intro w'
                  go_simp
                  with_reducible rfl
                rotate_left
                · simp only [Act.put, List.setIfInBounds_toArray, List.set_cons_zero, List.set_cons_succ, i64_w, i32_w]
                  rfl
                refine pure_ (i := 4) (N := some 141) (v := ?_) (a' := ?_) #[true, false, true, true, true, false, false, false, false, false, false, false, false] rfl rfl (by kernel_rfl) (fun _ _ _ h => h) (Or.inl ⟨by rfl, ?_⟩) ?_ ?_
                rotate_left
                · intro w'
                  go_simp
                  with_reducible rfl
                rotate_left
                · simp only [Act.put, List.setIfInBounds_toArray, List.set_cons_zero, List.set_cons_succ, i64_w, i32_w]
                  rfl
                refine pure_ (i := 6) (N := some 143) (v := ?_) (a' := ?_) #[true, false, true, true, true, false, true, false, false, false, false, false, false] rfl rfl (by kernel_rfl) (fun _ _ _ h => h) (Or.inl ⟨by rfl, ?_⟩) ?_ ?_
                rotate_left
                · intro w'
                  go_simp
                  with_reducible rfl
                rotate_left
                · simp only [Act.put, List.setIfInBounds_toArray, List.set_cons_zero, List.set_cons_succ, i64_w, i32_w]
                  rfl
                refine take_ (i := 1) (N := some 138) (v := ?_) (a' := ?_) #[true, true, true, true, true, false, true, false, false, false, false, false, false] rfl rfl (by kernel_rfl) (fun _ _ _ h => h) (Or.inl ⟨by rfl, ?_⟩) hHeld ?_ ?_
                rotate_left
                · rintro w' ⟨s0, s1, s2, s3, s4⟩
                  go_simp
                  with_reducible rfl
                rotate_left
                · simp only [Act.put, List.setIfInBounds_toArray, List.set_cons_zero, List.set_cons_succ, i64_w, i32_w]
                  rfl
                refine take_ (i := 5) (N := some 142) (v := ?_) (a' := ?_) #[true, true, true, true, true, true, true, false, false, false, false, false, false] rfl rfl (by kernel_rfl) (fun _ _ _ h => h) (Or.inl ⟨by rfl, ?_⟩) hHeld ?_ ?_
                rotate_left
                · rintro w' ⟨s0, s1, s2, s3, s4⟩
                  go_simp
                  with_reducible rfl
                rotate_left
                · simp only [Act.put, List.setIfInBounds_toArray, List.set_cons_zero, List.set_cons_succ, i64_w, i32_w]
                  rfl
                refine one_ (i := 7) (N := some 144) #[true, true, true, true, true, true, true, true, false, false, false, false, false] rfl rfl (by kernel_rfl) (by decide) (fun K hK => ?_)
                refine goes_ Try.func12 (by kernel_rfl) rfl #[.pointer (some ⟨p, 0, none⟩), .agg #[.int .i64 10, .int .i64 1000, .int .i64 100000, .int .i64 100000], .string ck, .int .i64 i] (by rfl) rfl rfl (by simp only [List.map_toArray, List.map_cons, List.map_nil]; rfl) ?_
                with_reducible refine (hUsed ck _ hAt.drew).mono ?_
                rintro e wk ⟨rfl, hAk, hKk⟩
                refine ⟨_, rfl, ?_⟩
                have z1 := hKm wk hKk
                refine hK.out _ _ ⟨Keep.cell hKk (.inl rfl) y0, Keep.cell hKk (.inl rfl) y1, Keep.cell hKk (.inl rfl) y2, Keep.cell hKk (.inl rfl) y3, hKr wk hKk⟩ (fun hHeld => ?_)
                clear hK K
                refine norm_ (a' := ?_) ?_ ?_
                rotate_left
                · show Act.put _ (some 144) _ = _
                  simp only [Act.put, List.setIfInBounds_toArray, List.set_cons_zero, List.set_cons_succ, i64_w, i32_w]
                  rfl
                refine pure_ (i := 8) (N := some 136) (v := ?_) (a' := ?_) #[true, true, true, true, true, true, true, true, true, false, false, false, false] rfl rfl (by kernel_rfl) (fun _ _ _ h => h) (Or.inl ⟨by rfl, ?_⟩) ?_ ?_
                rotate_left
                · intro w'
                  go_simp
                  with_reducible rfl
                rotate_left
                · simp only [Act.put, List.setIfInBounds_toArray, List.set_cons_zero, List.set_cons_succ, i64_w, i32_w]
                  rfl
                refine pure_ (i := 9) (N := some 145) (v := ?_) (a' := ?_) #[true, true, true, true, true, true, true, true, true, true, false, false, false] rfl rfl (by kernel_rfl) (fun _ _ _ h => h) (Or.inl ⟨by rfl, ?_⟩) ?_ ?_
                rotate_left
                · intro w'
                  go_simp
                  with_reducible rfl
                rotate_left
                · simp only [Act.put, List.setIfInBounds_toArray, List.set_cons_zero, List.set_cons_succ, i64_w, i32_w]
                  rfl
                refine pure_ (i := 10) (N := some 146) (v := ?_) (a' := ?_) #[true, true, true, true, true, true, true, true, true, true, true, false, false] rfl rfl (by kernel_rfl) (fun _ _ _ h => h) (Or.inl ⟨by rfl, ?_⟩) ?_ ?_
                rotate_left
                · intro w'
                  go_simp
                  with_reducible rfl
                rotate_left
                · simp only [Act.put, List.setIfInBounds_toArray, List.set_cons_zero, List.set_cons_succ, i64_w, i32_w]
                  rfl
                refine pure_ (i := 11) (N := some 22) (v := ?_) (a' := ?_) #[true, true, true, true, true, true, true, true, true, true, true, true, false] rfl rfl (by kernel_rfl) (fun _ _ _ h => h) (Or.inl ⟨by rfl, ?_⟩) ?_ ?_
                rotate_left
                · intro w'
                  go_simp
                  with_reducible rfl
                rotate_left
                · simp only [Act.put, List.setIfInBounds_toArray, List.set_cons_zero, List.set_cons_succ, i64_w, i32_w]
                  rfl
                refine pure_ (i := 12) (N := some 23) (v := ?_) (a' := ?_) #[true, true, true, true, true, true, true, true, true, true, true, true, true] rfl rfl (by kernel_rfl) (fun _ _ _ h => h) (Or.inl ⟨by rfl, ?_⟩) ?_ ?_
                rotate_left
                · intro w'
                  go_simp
                  with_reducible rfl
                rotate_left
                · simp only [Act.put, List.setIfInBounds_toArray, List.set_cons_zero, List.set_cons_succ, i64_w, i32_w]
                  rfl
                refine done_ (by kernel_rfl) ?_
                go_wp2
                go_roundg gk
                case measure => exact Nat.lt_succ_self _
                case rel => exact ⟨k + 1, rfl, (Nat.add_right_comm k 1 gk).trans hHK.out, hAk, fun x hx => (Keep.blk hKk hx).trans (hkp x hx)⟩
          · cases row1 with
            | nil => rw [hlF, List.length_nil] at hgt; omega
            | cons x rest =>
            obtain ⟨hcx, hFT, hgx, hgr⟩ := hF1.drop (most := mo) hnd1 hOld (by rw [List.length_cons] at hrm; omega)
            subst hcx
            rw [hSe] at hAu hG7
            rw [List.length_cons] at hcap hcap2 hR10 hR11 hlF hr9 ⊢
            have d4 : decide ((mo : Int) < ((rest.length + 1 : Nat) : Int)) = true := decide_eq_true (by omega)
            have d4n : (mo < rest.length + 1) = True := eq_true (by omega)
            have d4' : decide ((mo : Int) < (rest.length : Int) + 1) = true := decide_eq_true (by omega)
            have hn10 : (c10 = 1) = False := eq_false (by omega)
            have hn11 : (c11 = 1) = False := eq_false (by omega)
            have hn12 : (1 ≤ rest.length + 1) = True := eq_true (by omega)
            have hn13 : ((1 : Int) ≤ (rest.length : Int) + 1) = True := eq_true (by omega)
            have hn14 : ((0 : Int) < (rest.length : Int) + 1) = True := eq_true (by omega)
            have hn15 : (0 < rest.length + 1) = True := eq_true (by omega)
            have xr : wu.cell? ⟨b10, 0, none⟩ = some (.string c0) := hR10.cell 0 (by rw [List.length_cons]; exact Nat.succ_pos _)
            have hUs := hFT.used (i : Int) (by omega) (by omega) c0
            rw [hgx] at hUs
            have hxs := hsz1 c0 List.mem_cons_self
            have hUsed : ∀ w', At w.heap.size w (fun x => x = g ∨ some b10 = some x ∨ some b11 = some x) p m mo (place + 1) i (S1.del c0) w' → Calls Try.prog 12 #[.pointer (some ⟨p, 0, none⟩), .agg #[.int .i64 10, .int .i64 1000, .int .i64 100000, .int .i64 100000], .string c0, .int .i64 i] w' fun e w'' => e = .returned (.tuple #[.int .i64 0, .int .i64 0]) ∧ At w.heap.size w (fun x => x = g ∨ some b10 = some x ∨ some b11 = some x) p m mo (place + 1) i (S1.del c0) w'' ∧ Keep (fun x => x = g ∨ some b10 = some x ∨ some b11 = some x) w' w'' := by
              intro w' hA
              have := hA.used hG7 (by omega) 10 1000 100000 100000 c0 hxs i (by omega)
              rw [hgx, hUs] at this
              exact this
            obtain ⟨y0, y1, y2, y3⟩ := box_cells hBu rfl
            go_upto_region 29 with (fail)
            refine start_ (n := 12) (S := fun w' => w'.cell? ⟨g, 0, none⟩ = some (.int .i64 10) ∧ w'.cell? ⟨g, 1, none⟩ = some (.int .i64 1000) ∧ w'.cell? ⟨g, 2, none⟩ = some (.int .i64 100000) ∧ w'.cell? ⟨g, 3, none⟩ = some (.int .i64 100000) ∧ w'.cell? ⟨b10, 0, none⟩ = some (.string c0)) (ds := []) #[false, false, false, false, false, false, false, false, false, false, false, false] (by kernel_rfl) rfl rfl ⟨y0, y1, y2, y3, xr⟩ (fun hHeld => ?_)
            refine pure_ (i := 0) (N := some 110) (v := ?_) (a' := ?_) #[true, false, false, false, false, false, false, false, false, false, false, false] rfl rfl (by kernel_rfl) (fun _ _ _ h => h) (Or.inl ⟨by rfl, ?_⟩) ?_ ?_
            rotate_left
            · intro w'
              go_simp
              with_reducible rfl
            rotate_left
            · simp only [Act.put, List.setIfInBounds_toArray, List.set_cons_zero, List.set_cons_succ, i64_w, i32_w]
              rfl
            refine pure_ (i := 2) (N := some 112) (v := ?_) (a' := ?_) #[true, false, true, false, false, false, false, false, false, false, false, false] rfl rfl (by kernel_rfl) (fun _ _ _ h => h) (Or.inl ⟨by rfl, ?_⟩) ?_ ?_
            rotate_left
            · intro w'
              go_simp
              with_reducible rfl
            rotate_left
            · simp only [Act.put, List.setIfInBounds_toArray, List.set_cons_zero, List.set_cons_succ, i64_w, i32_w]
              rfl
            refine pure_ (i := 3) (N := some 113) (v := ?_) (a' := ?_) #[true, false, true, true, false, false, false, false, false, false, false, false] rfl rfl (by kernel_rfl) (fun _ _ _ h => h) (Or.inl ⟨by rfl, ?_⟩) ?_ ?_
            rotate_left
            · intro w'
              go_simp
              with_reducible rfl
            rotate_left
            · simp only [Act.put, List.setIfInBounds_toArray, List.set_cons_zero, List.set_cons_succ, i64_w, i32_w]
              rfl
            refine pure_ (i := 5) (N := some 115) (v := ?_) (a' := ?_) #[true, false, true, true, false, true, false, false, false, false, false, false] rfl rfl (by kernel_rfl) (fun _ _ _ h => h) (Or.inl ⟨by rfl, ?_⟩) ?_ ?_
            rotate_left
            · intro w'
              go_simp
              with_reducible rfl
            rotate_left
            · simp only [Act.put, List.setIfInBounds_toArray, List.set_cons_zero, List.set_cons_succ, i64_w, i32_w]
              rfl
            refine take_ (i := 1) (N := some 111) (v := ?_) (a' := ?_) #[true, true, true, true, false, true, false, false, false, false, false, false] rfl rfl (by kernel_rfl) (fun _ _ _ h => h) (Or.inl ⟨by rfl, ?_⟩) hHeld ?_ ?_
            rotate_left
            · rintro w' ⟨s0, s1, s2, s3, s4⟩
              go_simp
              with_reducible rfl
            rotate_left
            · simp only [Act.put, List.setIfInBounds_toArray, List.set_cons_zero, List.set_cons_succ, i64_w, i32_w]
              rfl
            refine take_ (i := 4) (N := some 114) (v := ?_) (a' := ?_) #[true, true, true, true, true, true, false, false, false, false, false, false] rfl rfl (by kernel_rfl) (fun _ _ _ h => h) (Or.inl ⟨by rfl, ?_⟩) hHeld ?_ ?_
            rotate_left
            · rintro w' ⟨s0, s1, s2, s3, s4⟩
              go_simp
              with_reducible rfl
            rotate_left
            · simp only [Act.put, List.setIfInBounds_toArray, List.set_cons_zero, List.set_cons_succ, i64_w, i32_w]
              rfl
            refine one_ (i := 6) (N := some 116) #[true, true, true, true, true, true, true, false, false, false, false, false] rfl rfl (by kernel_rfl) (by decide) (fun K hK => ?_)
            refine goes_ Try.func12 (by kernel_rfl) rfl #[.pointer (some ⟨p, 0, none⟩), .agg #[.int .i64 10, .int .i64 1000, .int .i64 100000, .int .i64 100000], .string c0, .int .i64 i] (by rfl) rfl rfl (by simp only [List.map_toArray, List.map_cons, List.map_nil]; rfl) ?_
            with_reducible refine (hUsed _ hAu.drew).mono ?_
            rintro e wT ⟨rfl, hAtT, hKT⟩
            refine ⟨_, rfl, ?_⟩
            refine hK.out _ _ ⟨Keep.cell hKT (.inl rfl) y0, Keep.cell hKT (.inl rfl) y1, Keep.cell hKT (.inl rfl) y2, Keep.cell hKT (.inl rfl) y3, Keep.cell hKT (.inr (.inl rfl)) xr⟩ (fun hHeld => ?_)
            clear hK K
            refine norm_ (a' := ?_) ?_ ?_
            rotate_left
            · show Act.put _ (some 116) _ = _
              simp only [Act.put, List.setIfInBounds_toArray, List.set_cons_zero, List.set_cons_succ, i64_w, i32_w]
              rfl
            refine pure_ (i := 7) (N := some 109) (v := ?_) (a' := ?_) #[true, true, true, true, true, true, true, true, false, false, false, false] rfl rfl (by kernel_rfl) (fun _ _ _ h => h) (Or.inl ⟨by rfl, ?_⟩) ?_ ?_
            rotate_left
            · intro w'
              go_simp
              with_reducible rfl
            rotate_left
            · simp only [Act.put, List.setIfInBounds_toArray, List.set_cons_zero, List.set_cons_succ, i64_w, i32_w]
              rfl
            refine pure_ (i := 8) (N := some 117) (v := ?_) (a' := ?_) #[true, true, true, true, true, true, true, true, true, false, false, false] rfl rfl (by kernel_rfl) (fun _ _ _ h => h) (Or.inl ⟨by rfl, ?_⟩) ?_ ?_
            rotate_left
            · intro w'
              go_simp
              with_reducible rfl
            rotate_left
            · simp only [Act.put, List.setIfInBounds_toArray, List.set_cons_zero, List.set_cons_succ, i64_w, i32_w]
              rfl
            refine pure_ (i := 9) (N := some 118) (v := ?_) (a' := ?_) #[true, true, true, true, true, true, true, true, true, true, false, false] rfl rfl (by kernel_rfl) (fun _ _ _ h => h) (Or.inl ⟨by rfl, ?_⟩) ?_ ?_
            rotate_left
            · intro w'
              go_simp
              with_reducible rfl
            rotate_left
            · simp only [Act.put, List.setIfInBounds_toArray, List.set_cons_zero, List.set_cons_succ, i64_w, i32_w]
              rfl
            refine pure_ (i := 10) (N := some 19) (v := ?_) (a' := ?_) #[true, true, true, true, true, true, true, true, true, true, true, false] rfl rfl (by kernel_rfl) (fun _ _ _ h => h) (Or.inl ⟨by rfl, ?_⟩) ?_ ?_
            rotate_left
            · intro w'
              go_simp
              with_reducible rfl
            rotate_left
            · simp only [Act.put, List.setIfInBounds_toArray, List.set_cons_zero, List.set_cons_succ, i64_w, i32_w]
              rfl
            refine pure_ (i := 11) (N := some 20) (v := ?_) (a' := ?_) #[true, true, true, true, true, true, true, true, true, true, true, true] rfl rfl (by kernel_rfl) (fun _ _ _ h => h) (Or.inl ⟨by rfl, ?_⟩) ?_ ?_
            rotate_left
            · intro w'
              go_simp
              with_reducible rfl
            rotate_left
            · simp only [Act.put, List.setIfInBounds_toArray, List.set_cons_zero, List.set_cons_succ, i64_w, i32_w]
              rfl
            refine done_ (by kernel_rfl) ?_
            go_upto_region 34 with (fail)
            have hRl : lensOf (S1.del c0) rest = lensOf S1 rest := by
              unfold lensOf
              exact List.map_congr_left (fun d hd => by rw [hgr d hd])
            have RT10 : RowE .string wT (.slice (some ⟨b10, 1, none⟩) rest.length (c10 - 1)) rest := (hR10.keep (fun b hb => (Keep.blk hKT (.inr (.inl hb))))).tail rest.length rfl
            have RT11 : RowE (.int .i64) wT (.slice (some ⟨b11, 1, none⟩) rest.length (c11 - 1)) (lensOf (S1.del c0) rest) := by
              rw [hRl]
              exact (hR11.keep (fun b hb => (Keep.blk hKT (.inr (.inr hb))))).tail rest.length (lensOf_len _ _).symm
            have hBT := (Keep.blk hKT (.inl rfl)).trans hBu
            have hszF : ∀ d ∈ rest, d.size ≤ maxLen := fun d hd => hsz1 d (List.mem_cons_of_mem _ hd)
            clear hUsed
            have hc10 := fun k (h : k < rest.length) => RT10.cell k h
            have hc11 := fun k (h : k < rest.length) => RT11.cell k (by rw [lensOf_len]; exact h)
            have hlenF := hFT.len
            go_upto_region 36 with (go_at_call 16; with_reducible refine hAtT.len.mono ?_; rintro e wl ⟨rfl, hAl, hKl⟩)
            obtain ⟨ad10, hd10⟩ : ∃ ad10 : Addr, ad10 = ⟨b10, 1, none⟩ := ⟨_, rfl⟩
            obtain ⟨ad11, hd11⟩ : ∃ ad11 : Addr, ad11 = ⟨b11, 1, none⟩ := ⟨_, rfl⟩
            rw [← hd10, ← hd11]
            rw [← hd10] at hc10
            rw [← hd11] at hc11
            have hz10 : ∀ k, (ad10.add k).block = b10 := fun k => by rw [add_block, hd10]
            have hz11 : ∀ k, (ad11.add k).block = b11 := fun k => by rw [add_block, hd11]
            have hDD := Aside0.mk (And.intro hd10 hd11)
            clear hd10 hd11
            go_wp2
            go_loopg [21] rest.length (fun kq v21 w' => TRel w.heap.size w wT (fun x => x = g ∨ some b10 = some x ∨ some b11 = some x) p m mo (place + 1) i (S1.del c0) rest.length kq v21 w')
            case atStart => exact ⟨0, rfl, Nat.zero_add _, hAl, fun x hx => Keep.blk hKl hx⟩
            case round =>
              obtain ⟨k, rfl, HK, hAt, hkp⟩ := hrel
              cases gk with
              | zero =>
                have d5 : decide ((k : Int) < (rest.length : Int)) = false := decide_eq_false (by omega)
                go_wp2
                go_roundg gk
                case measure => exact Nat.lt_succ_self _
                case rel =>
                  obtain ⟨hd10, hd11⟩ := hDD.out
                  subst hd10
                  subst hd11
                  refine ⟨i + 1, place + 1, i, (S1.del c0), rest, rfl, ?_, RT10.keep (fun b hb => hkp b (.inr (.inl hb))), ?_, (hkp g (.inl rfl)).trans hBT, hAt, hG7, hFT⟩
                  · exact (Nat.add_right_comm i 1 gk).trans hKK.out
                  · rw [← lensOf_len (S1.del c0) rest]
                    rw [← lensOf_len (S1.del c0) rest] at RT11
                    exact RT11.keep (fun b hb => hkp b (.inr (.inr hb)))
              | succ gk =>
                have hk : k < rest.length := by omega
                have d5 : decide ((k : Int) < (rest.length : Int)) = true := decide_eq_true (by omega)
                have c6 : (0 ≤ (k : Int)) = True := eq_true (by omega)
                have c7 : ((k : Int) < (rest.length : Int)) = True := eq_true (by omega)
                have c8 : (k < rest.length) = True := eq_true hk
                have x0 := hc10 k hk
                have x1 := hc11 k hk
                rw [lensOf_get (S1.del c0) rest k _ hk] at x1
                have hcks := hszF rest[k] (List.getElem_mem hk)
                obtain ⟨ck, hck⟩ : ∃ ck, rest[k] = ck := ⟨_, rfl⟩
                rw [hck] at x0 x1 hcks
                clear hck
                have hUs := hFT.used (i : Int) (by omega) (by omega) ck
                obtain ⟨nk, hnk⟩ : ∃ nk : Int, ((St.get (S1.del c0) ck).length : Int) = nk := ⟨_, rfl⟩
                rw [hnk] at x1 hUs
                have hUsed : ∀ (_ : ByteArray) w', At w.heap.size w (fun x => x = g ∨ some b10 = some x ∨ some b11 = some x) p m mo (place + 1) i (S1.del c0) w' → Calls Try.prog 12 #[.pointer (some ⟨p, 0, none⟩), .agg #[.int .i64 10, .int .i64 1000, .int .i64 100000, .int .i64 100000], .string ck, .int .i64 i] w' fun e w'' => e = .returned (.tuple #[.int .i64 nk, .int .i64 nk]) ∧ At w.heap.size w (fun x => x = g ∨ some b10 = some x ∨ some b11 = some x) p m mo (place + 1) i (S1.del c0) w'' ∧ Keep (fun x => x = g ∨ some b10 = some x ∨ some b11 = some x) w' w'' := by
                  intro _ w' hA
                  have := hA.used hG7 (by omega) 10 1000 100000 100000 ck hcks i (by omega)
                  rw [hUs] at this
                  exact this
                obtain ⟨y0, y1, y2, y3⟩ := box_cells ((hkp g (.inl rfl)).trans hBT) rfl
                have xr : wr.cell? (ad10.add k) = some (.string ck) := (World.cell?_of_block (hkp _ (.inr (.inl (by rw [hz10]))))).trans x0
                have xm : wr.cell? (ad11.add k) = some (.int .i64 nk) := (World.cell?_of_block (hkp _ (.inr (.inr (by rw [hz11]))))).trans x1
                have hKr : ∀ wk, Keep (fun x => x = g ∨ some b10 = some x ∨ some b11 = some x) wr.drew wk → wk.cell? (ad10.add k) = some (.string ck) := fun wk hK => (World.cell?_of_block (Keep.blk hK (.inr (.inl (by rw [hz10]))))).trans xr
                have hKm : ∀ wk, Keep (fun x => x = g ∨ some b10 = some x ∨ some b11 = some x) wr.drew wk → wk.cell? (ad11.add k) = some (.int .i64 nk) := fun wk hK => (World.cell?_of_block (Keep.blk hK (.inr (.inr (by rw [hz11]))))).trans xm
                have hk200 : (k : Int) ≤ 200 := by omega
                have hHK := Aside0.mk HK
                clear HK hnk hUs x0 x1
                go_upto_region 39 with (fail)
                refine start_ (n := 13) (S := fun w' => w'.cell? ⟨g, 0, none⟩ = some (.int .i64 10) ∧ w'.cell? ⟨g, 1, none⟩ = some (.int .i64 1000) ∧ w'.cell? ⟨g, 2, none⟩ = some (.int .i64 100000) ∧ w'.cell? ⟨g, 3, none⟩ = some (.int .i64 100000) ∧ w'.cell? (ad10.add k) = some (.string ck)) (ds := []) #[false, false, false, false, false, false, false, false, false, false, false, false, false] (by kernel_rfl) rfl rfl ⟨y0, y1, y2, y3, xr⟩ (fun hHeld => ?_)
                refine pure_ (i := 0) (N := some 137) (v := ?_) (a' := ?_) #[true, false, false, false, false, false, false, false, false, false, false, false, false] rfl rfl (by kernel_rfl) (fun _ _ _ h => h) (Or.inl ⟨by rfl, ?_⟩) ?_ ?_
                rotate_left
                · intro w'
                  go_simp
                  with_reducible rfl
                rotate_left
                · simp only [Act.put, List.setIfInBounds_toArray, List.set_cons_zero, List.set_cons_succ, i64_w, i32_w]
                  rfl
                refine pure_ (i := 2) (N := some 139) (v := ?_) (a' := ?_) #[true, false, true, false, false, false, false, false, false, false, false, false, false] rfl rfl (by kernel_rfl) (fun _ _ _ h => h) (Or.inl ⟨by rfl, ?_⟩) ?_ ?_
                rotate_left
                · intro w'
                  go_simp
                  with_reducible rfl
                rotate_left
                · simp only [Act.put, List.setIfInBounds_toArray, List.set_cons_zero, List.set_cons_succ, i64_w, i32_w]
                  rfl
                refine pure_ (i := 3) (N := some 140) (v := ?_) (a' := ?_) #[true, false, true, true, false, false, false, false, false, false, false, false, false] rfl rfl (by kernel_rfl) (fun _ _ _ h => h) (Or.inl ⟨by rfl, ?_⟩) ?_ ?_
                rotate_left
                · intro w'
                  go_simp
                  with_reducible rfl
                rotate_left
                · simp only [Act.put, List.setIfInBounds_toArray, List.set_cons_zero, List.set_cons_succ, i64_w, i32_w]
                  rfl
                refine pure_ (i := 4) (N := some 141) (v := ?_) (a' := ?_) #[true, false, true, true, true, false, false, false, false, false, false, false, false] rfl rfl (by kernel_rfl) (fun _ _ _ h => h) (Or.inl ⟨by rfl, ?_⟩) ?_ ?_
                rotate_left
                · intro w'
                  go_simp
                  with_reducible rfl
                rotate_left
                · simp only [Act.put, List.setIfInBounds_toArray, List.set_cons_zero, List.set_cons_succ, i64_w, i32_w]
                  rfl
                refine pure_ (i := 6) (N := some 143) (v := ?_) (a' := ?_) #[true, false, true, true, true, false, true, false, false, false, false, false, false] rfl rfl (by kernel_rfl) (fun _ _ _ h => h) (Or.inl ⟨by rfl, ?_⟩) ?_ ?_
                rotate_left
                · intro w'
                  go_simp
                  with_reducible rfl
                rotate_left
                · simp only [Act.put, List.setIfInBounds_toArray, List.set_cons_zero, List.set_cons_succ, i64_w, i32_w]
                  rfl
                refine take_ (i := 1) (N := some 138) (v := ?_) (a' := ?_) #[true, true, true, true, true, false, true, false, false, false, false, false, false] rfl rfl (by kernel_rfl) (fun _ _ _ h => h) (Or.inl ⟨by rfl, ?_⟩) hHeld ?_ ?_
                rotate_left
                · rintro w' ⟨s0, s1, s2, s3, s4⟩
                  go_simp
                  with_reducible rfl
                rotate_left
                · simp only [Act.put, List.setIfInBounds_toArray, List.set_cons_zero, List.set_cons_succ, i64_w, i32_w]
                  rfl
                refine take_ (i := 5) (N := some 142) (v := ?_) (a' := ?_) #[true, true, true, true, true, true, true, false, false, false, false, false, false] rfl rfl (by kernel_rfl) (fun _ _ _ h => h) (Or.inl ⟨by rfl, ?_⟩) hHeld ?_ ?_
                rotate_left
                · rintro w' ⟨s0, s1, s2, s3, s4⟩
                  go_simp
                  with_reducible rfl
                rotate_left
                · simp only [Act.put, List.setIfInBounds_toArray, List.set_cons_zero, List.set_cons_succ, i64_w, i32_w]
                  rfl
                refine one_ (i := 7) (N := some 144) #[true, true, true, true, true, true, true, true, false, false, false, false, false] rfl rfl (by kernel_rfl) (by decide) (fun K hK => ?_)
                refine goes_ Try.func12 (by kernel_rfl) rfl #[.pointer (some ⟨p, 0, none⟩), .agg #[.int .i64 10, .int .i64 1000, .int .i64 100000, .int .i64 100000], .string ck, .int .i64 i] (by rfl) rfl rfl (by simp only [List.map_toArray, List.map_cons, List.map_nil]; rfl) ?_
                with_reducible refine (hUsed ck _ hAt.drew).mono ?_
                rintro e wk ⟨rfl, hAk, hKk⟩
                refine ⟨_, rfl, ?_⟩
                have z1 := hKm wk hKk
                refine hK.out _ _ ⟨Keep.cell hKk (.inl rfl) y0, Keep.cell hKk (.inl rfl) y1, Keep.cell hKk (.inl rfl) y2, Keep.cell hKk (.inl rfl) y3, hKr wk hKk⟩ (fun hHeld => ?_)
                clear hK K
                refine norm_ (a' := ?_) ?_ ?_
                rotate_left
                · show Act.put _ (some 144) _ = _
                  simp only [Act.put, List.setIfInBounds_toArray, List.set_cons_zero, List.set_cons_succ, i64_w, i32_w]
                  rfl
                refine pure_ (i := 8) (N := some 136) (v := ?_) (a' := ?_) #[true, true, true, true, true, true, true, true, true, false, false, false, false] rfl rfl (by kernel_rfl) (fun _ _ _ h => h) (Or.inl ⟨by rfl, ?_⟩) ?_ ?_
                rotate_left
                · intro w'
                  go_simp
                  with_reducible rfl
                rotate_left
                · simp only [Act.put, List.setIfInBounds_toArray, List.set_cons_zero, List.set_cons_succ, i64_w, i32_w]
                  rfl
                refine pure_ (i := 9) (N := some 145) (v := ?_) (a' := ?_) #[true, true, true, true, true, true, true, true, true, true, false, false, false] rfl rfl (by kernel_rfl) (fun _ _ _ h => h) (Or.inl ⟨by rfl, ?_⟩) ?_ ?_
                rotate_left
                · intro w'
                  go_simp
                  with_reducible rfl
                rotate_left
                · simp only [Act.put, List.setIfInBounds_toArray, List.set_cons_zero, List.set_cons_succ, i64_w, i32_w]
                  rfl
                refine pure_ (i := 10) (N := some 146) (v := ?_) (a' := ?_) #[true, true, true, true, true, true, true, true, true, true, true, false, false] rfl rfl (by kernel_rfl) (fun _ _ _ h => h) (Or.inl ⟨by rfl, ?_⟩) ?_ ?_
                rotate_left
                · intro w'
                  go_simp
                  with_reducible rfl
                rotate_left
                · simp only [Act.put, List.setIfInBounds_toArray, List.set_cons_zero, List.set_cons_succ, i64_w, i32_w]
                  rfl
                refine pure_ (i := 11) (N := some 22) (v := ?_) (a' := ?_) #[true, true, true, true, true, true, true, true, true, true, true, true, false] rfl rfl (by kernel_rfl) (fun _ _ _ h => h) (Or.inl ⟨by rfl, ?_⟩) ?_ ?_
                rotate_left
                · intro w'
                  go_simp
                  with_reducible rfl
                rotate_left
                · simp only [Act.put, List.setIfInBounds_toArray, List.set_cons_zero, List.set_cons_succ, i64_w, i32_w]
                  rfl
                refine pure_ (i := 12) (N := some 23) (v := ?_) (a' := ?_) #[true, true, true, true, true, true, true, true, true, true, true, true, true] rfl rfl (by kernel_rfl) (fun _ _ _ h => h) (Or.inl ⟨by rfl, ?_⟩) ?_ ?_
                rotate_left
                · intro w'
                  go_simp
                  with_reducible rfl
                rotate_left
                · simp only [Act.put, List.setIfInBounds_toArray, List.set_cons_zero, List.set_cons_succ, i64_w, i32_w]
                  rfl
                refine done_ (by kernel_rfl) ?_
                go_wp2
                go_roundg gk
                case measure => exact Nat.lt_succ_self _
                case rel => exact ⟨k + 1, rfl, (Nat.add_right_comm k 1 gk).trans hHK.out, hAk, fun x hx => (Keep.blk hKk hx).trans (hkp x hx)⟩
        | succ gk =>
          have hk : k < row.length := by omega
          have d3 : decide ((k : Int) < (row.length : Int)) = true := decide_eq_true (by omega)
          have c6 : (0 ≤ (k : Int)) = True := eq_true (by omega)
          have c7 : ((k : Int) < (row.length : Int)) = True := eq_true (by omega)
          have c8 : (k < row.length) = True := eq_true hk
          obtain ⟨ad10, rfl, x0⟩ := hc10 k hk
          obtain ⟨ad11, rfl, x1⟩ := hc11 k (by rw [lensOf_len]; exact hk)
          rw [lensOf_get S row k _ hk] at x1
          have ht : row.take (k + 1) = row.take k ++ [row[k]] := (List.take_append_getElem hk).symm
          have ho : others C (row.take (k + 1)) = others C (row.take k) ++ (if row[k] = C then [] else [row[k]]) := by rw [ht, others_snoc]
          have hany : (row.take (k + 1)).any (fun d => decide (d = C)) = ((row.take k).any (fun d => decide (d = C)) || decide (row[k] = C)) := by rw [ht, List.any_append]; simp
          have hDl := hGl row[k]
          have hok := hol k
          obtain ⟨D, hD⟩ : ∃ D, row[k] = D := ⟨_, rfl⟩
          rw [hD] at x0 x1 ho hany hDl
          clear hD ht
          have hlt11 := World.block_lt_of_cell? w7 _ x1
          replace x0 := pw_cell_below hB x0
          replace x1 := pw_cell_below hB x1
          have q1 : ((S.get D).length : Int) ≤ 150 := by omega
          have hHK := Aside0.mk HK
          clear HK
          by_cases hDC : D = C
          · subst hDC
            rw [if_pos rfl, List.append_nil] at ho
            rw [decide_eq_true rfl, Bool.or_true] at hany
            replace ho := Aside0.mk ho
            replace hany := Aside0.mk hany
            go_wp2
            go_roundg gk
            case measure => exact Nat.lt_succ_self _
            case rel => exact ⟨k + 1, rfl, (Nat.add_right_comm k 1 gk).trans hHK.out, by unfold nval; rw [hany.out]; rfl, by rw [ho.out]; exact hO16, by rw [ho.out]; exact hO17, hB⟩
          · have d6 : (D.toList == C.toList) = false := by simpa using toList_ne hDC
            have d7 : decide (D.toList = C.toList) = false := decide_eq_false (toList_ne hDC)
            rw [if_neg hDC] at ho
            rw [decide_eq_false hDC, Bool.or_false] at hany
            have hlen : (lensOf S (others C (row.take k))).length ≤ 9 := by rw [lensOf_len]; exact hok
            replace ho := Aside0.mk ho
            replace hany := Aside0.mk hany
            go_wp2_with (first
              | ((with_reducible refine gate_builtin (b := .append) (xs := #[.tmp 83, .tmp 88]) rfl ?_); at_builtin; refine print_append_cells (w0 := w7) w7.heap.size rfl (.tmp 83) (.tmp 88) 61 9 (.string ByteArray.empty) 1 16 rfl Try.underlying61 info9 rfl (by decide) (by decide) _ _ _ [.string D] rfl rfl rfl (by simp [Value.oneCell']) hO16 hB hB.size (by omega) ?_; intro v1 wv hown1 hB1 hg1 hat1; have x2 := hg1.cell x1 (fun e => Nat.lt_irrefl _ (Nat.lt_of_lt_of_le hlt11 (hO16.lt _ e.symm).1)); have hO17v := hO17.kept hg1 (own_apart hO17 hO16 (by decide)))
              | ((with_reducible refine gate_builtin (b := .append) (xs := #[.tmp 90, .tmp 95]) rfl ?_); at_builtin; refine print_append_cells (w0 := w7) w7.heap.size rfl (.tmp 90) (.tmp 95) 60 3 (.int .i64 0) 1 8 rfl Try.underlying60 info3 rfl (by decide) (by decide) _ _ _ [.int .i64 ((S.get D).length : Int)] rfl rfl rfl (by simp [Value.oneCell']) hO17v hB1 hB1.size (by omega) ?_; intro v2 wu hown2 hB2 hg2 hat2))
            go_roundg gk
            case measure => exact Nat.lt_succ_self _
            case rel =>
              refine ⟨k + 1, rfl, (Nat.add_right_comm k 1 gk).trans hHK.out, by unfold nval; rw [hany.out], ?_, ?_, hB2⟩
              · rw [ho.out, List.length_append, List.map_append]
                exact hown1.kept hg2 (own_apart hown1 hO17v (by decide))
              · rw [ho.out, lensOf_snoc, List.length_append, List.map_append]
                exact hown2
end Go.Proofs.Ytgndgjjejgbmoaa.Bok
