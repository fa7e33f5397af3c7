/- Contract: Ask, approved. -/
import Derived.Test.YtgndgjjejgbmoaaBk8
import Derived.Test.YtgndgjjejgbmoaaBk6b
namespace Go.Proofs.Ytgndgjjejgbmoaa.Bok
open Go Go.RowKit Go.Maps Go.Proofs.YtgndgjjejgbmoaaW.PrintWords Go.Proofs.YtgndgjjejgbmoaaW.PrintLast Go.Proofs.YtgndgjjejgbmoaaW.PrintMore PStandinHolds
set_option linter.unusedSimpArgs false
theorem info73 : (Try.prog.info? 73).map (fun i => (i.zero, i.size, i.bytes)) = some (some (.agg #[.int .i64 0, .int .i64 0, .int .i64 0]), 3, 24) := by kernel_rfl
theorem Chg.alloc {F : Nat → Prop} {w w' : World} (h : Chg F w w') (o : Obj) : Chg F w (w'.alloc o) :=
  h.trans (Chg.of_grown (F := fun _ => False) (World.grownBy_alloc w' o none) (fun _ e => by cases e)) (fun _ _ hf => hf.elim)
theorem Chg.grown2 {F : Nat → Prop} {w w1 w2 : World} {row : Option Nat} (h : Chg F w w1) (hg : w1.grownBy w2 row) (hr : ∀ k, row = some k → F k) : Chg F w w2 := h.trans (Chg.of_grown hg hr) (fun _ _ hf => hf)
theorem Book.len_run {w : World} {F : Nat → Prop} {p m : Nat} {cards place last : Int} {S : St} (h : Book w F p m cards place last S) : ∀ ty, (Builtin.len_ #[63] ty #[.map (some m)]).run Try.prog w = .ok (.int .i64 (S.length : Int)) w := by
  intro ty
  obtain ⟨n, D, v, _, hm, hs, _⟩ := h.rows
  have := hm.len Try.underlying63 ty
  rwa [hs] at this
/-- What an approval leaves. -/
def Approved (cards place : Int) (S : St) (c : ByteArray) (n now : Int) (S' : St) : Prop :=
  let S1 := S.put c (S.get c ++ [⟨place + 1, n, now⟩])
  ((S1.length : Int) ≤ cards ∧ S' = S1) ∨ (cards < (S1.length : Int) ∧ ∃ c0, Oldest S1 c0 ∧ S' = S1.del c0)
/-- The world behind an approval. -/
def AskPost (F : Nat → Prop) (cards place : Int) (S : St) (c : ByteArray) (n now : Int) (p m : Nat) (w w' : World) : Prop :=
  ∃ F' S', Approved cards place S c n now S' ∧ Book w' F' p m cards (place + 1) now S' ∧ Chg F w w' ∧ (∀ i, F' i → F i ∨ w.heap.size ≤ i)
set_option maxRecDepth 100000 in
set_option maxHeartbeats 2000000 in
theorem ask_yes {F : Nat → Prop} {p m : Nat} {cards place last : Int} {S : St} (w : World) (h : Book w F p m cards place last S) (L0 L1 L2 W : Int) (c : ByteArray) (hc : c.size ≤ maxLen) (n now : Int) (h1 : now ≤ 9223372036854775807) (hf : Fine (S.get c)) (hpl : place ≤ 1000000) (hP : ∀ x ∈ S, 0 ≤ lastP x.2 ∧ x.2.length ≤ 999999 ∧ x.1.size ≤ maxLen) (hl9 : (S.get c).length ≤ 999999)
    (hcs : ¬ c.size = 0) (hb1 : amt n = true) (hb2 : rightP L0 L1 L2 W = true) (h0 : 0 ≤ now) (hlast : last ≤ now) (g1 : ¬ L0 < n) (l : List Ap) (hl : S.get c = l) (xs : List Int) (hxs : cnt W now l = xs) (g2 : ¬ L1 ≤ (xs.length : Int)) (g3 : ¬ L2 - n < xs.sum) :
    Calls Try.prog 13 #[.pointer (some ⟨p, 0, none⟩), .agg #[.int .i64 L0, .int .i64 L1, .int .i64 L2, .int .i64 W], .string c, .int .i64 n, .int .i64 now] w fun e w' => e = .returned (.int .i64 0) ∧ AskPost F cards place S c n now p m w w' := by
  rw [hl] at hf
  have hr := right_f L0 L1 L2 W
  have ha := amount_f n
  rw [hb1] at ha
  rw [hb2] at hr
  obtain ⟨hcl, hcu⟩ := cnt_fine hf W now
  obtain ⟨k, hk⟩ := (added_ev _ hcu hcl).rounds
  have hat : ∀ a ∈ l, 0 ≤ a.at_ ∧ a.at_ ≤ 9223372036854775807 := fun a ha => (hf.ok a ha).1
  have hln := hf.len
  rw [hxs] at hk
  have he0 : c.toList.isEmpty = false := by rw [toList_empty]; exact decide_eq_false hcs
  have d1 : decide (now < 0) = false := decide_eq_false (by omega)
  have d2 : decide (now < last) = false := decide_eq_false (by omega)
  have hamt : (0 ≤ n ∧ n ≤ 999999999999) ∧ (0 ≤ L2 ∧ L2 ≤ 999999999999) := by
    unfold rightP at hb2
    unfold amt at hb1 hb2
    simp only [Bool.and_eq_true, decide_eq_true_eq] at hb1 hb2
    omega
  have ew : wrap64 (L2 - n) = L2 - n := by unfold wrap64; omega
  have hp0 := h.place0
  have ep : wrap64 (place + 1) = place + 1 := by unfold wrap64; omega
  have d3 : decide (L0 < n) = false := decide_eq_false g1
  have d4 : decide (L1 ≤ (xs.length : Int)) = false := decide_eq_false g2
  have d5 : decide (L2 - n < xs.sum) = false := decide_eq_false g3
  clear hamt g1 g2 g3 hlast hcs
  go_enter Try.func13, Try.ntmps13
  go_upto_region 1 with (fail)
  obtain ⟨w1, hw1⟩ : ∃ w1, w1 = w.alloc (.cells #[.int .i64 L0, .int .i64 L1, .int .i64 L2, .int .i64 W] 23) := ⟨_, rfl⟩
  rw [← hw1]
  have B1 : Below w.heap.size w w1 := by rw [hw1]; exact below_alloc (Below.refl _ _) _
  have hbk : Book w1 F p m cards place last S := h.kept (Chg.of_below B1 : Chg (fun _ => False) w w1) (fun _ _ hf => hf)
  have hbox : w1.heap[w.heap.size]? = some (.cells #[.int .i64 L0, .int .i64 L1, .int .i64 L2, .int .i64 W] 23 (0, 0)) := by rw [hw1]; exact heap_alloc_new _ _
  have hgl : w.heap.size < w1.heap.size := by rw [hw1]; exact Nat.lt_of_lt_of_eq (Nat.lt_succ_self _) (Array.size_push _).symm
  clear hw1
  have x0 : w1.cell? ⟨w.heap.size, 0, none⟩ = some (.int .i64 L0) := by simp [World.cell?, hbox]
  have x1 : w1.cell? ⟨w.heap.size, 1, none⟩ = some (.int .i64 L1) := by simp [World.cell?, hbox]
  have x2 : w1.cell? ⟨w.heap.size, 2, none⟩ = some (.int .i64 L2) := by simp [World.cell?, hbox]
  have x3 : w1.cell? ⟨w.heap.size, 3, none⟩ = some (.int .i64 W) := by simp [World.cell?, hbox]
  obtain ⟨_, _, _, z3⟩ := hbk.cell
  have enter18 : ∀ w2, Below w1.heap.size w1 w2 → w2.cell? ⟨w.heap.size, 0, none⟩ = some (.int .i64 L0) ∧ w2.cell? ⟨w.heap.size, 1, none⟩ = some (.int .i64 L1) ∧ w2.cell? ⟨w.heap.size, 2, none⟩ = some (.int .i64 L2) ∧ w2.cell? ⟨w.heap.size, 3, none⟩ = some (.int .i64 W) ∧ w2.cell? ⟨p, 3, none⟩ = some (.int .i64 last) := fun w2 hb2 =>
    ⟨pw_cell_below hb2 x0, pw_cell_below hb2 x1, pw_cell_below hb2 x2, pw_cell_below hb2 x3, pw_cell_below hb2 z3⟩
  clear hbox
  go_upto_region 8 with (first
    | (go_at_call 21; with_reducible refine (standin_amount.calls n true _ ha).mono ?_; rintro e w' ⟨rfl, nd1, rfl⟩)
    | (go_at_call 18; with_reducible refine (standin_right.calls L0 L1 L2 W true _ hr).mono ?_; rintro e w2 ⟨rfl, hB2⟩; obtain ⟨y0, y1, y2, y3, y4⟩ := enter18 w2 (below_step (pw_below_drewN (Below.refl _ _) _) hB2))
    | (go_at_call 19; with_reducible refine (counting_calls _ (hbk.kept (Chg.of_below (below_step (pw_below_drewN (Below.refl _ _) _) hB2) : Chg (fun _ => False) w1 w2) (fun _ _ hf => hf)) L0 L1 L2 W c hc now h0 h1 l hl hln hat).mono ?_; rintro e w3 ⟨v, rfl, HR, hB3⟩; obtain ⟨A, cp, rfl, hcp, HC⟩ := Kd.R_reads HR))
  (try rw [hxs] at HR)
  (try rw [hxs] at hcp)
  (try rw [hxs] at HC)
  replace y0 := pw_cell_below hB3 y0
  replace y1 := pw_cell_below hB3 y1
  replace y2 := pw_cell_below hB3 y2
  have hBB : Below w.heap.size w w3 := below_step B1 (below_step (below_step (pw_below_drewN (Below.refl _ _) _) hB2) hB3)
  have hb3 : Book w3 F p m cards place last S := h.kept (Chg.of_below hBB : Chg (fun _ => False) w w3) (fun _ _ hf => hf)
  refine start_ (n := 20) (S := fun w' => w'.cell? ⟨w.heap.size, 0, none⟩ = some (.int .i64 L0) ∧ w'.cell? ⟨w.heap.size, 1, none⟩ = some (.int .i64 L1) ∧ w'.cell? ⟨w.heap.size, 2, none⟩ = some (.int .i64 L2)) (ds := []) #[false, false, false, false, false, false, false, false, false, false, false, false, false, false, false, false, false, false, false, false] (by kernel_rfl) rfl rfl ⟨y0, y1, y2⟩ (fun hHeld => ?_)
  refine pure_ (i := 0) (N := some 40) (v := ?_) (a' := ?_) #[true, false, false, false, false, false, false, false, false, false, false, false, false, false, false, false, false, false, false, false] rfl rfl (by kernel_rfl) (fun _ _ _ h => h) (Or.inl ⟨by rfl, ?_⟩) ?_ ?_
  rotate_left
  · intro w'
    go_simp
    with_reducible rfl
  rotate_left
  · simp only [Act.put, List.setIfInBounds_toArray, List.set_cons_zero, List.set_cons_succ, i64_w, i32_w]
    rfl
  refine pure_ (i := 1) (N := some 41) (v := ?_) (a' := ?_) #[true, true, false, false, false, false, false, false, false, false, false, false, false, false, false, false, false, false, false, false] rfl rfl (by kernel_rfl) (fun _ _ _ h => h) (Or.inl ⟨by rfl, ?_⟩) ?_ ?_
  rotate_left
  · intro w'
    go_simp
    with_reducible rfl
  rotate_left
  · simp only [Act.put, List.setIfInBounds_toArray, List.set_cons_zero, List.set_cons_succ, i64_w, i32_w]
    rfl
  refine take_ (i := 2) (N := some 42) (v := ?_) (a' := ?_) #[true, true, true, false, false, false, false, false, false, false, false, false, false, false, false, false, false, false, false, false] rfl rfl (by kernel_rfl) (fun _ _ _ h => h) (Or.inl ⟨by rfl, ?_⟩) hHeld ?_ ?_
  rotate_left
  · rintro w' ⟨s0, s1, s2⟩
    go_simp
    with_reducible rfl
  rotate_left
  · simp only [Act.put, List.setIfInBounds_toArray, List.set_cons_zero, List.set_cons_succ, i64_w, i32_w]
    rfl
  refine pure_ (i := 3) (N := some 43) (v := ?_) (a' := ?_) #[true, true, true, true, false, false, false, false, false, false, false, false, false, false, false, false, false, false, false, false] rfl rfl (by kernel_rfl) (fun _ _ _ h => h) (Or.inl ⟨by rfl, ?_⟩) ?_ ?_
  rotate_left
  · intro w'
    go_simp
    with_reducible rfl
  rotate_left
  · simp only [Act.put, List.setIfInBounds_toArray, List.set_cons_zero, List.set_cons_succ, i64_w, i32_w]
    rfl
  refine pure_ (i := 4) (N := some 44) (v := ?_) (a' := ?_) #[true, true, true, true, true, false, false, false, false, false, false, false, false, false, false, false, false, false, false, false] rfl rfl (by kernel_rfl) (fun _ _ _ h => h) (Or.inl ⟨by rfl, ?_⟩) ?_ ?_
  rotate_left
  · intro w'
    go_simp
    with_reducible rfl
  rotate_left
  · simp only [Act.put, List.setIfInBounds_toArray, List.set_cons_zero, List.set_cons_succ, i64_w, i32_w]
    rfl
  refine pure_ (i := 5) (N := some 45) (v := ?_) (a' := ?_) #[true, true, true, true, true, true, false, false, false, false, false, false, false, false, false, false, false, false, false, false] rfl rfl (by kernel_rfl) (fun _ _ _ h => h) (Or.inl ⟨by rfl, ?_⟩) ?_ ?_
  rotate_left
  · intro w'
    go_simp
    with_reducible rfl
  rotate_left
  · simp only [Act.put, List.setIfInBounds_toArray, List.set_cons_zero, List.set_cons_succ, i64_w, i32_w]
    rfl
  refine pure_ (i := 6) (N := some 46) (v := ?_) (a' := ?_) #[true, true, true, true, true, true, true, false, false, false, false, false, false, false, false, false, false, false, false, false] rfl rfl (by kernel_rfl) (fun _ _ _ h => h) (Or.inl ⟨by rfl, ?_⟩) ?_ ?_
  rotate_left
  · intro w'
    go_simp
    with_reducible rfl
  rotate_left
  · simp only [Act.put, List.setIfInBounds_toArray, List.set_cons_zero, List.set_cons_succ, i64_w, i32_w]
    rfl
  refine pure_ (i := 7) (N := some 47) (v := ?_) (a' := ?_) #[true, true, true, true, true, true, true, true, false, false, false, false, false, false, false, false, false, false, false, false] rfl rfl (by kernel_rfl) (fun _ _ _ h => h) (Or.inl ⟨by rfl, ?_⟩) ?_ ?_
  rotate_left
  · intro w'
    go_simp
    with_reducible rfl
  rotate_left
  · simp only [Act.put, List.setIfInBounds_toArray, List.set_cons_zero, List.set_cons_succ, i64_w, i32_w]
    rfl
  refine take_ (i := 8) (N := some 48) (v := ?_) (a' := ?_) #[true, true, true, true, true, true, true, true, true, false, false, false, false, false, false, false, false, false, false, false] rfl rfl (by kernel_rfl) (fun _ _ _ h => h) (Or.inl ⟨by rfl, ?_⟩) hHeld ?_ ?_
  rotate_left
  · rintro w' ⟨s0, s1, s2⟩
    go_simp
    with_reducible rfl
  rotate_left
  · simp only [Act.put, List.setIfInBounds_toArray, List.set_cons_zero, List.set_cons_succ, i64_w, i32_w]
    rfl
  refine pure_ (i := 9) (N := some 49) (v := ?_) (a' := ?_) #[true, true, true, true, true, true, true, true, true, true, false, false, false, false, false, false, false, false, false, false] rfl rfl (by kernel_rfl) (fun _ _ _ h => h) (Or.inl ⟨by rfl, ?_⟩) ?_ ?_
  rotate_left
  · intro w'
    go_simp
    with_reducible rfl
  rotate_left
  · simp only [Act.put, List.setIfInBounds_toArray, List.set_cons_zero, List.set_cons_succ, i64_w, i32_w]
    rfl
  refine pure_ (i := 10) (N := some 50) (v := ?_) (a' := ?_) #[true, true, true, true, true, true, true, true, true, true, true, false, false, false, false, false, false, false, false, false] rfl rfl (by kernel_rfl) (fun _ _ _ h => h) (Or.inl ⟨by rfl, ?_⟩) ?_ ?_
  rotate_left
  · intro w'
    go_simp
    with_reducible rfl
  rotate_left
  · simp only [Act.put, List.setIfInBounds_toArray, List.set_cons_zero, List.set_cons_succ, i64_w, i32_w]
    rfl
  refine pure_ (i := 11) (N := some 51) (v := ?_) (a' := ?_) #[true, true, true, true, true, true, true, true, true, true, true, true, false, false, false, false, false, false, false, false] rfl rfl (by kernel_rfl) (fun _ _ _ h => h) (Or.inl ⟨by rfl, ?_⟩) ?_ ?_
  rotate_left
  · intro w'
    go_simp
    with_reducible rfl
  rotate_left
  · simp only [Act.put, List.setIfInBounds_toArray, List.set_cons_zero, List.set_cons_succ, i64_w, i32_w]
    rfl
  refine pure_ (i := 12) (N := some 52) (v := ?_) (a' := ?_) #[true, true, true, true, true, true, true, true, true, true, true, true, true, false, false, false, false, false, false, false] rfl rfl (by kernel_rfl) (fun _ _ _ h => h) (Or.inl ⟨by rfl, ?_⟩) ?_ ?_
  rotate_left
  · intro w'
    go_simp
    with_reducible rfl
  rotate_left
  · simp only [Act.put, List.setIfInBounds_toArray, List.set_cons_zero, List.set_cons_succ, i64_w, i32_w]
    rfl
  refine pure_ (i := 14) (N := some 54) (v := ?_) (a' := ?_) #[true, true, true, true, true, true, true, true, true, true, true, true, true, false, true, false, false, false, false, false] rfl rfl (by kernel_rfl) (fun _ _ _ h => h) (Or.inl ⟨by rfl, ?_⟩) ?_ ?_
  rotate_left
  · intro w'
    go_simp
    with_reducible rfl
  rotate_left
  · simp only [Act.put, List.setIfInBounds_toArray, List.set_cons_zero, List.set_cons_succ, i64_w, i32_w]
    rfl
  refine pure_ (i := 16) (N := some 56) (v := ?_) (a' := ?_) #[true, true, true, true, true, true, true, true, true, true, true, true, true, false, true, false, true, false, false, false] rfl rfl (by kernel_rfl) (fun _ _ _ h => h) (Or.inl ⟨by rfl, ?_⟩) ?_ ?_
  rotate_left
  · intro w'
    go_simp
    with_reducible rfl
  rotate_left
  · simp only [Act.put, List.setIfInBounds_toArray, List.set_cons_zero, List.set_cons_succ, i64_w, i32_w]
    rfl
  refine take_ (i := 15) (N := some 55) (v := ?_) (a' := ?_) #[true, true, true, true, true, true, true, true, true, true, true, true, true, false, true, true, true, false, false, false] rfl rfl (by kernel_rfl) (fun _ _ _ h => h) (Or.inl ⟨by rfl, ?_⟩) hHeld ?_ ?_
  rotate_left
  · rintro w' ⟨s0, s1, s2⟩
    go_simp
    with_reducible rfl
  rotate_left
  · simp only [Act.put, List.setIfInBounds_toArray, List.set_cons_zero, List.set_cons_succ, i64_w, i32_w]
    rfl
  refine pure_ (i := 17) (N := some 57) (v := ?_) (a' := ?_) #[true, true, true, true, true, true, true, true, true, true, true, true, true, false, true, true, true, true, false, false] rfl rfl (by kernel_rfl) (fun _ _ _ h => h) (Or.inl ⟨by rfl, ?_⟩) ?_ ?_
  rotate_left
  · intro w'
    go_simp
    with_reducible rfl
  rotate_left
  · simp only [Act.put, List.setIfInBounds_toArray, List.set_cons_zero, List.set_cons_succ, i64_w, i32_w]
    rfl
  refine one_ (i := 13) (N := some 53) #[true, true, true, true, true, true, true, true, true, true, true, true, true, true, true, true, true, true, false, false] rfl rfl (by kernel_rfl) (by decide) (fun K hK => ?_)
  refine goes_ Try.func20 (by kernel_rfl) rfl #[.slice A xs.length cp] (by rfl) rfl rfl (by simp only [List.map_toArray, List.map_cons, List.map_nil]; rfl) ?_
  with_reducible refine (standin_added_int.calls k A cp xs xs.sum _ (by first | exact HC | exact Kd.C_drewN HC _ | exact Kd.C_drew HC) hcp hk).mono ?_
  rintro e w' ⟨rfl, nd5, rfl⟩
  refine ⟨_, rfl, ?_⟩
  refine hK.out _ _ ⟨y0, y1, y2⟩ (fun hHeld => ?_)
  clear hK K
  refine norm_ (a' := ?_) ?_ ?_
  rotate_left
  · show Act.put _ (some 53) _ = _
    simp only [Act.put, List.setIfInBounds_toArray, List.set_cons_zero, List.set_cons_succ, i64_w, i32_w]
    rfl
  refine pure_ (i := 18) (N := some 58) (v := ?_) (a' := ?_) #[true, true, true, true, true, true, true, true, true, true, true, true, true, true, true, true, true, true, true, false] rfl rfl (by kernel_rfl) (fun _ _ _ h => h) (Or.inl ⟨by rfl, ?_⟩) ?_ ?_
  rotate_left
  · intro w'
    go_simp
    with_reducible rfl
  rotate_left
  · simp only [Act.put, List.setIfInBounds_toArray, List.set_cons_zero, List.set_cons_succ, i64_w, i32_w]
    rfl
  refine pure_ (i := 19) (N := some 59) (v := ?_) (a' := ?_) #[true, true, true, true, true, true, true, true, true, true, true, true, true, true, true, true, true, true, true, true] rfl rfl (by kernel_rfl) (fun _ _ _ h => h) (Or.inl ⟨by rfl, ?_⟩) ?_ ?_
  rotate_left
  · intro w'
    go_simp
    with_reducible rfl
  rotate_left
  · simp only [Act.put, List.setIfInBounds_toArray, List.set_cons_zero, List.set_cons_succ, i64_w, i32_w]
    rfl
  refine done_ (by kernel_rfl) ?_
  obtain ⟨q0, q1, q2, q3⟩ := hb3.cell
  have f2 := hb3.frozen 2
  have f3 := hb3.frozen 3
  go_upto_region 12 with (fail)
  generalize hw4 : World.setCell (World.setCell (World.drewN w3 _) _ _) _ _ = w4
  obtain ⟨nn, D, v, hnn, hR3⟩ := hb3.open_
  have hpm := hb3.p_ne_m
  have b4 : Book w4 F p m cards (place + 1) now S := by
    rw [← hw4]
    exact ((hb3.kept ((Chg.refl (fun _ => False) w3).drewN _) (fun _ _ hf => hf)).set_ 3 now place now (.inr ⟨rfl, rfl, rfl⟩)).set_ 2 (place + 1) (place + 1) now (.inl ⟨rfl, rfl, rfl, by omega⟩)
  have c4 : Chg F w w4 := by
    rw [← hw4]
    exact ((((Chg.of_below hBB : Chg F w w3).drewN _).set _ _ h.inp).set _ _ h.inp)
  have hR : Rows w4 F p m S nn D v := by
    refine hR3.kept h.inm hpm (fun i _ hi => ?_)
    rw [← hw4]
    exact (setCell_block _ _ _ _ hi).trans (setCell_block _ _ _ _ hi)
  obtain ⟨v0, hlk, hrow, hblk, hv0⟩ := hR.look h.nodup c hc
  rw [hl] at hrow
  clear hw4
  have hrow5 : w4.drew.ownsRow 0 73 3 v0 l.length (cellsOf l) := hrow
  have cd : Chg (fun i => v0.ownBlock = some i) w4 w4.drew := ⟨rfl, rfl, rfl, Nat.le_refl _, fun _ _ _ => rfl⟩
  have hm6 : ∀ w', Chg (fun i => v0.ownBlock = some i) w4 w' → w'.ownsMap Try.prog 9 raw m nn D := fun w' hc' => by
    obtain ⟨es, clock, e1, e2⟩ := hR.map
    exact ⟨es, clock, (hc'.block m (b4.lt m b4.inm) (fun e => (hblk m e).2.2 rfl)).trans e1, e2⟩
  have hS : ∀ w', Chg (fun i => v0.ownBlock = some i) w4 w' → w'.cell? ⟨p, 1, none⟩ = some (.map (some m)) ∧ w'.cell? ⟨p, 2, none⟩ = some (.int .i64 (place + 1)) ∧ (Instr.lookup 63 (.map (some m)) (.string c) false).run Try.prog w' = .ok v0 w' := fun w' hc' => by
    have e := (hc'.block p (b4.lt p b4.inp) (fun e => (hblk p e).2.1 rfl)).trans b4.strct
    exact ⟨by simp [World.cell?, e], by simp [World.cell?, e], hlk w' (hm6 w' hc')⟩
  have hnm : nn < maxLen := by have : maxLen = 9223372036854775807 := rfl; omega
  refine start_ (n := 21) (S := fun w' => w'.cell? ⟨p, 1, none⟩ = some (.map (some m)) ∧ w'.cell? ⟨p, 2, none⟩ = some (.int .i64 (place + 1)) ∧ (Instr.lookup 63 (.map (some m)) (.string c) false).run Try.prog w' = .ok v0 w') (ds := [20]) #[false, false, false, false, false, false, false, false, false, false, false, false, false, false, false, false, false, false, false, false, false] (by kernel_rfl) rfl rfl ⟨(hS _ cd).1, (hS _ cd).2.1, (hS _ cd).2.2⟩ (fun hHeld => ?_)
  refine pure_ (i := 0) (N := some 71) (v := ?_) (a' := ?_) #[true, false, false, false, false, false, false, false, false, false, false, false, false, false, false, false, false, false, false, false, false] rfl rfl (by kernel_rfl) (fun _ _ _ h => h) (Or.inl ⟨by rfl, ?_⟩) ?_ ?_
  rotate_left
  · intro w'
    go_simp
    with_reducible rfl
  rotate_left
  · simp only [Act.put, List.setIfInBounds_toArray, List.set_cons_zero, List.set_cons_succ, i64_w, i32_w]
    rfl
  refine pure_ (i := 1) (N := some 72) (v := ?_) (a' := ?_) #[true, true, false, false, false, false, false, false, false, false, false, false, false, false, false, false, false, false, false, false, false] rfl rfl (by kernel_rfl) (fun _ _ _ h => h) (Or.inl ⟨by rfl, ?_⟩) ?_ ?_
  rotate_left
  · intro w'
    go_simp
    with_reducible rfl
  rotate_left
  · simp only [Act.put, List.setIfInBounds_toArray, List.set_cons_zero, List.set_cons_succ, i64_w, i32_w]
    rfl
  refine pure_ (i := 2) (N := some 73) (v := ?_) (a' := ?_) #[true, true, true, false, false, false, false, false, false, false, false, false, false, false, false, false, false, false, false, false, false] rfl rfl (by kernel_rfl) (fun _ _ _ h => h) (Or.inl ⟨by rfl, ?_⟩) ?_ ?_
  rotate_left
  · intro w'
    go_simp
    with_reducible rfl
  rotate_left
  · simp only [Act.put, List.setIfInBounds_toArray, List.set_cons_zero, List.set_cons_succ, i64_w, i32_w]
    rfl
  refine pure_ (i := 4) (N := some 75) (v := ?_) (a' := ?_) #[true, true, true, false, true, false, false, false, false, false, false, false, false, false, false, false, false, false, false, false, false] rfl rfl (by kernel_rfl) (fun _ _ _ h => h) (Or.inl ⟨by rfl, ?_⟩) ?_ ?_
  rotate_left
  · intro w'
    go_simp
    with_reducible rfl
  rotate_left
  · simp only [Act.put, List.setIfInBounds_toArray, List.set_cons_zero, List.set_cons_succ, i64_w, i32_w]
    rfl
  refine pure_ (i := 5) (N := some 76) (v := ?_) (a' := ?_) #[true, true, true, false, true, true, false, false, false, false, false, false, false, false, false, false, false, false, false, false, false] rfl rfl (by kernel_rfl) (fun _ _ _ h => h) (Or.inl ⟨by rfl, ?_⟩) ?_ ?_
  rotate_left
  · intro w'
    go_simp
    with_reducible rfl
  rotate_left
  · simp only [Act.put, List.setIfInBounds_toArray, List.set_cons_zero, List.set_cons_succ, i64_w, i32_w]
    rfl
  refine pure_ (i := 6) (N := some 77) (v := ?_) (a' := ?_) #[true, true, true, false, true, true, true, false, false, false, false, false, false, false, false, false, false, false, false, false, false] rfl rfl (by kernel_rfl) (fun _ _ _ h => h) (Or.inl ⟨by rfl, ?_⟩) ?_ ?_
  rotate_left
  · intro w'
    go_simp
    with_reducible rfl
  rotate_left
  · simp only [Act.put, List.setIfInBounds_toArray, List.set_cons_zero, List.set_cons_succ, i64_w, i32_w]
    rfl
  refine pure_ (i := 7) (N := some 78) (v := ?_) (a' := ?_) #[true, true, true, false, true, true, true, true, false, false, false, false, false, false, false, false, false, false, false, false, false] rfl rfl (by kernel_rfl) (fun _ _ _ h => h) (Or.inl ⟨by rfl, ?_⟩) ?_ ?_
  rotate_left
  · intro w'
    go_simp
    with_reducible rfl
  rotate_left
  · simp only [Act.put, List.setIfInBounds_toArray, List.set_cons_zero, List.set_cons_succ, i64_w, i32_w]
    rfl
  refine pure_ (i := 9) (N := some 80) (v := ?_) (a' := ?_) #[true, true, true, false, true, true, true, true, false, true, false, false, false, false, false, false, false, false, false, false, false] rfl rfl (by kernel_rfl) (fun _ _ _ h => h) (Or.inl ⟨by rfl, ?_⟩) ?_ ?_
  rotate_left
  · intro w'
    go_simp
    with_reducible rfl
  rotate_left
  · simp only [Act.put, List.setIfInBounds_toArray, List.set_cons_zero, List.set_cons_succ, i64_w, i32_w]
    rfl
  refine pure_ (i := 11) (N := some 82) (v := ?_) (a' := ?_) #[true, true, true, false, true, true, true, true, false, true, false, true, false, false, false, false, false, false, false, false, false] rfl rfl (by kernel_rfl) (fun _ _ _ h => h) (Or.inl ⟨by rfl, ?_⟩) ?_ ?_
  rotate_left
  · intro w'
    go_simp
    with_reducible rfl
  rotate_left
  · simp only [Act.put, List.setIfInBounds_toArray, List.set_cons_zero, List.set_cons_succ, i64_w, i32_w]
    rfl
  refine pure_ (i := 12) (N := some 83) (v := ?_) (a' := ?_) #[true, true, true, false, true, true, true, true, false, true, false, true, true, false, false, false, false, false, false, false, false] rfl rfl (by kernel_rfl) (fun _ _ _ h => h) (Or.inl ⟨by rfl, ?_⟩) ?_ ?_
  rotate_left
  · intro w'
    go_simp
    with_reducible rfl
  rotate_left
  · simp only [Act.put, List.setIfInBounds_toArray, List.set_cons_zero, List.set_cons_succ, i64_w, i32_w]
    rfl
  refine pure_ (i := 13) (N := some 84) (v := ?_) (a' := ?_) #[true, true, true, false, true, true, true, true, false, true, false, true, true, true, false, false, false, false, false, false, false] rfl rfl (by kernel_rfl) (fun _ _ _ h => h) (Or.inl ⟨by rfl, ?_⟩) ?_ ?_
  rotate_left
  · intro w'
    go_simp
    with_reducible rfl
  rotate_left
  · simp only [Act.put, List.setIfInBounds_toArray, List.set_cons_zero, List.set_cons_succ, i64_w, i32_w]
    rfl
  refine pure_ (i := 15) (N := some 86) (v := ?_) (a' := ?_) #[true, true, true, false, true, true, true, true, false, true, false, true, true, true, false, true, false, false, false, false, false] rfl rfl (by kernel_rfl) (fun _ _ _ h => h) (Or.inl ⟨by rfl, ?_⟩) ?_ ?_
  rotate_left
  · intro w'
    go_simp
    with_reducible rfl
  rotate_left
  · simp only [Act.put, List.setIfInBounds_toArray, List.set_cons_zero, List.set_cons_succ, i64_w, i32_w]
    rfl
  refine pure_ (i := 16) (N := some 87) (v := ?_) (a' := ?_) #[true, true, true, false, true, true, true, true, false, true, false, true, true, true, false, true, true, false, false, false, false] rfl rfl (by kernel_rfl) (fun _ _ _ h => h) (Or.inl ⟨by rfl, ?_⟩) ?_ ?_
  rotate_left
  · intro w'
    go_simp
    with_reducible rfl
  rotate_left
  · simp only [Act.put, List.setIfInBounds_toArray, List.set_cons_zero, List.set_cons_succ, i64_w, i32_w]
    rfl
  refine take_ (i := 3) (N := some 74) (v := ?_) (a' := ?_) #[true, true, true, true, true, true, true, true, false, true, false, true, true, true, false, true, true, false, false, false, false] rfl rfl (by kernel_rfl) (fun _ _ _ h => h) (Or.inl ⟨by rfl, ?_⟩) hHeld ?_ ?_
  rotate_left
  · rintro w' ⟨s0, s1, s2⟩
    go_simp
    with_reducible rfl
  rotate_left
  · simp only [Act.put, List.setIfInBounds_toArray, List.set_cons_zero, List.set_cons_succ, i64_w, i32_w]
    rfl
  refine take_ (i := 8) (N := some 79) (v := ?_) (a' := ?_) #[true, true, true, true, true, true, true, true, true, true, false, true, true, true, false, true, true, false, false, false, false] rfl rfl (by kernel_rfl) (fun _ _ _ h => h) (Or.inl ⟨by rfl, ?_⟩) hHeld ?_ ?_
  rotate_left
  · rintro w' ⟨s0, s1, s2⟩
    go_simp
    with_reducible rfl
  rotate_left
  · simp only [Act.put, List.setIfInBounds_toArray, List.set_cons_zero, List.set_cons_succ, i64_w, i32_w]
    rfl
  refine take_ (i := 10) (N := some 81) (v := ?_) (a' := ?_) #[true, true, true, true, true, true, true, true, true, true, true, true, true, true, false, true, true, false, false, false, false] rfl rfl (by kernel_rfl) (fun _ _ _ h => h) (Or.inl ⟨by rfl, ?_⟩) hHeld ?_ ?_
  rotate_left
  · rintro w' ⟨s0, s1, s2⟩
    go_simp
    with_reducible rfl
  rotate_left
  · simp only [Act.put, List.setIfInBounds_toArray, List.set_cons_zero, List.set_cons_succ, i64_w, i32_w]
    rfl
  refine take_ (i := 14) (N := some 85) (v := ?_) (a' := ?_) #[true, true, true, true, true, true, true, true, true, true, true, true, true, true, true, true, true, false, false, false, false] rfl rfl (by kernel_rfl) (fun _ _ _ h => h) (Or.inl ⟨by rfl, ?_⟩) hHeld ?_ ?_
  rotate_left
  · rintro w' ⟨s0, s1, s2⟩
    go_simp
    with_reducible rfl
  rotate_left
  · simp only [Act.put, List.setIfInBounds_toArray, List.set_cons_zero, List.set_cons_succ, i64_w, i32_w]
    rfl
  refine pure_ (i := 17) (N := some 88) (v := ?_) (a' := ?_) #[true, true, true, true, true, true, true, true, true, true, true, true, true, true, true, true, true, true, false, false, false] rfl rfl (by kernel_rfl) (fun _ _ _ h => h) (Or.inl ⟨by rfl, ?_⟩) ?_ ?_
  rotate_left
  · intro w'
    go_simp
    with_reducible rfl
  rotate_left
  · simp only [Act.put, List.setIfInBounds_toArray, List.set_cons_zero, List.set_cons_succ, i64_w, i32_w]
    rfl
  refine one_ (i := 18) (N := some 89) #[true, true, true, true, true, true, true, true, true, true, true, true, true, true, true, true, true, true, true, false, false] rfl rfl (by kernel_rfl) (by decide) (fun K hK => ?_)
  refine value_ (w1 := ?_) (v := ?_) (by rfl) rfl ?_ ?_
  rotate_left 2
  · go_simp
    constructor
    · rfl
    · rfl
  refine hK.out _ _ ⟨(hS _ (cd.alloc _)).1, (hS _ (cd.alloc _)).2.1, (hS _ (cd.alloc _)).2.2⟩ (fun hHeld => ?_)
  clear hK K
  refine norm_ (a' := ?_) ?_ ?_
  rotate_left
  · show Act.put _ (some 89) _ = _
    simp only [Act.put, List.setIfInBounds_toArray, List.set_cons_zero, List.set_cons_succ, i64_w, i32_w]
    rfl
  refine one_ (i := 19) (N := some 90) #[true, true, true, true, true, true, true, true, true, true, true, true, true, true, true, true, true, true, true, true, false] rfl rfl (by kernel_rfl) (by decide) (fun K hK => ?_)
  refine step_append_cells (w0 := w4.drew) 0 (by rfl) _ _ 71 73 (.agg #[.int .i64 0, .int .i64 0, .int .i64 0]) 3 24 rfl Try.underlying71 info73 rfl (by decide) (by omega) v0 l.length (cellsOf l) [.int .i64 (place + 1), .int .i64 n, .int .i64 now] rfl rfl rfl (by simp [Value.oneCell']) hrow5 (Below.refl _ _) (Nat.zero_le _) (by omega) ?_
  intro v1 w6 hown hb6 hg6 hat6
  have c6 := cd.grown2 hg6 (fun _ e => e)
  obtain ⟨w7, hrun7, hm7, hg7⟩ := (hm6 w6 c6).update (string_keyed Try.underlying9) Try.underlying63 hnm (Go.WideMaps.keyOf_string_mk Try.underlying9 hc) (val := v1) (d := .held v1) (ps := []) rfl
  refine hK.out _ _ ⟨(hS _ c6).1, (hS _ c6).2.1, (hS _ c6).2.2⟩ (fun hHeld => ?_)
  clear hK K
  refine norm_ (a' := ?_) ?_ ?_
  rotate_left
  · show Act.put _ (some 90) _ = _
    simp only [Act.put, List.setIfInBounds_toArray, List.set_cons_zero, List.set_cons_succ, i64_w, i32_w]
    rfl
  refine last_ (i := 20) (N := none) #[true, true, true, true, true, true, true, true, true, true, true, true, true, true, true, true, true, true, true, true, true] rfl rfl (by kernel_rfl) (by decide) (fun K hK => ?_)
  refine skip_ (w1 := ?_) (by rfl) rfl ?_ ?_
  rotate_left
  · go_simp
    rfl
  refine hK.out _ _ ?_
  clear hK K
  refine done_ (by kernel_rfl) ?_
  have hR' : Rows w4.drew F p m S nn D v := hR.kept b4.inm hpm (fun _ _ _ => rfl)
  have b4' : Book w4.drew F p m cards (place + 1) now S := b4.kept (⟨rfl, rfl, rfl, Nat.le_refl _, fun _ _ _ => rfl⟩ : Chg (fun _ => False) w4 w4.drew) (fun _ _ hf => hf)
  have b7 : Book w7 (fun i => F i ∨ v1.ownBlock = some i) p m cards (place + 1) now (S.put c (l ++ [⟨place + 1, n, now⟩])) := by
    refine b4'.put_ (by omega) hR' hv0 v1 _ (by simp) ?_ hg6 hat6 hm7 hg7
    rw [List.length_append, cellsOf_append]
    exact hown
  have c7 : Chg F w w7 := (c4.trans c6 (fun i _ hi => (hblk i hi).1)).grown2 hg7 (fun k e => by injection e with e; rw [← e]; exact h.inm)
  have b7d : Book w7.drew (fun i => F i ∨ v1.ownBlock = some i) p m cards (place + 1) now (S.put c (l ++ [⟨place + 1, n, now⟩])) := b7.kept (⟨rfl, rfl, rfl, Nat.le_refl _, fun _ _ _ => rfl⟩ : Chg (fun _ => False) w7 w7.drew) (fun _ _ hf => hf)
  go_upto_region 13 with (fail)
  refine start_ (n := 10) (S := fun w' => w'.cell? ⟨p, 1, none⟩ = some (.map (some m)) ∧ w'.cell? ⟨p, 0, none⟩ = some (.int .i64 cards) ∧ (∀ ty, (Builtin.len_ #[63] ty #[.map (some m)]).run Try.prog w' = .ok (.int .i64 ((S.put c (l ++ [⟨place + 1, n, now⟩])).length : Int)) w')) (ds := []) #[false, false, false, false, false, false, false, false, false, false] (by kernel_rfl) rfl rfl ⟨b7.cell.2.1, b7.cell.1, b7d.len_run⟩ (fun hHeld => ?_)
  refine pure_ (i := 0) (N := some 91) (v := ?_) (a' := ?_) #[true, false, false, false, false, false, false, false, false, false] rfl rfl (by kernel_rfl) (fun _ _ _ h => h) (Or.inl ⟨by rfl, ?_⟩) ?_ ?_
  rotate_left
  · intro w'
    go_simp
    with_reducible rfl
  rotate_left
  · simp only [Act.put, List.setIfInBounds_toArray, List.set_cons_zero, List.set_cons_succ, i64_w, i32_w]
    rfl
  refine pure_ (i := 1) (N := some 92) (v := ?_) (a' := ?_) #[true, true, false, false, false, false, false, false, false, false] rfl rfl (by kernel_rfl) (fun _ _ _ h => h) (Or.inl ⟨by rfl, ?_⟩) ?_ ?_
  rotate_left
  · intro w'
    go_simp
    with_reducible rfl
  rotate_left
  · simp only [Act.put, List.setIfInBounds_toArray, List.set_cons_zero, List.set_cons_succ, i64_w, i32_w]
    rfl
  refine pure_ (i := 2) (N := some 93) (v := ?_) (a' := ?_) #[true, true, true, false, false, false, false, false, false, false] rfl rfl (by kernel_rfl) (fun _ _ _ h => h) (Or.inl ⟨by rfl, ?_⟩) ?_ ?_
  rotate_left
  · intro w'
    go_simp
    with_reducible rfl
  rotate_left
  · simp only [Act.put, List.setIfInBounds_toArray, List.set_cons_zero, List.set_cons_succ, i64_w, i32_w]
    rfl
  refine pure_ (i := 5) (N := some 96) (v := ?_) (a' := ?_) #[true, true, true, false, false, true, false, false, false, false] rfl rfl (by kernel_rfl) (fun _ _ _ h => h) (Or.inl ⟨by rfl, ?_⟩) ?_ ?_
  rotate_left
  · intro w'
    go_simp
    with_reducible rfl
  rotate_left
  · simp only [Act.put, List.setIfInBounds_toArray, List.set_cons_zero, List.set_cons_succ, i64_w, i32_w]
    rfl
  refine pure_ (i := 6) (N := some 97) (v := ?_) (a' := ?_) #[true, true, true, false, false, true, true, false, false, false] rfl rfl (by kernel_rfl) (fun _ _ _ h => h) (Or.inl ⟨by rfl, ?_⟩) ?_ ?_
  rotate_left
  · intro w'
    go_simp
    with_reducible rfl
  rotate_left
  · simp only [Act.put, List.setIfInBounds_toArray, List.set_cons_zero, List.set_cons_succ, i64_w, i32_w]
    rfl
  refine pure_ (i := 7) (N := some 98) (v := ?_) (a' := ?_) #[true, true, true, false, false, true, true, true, false, false] rfl rfl (by kernel_rfl) (fun _ _ _ h => h) (Or.inl ⟨by rfl, ?_⟩) ?_ ?_
  rotate_left
  · intro w'
    go_simp
    with_reducible rfl
  rotate_left
  · simp only [Act.put, List.setIfInBounds_toArray, List.set_cons_zero, List.set_cons_succ, i64_w, i32_w]
    rfl
  refine take_ (i := 3) (N := some 94) (v := ?_) (a' := ?_) #[true, true, true, true, false, true, true, true, false, false] rfl rfl (by kernel_rfl) (fun _ _ _ h => h) (Or.inl ⟨by rfl, ?_⟩) hHeld ?_ ?_
  rotate_left
  · rintro w' ⟨s0, s1, s2⟩
    go_simp
    with_reducible rfl
  rotate_left
  · simp only [Act.put, List.setIfInBounds_toArray, List.set_cons_zero, List.set_cons_succ, i64_w, i32_w]
    rfl
  refine take_ (i := 8) (N := some 99) (v := ?_) (a' := ?_) #[true, true, true, true, false, true, true, true, true, false] rfl rfl (by kernel_rfl) (fun _ _ _ h => h) (Or.inl ⟨by rfl, ?_⟩) hHeld ?_ ?_
  rotate_left
  · rintro w' ⟨s0, s1, s2⟩
    go_simp
    with_reducible rfl
  rotate_left
  · simp only [Act.put, List.setIfInBounds_toArray, List.set_cons_zero, List.set_cons_succ, i64_w, i32_w]
    rfl
  refine one_ (i := 4) (N := some 95) #[true, true, true, true, true, true, true, true, true, false] rfl rfl (by kernel_rfl) (by decide) (fun K hK => ?_)
  obtain ⟨s0, s1, s2⟩ := hHeld
  refine value_ (w1 := ?_) (v := ?_) (by rfl) rfl ?_ ?_
  rotate_left 2
  · go_simp
    constructor
    · rfl
    · rfl
  refine hK.out _ _ ⟨s0, s1, s2⟩ (fun hHeld => ?_)
  clear hK K
  refine norm_ (a' := ?_) ?_ ?_
  rotate_left
  · show Act.put _ (some 95) _ = _
    simp only [Act.put, List.setIfInBounds_toArray, List.set_cons_zero, List.set_cons_succ, i64_w, i32_w]
    rfl
  refine pure_ (i := 9) (N := some 100) (v := ?_) (a' := ?_) #[true, true, true, true, true, true, true, true, true, true] rfl rfl (by kernel_rfl) (fun _ _ _ h => h) (Or.inl ⟨by rfl, ?_⟩) ?_ ?_
  rotate_left
  · intro w'
    go_simp
    with_reducible rfl
  rotate_left
  · simp only [Act.put, List.setIfInBounds_toArray, List.set_cons_zero, List.set_cons_succ, i64_w, i32_w]
    rfl
  refine done_ (by kernel_rfl) ?_
  have F7 : ∀ i, (F i ∨ v1.ownBlock = some i) → F i ∨ w.heap.size ≤ i := fun i hi => by
    rcases hi with hi | hi
    · exact .inl hi
    · rcases hat6 with e | ⟨b, e, hge⟩
      · rw [e] at hi; exact .inl (hblk i hi).1
      · rw [e] at hi
        injection hi with hi
        have := c4.size
        have : w4.drew.heap.size = w4.heap.size := rfl
        exact .inr (by omega)
  obtain ⟨S1, hS1⟩ : ∃ S1, S.put c (l ++ [⟨place + 1, n, now⟩]) = S1 := ⟨_, rfl⟩
  rw [hS1] at b7 b7d
  by_cases hlen : cards < (S1.length : Int)
  · have dl : decide (cards < (S1.length : Int)) = true := decide_eq_true hlen
    have b7dd : Book w7.drew.drew (fun i => F i ∨ v1.ownBlock = some i) p m cards (place + 1) now S1 := b7d.kept (⟨rfl, rfl, rfl, Nat.le_refl _, fun _ _ _ => rfl⟩ : Chg (fun _ => False) w7.drew w7.drew.drew) (fun _ _ hf => hf)
    have hne : S1 ≠ [] := by rw [← hS1]; unfold St.put; simp
    have hall : ∀ x ∈ S1, 0 ≤ lastP x.2 ∧ x.2.length ≤ 1000000 ∧ x.1.size ≤ maxLen := by
      intro x hx
      rw [← hS1] at hx
      unfold St.put at hx
      rcases List.mem_cons.mp hx with rfl | hx
      · refine ⟨?_, ?_, hc⟩
        · unfold lastP
          simp
          omega
        · rw [hl] at hl9
          rw [List.length_append]
          simp
          omega
      · have := hP x (mem_del.mp hx).1
        exact ⟨this.1, by omega, this.2.2⟩
    have hpp : ∀ x ∈ S1, 0 ≤ lastP x.2 ∧ x.2.length ≤ 1000000 := fun x hx => ⟨(hall x hx).1, (hall x hx).2.1⟩
    have hszz : ∀ x ∈ S1, x.1.size ≤ maxLen := fun x hx => (hall x hx).2.2
    have hszo : ∀ c0, Oldest S1 c0 → c0.size ≤ maxLen := fun c0 ⟨x, hx, e, _⟩ => by rw [← e]; exact hszz x hx
    (try rw [hS1])
    go_upto_region 14 with (fail)
    refine start_ (n := 7) (S := fun w' => w'.cell? ⟨p, 1, none⟩ = some (.map (some m))) (ds := [6]) #[false, false, false, false, false, false, false] (by kernel_rfl) rfl rfl (b7dd.cell.2.1) (fun hHeld => ?_)
    refine pure_ (i := 0) (N := some 101) (v := ?_) (a' := ?_) #[true, false, false, false, false, false, false] rfl rfl (by kernel_rfl) (fun _ _ _ h => h) (Or.inl ⟨by rfl, ?_⟩) ?_ ?_
    rotate_left
    · intro w'
      go_simp
      with_reducible rfl
    rotate_left
    · simp only [Act.put, List.setIfInBounds_toArray, List.set_cons_zero, List.set_cons_succ, i64_w, i32_w]
      rfl
    refine pure_ (i := 1) (N := some 102) (v := ?_) (a' := ?_) #[true, true, false, false, false, false, false] rfl rfl (by kernel_rfl) (fun _ _ _ h => h) (Or.inl ⟨by rfl, ?_⟩) ?_ ?_
    rotate_left
    · intro w'
      go_simp
      with_reducible rfl
    rotate_left
    · simp only [Act.put, List.setIfInBounds_toArray, List.set_cons_zero, List.set_cons_succ, i64_w, i32_w]
      rfl
    refine pure_ (i := 2) (N := some 103) (v := ?_) (a' := ?_) #[true, true, true, false, false, false, false] rfl rfl (by kernel_rfl) (fun _ _ _ h => h) (Or.inl ⟨by rfl, ?_⟩) ?_ ?_
    rotate_left
    · intro w'
      go_simp
      with_reducible rfl
    rotate_left
    · simp only [Act.put, List.setIfInBounds_toArray, List.set_cons_zero, List.set_cons_succ, i64_w, i32_w]
      rfl
    refine pure_ (i := 4) (N := some 105) (v := ?_) (a' := ?_) #[true, true, true, false, true, false, false] rfl rfl (by kernel_rfl) (fun _ _ _ h => h) (Or.inl ⟨by rfl, ?_⟩) ?_ ?_
    rotate_left
    · intro w'
      go_simp
      with_reducible rfl
    rotate_left
    · simp only [Act.put, List.setIfInBounds_toArray, List.set_cons_zero, List.set_cons_succ, i64_w, i32_w]
      rfl
    refine take_ (i := 3) (N := some 104) (v := ?_) (a' := ?_) #[true, true, true, true, true, false, false] rfl rfl (by kernel_rfl) (fun _ _ _ h => h) (Or.inl ⟨by rfl, ?_⟩) hHeld ?_ ?_
    rotate_left
    · intro w' s0
      go_simp
      with_reducible rfl
    rotate_left
    · simp only [Act.put, List.setIfInBounds_toArray, List.set_cons_zero, List.set_cons_succ, i64_w, i32_w]
      rfl
    refine one_ (i := 5) (N := some 106) #[true, true, true, true, true, true, false] rfl rfl (by kernel_rfl) (by decide) (fun K hK => ?_)
    refine goes_ Try.func22 (by kernel_rfl) rfl #[.pointer (some ⟨p, 0, none⟩)] (by rfl) rfl rfl (by simp only [List.map_toArray, List.map_cons, List.map_nil]; rfl) ?_
    with_reducible refine (oldest_calls _ b7dd hne hpp hszz).mono ?_
    rintro e w8 ⟨c0, rfl, hO, hB8⟩
    refine ⟨_, rfl, ?_⟩
    obtain ⟨n8, D8, v8, hn8, hR8⟩ := (b7dd.kept (Chg.of_below hB8 : Chg (fun _ => False) w7.drew.drew w8) (fun _ _ hf => hf)).open_
    obtain ⟨w9, hrun9, hm9, ht9⟩ := hR8.map.drop (string_keyed Try.underlying9) Try.underlying63 (key := .string c0) (kl := key c0) (Go.WideMaps.keyOf_string_mk Try.underlying9 (hszo c0 hO)) 0
    refine hK.out _ _ (pw_cell_below hB8 (b7dd.cell.2.1)) (fun hHeld => ?_)
    clear hK K
    refine norm_ (a' := ?_) ?_ ?_
    rotate_left
    · show Act.put _ (some 106) _ = _
      simp only [Act.put, List.setIfInBounds_toArray, List.set_cons_zero, List.set_cons_succ, i64_w, i32_w]
      rfl
    refine last_ (i := 6) (N := none) #[true, true, true, true, true, true, true] rfl rfl (by kernel_rfl) (by decide) (fun K hK => ?_)
    refine value_ (w1 := ?_) (v := ?_) (by rfl) rfl ?_ ?_
    rotate_left 2
    · go_simp
      constructor
      · rfl
      · rfl
    refine hK.out _ _ ?_
    clear hK K
    refine done_ (by kernel_rfl) ?_
    have b9 := (b7dd.kept (Chg.of_below hB8 : Chg (fun _ => False) w7.drew.drew w8) (fun _ _ hf => hf)).del_ hn8 hR8 hm9 ht9.grown
    have c9 : Chg F w w9 := (((c7.trans (⟨rfl, rfl, rfl, Nat.le_refl _, fun _ _ _ => rfl⟩ : Chg F w7 w7.drew.drew) (fun _ _ hf => hf)).trans (Chg.of_below hB8 : Chg F w7.drew.drew w8) (fun _ _ hf => hf))).grown2 ht9.grown (fun k e => by injection e with e; rw [← e]; exact h.inm)
    go_wp2
    go_ret
    exact ⟨rfl, _, S1.del c0, .inr ⟨by rw [hl, hS1]; exact hlen, c0, by rw [hl, hS1]; exact hO, by rw [hl, hS1]⟩, b9, c9, F7⟩
  · have dl : decide (cards < (S1.length : Int)) = false := decide_eq_false hlen
    (try rw [hS1])
    go_wp2
    go_ret
    refine ⟨rfl, _, S1, .inl ⟨by rw [hl, hS1]; omega, by rw [hl, hS1]⟩, b7d, (c7.trans (⟨rfl, rfl, rfl, Nat.le_refl _, fun _ _ _ => rfl⟩ : Chg F w7 w7.drew) (fun _ _ hf => hf)), F7⟩
end Go.Proofs.Ytgndgjjejgbmoaa.Bok
