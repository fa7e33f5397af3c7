/- The document's own Book: contract: Ask. -/
import Derived.Test.YtgndgjjejgbmoaaPl3
namespace Go.Proofs.Ytgndgjjejgbmoaa.Bok
open Go Go.RowKit Go.Maps Go.Proofs.YtgndgjjejgbmoaaW.PrintWords Go.Proofs.YtgndgjjejgbmoaaW.PrintLast Go.Proofs.YtgndgjjejgbmoaaW.PrintMore PStandinHolds
set_option linter.unusedSimpArgs false
set_option linter.unusedVariables false
/-- What the document's Ask tells. -/
def askL (nw : Int) (L : List Gv) (L0 L1 L2 W : Int) (c : ByteArray) (n now : Int) : Int :=
  if c.size = 0 then 50 else if amt n = false then 71 else if rightP L0 L1 L2 W = false ∨ now < 0 ∨ now < nw then 1 else
  if L0 < n ∨ L1 ≤ ((cntG W now c L).length : Int) ∨ L2 < (cntG W now c L).sum + n then 210 else 0
/-- What it forgets. -/
def forgetL (cards : Int) (L : List Gv) : List Gv := if cards < ((lastsG L).length : Int) then woCard ((lastsG L).headD ByteArray.empty) L else L
/-- The world behind it. -/
def RAskPost (w : World) (r : Nat) (cards nw : Int) (L : List Gv) (v : Value) (E : Int) (c : ByteArray) (n now : Int) (w' : World) : Prop :=
  ∃ nw' L' v', RB w' r cards nw' L' v' ∧ Chg (fun i => i = r ∨ v.ownBlock = some i) w w' ∧ (∀ b, v'.ownBlock = some b → v.ownBlock = some b ∨ w.heap.size ≤ b) ∧ ((E ≠ 0 ∧ nw' = nw ∧ L' = L) ∨ (E = 0 ∧ nw' = now ∧ L' = forgetL cards (L ++ [(c, n, now)])))
theorem RB.ne {w : World} {r : Nat} {cards nw : Int} {L : List Gv} {v : Value} (h : RB w r cards nw L v) : some r ≠ v.ownBlock := by
  intro e
  obtain ⟨c1, k1⟩ := own_typed h.row r e.symm
  rw [h.strct] at k1
  injection k1 with k1
  injection k1 with _ k1
  cases k1
theorem lastsG_ne : ∀ {L : List Gv}, L ≠ [] → ∃ c0 rest, lastsG L = c0 :: rest
  | [], h => absurd rfl h
  | g :: l, _ => by
    unfold lastsG
    split
    · next h =>
      refine lastsG_ne (fun e => ?_)
      rw [e] at h
      cases h
    · exact ⟨_, _, rfl⟩
set_option maxRecDepth 100000 in
set_option maxHeartbeats 2000000 in
theorem rask_calls (w : World) (r : Nat) (cards nw : Int) (L : List Gv) (v : Value) (hB : RB w r cards nw L v) (hl : L.length ≤ 99000) (hok : ∀ g ∈ L, OkGv g) (L0 L1 L2 W : Int) (c : ByteArray) (n now : Int) (hn0 : -9223372036854775808 ≤ n) (hn1 : n ≤ 9223372036854775807) (h1 : now ≤ 9223372036854775807) :
    Calls Try.prog 23 #[.pointer (some ⟨r, 0, none⟩), .agg #[.int .i64 L0, .int .i64 L1, .int .i64 L2, .int .i64 W], .string c, .int .i64 n, .int .i64 now] w fun e w' => e = .returned (.int .i64 (askL nw L L0 L1 L2 W c n now)) ∧ RAskPost w r cards nw L v (askL nw L L0 L1 L2 W c n now) c n now w' := by
  obtain ⟨E, hEE⟩ : ∃ E, askL nw L L0 L1 L2 W c n now = E := ⟨_, rfl⟩
  rw [hEE]
  replace hEE := Aside0.mk hEE
  have hr := rright_f L0 L1 L2 W
  have ha := runits_f n
  have done_no : E ≠ 0 → ∀ w', Below w.heap.size w w' → RAskPost w r cards nw L v E c n now w' := fun hne w' hb => ⟨nw, L, v, hB.below hb, Chg.of_below hb, fun b h => .inl h, .inl ⟨hne, rfl, rfl⟩⟩
  go_enter Try.func23, Try.ntmps23
  go_upto_region 1 with (fail)
  obtain ⟨w1, hw1⟩ : ∃ w1, w1 = w.alloc (.cells #[.int .i64 L0, .int .i64 L1, .int .i64 L2, .int .i64 W] 23) := ⟨_, rfl⟩
  rw [← hw1]
  have B1 : Below w.heap.size w w1 := by rw [hw1]; exact below_alloc (Below.refl _ _) _
  have hbox : w1.heap[w.heap.size]? = some (.cells #[.int .i64 L0, .int .i64 L1, .int .i64 L2, .int .i64 W] 23 (0, 0)) := by rw [hw1]; exact heap_alloc_new _ _
  clear hw1
  have hbk := hB.below B1
  obtain ⟨x0, x1, x2, x3⟩ := box_cells hbox rfl
  obtain ⟨_, x4, _⟩ := hbk.cell
  have after : ∀ w2, Below w1.heap.size w1 w2 → w2.cell? ⟨w.heap.size, 0, none⟩ = some (.int .i64 L0) ∧ w2.cell? ⟨w.heap.size, 1, none⟩ = some (.int .i64 L1) ∧ w2.cell? ⟨w.heap.size, 2, none⟩ = some (.int .i64 L2) ∧ w2.cell? ⟨w.heap.size, 3, none⟩ = some (.int .i64 W) ∧ w2.cell? ⟨r, 1, none⟩ = some (.int .i64 nw) := fun w2 hb2 =>
    ⟨pw_cell_below hb2 x0, pw_cell_below hb2 x1, pw_cell_below hb2 x2, pw_cell_below hb2 x3, pw_cell_below hb2 x4⟩
  clear hbox
  obtain ⟨b1, hb1⟩ : ∃ b, amt n = b := ⟨_, rfl⟩
  obtain ⟨b2, hb2⟩ : ∃ b, rightP L0 L1 L2 W = b := ⟨_, rfl⟩
  rw [hb1] at ha
  rw [hb2] at hr
  by_cases hcs : c.size = 0
  · have he0 : c.toList.isEmpty = true := by rw [toList_empty]; exact decide_eq_true hcs
    have hEv : E = 50 := by
      have := hEE.out
      unfold askL at this
      rw [← this]
      simp [hcs]
    go_wp2_with (first
      | (go_at_call 30; with_reducible refine (PStandinPlays.turnstileref21_units.calls n b1 _ ha).mono ?_; rintro e w' ⟨rfl, kd, rfl⟩)
      | (go_at_call 31; with_reducible refine (PStandinPlays.turnstileref21_Right.calls L0 L1 L2 W b2 _ hr).mono ?_; rintro e w2 ⟨rfl, hB2⟩; obtain ⟨y0, y1, y2, y3, y4⟩ := after w2 (below_step (pw_below_drewN (Below.refl _ _) _) hB2))
      | (go_at_call 32; with_reducible refine (counts_calls w2 r cards nw L v (hbk.below (below_step (pw_below_drewN (Below.refl _ _) _) hB2)) (by omega) hok W c now (by omega) h1).mono ?_; rintro e w3 ⟨rfl, hB3⟩; replace y0 := pw_cell_below hB3 y0; replace y1 := pw_cell_below hB3 y1; replace y2 := pw_cell_below hB3 y2))
    go_ret
    exact ⟨by rw [hEv]; rfl, done_no (by rw [hEv]; decide) _ (below_step B1 (below_step (pw_below_drewN (Below.refl _ _) _) hB2))⟩
  · have he0 : c.toList.isEmpty = false := by rw [toList_empty]; exact decide_eq_false hcs
    cases b1 with
    | false =>
      have hEv : E = 71 := by
        have := hEE.out
        unfold askL at this
        rw [← this]
        simp [hcs, hb1]
      go_wp2_with (first
        | (go_at_call 30; with_reducible refine (PStandinPlays.turnstileref21_units.calls n false _ ha).mono ?_; rintro e w' ⟨rfl, kd, rfl⟩)
        | (go_at_call 31; with_reducible refine (PStandinPlays.turnstileref21_Right.calls L0 L1 L2 W b2 _ hr).mono ?_; rintro e w2 ⟨rfl, hB2⟩; obtain ⟨y0, y1, y2, y3, y4⟩ := after w2 (below_step (pw_below_drewN (Below.refl _ _) _) hB2))
        | (go_at_call 32; with_reducible refine (counts_calls w2 r cards nw L v (hbk.below (below_step (pw_below_drewN (Below.refl _ _) _) hB2)) (by omega) hok W c now (by omega) h1).mono ?_; rintro e w3 ⟨rfl, hB3⟩; replace y0 := pw_cell_below hB3 y0; replace y1 := pw_cell_below hB3 y1; replace y2 := pw_cell_below hB3 y2))
      go_ret
      exact ⟨by rw [hEv]; rfl, done_no (by rw [hEv]; decide) _ (below_step B1 (below_step (pw_below_drewN (Below.refl _ _) _) hB2))⟩
    | true =>
      have hnn : 0 ≤ n ∧ n ≤ 999999999999 := by
        unfold amt at hb1
        simp only [Bool.and_eq_true, decide_eq_true_eq] at hb1
        exact hb1
      cases b2 with
      | false =>
        have hEv : E = 1 := by
          have := hEE.out
          unfold askL at this
          rw [← this]
          simp [hcs, hb1, hb2]
        go_wp2_with (first
          | (go_at_call 30; with_reducible refine (PStandinPlays.turnstileref21_units.calls n true _ ha).mono ?_; rintro e w' ⟨rfl, kd, rfl⟩)
          | (go_at_call 31; with_reducible refine (PStandinPlays.turnstileref21_Right.calls L0 L1 L2 W false _ hr).mono ?_; rintro e w2 ⟨rfl, hB2⟩; obtain ⟨y0, y1, y2, y3, y4⟩ := after w2 (below_step (pw_below_drewN (Below.refl _ _) _) hB2))
          | (go_at_call 32; with_reducible refine (counts_calls w2 r cards nw L v (hbk.below (below_step (pw_below_drewN (Below.refl _ _) _) hB2)) (by omega) hok W c now (by omega) h1).mono ?_; rintro e w3 ⟨rfl, hB3⟩; replace y0 := pw_cell_below hB3 y0; replace y1 := pw_cell_below hB3 y1; replace y2 := pw_cell_below hB3 y2))
        go_ret
        exact ⟨by rw [hEv]; rfl, done_no (by rw [hEv]; decide) _ (below_step B1 (below_step (pw_below_drewN (Below.refl _ _) _) hB2))⟩
      | true =>
        by_cases g1 : now < 0
        · have d1 : decide (now < 0) = true := decide_eq_true g1
          have hEv : E = 1 := by
            have := hEE.out
            unfold askL at this
            rw [← this]
            simp [hcs, hb1, hb2, g1]
          go_wp2_with (first
            | (go_at_call 30; with_reducible refine (PStandinPlays.turnstileref21_units.calls n true _ ha).mono ?_; rintro e w' ⟨rfl, kd, rfl⟩)
            | (go_at_call 31; with_reducible refine (PStandinPlays.turnstileref21_Right.calls L0 L1 L2 W true _ hr).mono ?_; rintro e w2 ⟨rfl, hB2⟩; obtain ⟨y0, y1, y2, y3, y4⟩ := after w2 (below_step (pw_below_drewN (Below.refl _ _) _) hB2))
            | (go_at_call 32; with_reducible refine (counts_calls w2 r cards nw L v (hbk.below (below_step (pw_below_drewN (Below.refl _ _) _) hB2)) (by omega) hok W c now (by omega) h1).mono ?_; rintro e w3 ⟨rfl, hB3⟩; replace y0 := pw_cell_below hB3 y0; replace y1 := pw_cell_below hB3 y1; replace y2 := pw_cell_below hB3 y2))
          go_ret
          exact ⟨by rw [hEv]; rfl, done_no (by rw [hEv]; decide) _ (below_step B1 (below_step (pw_below_drewN (Below.refl _ _) _) hB2))⟩
        · have d1 : decide (now < 0) = false := decide_eq_false g1
          by_cases g2 : now < nw
          · have d2 : decide (now < nw) = true := decide_eq_true g2
            have hEv : E = 1 := by
              have := hEE.out
              unfold askL at this
              rw [← this]
              simp [hcs, hb1, hb2, g2]
            go_wp2_with (first
              | (go_at_call 30; with_reducible refine (PStandinPlays.turnstileref21_units.calls n true _ ha).mono ?_; rintro e w' ⟨rfl, kd, rfl⟩)
              | (go_at_call 31; with_reducible refine (PStandinPlays.turnstileref21_Right.calls L0 L1 L2 W true _ hr).mono ?_; rintro e w2 ⟨rfl, hB2⟩; obtain ⟨y0, y1, y2, y3, y4⟩ := after w2 (below_step (pw_below_drewN (Below.refl _ _) _) hB2))
              | (go_at_call 32; with_reducible refine (counts_calls w2 r cards nw L v (hbk.below (below_step (pw_below_drewN (Below.refl _ _) _) hB2)) (by omega) hok W c now (by omega) h1).mono ?_; rintro e w3 ⟨rfl, hB3⟩; replace y0 := pw_cell_below hB3 y0; replace y1 := pw_cell_below hB3 y1; replace y2 := pw_cell_below hB3 y2))
            go_ret
            exact ⟨by rw [hEv]; rfl, done_no (by rw [hEv]; decide) _ (below_step B1 (below_step (pw_below_drewN (Below.refl _ _) _) hB2))⟩
          · have d2 : decide (now < nw) = false := decide_eq_false g2
            have hbd := cntG_bnd (W := W) (now := now) (c := c) (l := L) hok
            obtain ⟨q, hq⟩ : ∃ q, cntG W now c L = q := ⟨_, rfl⟩
            rw [hq] at hbd
            have q0 : 0 ≤ q.sum := hbd.1.1
            have q1 : q.sum ≤ 99999999999900000 := by omega
            have q2 : (q.length : Int) ≤ 100000 := by omega
            have q3 : 0 ≤ n := hnn.1
            have q4 : n ≤ 999999999999 := hnn.2
            by_cases g3 : L0 < n
            · have d3 : decide (L0 < n) = true := decide_eq_true g3
              have hEv : E = 210 := by
                have := hEE.out
                unfold askL at this
                rw [← this]
                simp only [hcs, hb1, hb2, hq, if_false, Bool.true_eq_false, false_or]; rw [if_neg (by omega), if_pos (by omega)]
              go_wp2_with (first
                | (go_at_call 30; with_reducible refine (PStandinPlays.turnstileref21_units.calls n true _ ha).mono ?_; rintro e w' ⟨rfl, kd, rfl⟩)
                | (go_at_call 31; with_reducible refine (PStandinPlays.turnstileref21_Right.calls L0 L1 L2 W true _ hr).mono ?_; rintro e w2 ⟨rfl, hB2⟩; obtain ⟨y0, y1, y2, y3, y4⟩ := after w2 (below_step (pw_below_drewN (Below.refl _ _) _) hB2))
                | (go_at_call 32; with_reducible refine (counts_calls w2 r cards nw L v (hbk.below (below_step (pw_below_drewN (Below.refl _ _) _) hB2)) (by omega) hok W c now (by omega) h1).mono ?_; rintro e w3 ⟨rfl, hB3⟩; replace y0 := pw_cell_below hB3 y0; replace y1 := pw_cell_below hB3 y1; replace y2 := pw_cell_below hB3 y2))
              go_ret
              exact ⟨by rw [hEv]; rfl, done_no (by rw [hEv]; decide) _ (below_step B1 (below_step (below_step (pw_below_drewN (Below.refl _ _) _) hB2) hB3))⟩
            · have d3 : decide (L0 < n) = false := decide_eq_false g3
              by_cases g4 : L1 ≤ (q.length : Int)
              · have d4 : decide (L1 ≤ (q.length : Int)) = true := decide_eq_true g4
                have hEv : E = 210 := by
                  have := hEE.out
                  unfold askL at this
                  rw [← this]
                  simp only [hcs, hb1, hb2, hq, if_false, Bool.true_eq_false, false_or]; rw [if_neg (by omega), if_pos (by omega)]
                go_wp2_with (first
                  | (go_at_call 30; with_reducible refine (PStandinPlays.turnstileref21_units.calls n true _ ha).mono ?_; rintro e w' ⟨rfl, kd, rfl⟩)
                  | (go_at_call 31; with_reducible refine (PStandinPlays.turnstileref21_Right.calls L0 L1 L2 W true _ hr).mono ?_; rintro e w2 ⟨rfl, hB2⟩; obtain ⟨y0, y1, y2, y3, y4⟩ := after w2 (below_step (pw_below_drewN (Below.refl _ _) _) hB2))
                  | (go_at_call 32; with_reducible refine (counts_calls w2 r cards nw L v (hbk.below (below_step (pw_below_drewN (Below.refl _ _) _) hB2)) (by omega) hok W c now (by omega) h1).mono ?_; rintro e w3 ⟨rfl, hB3⟩; replace y0 := pw_cell_below hB3 y0; replace y1 := pw_cell_below hB3 y1; replace y2 := pw_cell_below hB3 y2))
                go_ret
                exact ⟨by rw [hEv]; rfl, done_no (by rw [hEv]; decide) _ (below_step B1 (below_step (below_step (pw_below_drewN (Below.refl _ _) _) hB2) hB3))⟩
              · have d4 : decide (L1 ≤ (q.length : Int)) = false := decide_eq_false g4
                by_cases g5 : L2 < q.sum + n
                · have d5 : decide (L2 < q.sum + n) = true := decide_eq_true g5
                  have hEv : E = 210 := by
                    have := hEE.out
                    unfold askL at this
                    rw [← this]
                    simp only [hcs, hb1, hb2, hq, if_false, Bool.true_eq_false, false_or]; rw [if_neg (by omega), if_pos (by omega)]
                  go_wp2_with (first
                    | (go_at_call 30; with_reducible refine (PStandinPlays.turnstileref21_units.calls n true _ ha).mono ?_; rintro e w' ⟨rfl, kd, rfl⟩)
                    | (go_at_call 31; with_reducible refine (PStandinPlays.turnstileref21_Right.calls L0 L1 L2 W true _ hr).mono ?_; rintro e w2 ⟨rfl, hB2⟩; obtain ⟨y0, y1, y2, y3, y4⟩ := after w2 (below_step (pw_below_drewN (Below.refl _ _) _) hB2))
                    | (go_at_call 32; with_reducible refine (counts_calls w2 r cards nw L v (hbk.below (below_step (pw_below_drewN (Below.refl _ _) _) hB2)) (by omega) hok W c now (by omega) h1).mono ?_; rintro e w3 ⟨rfl, hB3⟩; replace y0 := pw_cell_below hB3 y0; replace y1 := pw_cell_below hB3 y1; replace y2 := pw_cell_below hB3 y2))
                  go_ret
                  exact ⟨by rw [hEv]; rfl, done_no (by rw [hEv]; decide) _ (below_step B1 (below_step (below_step (pw_below_drewN (Below.refl _ _) _) hB2) hB3))⟩
                · have d5 : decide (L2 < q.sum + n) = false := decide_eq_false g5
                  have hEv : E = 0 := by
                    have := hEE.out
                    unfold askL at this
                    rw [← this]
                    simp only [hcs, hb1, hb2, hq, if_false, Bool.true_eq_false, false_or]
                    rw [if_neg (by omega), if_neg (by omega)]
                  go_upto_region 12 with (first
                    | (go_at_call 30; with_reducible refine (PStandinPlays.turnstileref21_units.calls n true _ ha).mono ?_; rintro e w' ⟨rfl, kd, rfl⟩)
                    | (go_at_call 31; with_reducible refine (PStandinPlays.turnstileref21_Right.calls L0 L1 L2 W true _ hr).mono ?_; rintro e w2 ⟨rfl, hB2⟩; obtain ⟨y0, y1, y2, y3, y4⟩ := after w2 (below_step (pw_below_drewN (Below.refl _ _) _) hB2))
                    | (go_at_call 32; with_reducible refine (counts_calls w2 r cards nw L v (hbk.below (below_step (pw_below_drewN (Below.refl _ _) _) hB2)) (by omega) hok W c now (by omega) h1).mono ?_; rintro e w3 ⟨rfl, hB3⟩; replace y0 := pw_cell_below hB3 y0; replace y1 := pw_cell_below hB3 y1; replace y2 := pw_cell_below hB3 y2))
                  have hBall : Below w.heap.size w w3 := below_step B1 (below_step (below_step (pw_below_drewN (Below.refl _ _) _) hB2) hB3)
                  have hR3 := hB.below hBall
                  obtain ⟨k0, k1, k2⟩ := hR3.cell
                  have hf1 := hR3.frozen 1
                  clear y0 y1 y2 y3 y4 hq
                  go_upto_region 13 with (fail)
                  obtain ⟨w4, hw4⟩ : ∃ w4, w4 = w3.setCell ⟨r, 1, none⟩ (.int .i64 now) := ⟨_, rfl⟩
                  rw [← hw4]
                  have hR4 : RB w4 r cards now L v := by rw [hw4]; exact hR3.set1
                  have hC4 : Chg (fun i => i = r ∨ v.ownBlock = some i) w w4 := by rw [hw4]; exact (Chg.of_below hBall).set _ _ (.inl rfl)
                  clear hw4 k0 k1 k2 hf1 hR3 hBall hB2 hB3
                  obtain ⟨A, cp, rfl, _⟩ := hR4.form
                  obtain ⟨k0, k1, k2⟩ := hR4.cell
                  go_upto_region 14 with ((with_reducible refine gate_builtin (b := .append) (xs := #[.tmp 76, .tmp 81]) rfl ?_); at_builtin; refine print_append_cells (w0 := w4) 0 rfl (.tmp 76) (.tmp 81) 51 80 (.agg #[.string ByteArray.empty, .int .i64 0, .int .i64 0]) 3 32 rfl Try.underlying51 info80 rfl (by decide) (by decide) (.slice A L.length cp) L.length (cellsG L) [.string c, .int .i64 n, .int .i64 now] rfl rfl rfl (by simp [Value.oneCell']) hR4.row ⟨rfl, rfl, rfl, Nat.le_refl _, fun _ _ => rfl⟩ (Nat.zero_le _) (by omega) ?_; intro v1 wv hown _ hg hat; obtain ⟨A1, c1, rfl⟩ := own_slice hown; have hbr := (hg.block r (Array.getElem?_eq_some_iff.mp hR4.strct).1 hR4.ne).trans hR4.strct; have s2 : wv.cell? ⟨r, 2, none⟩ = some (.slice A L.length cp) := (by simp [World.cell?, hbr]); have s3 : wv.frozen? ⟨r, 2, none⟩ = false := (by simp [World.frozen?, hbr]))
                  obtain ⟨w5, hw5⟩ : ∃ w5, w5 = wv.setCell ⟨r, 2, none⟩ (.slice A1 (L.length + 1) c1) := ⟨_, rfl⟩
                  rw [← hw5]
                  have hlt : r < w4.heap.size := (Array.getElem?_eq_some_iff.mp hR4.strct).1
                  have hne1 : (Value.slice A1 (L.length + 1) c1).ownBlock ≠ some r := by
                    intro e
                    rcases hat with h | ⟨b, h, hge⟩
                    · exact hR4.ne (by rw [← h, e])
                    · rw [h] at e; injection e with e; omega
                  have hl1 : (L ++ [(c, n, now)]).length = L.length + 1 := by rw [List.length_append]; rfl
                  have hrow5 : w5.ownsRow 0 80 3 (.slice A1 (L.length + 1) c1) (L ++ [(c, n, now)]).length (cellsG (L ++ [(c, n, now)])) := by
                    rw [hl1, cellsG_append, hw5]
                    exact own_move hown (fun k hk => setCell_block _ _ _ _ (fun e => hne1 (by rw [hk, e])))
                  have hR5 : RB w5 r cards now (L ++ [(c, n, now)]) (.slice A1 (L.length + 1) c1) := ⟨by rw [hw5]; exact (blk_set hbr 2 _).trans rfl, hrow5⟩
                  have hC5 : Chg (fun i => i = r ∨ (Value.slice A L.length cp).ownBlock = some i) w w5 := by
                    rw [hw5]
                    exact (hC4.grown2 hg (fun k e => .inr e)).set _ _ (.inl rfl)
                  have hat5 : ∀ b, (Value.slice A1 (L.length + 1) c1).ownBlock = some b → (Value.slice A L.length cp).ownBlock = some b ∨ w.heap.size ≤ b := by
                    intro b hb
                    rcases hat with h | ⟨b', h, hge⟩
                    · exact .inl (by rw [← h, hb])
                    · rw [h] at hb; injection hb with hb; exact .inr (by have := hC4.size; omega)
                  have hlen := rlen_calls w5 r cards now _ _ hR5 (by rw [hl1]; omega)
                  obtain ⟨c0, rest, hc0⟩ := lastsG_ne (L := L ++ [(c, n, now)]) (by simp)
                  have hfor := fun w' (hb : Below w5.heap.size w5 w') => forget_calls w' r cards now _ _ (hR5.below hb) (by rw [hl1]; omega) c0 rest hc0
                  obtain ⟨m0, _, _⟩ := hR5.cell
                  obtain ⟨LL, hLL⟩ : ∃ LL, (lastsG (L ++ [(c, n, now)])).length = LL := ⟨_, rfl⟩
                  rw [hLL] at hlen
                  have hFL : forgetL cards (L ++ [(c, n, now)]) = if cards < (LL : Int) then woCard c0 (L ++ [(c, n, now)]) else L ++ [(c, n, now)] := by unfold forgetL; rw [hLL, hc0]; rfl
                  clear hw5 hg hat hown hbr s2 s3 k0 k1 k2 hc0
                  by_cases hcl : cards < (LL : Int)
                  · have d9 : decide (cards < (LL : Int)) = true := decide_eq_true hcl
                    rw [if_pos hcl] at hFL
                    go_wp2_with (first
                      | (go_at_call 26; with_reducible refine hlen.mono ?_; rintro e w6 ⟨rfl, hB6⟩; have m1 := pw_cell_below hB6 m0)
                      | (go_at_call 33; with_reducible refine (hfor w6 hB6).mono ?_; rintro e w7 ⟨rfl, v7, hR7, hC7, hf7⟩))
                    go_ret
                    refine ⟨by rw [hEv]; rfl, now, _, v7, hR7, (hC5.trans (Chg.of_below hB6 : Chg (fun i => i = r) w5 w6) (fun i _ e => .inl e)).trans hC7 (fun i _ e => .inl e), fun b hb => .inr (by have := hf7 b hb; have := hC5.size; have := hB6.size; omega), .inr ⟨hEv, rfl, hFL.symm⟩⟩
                  · have d9 : decide (cards < (LL : Int)) = false := decide_eq_false hcl
                    rw [if_neg hcl] at hFL
                    go_wp2_with (first
                      | (go_at_call 26; with_reducible refine hlen.mono ?_; rintro e w6 ⟨rfl, hB6⟩; have m1 := pw_cell_below hB6 m0))
                    go_ret
                    exact ⟨by rw [hEv]; rfl, now, _, _, hR5.below hB6, hC5.trans (Chg.of_below hB6 : Chg (fun i => i = r) w5 w6) (fun i _ e => .inl e), hat5, .inr ⟨hEv, rfl, hFL.symm⟩⟩
end Go.Proofs.Ytgndgjjejgbmoaa.Bok
