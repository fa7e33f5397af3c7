/- The document's own Book: contract: forget. -/
import Derived.Test.YtgndgjjejgbmoaaPl2
namespace Go.Proofs.Ytgndgjjejgbmoaa.Bok
open Go Go.RowKit Go.Maps Go.Proofs.YtgndgjjejgbmoaaW.PrintWords Go.Proofs.YtgndgjjejgbmoaaW.PrintLast Go.Proofs.YtgndgjjejgbmoaaW.PrintMore PStandinHolds
set_option linter.unusedSimpArgs false
set_option linter.unusedVariables false
theorem info80 : (Try.prog.info? 80).map (fun i => (i.zero, i.size, i.bytes)) = some (some (.agg #[.string ByteArray.empty, .int .i64 0, .int .i64 0]), 3, 32) := by kernel_rfl
def woCard (c : ByteArray) (L : List Gv) : List Gv := L.filter (fun g => !decide (g.1 = c))
theorem woCard_snoc (c : ByteArray) (l : List Gv) (g : Gv) : woCard c (l ++ [g]) = woCard c l ++ (if g.1 = c then [] else [g]) := by
  unfold woCard
  rw [List.filter_append]
  congr 1
  by_cases h : g.1 = c
  · rw [if_pos h]; simp [h]
  · rw [if_neg h]; simp [h]
theorem own_slice {w : World} {base e s n : Nat} {v : Value} {xs : List Value} (h : w.ownsRow base e s v n xs) : ∃ A c, v = .slice A n c := by
  rcases h.2 with ⟨e1, e2⟩ | ⟨g, cap, cur, e1, _⟩
  · exact ⟨none, 0, by rw [e1, e2]⟩
  · exact ⟨_, _, e1⟩
theorem RB.set2 {w : World} {r : Nat} {cards nw : Int} {L L' : List Gv} {v v' : Value} (h : RB w r cards nw L v) (ho : w.ownsRow 0 80 3 v' L'.length (cellsG L')) (hne : v'.ownBlock ≠ some r) : RB (w.setCell ⟨r, 2, none⟩ v') r cards nw L' v' :=
  ⟨(blk_set h.strct 2 v').trans rfl, own_move ho (fun k hk => setCell_block _ _ _ _ (fun e => hne (by rw [hk, e])))⟩
theorem RB.set1 {w : World} {r : Nat} {cards nw x : Int} {L : List Gv} {v : Value} (h : RB w r cards nw L v) : RB (w.setCell ⟨r, 1, none⟩ (.int .i64 x)) r cards x L v := by
  refine ⟨(blk_set h.strct 1 _).trans rfl, own_move h.row (fun k hk => setCell_block _ _ _ _ (fun e => ?_))⟩
  obtain ⟨c1, k1⟩ := own_typed h.row k hk
  have e2 : k = r := e
  rw [e2, h.strct] at k1
  injection k1 with k1
  injection k1 with _ k1
  cases k1
/-- What the inner loop finds. -/
def GoRel (w7 : World) (C : ByteArray) (L : List Gv) (kq : Nat) (v5 v6 : Value) (w' : World) : Prop :=
  ∃ k : Nat, v6 = .int .i64 k ∧ k + kq = L.length ∧ w'.ownsRow w7.heap.size 80 3 v5 (woCard C (L.take k)).length (cellsG (woCard C (L.take k))) ∧ Below w7.heap.size w7 w'
set_option maxRecDepth 100000 in
set_option maxHeartbeats 1000000 in
theorem forget_calls (w : World) (r : Nat) (cards nw : Int) (L : List Gv) (v : Value) (hB : RB w r cards nw L v) (hl : L.length ≤ 100000) (c0 : ByteArray) (rest : List ByteArray) (hc0 : lastsG L = c0 :: rest) :
    Calls Try.prog 33 #[.pointer (some ⟨r, 0, none⟩)] w fun e w' => e = .returned (.tuple #[]) ∧ ∃ v', RB w' r cards nw (woCard c0 L) v' ∧ Chg (fun i => i = r) w w' ∧ (∀ b, v'.ownBlock = some b → w.heap.size ≤ b) := by
  have hB0 := hB
  obtain ⟨A, cp, rfl, hA⟩ := hB.form
  obtain ⟨z0, z1, z2⟩ := hB.cell
  clear z0 z1
  go_enter Try.func33, Try.ntmps33
  go_wp2
  go_loopg [2] L.length (fun kq v2 w' => ∃ i : Nat, v2 = .int .i64 i ∧ Aside0 (i + kq = L.length) ∧ Aside0 (lastsG (L.drop i) = lastsG L) ∧ Aside0 (Below w.heap.size w w'))
  case atStart => exact ⟨0, rfl, ⟨Nat.zero_add _⟩, ⟨rfl⟩, ⟨Below.refl _ _⟩⟩
  case round =>
    obtain ⟨i, rfl, HK, HN, HB⟩ := hrel
    have y2 := pw_cell_below HB.out z2
    cases gk with
    | zero =>
      exfalso
      have e : i = L.length := HK.out
      have := HN.out
      rw [e, List.drop_length, hc0] at this
      cases this
    | succ gk =>
      have hi : i < L.length := by have := HK.out; omega
      have d1 : decide ((i : Int) < (L.length : Int)) = true := decide_eq_true (by omega)
      have c2 : (0 ≤ (i : Int)) = True := eq_true (by omega)
      have c3 : ((i : Int) < (L.length : Int)) = True := eq_true (by omega)
      have c4 : (i < L.length) = True := eq_true hi
      obtain ⟨ad, rfl⟩ := hA (by omega)
      have x0 := pw_cell_below HB.out (hB.at_ i hi).1
      have hdr := lastsG_drop hi
      rw [HN.out] at hdr
      have hb1 : (i : Int) ≤ 100000 := by omega
      have hlast : ∀ z, IsLast L[i].1 L z → _ := fun z hz => last_is hi hz
      obtain ⟨D, hD⟩ : ∃ D, L[i].1 = D := ⟨_, rfl⟩
      have hRB := hB0.below HB.out
      have hla := last_calls wr r cards nw L _ hRB hl D
      rw [hD] at x0
      replace hD := Aside0.mk hD
      replace hlast := Aside0.mk hlast
      replace hdr := Aside0.mk hdr
      go_upto_region 4 with (go_at_call 34; with_reducible refine hla.mono ?_; rintro e w2 ⟨z, rfl, hz, hB2⟩)
      have hiff := hlast.out z (by rw [hD.out]; exact hz)
      have hdo := hdr.out
      rw [hD.out] at hiff hdo
      by_cases he : z = i
      · have d2 : decide (z = (i : Int)) = true := decide_eq_true he
        rw [hiff.mp he] at hdo
        simp only [Bool.false_eq_true, if_false] at hdo
        rw [hc0] at hdo
        injection hdo with hdo _
        subst hdo
        clear hiff hz hla
        subst he
        have hRB2 := hRB.below hB2
        replace y2 := pw_cell_below hB2 y2
        replace x0 := pw_cell_below hB2 x0
        have hBall : Below w.heap.size w w2 := below_step HB.out hB2
        go_wp2
        go_loopg [5, 6] L.length (fun kq v5 v6 w' => GoRel w2 c0 L kq v5 v6 w')
        case atStart => exact ⟨0, rfl, Nat.zero_add _, World.ownsRow_nil _ _ _ _, Below.refl _ _⟩
        case round =>
          obtain ⟨k, rfl, HK2, hO, hB3⟩ := hrel
          have y3 := pw_cell_below hB3 y2
          cases gk with
          | zero =>
            have e : k = L.length := HK2
            subst e
            rw [List.take_length] at hO
            have d3 : decide ((L.length : Int) < (L.length : Int)) = false := decide_eq_false (by omega)
            obtain ⟨A5, c5, rfl⟩ := own_slice hO
            have hRB3 := hRB2.below hB3
            have hfz := hRB3.frozen 2
            have hlt := (Array.getElem?_eq_some_iff.mp hRB2.strct).1
            go_wp2
            (try simp only [Exit.inBlock, Exit.then])
            refine bodyPost_ret (results_none rfl _ _ _) rfl ?_
            refine ⟨rfl, _, hRB3.set2 (own_weaken hO (Nat.zero_le _)) (fun e => Nat.lt_irrefl _ (Nat.lt_of_lt_of_le hlt (hO.lt _ e).1)), ((Chg.of_below (below_step hBall hB3) : Chg (fun i => i = r) w wr).set _ _ rfl), fun b hb => Nat.le_trans hBall.size (hO.lt b hb).1⟩
          | succ gk =>
            have hk : k < L.length := by omega
            have d3 : decide ((k : Int) < (L.length : Int)) = true := decide_eq_true (by omega)
            have c6 : (0 ≤ (k : Int)) = True := eq_true (by omega)
            have c7 : ((k : Int) < (L.length : Int)) = True := eq_true (by omega)
            have c8 : (k < L.length) = True := eq_true hk
            have hb2 : (k : Int) ≤ 100000 := by omega
            obtain ⟨u0, u1, u2⟩ := hRB2.at_ k hk
            have ho : woCard c0 (L.take (k + 1)) = woCard c0 (L.take k) ++ (if L[k].1 = c0 then [] else [L[k]]) := by rw [← woCard_snoc, List.take_append_getElem hk]
            have hwl : (woCard c0 (L.take k)).length ≤ 100000 := by
              have h1 : (woCard c0 (L.take k)).length ≤ (L.take k).length := List.length_filter_le _ _
              rw [List.length_take] at h1
              omega
            obtain ⟨gv, hgv⟩ : ∃ gv, L[k] = gv := ⟨_, rfl⟩
            rw [hgv] at u0 u1 u2 ho
            clear hgv
            obtain ⟨E, gu, gt⟩ := gv
            replace u0 := pw_cell_below hB3 u0
            replace u1 := pw_cell_below hB3 u1
            replace u2 := pw_cell_below hB3 u2
            have hHK := Aside0.mk HK2
            clear HK2
            by_cases hDC : E = c0
            · subst hDC
              rw [if_pos rfl, List.append_nil] at ho
              replace ho := Aside0.mk ho
              go_wp2
              go_roundg gk
              case measure => exact Nat.lt_succ_self _
              case rel => exact ⟨k + 1, rfl, (Nat.add_right_comm k 1 gk).trans hHK.out, by rw [ho.out]; exact hO, hB3⟩
            · have d6 : (E.toList == c0.toList) = false := by simpa using toList_ne hDC
              have d7 : decide (E.toList = c0.toList) = false := decide_eq_false (toList_ne hDC)
              rw [if_neg hDC] at ho
              replace ho := Aside0.mk ho
              go_wp2_with (first
                | ((with_reducible refine gate_builtin (b := .append) (xs := #[.tmp 56, .tmp 64]) rfl ?_); at_builtin; refine print_append_cells (w0 := w2) w2.heap.size rfl (.tmp 56) (.tmp 64) 51 80 (.agg #[.string ByteArray.empty, .int .i64 0, .int .i64 0]) 3 32 rfl Try.underlying51 info80 rfl (by decide) (by decide) _ _ _ [.string E, .int .i64 gu, .int .i64 gt] rfl rfl rfl (by simp [Value.oneCell']) hO hB3 hB3.size (by omega) ?_; intro v1 wv hown1 hB4 hg1 hat1))
              go_roundg gk
              case measure => exact Nat.lt_succ_self _
              case rel =>
                refine ⟨k + 1, rfl, (Nat.add_right_comm k 1 gk).trans hHK.out, ?_, hB4⟩
                rw [ho.out, cellsG_append, List.length_append]
                exact hown1
      · have d2 : decide (z = (i : Int)) = false := decide_eq_false he
        have d3 : (z == (i : Int)) = false := by simpa using he
        have ht : (L.drop (i + 1)).any (fun d => decide (d.1 = D)) = true := by
          cases hh : (L.drop (i + 1)).any (fun d => decide (d.1 = D)) with
          | true => rfl
          | false => exact absurd (hiff.mpr hh) he
        rw [ht] at hdo
        simp only [if_true] at hdo
        replace hdo := Aside0.mk hdo
        clear hiff hz ht
        go_wp2
        go_roundg gk
        case measure => exact Nat.lt_succ_self _
        case rel => exact ⟨i + 1, rfl, ⟨(Nat.add_right_comm i 1 gk).trans HK.out⟩, ⟨hdo.out.symm⟩, ⟨below_step HB.out hB2⟩⟩
end Go.Proofs.Ytgndgjjejgbmoaa.Bok
