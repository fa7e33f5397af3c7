/- The document's own Book: contract: Undo. -/
import Derived.Test.YtgndgjjejgbmoaaPl4
namespace Go.Proofs.Ytgndgjjejgbmoaa.Bok
open Go Go.RowKit Go.Maps Go.Proofs.YtgndgjjejgbmoaaW.PrintWords Go.Proofs.YtgndgjjejgbmoaaW.PrintLast Go.Proofs.YtgndgjjejgbmoaaW.PrintMore PStandinHolds
set_option linter.unusedSimpArgs false
set_option linter.unusedVariables false
theorem RB.at0 {w : World} {r : Nat} {cards now : Int} {L : List Gv} {g cp : Nat} (h : RB w r cards now L (.slice (some ⟨g, 0, none⟩) L.length cp)) (i : Nat) (hi : i < L.length) :
    w.cell? ⟨g, i * 3, none⟩ = some (.string L[i].1) ∧ w.cell? ⟨g, i * 3 + 1, none⟩ = some (.int .i64 L[i].2.1) ∧ w.cell? ⟨g, i * 3 + 2, none⟩ = some (.int .i64 L[i].2.2) := by
  have hc := h.row.cells (g := g) rfl
  obtain ⟨k0, k1, k2⟩ := cellsG_get L i hi
  have a0 := hc _ _ k0
  have a1 := hc _ _ k1
  have a2 := hc _ _ k2
  rw [Addr.add_lit, Nat.zero_add] at a0 a1 a2
  exact ⟨a0, a1, a2⟩
theorem info80' : ∃ i0, Try.prog.info? 80 = some i0 ∧ i0.zero = some (.agg #[.string ByteArray.empty, .int .i64 0, .int .i64 0]) ∧ i0.size = 3 ∧ i0.bytes = 32 := by
  have h := info80
  cases h2 : Try.prog.info? 80 with
  | none => rw [h2] at h; cases h
  | some j => rw [h2] at h; injection h with h; injection h with h0 h; injection h with h1 h3; exact ⟨j, rfl, h0, h1, h3⟩
theorem cellsG_one : ∀ (l : List Gv), ∀ u ∈ cellsG l, u.oneCell' = true
  | [], u, h => by cases h
  | a :: l, u, h => by
    simp only [cellsG, List.mem_cons] at h
    rcases h with rfl | rfl | rfl | h
    · rfl
    · rfl
    · rfl
    · exact cellsG_one l u h
def hitG (c : ByteArray) (n t : Int) (g : Gv) : Bool := decide (g.1 = c) && ((g.2.1 == n) && (g.2.2 == t))
def undoL (c : ByteArray) (n t : Int) (L : List Gv) : List Gv := match L.findIdx? (hitG c n t) with | some i => L.eraseIdx i | none => L
set_option maxRecDepth 100000 in
set_option maxHeartbeats 1000000 in
theorem rundo_calls (w : World) (r : Nat) (cards nw : Int) (L : List Gv) (v : Value) (hB : RB w r cards nw L v) (hl : L.length ≤ 100000) (c : ByteArray) (n t : Int) :
    Calls Try.prog 24 #[.pointer (some ⟨r, 0, none⟩), .string c, .int .i64 n, .int .i64 t] w fun e w' => e = .returned (.bool (L.findIdx? (hitG c n t)).isSome) ∧ ∃ v', RB w' r cards nw (undoL c n t L) v' ∧ Chg (fun i => i = r) w w' ∧ (∀ b, v'.ownBlock = some b → v.ownBlock = some b ∨ w.heap.size ≤ b) := by
  have hB0 := hB
  obtain ⟨EB, hEB⟩ : ∃ EB, (L.findIdx? (hitG c n t)).isSome = EB := ⟨_, rfl⟩
  obtain ⟨L', hL'⟩ : ∃ L', undoL c n t L = L' := ⟨_, rfl⟩
  rw [hEB, hL']
  replace hEB := Aside0.mk hEB
  replace hL' := Aside0.mk hL'
  obtain ⟨A, cp, rfl, hA⟩ : ∃ A cp, v = .slice A L.length cp ∧ (0 < L.length → ∃ g, A = some ⟨g, 0, none⟩) := by
    rcases hB.row.2 with ⟨e1, e2⟩ | ⟨g, cap, cur, e1, _⟩
    · exact ⟨none, 0, by rw [e1, e2], fun h => by omega⟩
    · exact ⟨_, _, e1, fun _ => ⟨_, rfl⟩⟩
  obtain ⟨z0, z1, z2⟩ := hB.cell
  clear z0 z1
  go_enter Try.func24, Try.ntmps24
  go_wp2
  go_loopg [9] L.length (fun kq v9 w' => ∃ i : Nat, v9 = .int .i64 i ∧ Aside0 (i + kq = L.length) ∧ Aside0 (∀ j (h : j < L.length), j < i → hitG c n t L[j] = false) ∧ Aside0 (Below w.heap.size w w'))
  case atStart => exact ⟨0, rfl, ⟨Nat.zero_add _⟩, ⟨fun j _ h => absurd h (Nat.not_lt_zero j)⟩, ⟨Below.refl _ _⟩⟩
  case round =>
    obtain ⟨i, rfl, HK, HN, HB⟩ := hrel
    have y2 := pw_cell_below HB.out z2
    cases gk with
    | zero =>
      have e : i = L.length := HK.out
      subst e
      have d1 : decide ((L.length : Int) < (L.length : Int)) = false := decide_eq_false (by omega)
      have hf : L.findIdx? (hitG c n t) = none := by
        rw [List.findIdx?_eq_none_iff]
        intro x hx
        obtain ⟨j, hj, rfl⟩ := List.mem_iff_getElem.mp hx
        exact HN.out j hj hj
      go_wp2
      go_ret
      have q1 := hEB.out
      have q2 := hL'.out
      unfold undoL at q2
      rw [hf] at q1 q2
      subst q2
      exact ⟨by rw [← q1]; rfl, _, hB0.below HB.out, Chg.of_below HB.out, fun b hb => .inl hb⟩
    | succ gk =>
      have hi : i < L.length := by have := HK.out; omega
      have d1 : decide ((i : Int) < (L.length : Int)) = true := decide_eq_true (by omega)
      have c2 : (0 ≤ (i : Int)) = True := eq_true (by omega)
      have c3 : ((i : Int) < (L.length : Int)) = True := eq_true (by omega)
      have c4 : (i < L.length) = True := eq_true hi
      obtain ⟨g, rfl⟩ := hA (by omega)
      obtain ⟨x0, x1, x2⟩ := hB.at0 i hi
      have hb1 : (i : Int) ≤ 100000 := by omega
      obtain ⟨gv, hgv⟩ : ∃ gv, L[i] = gv := ⟨_, rfl⟩
      rw [hgv] at x0 x1 x2
      replace hgv := Aside0.mk hgv
      obtain ⟨D, gu, gt⟩ := gv
      replace x0 := pw_cell_below HB.out x0
      replace x1 := pw_cell_below HB.out x1
      replace x2 := pw_cell_below HB.out x2
      have goon : hitG c n t (D, gu, gt) = false → ∀ j (h : j < L.length), j < i + 1 → hitG c n t L[j] = false := by
        intro hno j hj hlt
        by_cases e : j = i
        · subst e; rw [hgv.out]; exact hno
        · exact HN.out j hj (by omega)
      replace goon := Aside0.mk goon
      by_cases h1 : D = c
      · subst h1
        by_cases h2 : gu = n
        · subst h2
          by_cases h3 : gt = t
          · subst h3
            have hit : L.findIdx? (hitG D gu gt) = some i := by
              rw [List.findIdx?_eq_some_iff_getElem]
              refine ⟨hi, by rw [hgv.out]; simp [hitG], fun j hj => ?_⟩
              rw [HN.out j (by omega) hj]
              simp
            have q1 := hEB.out
            have q2 := hL'.out
            unfold undoL at q2
            rw [hit] at q1 q2
            subst q2
            have hEt : EB = true := q1.symm
            subst hEt
            have hcp := own_cap hB.row
            have hRw := hB0.below HB.out
            have hcells := hRw.row.cells (g := g) rfl
            obtain ⟨i0, hi0, hz0, hz1, hz2⟩ := info80'
            have htl : (cellsG (L.take i)).length = i * 3 := by rw [cellsG_length, List.length_take, Nat.min_eq_left (by omega)]
            have hsp : cellsG L = cellsG (L.take i) ++ cellsG (L.drop i) := by rw [← cellsG_append, List.take_append_drop]
            have s1 : Aside0 (∀ j u, (cellsG (L.take i))[j]? = some u → wr.cell? ((⟨g, 0, none⟩ : Addr).add j) = some u) := ⟨fun j u hu => hcells j u (by rw [hsp, List.getElem?_append_left (List.getElem?_eq_some_iff.mp hu).1]; exact hu)⟩
            have hdl : (cellsG (L.drop (i + 1))).length = (L.length - (i + 1)) * 3 := by rw [cellsG_length, List.length_drop]
            obtain ⟨A2, hA2, hsrc⟩ : ∃ A2 : Addr, (if cp = i + 1 then some (⟨g, 0, none⟩ : Addr) else some ⟨g, (i + 1) * 3, none⟩) = some A2 ∧ Aside0 (∀ j u, (cellsG (L.drop (i + 1)))[j]? = some u → wr.cell? (A2.add j) = some u) := by
              by_cases h : cp = i + 1
              · refine ⟨⟨g, 0, none⟩, by simp [h], ⟨fun j u hu => ?_⟩⟩
                have h0 : (cellsG (L.drop (i + 1))).length = 0 := by rw [hdl]; omega
                rw [List.length_eq_zero_iff.1 h0] at hu
                simp at hu
              · refine ⟨⟨g, (i + 1) * 3, none⟩, by simp [h], ⟨fun j u hu => ?_⟩⟩
                have hy : cellsG L = cellsG (L.take (i + 1)) ++ cellsG (L.drop (i + 1)) := by rw [← cellsG_append, List.take_append_drop]
                have hlt : (cellsG (L.take (i + 1))).length = (i + 1) * 3 := by rw [cellsG_length, List.length_take, Nat.min_eq_left (by omega)]
                have hg2 : (cellsG L)[(i + 1) * 3 + j]? = some u := by
                  rw [hy, List.getElem?_append_right (by rw [hlt]; omega), hlt, Nat.add_sub_cancel_left]
                  exact hu
                have := hcells _ _ hg2
                rw [Addr.add_lit] at this ⊢
                rw [Nat.zero_add] at this
                exact this
            have hic : i ≤ cp := by omega
            have hjc : i + 1 ≤ cp := by omega
            have hjl : i + 1 ≤ L.length := hi
            have n2 : (0 ≤ (i : Int) + 1) = True := eq_true (by omega)
            have n3 : ((i : Int) + 1 ≤ (L.length : Int)) = True := eq_true (by omega)
            have n4 : ((i : Int) ≤ (cp : Int)) = True := eq_true (by omega)
            have t51 := Try.underlying51
            clear hit q1 hsp hcells hA x0 x1 x2
            have x0 := (hRw.at0 i hi).1
            have x1 := (hRw.at0 i hi).2.1
            have x2 := (hRw.at0 i hi).2.2
            rw [hgv.out] at x0 x1 x2
            go_wp2_with (first
              | ((with_reducible refine gate_builtin (b := .append) (xs := #[.tmp 32, .tmp 38]) rfl ?_); at_builtin; refine wpList_append_own_at _ rfl (.tmp 32) (.tmp 38) 51 rfl wr.heap.size 80 i0 (.agg #[.string ByteArray.empty, .int .i64 0, .int .i64 0]) 3 32 t51 hi0 hz0 hz1 hz2 rfl (by decide) (.slice none 0 0) 0 [] rfl (World.ownsRow_nil _ _ _ _) ⟨g, 0, none⟩ i cp (cellsG (L.take i)) rfl htl s1.out (cellsG_one _) (by simp only [maxLen]; omega) (by omega) (Nat.le_refl _) ?_; intro v1 w5 hown5 hg5 _ hat5; have hB5 : Below wr.heap.size wr w5 := ⟨hg5.os, hg5.tape, hg5.output, hg5.size, fun k hk => hg5.block k hk (by simp [Value.ownBlock])⟩; have y5 := pw_cell_below hB5 y2)
              | ((with_reducible refine gate_builtin (b := .append) (xs := #[.tmp 40, .tmp 47]) rfl ?_); at_builtin; refine wpList_append_own_at _ rfl (.tmp 40) (.tmp 47) 51 rfl wr.heap.size 80 i0 (.agg #[.string ByteArray.empty, .int .i64 0, .int .i64 0]) 3 32 t51 hi0 hz0 hz1 hz2 rfl (by decide) v1 (0 + i) ([] ++ cellsG (L.take i)) rfl hown5 A2 (L.length - (i + 1)) (cp - (i + 1)) (cellsG (L.drop (i + 1))) rfl hdl (fun j u hu => pw_cell_below hB5 (hsrc.out j u hu)) (cellsG_one _) (by simp only [maxLen]; omega) (by omega) hB5.size ?_; intro v2 w6 hown6 hg6 _ hat6; obtain ⟨A6, c6, rfl⟩ := own_slice hown6; have hB6 : Below wr.heap.size wr w6 := hB5.grown hg6 hB5.size (own_base hown5); have y6 := pw_cell_below hB6 y2; have f6 := (hRw.below hB6).frozen 2))
            go_ret
            rw [Nat.zero_add] at hown6
            have hR6 := hRw.below hB6
            have hlE : (L.eraseIdx i).length = i + (L.length - (i + 1)) := by rw [List.length_eraseIdx_of_lt hi]; omega
            have hcE : cellsG (L.eraseIdx i) = [] ++ cellsG (L.take i) ++ cellsG (L.drop (i + 1)) := by rw [List.nil_append, ← cellsG_append, List.eraseIdx_eq_take_drop_succ]
            have hltr := (Array.getElem?_eq_some_iff.mp hRw.strct).1
            refine ⟨rfl, _, hR6.set2 (L' := L.eraseIdx i) (by rw [hlE, hcE]; exact own_weaken hown6 (Nat.zero_le _)) (fun e => Nat.lt_irrefl _ (Nat.lt_of_lt_of_le hltr (hown6.lt _ e).1)), ((Chg.of_below (below_step HB.out hB6) : Chg (fun i => i = r) w w6).set _ _ rfl), fun b hb => .inr (Nat.le_trans HB.out.size (hown6.lt b hb).1)⟩
          · have g3 : hitG D gu t (D, gu, gt) = false := by simp [hitG, h3]
            go_wp2
            go_roundg gk
            case measure => exact Nat.lt_succ_self _
            case rel => exact ⟨i + 1, rfl, ⟨(Nat.add_right_comm i 1 gk).trans HK.out⟩, ⟨goon.out g3⟩, HB⟩
        · have g3 : hitG D n t (D, gu, gt) = false := by simp [hitG, h2]
          go_wp2
          go_roundg gk
          case measure => exact Nat.lt_succ_self _
          case rel => exact ⟨i + 1, rfl, ⟨(Nat.add_right_comm i 1 gk).trans HK.out⟩, ⟨goon.out g3⟩, HB⟩
      · have g3 : hitG c n t (D, gu, gt) = false := by simp [hitG, h1]
        have h1' := toList_ne h1
        go_wp2
        go_roundg gk
        case measure => exact Nat.lt_succ_self _
        case rel => exact ⟨i + 1, rfl, ⟨(Nat.add_right_comm i 1 gk).trans HK.out⟩, ⟨goon.out g3⟩, HB⟩
end Go.Proofs.Ytgndgjjejgbmoaa.Bok
