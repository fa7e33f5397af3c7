/- The document's own Book: its struct and its row; contracts: last, Len. -/
import Derived.Test.YtgndgjjejgbmoaaUn1
namespace Go.Proofs.Ytgndgjjejgbmoaa.Bok
open Go Go.RowKit Go.Maps Go.Proofs.YtgndgjjejgbmoaaW.PrintWords Go.Proofs.YtgndgjjejgbmoaaW.PrintLast Go.Proofs.YtgndgjjejgbmoaaW.PrintMore PStandinHolds
set_option linter.unusedSimpArgs false
set_option linter.unusedVariables false
/-- Block r is the document's Book; v its row. -/
structure RB (w : World) (r : Nat) (cards now : Int) (L : List Gv) (v : Value) : Prop where
  strct : w.heap[r]? = some (.cells #[.int .i64 cards, .int .i64 now, v] 53 (0, 0))
  row : w.ownsRow 0 80 3 v L.length (cellsG L)
theorem RB.below {w w' : World} {r : Nat} {cards now : Int} {L : List Gv} {v : Value} (h : RB w r cards now L v) (hb : Below w.heap.size w w') : RB w' r cards now L v :=
  ⟨(hb.block r (Array.getElem?_eq_some_iff.mp h.strct).1).trans h.strct, own_move h.row (fun k hk => hb.block k (h.row.lt k hk).2)⟩
theorem RB.cell {w : World} {r : Nat} {cards now : Int} {L : List Gv} {v : Value} (h : RB w r cards now L v) :
    w.cell? ⟨r, 0, none⟩ = some (.int .i64 cards) ∧ w.cell? ⟨r, 1, none⟩ = some (.int .i64 now) ∧ w.cell? ⟨r, 2, none⟩ = some v := by
  have := h.strct
  simp [World.cell?, this]
theorem RB.frozen {w : World} {r : Nat} {cards now : Int} {L : List Gv} {v : Value} (h : RB w r cards now L v) (i : Nat) : w.frozen? ⟨r, i, none⟩ = false := by
  have := h.strct
  simp [World.frozen?, this]
theorem RB.form {w : World} {r : Nat} {cards now : Int} {L : List Gv} {v : Value} (h : RB w r cards now L v) : ∃ A cp, v = .slice A L.length cp ∧ (0 < L.length → ∃ ad, A = some ad) := by
  rcases h.row.2 with ⟨e1, e2⟩ | ⟨g, cap, cur, e1, _⟩
  · exact ⟨none, 0, by rw [e1, e2], fun h => by omega⟩
  · exact ⟨_, _, e1, fun _ => ⟨_, rfl⟩⟩
theorem RB.at_ {w : World} {r : Nat} {cards now : Int} {L : List Gv} {ad : Addr} {cp : Nat} (h : RB w r cards now L (.slice (some ad) L.length cp)) (i : Nat) (hi : i < L.length) :
    w.cell? (ad.add (i * 3)) = some (.string L[i].1) ∧ w.cell? ⟨(ad.add (i * 3)).block, (ad.add (i * 3)).off + 1, none⟩ = some (.int .i64 L[i].2.1) ∧ w.cell? ⟨(ad.add (i * 3)).block, (ad.add (i * 3)).off + 2, none⟩ = some (.int .i64 L[i].2.2) := by
  rcases h.row.2 with ⟨e1, _⟩ | ⟨g, cap, cur, e1, e2⟩
  · cases e1
  · injection e1 with e1 _ _
    injection e1 with e1
    subst e1
    have hc := h.row.cells (g := g) rfl
    obtain ⟨k0, k1, k2⟩ := cellsG_get L i hi
    exact ⟨hc _ _ k0, by rw [← add_field _ _ 1 (by omega)]; exact hc _ _ k1, by rw [← add_field _ _ 2 (by omega)]; exact hc _ _ k2⟩
/-- The last place of a card. -/
def IsLast (c : ByteArray) (L : List Gv) (z : Int) : Prop := (z = -1 ∧ ∀ j (h : j < L.length), L[j].1 ≠ c) ∨ ∃ i : Nat, ∃ h : i < L.length, z = i ∧ L[i].1 = c ∧ ∀ j (h : j < L.length), i < j → L[j].1 ≠ c
set_option maxRecDepth 100000 in
set_option maxHeartbeats 400000 in
theorem last_calls (w : World) (r : Nat) (cards now : Int) (L : List Gv) (v : Value) (hB : RB w r cards now L v) (hl : L.length ≤ 100000) (c : ByteArray) :
    Calls Try.prog 34 #[.pointer (some ⟨r, 0, none⟩), .string c] w fun e w' => ∃ z, e = .returned (.int .i64 z) ∧ IsLast c L z ∧ Below w.heap.size w w' := by
  obtain ⟨A, cp, rfl, hA⟩ := hB.form
  obtain ⟨z0, z1, z2⟩ := hB.cell
  clear z0 z1
  go_enter Try.func34, Try.ntmps34
  go_wp2
  go_loopg [5] L.length (fun kq v5 w' => v5 = .int .i64 ((kq : Int) - 1) ∧ Aside0 (kq ≤ L.length) ∧ Aside0 (∀ j (h : j < L.length), kq ≤ j → L[j].1 ≠ c) ∧ Aside0 (Below w.heap.size w w'))
  case atStart => exact ⟨rfl, ⟨Nat.le_refl _⟩, ⟨fun j h1 h2 => absurd h1 (Nat.not_lt.mpr h2)⟩, ⟨Below.refl _ _⟩⟩
  case round =>
    obtain ⟨rfl, HK, HN, HB⟩ := hrel
    cases gk with
    | zero =>
      have d1 : decide (0 ≤ ((0 : Nat) : Int) - 1) = false := by decide
      go_wp2
      go_ret
      exact ⟨-1, rfl, .inl ⟨rfl, fun j h => HN.out j h (Nat.zero_le _)⟩, HB.out⟩
    | succ gk =>
      have hi : gk < L.length := HK.out
      have e0 : ((gk + 1 : Nat) : Int) - 1 = gk := by omega
      rw [e0]
      have d1 : decide (0 ≤ (gk : Int)) = true := decide_eq_true (by omega)
      have c2 : (0 ≤ (gk : Int)) = True := eq_true (by omega)
      have c3 : ((gk : Int) < (L.length : Int)) = True := eq_true (by omega)
      have c4 : (gk < L.length) = True := eq_true hi
      have hb2 : (gk : Int) ≤ 100000 := by omega
      obtain ⟨ad, rfl⟩ := hA (by omega)
      have x0 := pw_cell_below HB.out (hB.at_ gk hi).1
      have y2 := pw_cell_below HB.out z2
      obtain ⟨D, hD⟩ : ∃ D, L[gk].1 = D := ⟨_, rfl⟩
      rw [hD] at x0
      replace hD := Aside0.mk hD
      by_cases hDC : D = c
      · subst hDC
        go_wp2
        go_ret
        exact ⟨gk, rfl, .inr ⟨gk, hi, rfl, hD.out, fun j h1 h2 => HN.out j h1 h2⟩, HB.out⟩
      · have d6 : (D.toList == c.toList) = false := by simpa using toList_ne hDC
        have d7 : decide (D.toList = c.toList) = false := decide_eq_false (toList_ne hDC)
        go_wp2
        go_roundg gk
        case measure => exact Nat.lt_succ_self _
        case rel =>
          refine ⟨rfl, ⟨Nat.le_of_lt hi⟩, ⟨fun j h1 h2 => ?_⟩, HB⟩
          by_cases hj : j = gk
          · subst hj; rw [hD.out]; exact hDC
          · exact HN.out j h1 (by omega)
/-- The cards, each at its last place. -/
def lastsG : List Gv → List ByteArray
  | [] => []
  | g :: l => if l.any (fun d => decide (d.1 = g.1)) = true then lastsG l else g.1 :: lastsG l
theorem lastsG_len : ∀ L, (lastsG L).length ≤ L.length
  | [] => Nat.le_refl _
  | g :: l => by
    have := lastsG_len l
    unfold lastsG
    split
    · exact Nat.le_succ_of_le this
    · exact Nat.succ_le_succ this
theorem lastsG_drop {L : List Gv} {i : Nat} (hi : i < L.length) : lastsG (L.drop i) = if (L.drop (i + 1)).any (fun d => decide (d.1 = L[i].1)) = true then lastsG (L.drop (i + 1)) else L[i].1 :: lastsG (L.drop (i + 1)) := by
  rw [List.drop_eq_getElem_cons hi]
  rfl
theorem last_is {L : List Gv} {i : Nat} (hi : i < L.length) {z : Int} (h : IsLast L[i].1 L z) : (z = i ↔ (L.drop (i + 1)).any (fun d => decide (d.1 = L[i].1)) = false) := by
  rcases h with ⟨_, h⟩ | ⟨k, hk, rfl, he, h⟩
  · exact absurd rfl (h i hi)
  · constructor
    · intro e
      have e : k = i := by omega
      subst e
      rw [List.any_eq_false]
      intro d hd
      obtain ⟨j, hj, rfl⟩ := List.mem_iff_getElem.mp hd
      rw [List.length_drop] at hj
      rw [List.getElem_drop]
      have := h (k + 1 + j) (by omega) (by omega)
      simpa using this
    · intro e
      have hki : ¬ i < k := by
        intro hlt
        rw [List.any_eq_false] at e
        have hm : L[k] ∈ L.drop (i + 1) := by
          rw [List.mem_iff_getElem]
          exact ⟨k - (i + 1), by rw [List.length_drop]; omega, by rw [List.getElem_drop]; congr 1; omega⟩
        have := e _ hm
        simp [he] at this
      have hik : ¬ k < i := fun hlt => h i hi hlt rfl
      omega
set_option maxRecDepth 100000 in
set_option maxHeartbeats 400000 in
theorem rlen_calls (w : World) (r : Nat) (cards now : Int) (L : List Gv) (v : Value) (hB : RB w r cards now L v) (hl : L.length ≤ 100000) :
    Calls Try.prog 26 #[.pointer (some ⟨r, 0, none⟩)] w fun e w' => e = .returned (.int .i64 (lastsG L).length) ∧ Below w.heap.size w w' := by
  have hB0 := hB
  obtain ⟨A, cp, rfl, hA⟩ := hB.form
  obtain ⟨z0, z1, z2⟩ := hB.cell
  clear z0 z1
  go_enter Try.func26, Try.ntmps26
  go_wp2
  go_loopg [3, 4] L.length (fun kq v3 v4 w' => ∃ i n : Nat, v4 = .int .i64 i ∧ v3 = .int .i64 n ∧ Aside0 (i + kq = L.length) ∧ Aside0 (n + (lastsG (L.drop i)).length = (lastsG L).length) ∧ Aside0 (Below w.heap.size w w'))
  case atStart => exact ⟨0, 0, rfl, rfl, ⟨Nat.zero_add _⟩, ⟨Nat.zero_add _⟩, ⟨Below.refl _ _⟩⟩
  case round =>
    obtain ⟨i, n, rfl, rfl, HK, HN, HB⟩ := hrel
    have y2 := pw_cell_below HB.out z2
    cases gk with
    | zero =>
      have e : i = L.length := HK.out
      have d1 : decide ((i : Int) < (L.length : Int)) = false := decide_eq_false (by omega)
      have hn : n = (lastsG L).length := by
        have := HN.out
        rw [e, List.drop_length] at this
        exact this
      subst hn
      go_wp2
      go_ret
      exact ⟨rfl, HB.out⟩
    | succ gk =>
      have hi : i < L.length := by have := HK.out; omega
      have d1 : decide ((i : Int) < (L.length : Int)) = true := decide_eq_true (by omega)
      have c2 : (0 ≤ (i : Int)) = True := eq_true (by omega)
      have c3 : ((i : Int) < (L.length : Int)) = True := eq_true (by omega)
      have c4 : (i < L.length) = True := eq_true hi
      obtain ⟨ad, rfl⟩ := hA (by omega)
      have x0 := pw_cell_below HB.out (hB.at_ i hi).1
      have hdr := lastsG_drop hi
      have hll := lastsG_len L
      have hb1 : (i : Int) ≤ 100000 := by omega
      have hb2 : (n : Int) ≤ 100000 := by have := HN.out; omega
      have hlast : ∀ z, IsLast L[i].1 L z → _ := fun z hz => last_is hi hz
      obtain ⟨D, hD⟩ : ∃ D, L[i].1 = D := ⟨_, rfl⟩
      have hRB := hB0.below HB.out
      have hla := last_calls wr r cards now L _ hRB hl D
      rw [hD] at x0
      replace hD := Aside0.mk hD
      replace hlast := Aside0.mk hlast
      replace hdr := Aside0.mk hdr
      clear hll hRB
      go_upto_region 6 with (go_at_call 34; with_reducible refine hla.mono ?_; rintro e w2 ⟨z, rfl, hz, hB2⟩)
      have hiff := hlast.out z (by rw [hD.out]; exact hz)
      have hdo := hdr.out
      rw [hD.out] at hiff hdo
      by_cases he : z = i
      · have d2 : decide (z = (i : Int)) = true := decide_eq_true he
        have d3 : (z == (i : Int)) = true := by rw [he]; simp
        rw [hiff.mp he] at hdo
        simp only [Bool.false_eq_true, if_false] at hdo
        replace hdo := Aside0.mk hdo
        clear hiff hz
        subst he
        go_wp2
        go_roundg gk
        case measure => exact Nat.lt_succ_self _
        case rel =>
          refine ⟨i + 1, n + 1, rfl, rfl, ⟨(Nat.add_right_comm i 1 gk).trans HK.out⟩, ⟨?_⟩, ⟨below_step HB.out hB2⟩⟩
          have h1 := HN.out
          rw [hdo.out, List.length_cons] at h1
          omega
      · have d2 : decide (z = (i : Int)) = false := decide_eq_false he
        have d3 : (z == (i : Int)) = false := by simpa using he
        have ht : (L.drop (i + 1)).any (fun d => decide (d.1 = D)) = true := by
          cases hh : (L.drop (i + 1)).any (fun d => decide (d.1 = D)) with
          | true => rfl
          | false => exact absurd (hiff.mpr hh) he
        rw [ht] at hdo
        simp only [if_true] at hdo
        replace hdo := Aside0.mk hdo
        clear hiff hz ht
        go_wp2
        go_roundg gk
        case measure => exact Nat.lt_succ_self _
        case rel =>
          refine ⟨i + 1, n, rfl, rfl, ⟨(Nat.add_right_comm i 1 gk).trans HK.out⟩, ⟨?_⟩, ⟨below_step HB.out hB2⟩⟩
          have h1 := HN.out
          rw [hdo.out] at h1
          exact h1
end Go.Proofs.Ytgndgjjejgbmoaa.Bok
