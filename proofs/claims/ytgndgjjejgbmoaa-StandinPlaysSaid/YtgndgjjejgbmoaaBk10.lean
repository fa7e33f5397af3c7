/- Contracts: the closure of Undo, slices.IndexFunc over it. -/
import Derived.Test.YtgndgjjejgbmoaaBk9
namespace Go.Proofs.Ytgndgjjejgbmoaa.Bok
open Go Go.RowKit Go.Maps Go.Proofs.YtgndgjjejgbmoaaW.PrintWords Go.Proofs.YtgndgjjejgbmoaaW.PrintLast Go.Proofs.YtgndgjjejgbmoaaW.PrintMore PStandinHolds
/-- Is an approval the one that is asked for. -/
def hit (u t : Int) (a : Ap) : Bool := (a.units == u) && (a.at_ == t)
set_option maxRecDepth 100000 in
theorem clo_calls (w : World) (g1 g2 : Nat) (u t : Int) (h1 : w.cell? ⟨g1, 0, none⟩ = some (.int .i64 u)) (h2 : w.cell? ⟨g2, 0, none⟩ = some (.int .i64 t)) (a : Ap) :
    Calls Try.prog 28 #[.agg #[.int .i64 a.place, .int .i64 a.units, .int .i64 a.at_], .pointer (some ⟨g1, 0, none⟩), .pointer (some ⟨g2, 0, none⟩)] w fun e w' => e = .returned (.bool (hit u t a)) ∧ Below w.heap.size w w' := by
  unfold hit
  go_enter Try.func28, Try.ntmps28
  go_upto_region 1 with (fail)
  obtain ⟨w1, hw1⟩ : ∃ w1, w1 = w.alloc (.cells #[.int .i64 a.place, .int .i64 a.units, .int .i64 a.at_] 73) := ⟨_, rfl⟩
  rw [← hw1]
  have B1 : Below w.heap.size w w1 := by rw [hw1]; exact below_alloc (Below.refl _ _) _
  have hbox : w1.heap[w.heap.size]? = some (.cells #[.int .i64 a.place, .int .i64 a.units, .int .i64 a.at_] 73 (0, 0)) := by rw [hw1]; exact heap_alloc_new _ _
  clear hw1
  have x1 : w1.cell? ⟨w.heap.size, 1, none⟩ = some (.int .i64 a.units) := by simp [World.cell?, hbox]
  have x2 : w1.cell? ⟨w.heap.size, 2, none⟩ = some (.int .i64 a.at_) := by simp [World.cell?, hbox]
  replace h1 := pw_cell_below B1 h1
  replace h2 := pw_cell_below B1 h2
  obtain ⟨b, hb⟩ : ∃ b, (a.units == u) = b := ⟨_, rfl⟩
  cases b with
  | false =>
    go_wp2
    go_ret
    exact ⟨by rw [hb]; rfl, B1⟩
  | true =>
    go_wp2
    go_ret
    exact ⟨by rw [hb]; rfl, B1⟩
/-- Where the first hit is; below 0: nowhere. -/
def hitAt (u t : Int) (l : List Ap) : Int := match l.findIdx? (hit u t) with | some i => (i : Int) | none => -1
theorem hitAt_at {u t : Int} {l : List Ap} {i : Nat} (hi : i < l.length) (h : hit u t l[i] = true) (hb : ∀ j : Nat, j < i → ∀ hj : j < l.length, hit u t l[j] = false) : hitAt u t l = i := by
  unfold hitAt
  have : l.findIdx? (hit u t) = some i := by
    rw [List.findIdx?_eq_some_iff_getElem]
    exact ⟨hi, h, fun j hj => by rw [hb j hj (by omega)]; simp⟩
  rw [this]
theorem hitAt_none {u t : Int} {l : List Ap} (hb : ∀ j : Nat, ∀ hj : j < l.length, hit u t l[j] = false) : hitAt u t l = -1 := by
  unfold hitAt
  have : l.findIdx? (hit u t) = none := by
    rw [List.findIdx?_eq_none_iff]
    intro a ha
    obtain ⟨j, hj, rfl⟩ := List.mem_iff_getElem.mp ha
    exact hb j hj
  rw [this]
set_option maxRecDepth 100000 in
set_option maxHeartbeats 400000 in
theorem index_calls (w : World) (A : Option Addr) (cp : Nat) (l : List Ap) (hrow : w.ownsRow 0 73 3 (.slice A l.length cp) l.length (cellsOf l)) (hln : l.length ≤ 1000000) (g1 g2 : Nat) (u t : Int) (h1 : w.cell? ⟨g1, 0, none⟩ = some (.int .i64 u)) (h2 : w.cell? ⟨g2, 0, none⟩ = some (.int .i64 t)) :
    Calls Try.prog 27 #[.slice A l.length cp, .func (.func 28) #[] #[.pointer (some ⟨g1, 0, none⟩), .pointer (some ⟨g2, 0, none⟩)]] w fun e w' => e = .returned (.int .i64 (hitAt u t l)) ∧ Below w.heap.size w w' := by
  go_enter Try.func27, Try.ntmps27
  go_wp2
  go_loopg [8] l.length (fun kq v8 w' => ∃ i : Nat, v8 = .int .i64 i ∧ Aside0 (i + kq = l.length) ∧ Aside0 (∀ j : Nat, j < i → ∀ hj : j < l.length, hit u t l[j] = false) ∧ Aside0 (Below w.heap.size w w'))
  case atStart => exact ⟨0, rfl, ⟨by omega⟩, ⟨fun j hj => absurd hj (Nat.not_lt_zero j)⟩, ⟨Below.refl _ _⟩⟩
  case round =>
    obtain ⟨i, rfl, HK, HN, HB⟩ := hrel
    cases gk with
    | zero =>
      have e : i = l.length := by have := HK.out; omega
      subst e
      have c1 : decide ((l.length : Int) < (l.length : Int)) = false := decide_eq_false (by omega)
      go_wp2
      go_ret
      exact ⟨by rw [hitAt_none (fun j hj => HN.out j hj hj)]; rfl, HB.out⟩
    | succ gk =>
      have hi : i < l.length := by have := HK.out; omega
      have c1 : decide ((i : Int) < (l.length : Int)) = true := decide_eq_true (by omega)
      have c2 : (0 ≤ (i : Int)) = True := eq_true (by omega)
      have c3 : ((i : Int) < (l.length : Int)) = True := eq_true (by omega)
      have c4 : (i < l.length) = True := eq_true hi
      obtain ⟨ad, rfl⟩ := row_some hrow (by omega)
      obtain ⟨x0, x1, x2⟩ := row_at hrow i hi
      replace x0 := pw_cell_below HB.out x0
      replace x1 := pw_cell_below HB.out x1
      replace x2 := pw_cell_below HB.out x2
      have y1 := pw_cell_below HB.out h1
      have y2 := pw_cell_below HB.out h2
      have e1 : wrap64 ((i : Int) + 1) = ((i + 1 : Nat) : Int) := by unfold wrap64; omega
      obtain ⟨b, hb⟩ : ∃ b, hit u t l[i] = b := ⟨_, rfl⟩
      have hcl := clo_calls wr g1 g2 u t y1 y2 l[i]
      rw [hb] at hcl
      replace hb := Aside0.mk hb
      cases b with
      | true =>
        go_wp2_with (go_at_call 28; with_reducible refine hcl.mono ?_; rintro e w2 ⟨rfl, hB2⟩)
        go_ret
        exact ⟨by rw [hitAt_at hi hb.out HN.out]; rfl, below_step HB.out hB2⟩
      | false =>
        go_wp2_with (go_at_call 28; with_reducible refine hcl.mono ?_; rintro e w2 ⟨rfl, hB2⟩)
        go_roundg gk
        case measure => omega
        case rel =>
          refine ⟨i + 1, rfl, ⟨(Nat.add_right_comm i 1 gk).trans HK.out⟩, ⟨fun j hj hjl => ?_⟩, ⟨below_step HB.out hB2⟩⟩
          by_cases hji : j = i
          · subst hji; exact hb.out
          · exact HN.out j (by omega) hjl
end Go.Proofs.Ytgndgjjejgbmoaa.Bok
