/- The chapter's first example: the walk. -/
import Derived.Test.YtjbhhgecdcgpeaaTbL
namespace Go.Proofs.Ytjbhhgecdcgpeaa.Tb
open Go Go.RowKit Go.Shelf Go.Proofs.YtjbhhgecdcgpeaaW.PrintWords Go.Proofs.YtjbhhgecdcgpeaaW.PrintLast Go.Proofs.YtjbhhgecdcgpeaaW.PrintMore Go.Proofs.Ytjbhhgecdcgpeaa.TA
set_option linter.unusedSimpArgs false
set_option linter.unusedVariables false
theorem knownP_calls (w : World) : Calls Try.prog 14 #[.string ⟨#[112, 5, 90, 3, 65, 17, 17]⟩] w fun e w' => ∃ (A : Option Addr) (c : Nat), e = .returned (.tuple #[.slice A 1 c, .int .i64 0, .int .i64 0]) ∧ Kd.C k43 w' A 1 [K0] ∧ 1 ≤ c ∧ Below w.heap.size w w' := by
  have h := parse_calls w ⟨#[112, 5, 90, 3, 65, 17, 17]⟩ (by decide)
  rw [known_parse] at h
  refine h.mono ?_
  rintro e w' ⟨v, rfl, hR, hB⟩
  obtain ⟨A, c, e⟩ := Kd.R_slice hR
  subst e
  obtain ⟨h1, h2, h3⟩ := Kd.R_reads' hR
  exact ⟨A, c, rfl, h3, h2, hB⟩
theorem knownS_calls (w : World) : Calls Try.prog 15 #[.string ⟨#[48, 49, 48, 50, 65, 66, 48, 51, 48, 48]⟩] w fun e w' => ∃ (A : Option Addr) (c : Nat), e = .returned (.tuple #[.slice A 2 c, .int .i64 0, .int .i64 0]) ∧ Kd.C k43 w' A 2 KM ∧ 2 ≤ c ∧ Below w.heap.size w w' := by
  have h := parseSub_calls w ⟨#[48, 49, 48, 50, 65, 66, 48, 51, 48, 48]⟩ (by decide)
  rw [known_sub] at h
  refine h.mono ?_
  rintro e w' ⟨v, rfl, hR, hB⟩
  obtain ⟨A, c, e⟩ := Kd.R_slice hR
  subst e
  obtain ⟨h1, h2, h3⟩ := Kd.R_reads' hR
  exact ⟨A, c, rfl, h3, h2, hB⟩
theorem knownB_calls (w : World) (A : Option Addr) (c : Nat) (hC : Kd.C k43 w A 1 [K0]) (hc : 1 ≤ c) : Calls Try.prog 16 #[.slice A 1 c] w fun e w' => e = .returned (.tuple #[.string ⟨#[112, 5, 90, 3, 65, 17, 17]⟩, .int .i64 0]) ∧ Below w.heap.size w w' := build_calls 10 A c [K0] _ _ w hC hc known_build
theorem known_PG : ∀ x ∈ KR, PG 100 x := by
  intro x hx
  have : x = ⟨1, K0⟩ ∨ x = ⟨2, K1⟩ := by simpa [KR] using hx
  rcases this with rfl | rfl
  · exact ⟨by decide, by decide, by decide⟩
  · exact ⟨by decide, by decide, by decide⟩
theorem knownT_calls (w : World) (A : Option Addr) (c : Nat) (hC : Kd.C k43 w A 1 [K0]) (hc : 1 ≤ c) : Calls Try.prog 31 #[.slice A 1 c] w fun e w' => e = .returned (.string ⟨#[55, 48, 10, 32, 32, 53, 65, 32, 52, 49, 49, 49, 49, 49, 10]⟩) ∧ Below w.heap.size w w' := by
  have h := print_calls 10 A c [K0] KR 100 w known_rows (by decide) (by decide) (by decide) known_PG hC hc
  rw [known_print] at h
  exact h
theorem knownF_calls (w : World) (A : Option Addr) (c : Nat) (hC : Kd.C k43 w A 1 [K0]) (hc : 1 ≤ c) (A1 : Option Addr) (c1 : Nat) (hr1 : Kd.C (Kd.int .i64) w A1 2 [112, 90]) : Calls Try.prog 33 #[.slice A 1 c, .slice A1 2 c1] w (FEnds 90 ⟨#[65, 17, 17]⟩ [] true w) := find_calls 10 w A c [K0] hC hc A1 c1 [112, 90] hr1 _ _ _ _ known_find
theorem add_zero' (a : Addr) : a.add 0 = a := by
  rcases a with ⟨b, o, s⟩
  unfold Addr.add
  split <;> simp_all
theorem known_cells (w : World) (A : Option Addr) (hC : Kd.C k43 w A 1 [K0]) : ∃ ad c2 ad2, A = some ad ∧ w.cell? ad = some (.int .i64 112) ∧ w.cell? ⟨ad.block, ad.off + 2, none⟩ = some (.slice (some ad2) 1 c2) ∧ 1 ≤ c2 ∧ w.cell? ad2 = some (.int .i64 90) := by
  obtain ⟨ad, A2, c2, e, x0, x1, x2, h2, hC2⟩ := at_T43 hC 0 (by decide) (by decide)
  obtain ⟨ad2, A3, c3, e2, y0, _, _, _, _⟩ := at_T43 (n := 1) (xs := [K1]) hC2 0 (by decide) (by decide)
  subst e2
  rw [show (0 : Int).toNat * 3 = 0 from rfl, add_zero'] at x0 x2 y0
  exact ⟨ad, c2, ad2, e, x0, x2, h2, y0⟩
theorem row2 {w : World} {g : Nat} {a b : Int} {t : TypeId} {fz : Nat × Nat} (h : w.heap[g]? = some (.cells #[.int .i64 a, .int .i64 b] t fz)) : Kd.C (Kd.int .i64) w (some ⟨g, 0, none⟩) 2 [a, b] := by
  refine ⟨rfl, by decide, fun _ => ⟨⟨g, 0, none⟩, rfl, fun j p hj => ?_⟩⟩
  have hj2 : j < 2 := (List.getElem?_eq_some_iff.mp hj).1
  refine ⟨[.int .i64 p], rfl, rfl, fun i u hu => ?_⟩
  have hi : i = 0 := by have := (List.getElem?_eq_some_iff.mp hu).1; simpa using this
  subst hi
  cases hu
  have hj3 : j = 0 ∨ j = 1 := by omega
  rcases hj3 with rfl | rfl
  · cases hj
    rw [show (⟨g, 0, none⟩ : Addr).add (0 * (Kd.int .i64).sz + 0) = ⟨g, 0, none⟩ from rfl]
    simp [World.cell?, h]
  · cases hj
    rw [show (⟨g, 0, none⟩ : Addr).add (1 * (Kd.int .i64).sz + 0) = ⟨g, 1, none⟩ from rfl]
    simp [World.cell?, h]
theorem known_sub_cells (w : World) (A : Option Addr) (hC : Kd.C k43 w A 2 KM) : ∃ ad, A = some ad ∧ w.cell? ⟨ad.block, ad.off + 1, none⟩ = some (.string ⟨#[65, 66]⟩) := by
  obtain ⟨ad, A2, c2, e, x0, x1, x2, h2, hC2⟩ := at_T43 hC 0 (by decide) (by decide)
  rw [show (0 : Int).toNat * 3 = 0 from rfl, add_zero'] at x1
  exact ⟨ad, e, x1⟩
set_option maxRecDepth 100000 in
set_option maxHeartbeats 2000000 in
theorem known_calls (w : World) : Calls Try.prog 13 #[] w fun e w' => e = .returned (.bool true) ∧ Below w.heap.size w w' := by
  go_enter Try.func13, Try.ntmps13
  go_upto_region 2 with (go_at_call 14; (with_reducible refine (knownP_calls w).mono ?_); rintro e w1 ⟨A, c, rfl, hC, hc, hB⟩; have HC := Aside0.mk hC; have HB := Aside0.mk hB; clear hC hB)
  obtain ⟨ad, c2, ad2, e, x0, x2, h2, y0⟩ := known_cells w1 A HC.out
  subst e
  go_upto_region 4 with (fail)
  go_upto_region 5 with (go_at_call 16; (with_reducible refine (knownB_calls _ _ _ HC.out hc).mono ?_); rintro e w2 ⟨rfl, hB2⟩; have HC2 := Aside0.mk (Kd.C_below HC.out hB2); have HB2 := Aside0.mk (below_step HB.out hB2); clear hB2)
  go_upto_region 6 with (go_at_call 31; (with_reducible refine (knownT_calls _ _ _ HC2.out hc).mono ?_); rintro e w3 ⟨rfl, hB3⟩; have HC3 := Aside0.mk (Kd.C_below HC2.out hB3); have HB3 := Aside0.mk (below_step HB2.out hB3); clear hB3)
  have hw4 := fun (w4 : World) (h : Below w3.heap.size w3 w4) => Kd.C_below HC3.out h
  have HW4 := Aside0.mk hw4
  clear hw4 x0 x2 y0 h2
  go_upto_region 7 with (go_at_call 33; (with_reducible refine (knownF_calls _ _ _ (HW4.out _ (below_alloc (Below.refl _ _) _)) hc _ _ (row2 (heap_alloc_new _ _))).mono ?_); rintro e w4 ⟨v5, rfl, hR5, hB4⟩; obtain ⟨A5, c5, e5⟩ := Kd.R_slice hR5; subst e5; have HB4 := Aside0.mk (below_step HB3.out (below_step (below_alloc (Below.refl _ _) _) hB4)); clear hB4 hR5)
  obtain ⟨w5, hw5⟩ : ∃ w5, w5 = w4.alloc (.cells #[.int .i64 90, .string ⟨#[65, 17, 17]⟩, .slice A5 0 c5] 43) := ⟨_, rfl⟩
  obtain ⟨g, hg⟩ : ∃ g, g = w4.heap.size := ⟨_, rfl⟩
  rw [← hw5, ← hg]
  have hbx : w5.heap[g]? = some (.cells #[.int .i64 90, .string ⟨#[65, 17, 17]⟩, .slice A5 0 c5] 43 (0, 0)) := by rw [hw5, hg]; exact heap_alloc_new _ _
  have HB5 := Aside0.mk (below_step HB4.out (show Below w4.heap.size w4 w5 by rw [hw5]; exact below_alloc (Below.refl _ _) _))
  have HBX := Aside0.mk hbx
  clear hw5 hg hbx
  go_upto_region 8 with (go_at_call 15; (with_reducible refine (knownS_calls _).mono ?_); rintro e w6 ⟨A6, c6, rfl, hC6, hc6, hB6⟩; have HC6 := Aside0.mk hC6; have HBX6 := Aside0.mk (blk_below HBX.out hB6); have HB6 := Aside0.mk (below_step HB5.out hB6); clear hB6 hC6)
  obtain ⟨ad6, e6, z1⟩ := known_sub_cells w6 A6 HC6.out
  subst e6
  have y1 : w6.cell? ⟨g, 1, none⟩ = some (.string ⟨#[65, 17, 17]⟩) := (blk_cell HBX6.out 1).trans rfl
  go_wp2_with (fail)
  go_ret
  exact ⟨rfl, HB6.out⟩
end Go.Proofs.Ytjbhhgecdcgpeaa.Tb
