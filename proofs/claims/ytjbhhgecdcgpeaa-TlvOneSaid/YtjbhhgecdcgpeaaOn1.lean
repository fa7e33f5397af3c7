/- TlvOne: the walk. -/
import Derived.Test.YtjbhhgecdcgpeaaTbM
import Derived.Test.YtjbhhgecdcgpeaaPlM
namespace Go.Proofs.Ytjbhhgecdcgpeaa.Tb
open Go Go.RowKit Go.Shelf Go.Proofs.YtjbhhgecdcgpeaaW.PrintWords Go.Proofs.YtjbhhgecdcgpeaaW.PrintLast Go.Proofs.YtjbhhgecdcgpeaaW.PrintMore Go.Proofs.Ytjbhhgecdcgpeaa.TA
set_option linter.unusedSimpArgs false
set_option linter.unusedVariables false
theorem made_at {w : World} {raw : List Int} {l : List S43} {A : Option Addr} {c k : Nat} (hC : Kd.C (Kd.int .i64) w A raw.length raw) (hc : raw.length ≤ c) (h : madeP k raw = some l) :
    Calls Try.prog 18 #[.slice A raw.length c] w fun z w' => ∃ (A : Option Addr) (c : Nat), z = .returned (.slice A l.length c) ∧ Kd.C k43 w' A l.length l ∧ l.length ≤ c ∧ Below w.heap.size w w' := by
  refine (made_calls k raw l A c w h hC hc).mono ?_
  rintro z w' ⟨v, rfl, hR, hB⟩
  obtain ⟨A, c, e⟩ := Kd.R_slice hR
  subst e
  obtain ⟨h1, h2, h3⟩ := Kd.R_reads' hR
  exact ⟨A, c, rfl, h3, h2, hB⟩
set_option maxRecDepth 100000 in
set_option maxHeartbeats 2000000 in
theorem one_calls (w : World) (A B : Option Addr) (ca cb : Nat) (a b : List Int) (hA : Kd.C (Kd.int .i64) w A a.length a) (hca : a.length ≤ ca) (hB : Kd.C (Kd.int .i64) w B b.length b) (hcb : b.length ≤ cb) (hra : rawOk a) (hrb : rawOk b) :
    Calls Try.prog 8 #[.slice A a.length ca, .slice B b.length cb] w fun e w' => e = .returned (.bool true) ∧ Below w.heap.size w w' := by
  obtain ⟨x, m, r, x1, _, _, _, xv, _, _, xb, xp⟩ := made_built hra
  obtain ⟨y, m2, r2, y1, _, _, _, yv, _, _, yb, yp⟩ := made_built hrb
  obtain ⟨q, q1, q2⟩ := same_law x y 800 xv (by decide) (by decide)
  obtain ⟨s, hs⟩ : ∃ s, s = strOfNums r := ⟨_, rfl⟩
  obtain ⟨t, ht⟩ : ∃ t, t = strOfNums r2 := ⟨_, rfl⟩
  rw [← hs] at xb xp
  rw [← ht] at yb yp
  have hst : q = true ↔ s = t := by
    rw [q2]
    constructor
    · intro h
      subst h
      rw [xb] at yb
      injection yb with yb
      injection yb
    · intro h
      subst h
      rw [xp] at yp
      injection yp
  have HA := Aside0.mk hA
  have HB := Aside0.mk hB
  have HX1 := Aside0.mk x1
  have HY1 := Aside0.mk y1
  have HXB := Aside0.mk xb
  have HYB := Aside0.mk yb
  have HQ := Aside0.mk q1
  clear hA hB x1 y1 xb yb xp yp q1 q2 hs ht xv yv hra hrb
  go_enter Try.func8, Try.ntmps8
  go_upto_region 2 with (go_at_call 13; (with_reducible refine (known_calls _).mono ?_); rintro z w1 ⟨rfl, hB1⟩; have HW := Aside0.mk hB1; clear hB1)
  go_upto_region 3 with (go_at_call 18; (with_reducible refine (made_at (Kd.C_below HA.out HW.out) hca HX1.out).mono ?_); rintro z w2 ⟨Ax, cx, rfl, hC, hcx, hB1⟩; have HCX := Aside0.mk hC; have HW := Aside0.mk (below_step HW.out hB1); clear hB1 hC)
  go_upto_region 4 with (go_at_call 18; (with_reducible refine (made_at (Kd.C_below HB.out HW.out) hcb HY1.out).mono ?_); rintro z w3 ⟨Ay, cy, rfl, hC, hcy, hB1⟩; have HCY := Aside0.mk hC; have HCX := Aside0.mk (Kd.C_below HCX.out hB1); have HW := Aside0.mk (below_step HW.out hB1); clear hB1 hC)
  go_upto_region 5 with (go_at_call 16; (with_reducible refine (build_calls 400 _ _ _ _ _ _ HCX.out hcx HXB.out).mono ?_); rintro z w4 ⟨rfl, hB1⟩; have HCY := Aside0.mk (Kd.C_below HCY.out hB1); have HCX := Aside0.mk (Kd.C_below HCX.out hB1); have HW := Aside0.mk (below_step HW.out hB1); clear hB1)
  go_upto_region 6 with (go_at_call 16; (with_reducible refine (build_calls 400 _ _ _ _ _ _ HCY.out hcy HYB.out).mono ?_); rintro z w5 ⟨rfl, hB1⟩; have HCY := Aside0.mk (Kd.C_below HCY.out hB1); have HCX := Aside0.mk (Kd.C_below HCX.out hB1); have HW := Aside0.mk (below_step HW.out hB1); clear hB1)
  go_upto_region 7 with (go_at_call 22; (with_reducible refine (turnstileref9_Same.calls 800 _ _ _ _ _ _ _ _ HCX.out hcx HCY.out hcy HQ.out).mono ?_); rintro z w6 ⟨rfl, hB1⟩; have HW := Aside0.mk (below_step HW.out hB1); clear hB1)
  by_cases g : s = t
  · have hq := hst.mpr g
    subst g hq
    clear hst
    go_wp2_with (fail)
    go_ret
    exact ⟨rfl, HW.out⟩
  · have hq : q = false := by
      cases q with
      | false => rfl
      | true => exact absurd (hst.mp rfl) g
    subst hq
    clear hst
    have n1 : ¬ s.toList = t.toList := fun h => g (toList_inj.mp h)
    have n2 : (s.toList == t.toList) = false := beq_eq_false_iff_ne.mpr n1
    have n3 : (s.toList = t.toList) = False := eq_false n1
    go_wp2_with (fail)
    go_ret
    exact ⟨rfl, HW.out⟩
end Go.Proofs.Ytjbhhgecdcgpeaa.Tb
