-- PRINTED by print.py (a twelfth state) out of the translation. Not trusted: Lean checks it.
import Derived.Test.YtammbclaejgkpaaPCx0
import Derived.Test.YtammbclaejgkpaaPCx2
namespace Go.Proofs.Ytammbclaejgkpaa.PC
open Go.RowKit Go.Proofs.YtammbclaejgkpaaW.PrintWords Go.Proofs.YtammbclaejgkpaaW.PrintLast Go.Proofs.YtammbclaejgkpaaW.PrintMore
attribute [local go_sem] max2_int min2_int max_two min_two max_three min_three max_four min_four   -- for this text's walks alone
set_option linter.unusedVariables false
set_option linter.unusedSimpArgs false

/-! ### turnstileref5_part: function 39 -/
mutual
def turnstileref5_part.j0 : Nat → ByteArray → Int → Int → Bool → Option (ByteArray × Int × Int)
  | 0, _, _, _, _ => none
  | k + 1, x0, x1, x2, x21 => if x21 = true then (some ((⟨#[]⟩ : ByteArray), wrap64 (x1 + 1), (-1))) else (turnstileref5_part.l0 k x0 x1 x2 0)
def turnstileref5_part.l0 : Nat → ByteArray → Int → Int → Int → Option (ByteArray × Int × Int)
  | 0, _, _, _, _ => none
  | k + 1, x0, x1, x2, x9 => if x9 < x2 then (if (wrap64 (x1 + x9)) ≥ (x0.size : Int) then (some ((⟨#[]⟩ : ByteArray), 0, (x0.size : Int))) else (if 0 ≤ (wrap64 (x1 + x9)) then (if (wrap64 (x1 + x9)) < (x0.size : Int) then ((turnstileref5_digit.f (bt x0 (wrap64 (x1 + x9)))).bind fun t137 => (if x2 = 4 then (turnstileref5_part.j2 k x0 x1 x2 x9 (bt x0 (wrap64 (x1 + x9))) t137 (x9 == 2)) else (turnstileref5_part.j2 k x0 x1 x2 x9 (bt x0 (wrap64 (x1 + x9))) t137 false))) else (none)) else (none))) else (if 0 ≤ x1 then (if x1 ≤ (wrap64 (x1 + x2)) then (if (wrap64 (x1 + x2)) ≤ (x0.size : Int) then (some (x0.extract (x1 : Int).toNat ((wrap64 (x1 + x2)) : Int).toNat, wrap64 (x1 + x2), (-1))) else (none)) else (none)) else (none))
def turnstileref5_part.j2 : Nat → ByteArray → Int → Int → Int → Int → Bool → Bool → Option (ByteArray × Int × Int)
  | 0, _, _, _, _, _, _, _ => none
  | k + 1, x0, x1, x2, x9, x10, x11, x49 => if x49 = true then (if x10 = 48 then (turnstileref5_part.j3 k x0 x1 x2 x9 x10 true) else (turnstileref5_part.j3 k x0 x1 x2 x9 x10 (x10 == 49))) else (turnstileref5_part.j3 k x0 x1 x2 x9 x10 x11)
def turnstileref5_part.j3 : Nat → ByteArray → Int → Int → Int → Int → Bool → Option (ByteArray × Int × Int)
  | 0, _, _, _, _, _, _ => none
  | k + 1, x0, x1, x2, x9, x10, x11 => if x2 = 4 then (if x9 = 3 then (turnstileref5_part.j4 k x0 x1 x2 x9 x10 x11 x11) else (turnstileref5_part.j4 k x0 x1 x2 x9 x10 x11 false)) else (turnstileref5_part.j4 k x0 x1 x2 x9 x10 x11 false)
def turnstileref5_part.j4 : Nat → ByteArray → Int → Int → Int → Int → Bool → Bool → Option (ByteArray × Int × Int)
  | 0, _, _, _, _, _, _, _ => none
  | k + 1, x0, x1, x2, x9, x10, x11, x64 => if x64 = true then (if 0 ≤ (wrap64 (x1 + 2)) then (if (wrap64 (x1 + 2)) < (x0.size : Int) then (if (bt x0 (wrap64 (x1 + 2))) = 48 then (if x10 = 48 then (if (bt x0 (wrap64 (x1 + 2))) = 49 then (if x10 ≤ 50 then (turnstileref5_part.l0 k x0 x1 x2 (wrap64 (x9 + 1))) else (some ((⟨#[]⟩ : ByteArray), 0, wrap64 (x1 + x9)))) else (some ((⟨#[]⟩ : ByteArray), 0, wrap64 (x1 + x9)))) else (turnstileref5_part.l0 k x0 x1 x2 (wrap64 (x9 + 1)))) else (if (bt x0 (wrap64 (x1 + 2))) = 49 then (if x10 ≤ 50 then (turnstileref5_part.l0 k x0 x1 x2 (wrap64 (x9 + 1))) else (some ((⟨#[]⟩ : ByteArray), 0, wrap64 (x1 + x9)))) else (some ((⟨#[]⟩ : ByteArray), 0, wrap64 (x1 + x9))))) else (none)) else (none)) else (if x11 = true then (turnstileref5_part.l0 k x0 x1 x2 (wrap64 (x9 + 1))) else (some ((⟨#[]⟩ : ByteArray), 0, wrap64 (x1 + x9))))
end
def turnstileref5_part.f (k : Nat) (a0 : ByteArray) (a1 : Int) (a2 : Int) : Option (ByteArray × Int × Int) := if a1 < (a0.size : Int) then (if 0 ≤ a1 then (turnstileref5_part.j0 k a0 a1 a2 ((bt a0 a1) == 61)) else (none)) else (turnstileref5_part.j0 k a0 a1 a2 false)
theorem turnstileref5_part.mono_l : ∀ k, (∀ y0 y1 y2 y3, LeO (turnstileref5_part.j0 k y0 y1 y2 y3) (turnstileref5_part.j0 (k + 1) y0 y1 y2 y3)) ∧ (∀ y0 y1 y2 y3, LeO (turnstileref5_part.l0 k y0 y1 y2 y3) (turnstileref5_part.l0 (k + 1) y0 y1 y2 y3)) ∧ (∀ y0 y1 y2 y3 y4 y5 y6, LeO (turnstileref5_part.j2 k y0 y1 y2 y3 y4 y5 y6) (turnstileref5_part.j2 (k + 1) y0 y1 y2 y3 y4 y5 y6)) ∧ (∀ y0 y1 y2 y3 y4 y5, LeO (turnstileref5_part.j3 k y0 y1 y2 y3 y4 y5) (turnstileref5_part.j3 (k + 1) y0 y1 y2 y3 y4 y5)) ∧ (∀ y0 y1 y2 y3 y4 y5 y6, LeO (turnstileref5_part.j4 k y0 y1 y2 y3 y4 y5 y6) (turnstileref5_part.j4 (k + 1) y0 y1 y2 y3 y4 y5 y6))
  | 0 => ⟨fun _ _ _ _ r h => by simp [turnstileref5_part.j0] at h, fun _ _ _ _ r h => by simp [turnstileref5_part.l0] at h, fun _ _ _ _ _ _ _ r h => by simp [turnstileref5_part.j2] at h, fun _ _ _ _ _ _ r h => by simp [turnstileref5_part.j3] at h, fun _ _ _ _ _ _ _ r h => by simp [turnstileref5_part.j4] at h⟩
  | k + 1 => by
    obtain ⟨ih0, ih1, ih2, ih3, ih4⟩ := turnstileref5_part.mono_l k
    refine ⟨?_, ?_, ?_, ?_, ?_⟩
    · intro y0 y1 y2 y3
      unfold turnstileref5_part.j0
      repeat' first
      | (with_reducible exact ih0 _ _ _ _)
      | (with_reducible exact ih1 _ _ _ _)
      | (with_reducible exact ih2 _ _ _ _ _ _ _)
      | (with_reducible exact ih3 _ _ _ _ _ _)
      | (with_reducible exact ih4 _ _ _ _ _ _ _)
      | (with_reducible exact LeO.refl _)
      | (with_reducible exact LeO.none _)
      | (with_reducible refine LeO.ite ?_ ?_)
      | (with_reducible refine LeO.bind ?_ (fun _ => ?_))
      | exact ih0 _ _ _ _
      | exact ih1 _ _ _ _
      | exact ih2 _ _ _ _ _ _ _
      | exact ih3 _ _ _ _ _ _
      | exact ih4 _ _ _ _ _ _ _
      | exact LeO.none _
      | refine LeO.ite ?_ ?_
      | refine LeO.bind ?_ (fun _ => ?_)
    · intro y0 y1 y2 y3
      unfold turnstileref5_part.l0
      repeat' first
      | (with_reducible exact ih0 _ _ _ _)
      | (with_reducible exact ih1 _ _ _ _)
      | (with_reducible exact ih2 _ _ _ _ _ _ _)
      | (with_reducible exact ih3 _ _ _ _ _ _)
      | (with_reducible exact ih4 _ _ _ _ _ _ _)
      | (with_reducible exact LeO.refl _)
      | (with_reducible exact LeO.none _)
      | (with_reducible refine LeO.ite ?_ ?_)
      | (with_reducible refine LeO.bind ?_ (fun _ => ?_))
      | exact ih0 _ _ _ _
      | exact ih1 _ _ _ _
      | exact ih2 _ _ _ _ _ _ _
      | exact ih3 _ _ _ _ _ _
      | exact ih4 _ _ _ _ _ _ _
      | exact LeO.none _
      | refine LeO.ite ?_ ?_
      | refine LeO.bind ?_ (fun _ => ?_)
    · intro y0 y1 y2 y3 y4 y5 y6
      unfold turnstileref5_part.j2
      repeat' first
      | (with_reducible exact ih0 _ _ _ _)
      | (with_reducible exact ih1 _ _ _ _)
      | (with_reducible exact ih2 _ _ _ _ _ _ _)
      | (with_reducible exact ih3 _ _ _ _ _ _)
      | (with_reducible exact ih4 _ _ _ _ _ _ _)
      | (with_reducible exact LeO.refl _)
      | (with_reducible exact LeO.none _)
      | (with_reducible refine LeO.ite ?_ ?_)
      | (with_reducible refine LeO.bind ?_ (fun _ => ?_))
      | exact ih0 _ _ _ _
      | exact ih1 _ _ _ _
      | exact ih2 _ _ _ _ _ _ _
      | exact ih3 _ _ _ _ _ _
      | exact ih4 _ _ _ _ _ _ _
      | exact LeO.none _
      | refine LeO.ite ?_ ?_
      | refine LeO.bind ?_ (fun _ => ?_)
    · intro y0 y1 y2 y3 y4 y5
      unfold turnstileref5_part.j3
      repeat' first
      | (with_reducible exact ih0 _ _ _ _)
      | (with_reducible exact ih1 _ _ _ _)
      | (with_reducible exact ih2 _ _ _ _ _ _ _)
      | (with_reducible exact ih3 _ _ _ _ _ _)
      | (with_reducible exact ih4 _ _ _ _ _ _ _)
      | (with_reducible exact LeO.refl _)
      | (with_reducible exact LeO.none _)
      | (with_reducible refine LeO.ite ?_ ?_)
      | (with_reducible refine LeO.bind ?_ (fun _ => ?_))
      | exact ih0 _ _ _ _
      | exact ih1 _ _ _ _
      | exact ih2 _ _ _ _ _ _ _
      | exact ih3 _ _ _ _ _ _
      | exact ih4 _ _ _ _ _ _ _
      | exact LeO.none _
      | refine LeO.ite ?_ ?_
      | refine LeO.bind ?_ (fun _ => ?_)
    · intro y0 y1 y2 y3 y4 y5 y6
      unfold turnstileref5_part.j4
      repeat' first
      | (with_reducible exact ih0 _ _ _ _)
      | (with_reducible exact ih1 _ _ _ _)
      | (with_reducible exact ih2 _ _ _ _ _ _ _)
      | (with_reducible exact ih3 _ _ _ _ _ _)
      | (with_reducible exact ih4 _ _ _ _ _ _ _)
      | (with_reducible exact LeO.refl _)
      | (with_reducible exact LeO.none _)
      | (with_reducible refine LeO.ite ?_ ?_)
      | (with_reducible refine LeO.bind ?_ (fun _ => ?_))
      | exact ih0 _ _ _ _
      | exact ih1 _ _ _ _
      | exact ih2 _ _ _ _ _ _ _
      | exact ih3 _ _ _ _ _ _
      | exact ih4 _ _ _ _ _ _ _
      | exact LeO.none _
      | refine LeO.ite ?_ ?_
      | refine LeO.bind ?_ (fun _ => ?_)
theorem turnstileref5_part.mono : ∀ a0 a1 a2 k, LeO (turnstileref5_part.f k a0 a1 a2) (turnstileref5_part.f (k + 1) a0 a1 a2) := by
  intro a0 a1 a2 k
  obtain ⟨ih0, ih1, ih2, ih3, ih4⟩ := turnstileref5_part.mono_l k
  unfold turnstileref5_part.f
  repeat' first
      | (with_reducible exact ih0 _ _ _ _)
      | (with_reducible exact ih1 _ _ _ _)
      | (with_reducible exact ih2 _ _ _ _ _ _ _)
      | (with_reducible exact ih3 _ _ _ _ _ _)
      | (with_reducible exact ih4 _ _ _ _ _ _ _)
      | (with_reducible exact LeO.refl _)
      | (with_reducible exact LeO.none _)
      | (with_reducible refine LeO.ite ?_ ?_)
      | (with_reducible refine LeO.bind ?_ (fun _ => ?_))
      | exact ih0 _ _ _ _
      | exact ih1 _ _ _ _
      | exact ih2 _ _ _ _ _ _ _
      | exact ih3 _ _ _ _ _ _
      | exact ih4 _ _ _ _ _ _ _
      | exact LeO.none _
      | refine LeO.ite ?_ ?_
      | refine LeO.bind ?_ (fun _ => ?_)
set_option maxHeartbeats 8000000 in
set_option maxRecDepth 100000 in
theorem turnstileref5_part.calls (k : Nat) (a0 : ByteArray) (a1 : Int) (a2 : Int) (r1 : ByteArray) (r2 : Int) (r3 : Int) (w : World) (h : turnstileref5_part.f k a0 a1 a2 = some (r1, r2, r3)) :
    Calls Try.prog 39 #[.string a0, .int .i64 a1, .int .i64 a2] w fun e w' => e = .returned (.tuple #[.string r1, .int .i64 r2, .int .i64 r3]) ∧ Drawn0 w w' := by
  have H : (if a1 < (a0.size : Int) then (if 0 ≤ a1 then (turnstileref5_part.j0 k a0 a1 a2 ((bt a0 a1) == 61)) else (none)) else (turnstileref5_part.j0 k a0 a1 a2 false)) = some (r1, r2, r3) := h
  clear h
  have HC4 := Aside0.mk H
  clear H
  go_enter Try.func39, Try.ntmps39
  go_upto_region 1 with (fail)
  go_cut [21] (fun v21 wc => ∃ (kq : Nat) (x21_3 : Bool), v21 = .bool x21_3 ∧ Aside0 (turnstileref5_part.j0 kq a0 a1 a2 x21_3 = some (r1, r2, r3)) ∧ Aside0 (kq ≤ k) ∧ Drawn0 w wc)
  case first =>
    have H := HC4.out
    clear HC4
    by_cases c5 : a1 < (a0.size : Int)
    · rw [if_pos c5] at H
      have c5b0 : decide (a1 < (a0.size : Int)) = true := decide_eq_true c5
      clear c5
      (first | rw [c5b0] | (simp only [i64_w, i32_w]; rw [c5b0]) | skip)
      by_cases c6 : 0 ≤ a1
      · rw [if_pos c6] at H
        have c6b0 : decide (0 ≤ a1) = true := decide_eq_true c6
        clear c6
        have H' := Aside0.mk H
        clear H
        have p7 : 0 ≤ (a1 : Int) := of_decide_eq_true (by first | (with_reducible assumption) | assumption)
        have q7 : a1 < (a0.size : Int) := of_decide_eq_true (by first | (with_reducible assumption) | assumption)
        have hx7 := bt_at a0 a1
        replace p7 := eq_true p7
        replace q7 := eq_true q7
        go_wp2
        go_meet
        case rel => exact ⟨_, (((bt a0 a1) == 61)), (by first | rfl | (simp; done) | (simp [*]; done)), H', ⟨by first | omega | exact Nat.le_refl _⟩, by repeat (first | exact Drawn0.refl _ | apply Drawn0.step)⟩
      · rw [if_neg c6] at H
        exact absurd H (by simp)
    · rw [if_neg c5] at H
      have c5b0 : decide (a1 < (a0.size : Int)) = false := decide_eq_false c5
      clear c5
      (first | rw [c5b0] | (simp only [i64_w, i32_w]; rw [c5b0]) | skip)
      have H' := Aside0.mk H
      clear H
      go_wp2
      go_meet
      case rel => exact ⟨_, (false), (by first | rfl | (simp; done) | (simp [*]; done)), H', ⟨by first | omega | exact Nat.le_refl _⟩, by repeat (first | exact Drawn0.refl _ | apply Drawn0.step)⟩
  case rest =>
    clear HC4
    try clear p2
    try clear c3
    try clear c5
    try clear c5b0
    try clear c6
    try clear c6b0
    try clear p7
    try clear q7
    try clear hx7
    try clear p7
    try clear q7
    obtain ⟨kq, x21_3, rfl, HA, HJ3, ⟨mc3, rfl⟩⟩ := hcut
    cases kq with
    | zero => exact absurd HA.out (by simp [turnstileref5_part.j0])
    | succ kj3 =>
      have H := HA.out
      clear HA
      simp only [turnstileref5_part.j0] at H
      by_cases c8 : x21_3 = true
      · subst c8
        have H1 : (some ((⟨#[]⟩ : ByteArray), wrap64 (a1 + 1), (-1))) = some (r1, r2, r3) := by rw [if_pos rfl] at H; exact H
        clear H
        have H := H1
        clear H1
        simp only [Option.some.injEq, Prod.mk.injEq] at H
        obtain ⟨rfl, rfl, rfl⟩ := H
        go_wp2
        go_ret3
        exact ⟨by first | rfl | (simp; done) | (simp [*]; done), by repeat (first | exact Drawn0.refl _ | apply Drawn0.step)⟩
      · replace c8 := Bool.eq_false_iff.mpr c8
        subst c8
        have H1 : (turnstileref5_part.l0 kj3 a0 a1 a2 0) = some (r1, r2, r3) := by rw [if_neg (show ¬ (false = true) by decide)] at H; exact H
        clear H
        have H := H1
        clear H1
        have H' := Aside0.mk H
        clear H
        go_wp2
        go_loopg [9] kj3 (fun kq v9 w' => ∃ (x9_2 : Int), v9 = .int .i64 x9_2 ∧ Aside0 (turnstileref5_part.l0 kq a0 a1 a2 x9_2 = some (r1, r2, r3)) ∧ Aside0 (kq ≤ kj3) ∧ Drawn0 w w')
        case atStart => exact ⟨(0), (by first | rfl | (simp; done) | (simp [*]; done)), H', ⟨Nat.le_refl _⟩, by repeat (first | exact Drawn0.refl _ | apply Drawn0.step)⟩
        case round =>
          clear H'
          try clear p2
          try clear c3
          try clear c5
          try clear c5b0
          try clear c6
          try clear c6b0
          try clear p6
          try clear p7
          try clear q7
          try clear hx7
          try clear c8
          try clear p2
          try clear p7
          try clear q7
          obtain ⟨x9_2, rfl, HA, HK2, ⟨m2, rfl⟩⟩ := hrel
          cases gk with
          | zero => exact absurd HA.out (by simp [turnstileref5_part.l0])
          | succ k2 =>
            have H := HA.out
            clear HA
            simp only [turnstileref5_part.l0] at H
            by_cases c9 : x9_2 < a2
            · rw [if_pos c9] at H
              have c9b0 : decide (x9_2 < a2) = true := decide_eq_true c9
              clear c9
              by_cases c10 : (wrap64 (a1 + x9_2)) ≥ (a0.size : Int)
              · rw [if_pos c10] at H
                have c10b0 : decide ((a0.size : Int) ≤ (wrap64 (a1 + x9_2))) = true := decide_eq_true c10
                clear c10
                simp only [Option.some.injEq, Prod.mk.injEq] at H
                obtain ⟨rfl, rfl, rfl⟩ := H
                go_wp2
                go_ret3
                exact ⟨by first | rfl | (simp; done) | (simp [*]; done), by repeat (first | exact Drawn0.refl _ | apply Drawn0.step)⟩
              · rw [if_neg c10] at H
                have c10b0 : decide ((a0.size : Int) ≤ (wrap64 (a1 + x9_2))) = false := decide_eq_false c10
                clear c10
                obtain ⟨ji11, hji11⟩ : ∃ j_ : Int, (wrap64 (a1 + x9_2)) = j_ := ⟨_, rfl⟩
                replace H : (if 0 ≤ (ji11) then (if (ji11) < (a0.size : Int) then ((turnstileref5_digit.f (bt a0 (ji11))).bind fun t137 => (if a2 = 4 then (turnstileref5_part.j2 k2 a0 a1 a2 x9_2 (bt a0 (ji11)) t137 (x9_2 == 2)) else (turnstileref5_part.j2 k2 a0 a1 a2 x9_2 (bt a0 (ji11)) t137 false))) else (none)) else (none)) = some (r1, r2, r3) := by first | (rw [hji11] at H; exact H) | (simp only [hji11] at H ⊢; exact H)
                (try rw [hji11] at c10b0)
                have hji11w : (IntKind.i64.wrap (a1 + x9_2)) = ji11 := (i64_w _).trans hji11
                by_cases c12 : 0 ≤ (ji11)
                · rw [if_pos c12] at H
                  have c12b0 : decide (0 ≤ (ji11)) = true := decide_eq_true c12
                  clear c12
                  by_cases c13 : (ji11) < (a0.size : Int)
                  · rw [if_pos c13] at H
                    have c13b0 : decide ((ji11) < (a0.size : Int)) = true := decide_eq_true c13
                    clear c13
                    replace H := Option.bind_eq_some_iff.mp H
                    obtain ⟨t137, A150, H⟩ := H
                    replace H : (if a2 = 4 then (turnstileref5_part.j2 k2 a0 a1 a2 x9_2 (bt a0 (ji11)) t137 (x9_2 == 2)) else (turnstileref5_part.j2 k2 a0 a1 a2 x9_2 (bt a0 (ji11)) t137 false)) = some (r1, r2, r3) := H
                    have A15 := Aside0.mk A150
                    clear A150
                    have HC16 := Aside0.mk H
                    clear H
                    have p14 : 0 ≤ ((ji11) : Int) := of_decide_eq_true (by first | (with_reducible assumption) | assumption)
                    have q14 : (ji11) < (a0.size : Int) := of_decide_eq_true (by first | (with_reducible assumption) | assumption)
                    have hx14 := bt_at a0 (ji11)
                    replace p14 := eq_true p14
                    replace q14 := eq_true q14
                    go_upto_region 10 with (first | ((with_reducible refine gate_callee (f := 38) rfl ?_); refine goesL_ (some 43) rfl rfl Try.func38 (by kernel_rfl) rfl #[.int .u8 (bt a0 (ji11))] rfl (by (try simp only [List.map_toArray, List.map_cons, List.map_nil]); first | done | (simp only [hji11]; rfl) | rfl | (simp only [List.length_drop, List.length_take]; rfl)) ?_; (with_reducible refine (turnstileref5_digit.calls (bt a0 (ji11)) t137 _ A15.out).mono ?_); rintro e w' ⟨rfl, ⟨nd, rfl⟩⟩; refine ⟨_, rfl, ?_⟩))
                    (try simp only [Act.put, List.setIfInBounds_toArray, List.set_cons_zero, List.set_cons_succ])
                    go_cut [49] (fun v49 wc => ∃ (kq : Nat) (x49_15 : Bool), v49 = .bool x49_15 ∧ Aside0 (turnstileref5_part.j2 kq a0 a1 a2 x9_2 (bt a0 (ji11)) t137 x49_15 = some (r1, r2, r3)) ∧ Aside0 (kq ≤ k2) ∧ Drawn0 w wc)
                    case first =>
                      have H := HC16.out
                      clear HC16
                      by_cases c17 : a2 = 4
                      · rw [if_pos c17] at H
                        have c17b0 : (a2 == 4) = true := beq_iff_eq.mpr c17
                        have c17b1 : (a2 != 4) = false := bne_eq_false_iff_eq.mpr c17
                        clear c17
                        (first | rw [c17b0] | (simp only [i64_w, i32_w]; rw [c17b0]) | skip)
                        have H' := Aside0.mk H
                        clear H
                        go_wp2
                        go_meet
                        case rel => exact ⟨_, ((x9_2 == 2)), (by first | rfl | (simp; done) | (simp [*]; done)), H', ⟨by have := HJ3.out; have := HK2.out; first | omega | exact Nat.le_refl _⟩, by repeat (first | exact Drawn0.refl _ | apply Drawn0.step)⟩
                      · rw [if_neg c17] at H
                        have c17b0 : (a2 == 4) = false := beq_eq_false_iff_ne.mpr c17
                        have c17b1 : (a2 != 4) = true := bne_iff_ne.mpr c17
                        (first | rw [c17b0] | (simp only [i64_w, i32_w]; rw [c17b0]) | skip)
                        have H' := Aside0.mk H
                        clear H
                        go_wp2
                        go_meet
                        case rel => exact ⟨_, (false), (by first | rfl | (simp; done) | (simp [*]; done)), H', ⟨by have := HJ3.out; have := HK2.out; first | omega | exact Nat.le_refl _⟩, by repeat (first | exact Drawn0.refl _ | apply Drawn0.step)⟩
                    case rest =>
                      clear HC16
                      try clear c1
                      try clear p1
                      try clear q1
                      try clear hx1
                      try clear p2
                      try clear c3
                      try clear c5
                      try clear c5b0
                      try clear c6
                      try clear c6b0
                      try clear p6
                      try clear p7
                      try clear q7
                      try clear hx7
                      try clear c8
                      try clear c9
                      try clear c9b0
                      try clear c10
                      try clear c10b0
                      try clear c12
                      try clear c12b0
                      try clear c13
                      try clear c13b0
                      try clear p14
                      try clear q14
                      try clear hx14
                      try clear c17
                      try clear c17b0
                      try clear c17b1
                      try clear p14
                      try clear p2
                      try clear p6
                      try clear p7
                      try clear q14
                      try clear q7
                      obtain ⟨kq, x49_15, rfl, HA, HJ15, ⟨mc15, rfl⟩⟩ := hcut
                      cases kq with
                      | zero => exact absurd HA.out (by simp [turnstileref5_part.j2])
                      | succ kj15 =>
                        have H := HA.out
                        clear HA
                        simp only [turnstileref5_part.j2] at H
                        have HC18 := Aside0.mk H
                        clear H
                        go_upto_if 49 with (fail)
                        go_cut [11] (fun v11 wc => ∃ (kq : Nat) (x11_17 : Bool), v11 = .bool x11_17 ∧ Aside0 (turnstileref5_part.j3 kq a0 a1 a2 x9_2 (bt a0 (ji11)) x11_17 = some (r1, r2, r3)) ∧ Aside0 (kq ≤ kj15) ∧ Drawn0 w wc)
                        case first =>
                          have H := HC18.out
                          clear HC18
                          by_cases c19 : x49_15 = true
                          · subst c19
                            have H1 : (if (bt a0 (ji11)) = 48 then (turnstileref5_part.j3 kj15 a0 a1 a2 x9_2 (bt a0 (ji11)) true) else (turnstileref5_part.j3 kj15 a0 a1 a2 x9_2 (bt a0 (ji11)) ((bt a0 (ji11)) == 49))) = some (r1, r2, r3) := by rw [if_pos rfl] at H; exact H
                            clear H
                            have H := H1
                            clear H1
                            by_cases c20 : (bt a0 (ji11)) = 48
                            · rw [if_pos c20] at H
                              have c20b0 : ((bt a0 (ji11)) == 48) = true := beq_iff_eq.mpr c20
                              have c20b1 : ((bt a0 (ji11)) != 48) = false := bne_eq_false_iff_eq.mpr c20
                              clear c20
                              (first | rw [c20b0] | (simp only [i64_w, i32_w]; rw [c20b0]) | skip)
                              have H' := Aside0.mk H
                              clear H
                              go_wp2
                              go_meet
                              case rel => exact ⟨_, (true), (by first | rfl | (simp; done) | (simp [*]; done)), H', ⟨by have := HJ3.out; have := HK2.out; have := HJ15.out; first | omega | exact Nat.le_refl _⟩, by repeat (first | exact Drawn0.refl _ | apply Drawn0.step)⟩
                            · rw [if_neg c20] at H
                              have c20b0 : ((bt a0 (ji11)) == 48) = false := beq_eq_false_iff_ne.mpr c20
                              have c20b1 : ((bt a0 (ji11)) != 48) = true := bne_iff_ne.mpr c20
                              (first | rw [c20b0] | (simp only [i64_w, i32_w]; rw [c20b0]) | skip)
                              have H' := Aside0.mk H
                              clear H
                              go_wp2
                              go_meet
                              case rel => exact ⟨_, (((bt a0 (ji11)) == 49)), (by first | rfl | (simp; done) | (simp only [← hji11] <;> (first | rfl | simp)) | (simp [*]; done)), H', ⟨by have := HJ3.out; have := HK2.out; have := HJ15.out; first | omega | exact Nat.le_refl _⟩, by repeat (first | exact Drawn0.refl _ | apply Drawn0.step)⟩
                          · replace c19 := Bool.eq_false_iff.mpr c19
                            subst c19
                            have H1 : (turnstileref5_part.j3 kj15 a0 a1 a2 x9_2 (bt a0 (ji11)) t137) = some (r1, r2, r3) := by rw [if_neg (show ¬ (false = true) by decide)] at H; exact H
                            clear H
                            have H := H1
                            clear H1
                            have H' := Aside0.mk H
                            clear H
                            go_wp2
                            go_meet
                            case rel => exact ⟨_, (t137), (by first | rfl | (simp; done) | (simp [*]; done)), H', ⟨by have := HJ3.out; have := HK2.out; have := HJ15.out; first | omega | exact Nat.le_refl _⟩, by repeat (first | exact Drawn0.refl _ | apply Drawn0.step)⟩
                        case rest =>
                          clear HC18
                          try clear c1
                          try clear p1
                          try clear q1
                          try clear hx1
                          try clear c2
                          try clear p2
                          try clear c3
                          try clear c5
                          try clear c5b0
                          try clear c6
                          try clear c6b0
                          try clear p6
                          try clear p7
                          try clear q7
                          try clear hx7
                          try clear c8
                          try clear c9
                          try clear c9b0
                          try clear c10
                          try clear c10b0
                          try clear c12
                          try clear c12b0
                          try clear c13
                          try clear c13b0
                          try clear p14
                          try clear q14
                          try clear hx14
                          try clear c15
                          try clear c17
                          try clear c17b0
                          try clear c17b1
                          try clear c19
                          try clear c20
                          try clear c20b0
                          try clear c20b1
                          try clear p1
                          try clear p14
                          try clear p2
                          try clear p6
                          try clear p7
                          try clear q1
                          try clear q14
                          try clear q7
                          obtain ⟨kq, x11_17, rfl, HA, HJ17, ⟨mc17, rfl⟩⟩ := hcut
                          cases kq with
                          | zero => exact absurd HA.out (by simp [turnstileref5_part.j3])
                          | succ kj17 =>
                            have H := HA.out
                            clear HA
                            simp only [turnstileref5_part.j3] at H
                            have HC21 := Aside0.mk H
                            clear H
                            go_upto_region 12 with (fail)
                            go_cut [64] (fun v64 wc => ∃ (kq : Nat) (x64_20 : Bool), v64 = .bool x64_20 ∧ Aside0 (turnstileref5_part.j4 kq a0 a1 a2 x9_2 (bt a0 (ji11)) x11_17 x64_20 = some (r1, r2, r3)) ∧ Aside0 (kq ≤ kj17) ∧ Drawn0 w wc)
                            case first =>
                              have H := HC21.out
                              clear HC21
                              by_cases c22 : a2 = 4
                              · rw [if_pos c22] at H
                                have c22b0 : (a2 == 4) = true := beq_iff_eq.mpr c22
                                have c22b1 : (a2 != 4) = false := bne_eq_false_iff_eq.mpr c22
                                clear c22
                                (first | rw [c22b0] | (simp only [i64_w, i32_w]; rw [c22b0]) | skip)
                                by_cases c23 : x9_2 = 3
                                · rw [if_pos c23] at H
                                  have c23b0 : (x9_2 == 3) = true := beq_iff_eq.mpr c23
                                  have c23b1 : (x9_2 != 3) = false := bne_eq_false_iff_eq.mpr c23
                                  clear c23
                                  have H' := Aside0.mk H
                                  clear H
                                  go_wp2
                                  go_meet
                                  case rel => exact ⟨_, (x11_17), (by first | rfl | (simp; done) | (simp [*]; done)), H', ⟨by have := HJ3.out; have := HK2.out; have := HJ15.out; have := HJ17.out; first | omega | exact Nat.le_refl _⟩, by repeat (first | exact Drawn0.refl _ | apply Drawn0.step)⟩
                                · rw [if_neg c23] at H
                                  have c23b0 : (x9_2 == 3) = false := beq_eq_false_iff_ne.mpr c23
                                  have c23b1 : (x9_2 != 3) = true := bne_iff_ne.mpr c23
                                  have H' := Aside0.mk H
                                  clear H
                                  go_wp2
                                  go_meet
                                  case rel => exact ⟨_, (false), (by first | rfl | (simp; done) | (simp [*]; done)), H', ⟨by have := HJ3.out; have := HK2.out; have := HJ15.out; have := HJ17.out; first | omega | exact Nat.le_refl _⟩, by repeat (first | exact Drawn0.refl _ | apply Drawn0.step)⟩
                              · rw [if_neg c22] at H
                                have c22b0 : (a2 == 4) = false := beq_eq_false_iff_ne.mpr c22
                                have c22b1 : (a2 != 4) = true := bne_iff_ne.mpr c22
                                (first | rw [c22b0] | (simp only [i64_w, i32_w]; rw [c22b0]) | skip)
                                have H' := Aside0.mk H
                                clear H
                                go_wp2
                                go_meet
                                case rel => exact ⟨_, (false), (by first | rfl | (simp; done) | (simp [*]; done)), H', ⟨by have := HJ3.out; have := HK2.out; have := HJ15.out; have := HJ17.out; first | omega | exact Nat.le_refl _⟩, by repeat (first | exact Drawn0.refl _ | apply Drawn0.step)⟩
                            case rest =>
                              clear HC21
                              try clear c1
                              try clear p1
                              try clear q1
                              try clear hx1
                              try clear c2
                              try clear p2
                              try clear c3
                              try clear c5
                              try clear c5b0
                              try clear c6
                              try clear c6b0
                              try clear p6
                              try clear p7
                              try clear q7
                              try clear hx7
                              try clear c8
                              try clear c9
                              try clear c9b0
                              try clear c10
                              try clear c10b0
                              try clear c12
                              try clear c12b0
                              try clear c13
                              try clear c13b0
                              try clear p14
                              try clear q14
                              try clear hx14
                              try clear c15
                              try clear c17
                              try clear c17b0
                              try clear c17b1
                              try clear c19
                              try clear c20
                              try clear c20b0
                              try clear c20b1
                              try clear c22
                              try clear c22b0
                              try clear c22b1
                              try clear c23
                              try clear c23b0
                              try clear c23b1
                              try clear p1
                              try clear p14
                              try clear p2
                              try clear p6
                              try clear p7
                              try clear q1
                              try clear q14
                              try clear q7
                              obtain ⟨kq, x64_20, rfl, HA, HJ20, ⟨mc20, rfl⟩⟩ := hcut
                              cases kq with
                              | zero => exact absurd HA.out (by simp [turnstileref5_part.j4])
                              | succ kj20 =>
                                have H := HA.out
                                clear HA
                                simp only [turnstileref5_part.j4] at H
                                by_cases c24 : x64_20 = true
                                · subst c24
                                  have H1 : (if 0 ≤ (wrap64 (a1 + 2)) then (if (wrap64 (a1 + 2)) < (a0.size : Int) then (if (bt a0 (wrap64 (a1 + 2))) = 48 then (if (bt a0 (ji11)) = 48 then (if (bt a0 (wrap64 (a1 + 2))) = 49 then (if (bt a0 (ji11)) ≤ 50 then (turnstileref5_part.l0 kj20 a0 a1 a2 (wrap64 (x9_2 + 1))) else (some ((⟨#[]⟩ : ByteArray), 0, wrap64 (a1 + x9_2)))) else (some ((⟨#[]⟩ : ByteArray), 0, wrap64 (a1 + x9_2)))) else (turnstileref5_part.l0 kj20 a0 a1 a2 (wrap64 (x9_2 + 1)))) else (if (bt a0 (wrap64 (a1 + 2))) = 49 then (if (bt a0 (ji11)) ≤ 50 then (turnstileref5_part.l0 kj20 a0 a1 a2 (wrap64 (x9_2 + 1))) else (some ((⟨#[]⟩ : ByteArray), 0, wrap64 (a1 + x9_2)))) else (some ((⟨#[]⟩ : ByteArray), 0, wrap64 (a1 + x9_2))))) else (none)) else (none)) = some (r1, r2, r3) := by rw [if_pos rfl] at H; exact H
                                  clear H
                                  have H := H1
                                  clear H1
                                  obtain ⟨ji25, hji25⟩ : ∃ j_ : Int, (wrap64 (a1 + 2)) = j_ := ⟨_, rfl⟩
                                  replace H : (if 0 ≤ (ji25) then (if (ji25) < (a0.size : Int) then (if (bt a0 (ji25)) = 48 then (if (bt a0 (ji11)) = 48 then (if (bt a0 (ji25)) = 49 then (if (bt a0 (ji11)) ≤ 50 then (turnstileref5_part.l0 kj20 a0 a1 a2 (wrap64 (x9_2 + 1))) else (some ((⟨#[]⟩ : ByteArray), 0, wrap64 (a1 + x9_2)))) else (some ((⟨#[]⟩ : ByteArray), 0, wrap64 (a1 + x9_2)))) else (turnstileref5_part.l0 kj20 a0 a1 a2 (wrap64 (x9_2 + 1)))) else (if (bt a0 (ji25)) = 49 then (if (bt a0 (ji11)) ≤ 50 then (turnstileref5_part.l0 kj20 a0 a1 a2 (wrap64 (x9_2 + 1))) else (some ((⟨#[]⟩ : ByteArray), 0, wrap64 (a1 + x9_2)))) else (some ((⟨#[]⟩ : ByteArray), 0, wrap64 (a1 + x9_2))))) else (none)) else (none)) = some (r1, r2, r3) := by first | (rw [hji25] at H; exact H) | (simp only [hji25] at H ⊢; exact H)
                                  have hji25w : (IntKind.i64.wrap (a1 + 2)) = ji25 := (i64_w _).trans hji25
                                  by_cases c26 : 0 ≤ (ji25)
                                  · rw [if_pos c26] at H
                                    have c26b0 : decide (0 ≤ (ji25)) = true := decide_eq_true c26
                                    clear c26
                                    by_cases c27 : (ji25) < (a0.size : Int)
                                    · rw [if_pos c27] at H
                                      have c27b0 : decide ((ji25) < (a0.size : Int)) = true := decide_eq_true c27
                                      clear c27
                                      by_cases c29 : (bt a0 (ji25)) = 48
                                      · rw [if_pos c29] at H
                                        have c29b0 : ((bt a0 (ji25)) == 48) = true := beq_iff_eq.mpr c29
                                        have c29b1 : ((bt a0 (ji25)) != 48) = false := bne_eq_false_iff_eq.mpr c29
                                        clear c29
                                        by_cases c30 : (bt a0 (ji11)) = 48
                                        · rw [if_pos c30] at H
                                          have c30b0 : ((bt a0 (ji11)) == 48) = true := beq_iff_eq.mpr c30
                                          have c30b1 : ((bt a0 (ji11)) != 48) = false := bne_eq_false_iff_eq.mpr c30
                                          clear c30
                                          by_cases c32 : (bt a0 (ji25)) = 49
                                          · rw [if_pos c32] at H
                                            have c32b0 : ((bt a0 (ji25)) == 49) = true := beq_iff_eq.mpr c32
                                            have c32b1 : ((bt a0 (ji25)) != 49) = false := bne_eq_false_iff_eq.mpr c32
                                            clear c32
                                            by_cases c33 : (bt a0 (ji11)) ≤ 50
                                            · rw [if_pos c33] at H
                                              have c33b0 : decide ((bt a0 (ji11)) ≤ 50) = true := decide_eq_true c33
                                              clear c33
                                              have H' := Aside0.mk H
                                              clear H
                                              have p28 : 0 ≤ ((ji25) : Int) := of_decide_eq_true (by first | (with_reducible assumption) | assumption)
                                              have q28 : (ji25) < (a0.size : Int) := of_decide_eq_true (by first | (with_reducible assumption) | assumption)
                                              have hx28 := bt_at a0 (ji25)
                                              replace p28 := eq_true p28
                                              replace q28 := eq_true q28
                                              have p31 : 0 ≤ ((ji25) : Int) := of_decide_eq_true (by first | (with_reducible assumption) | assumption)
                                              have q31 : (ji25) < (a0.size : Int) := of_decide_eq_true (by first | (with_reducible assumption) | assumption)
                                              have hx31 := bt_at a0 (ji25)
                                              replace p31 := eq_true p31
                                              replace q31 := eq_true q31
                                              go_wp2
                                              go_roundg kj20
                                              case measure => have := HJ3.out; have := HK2.out; have := HJ15.out; have := HJ17.out; have := HJ20.out; omega
                                              case rel => exact ⟨(wrap64 (x9_2 + 1)), (by first | rfl | (simp; done) | (simp [*]; done)), H', ⟨by have := HJ3.out; have := HK2.out; have := HJ15.out; have := HJ17.out; have := HJ20.out; omega⟩, by repeat (first | exact Drawn0.refl _ | apply Drawn0.step)⟩
                                            · rw [if_neg c33] at H
                                              have c33b0 : decide ((bt a0 (ji11)) ≤ 50) = false := decide_eq_false c33
                                              clear c33
                                              simp only [Option.some.injEq, Prod.mk.injEq] at H
                                              obtain ⟨rfl, rfl, rfl⟩ := H
                                              have p28 : 0 ≤ ((ji25) : Int) := of_decide_eq_true (by first | (with_reducible assumption) | assumption)
                                              have q28 : (ji25) < (a0.size : Int) := of_decide_eq_true (by first | (with_reducible assumption) | assumption)
                                              have hx28 := bt_at a0 (ji25)
                                              replace p28 := eq_true p28
                                              replace q28 := eq_true q28
                                              have p31 : 0 ≤ ((ji25) : Int) := of_decide_eq_true (by first | (with_reducible assumption) | assumption)
                                              have q31 : (ji25) < (a0.size : Int) := of_decide_eq_true (by first | (with_reducible assumption) | assumption)
                                              have hx31 := bt_at a0 (ji25)
                                              replace p31 := eq_true p31
                                              replace q31 := eq_true q31
                                              go_wp2
                                              go_ret3
                                              exact ⟨by first | rfl | (simp; done) | (simp only [← hji11, ← hji25] <;> (first | rfl | simp)) | (simp [*]; done), by repeat (first | exact Drawn0.refl _ | apply Drawn0.step)⟩
                                          · rw [if_neg c32] at H
                                            have c32b0 : ((bt a0 (ji25)) == 49) = false := beq_eq_false_iff_ne.mpr c32
                                            have c32b1 : ((bt a0 (ji25)) != 49) = true := bne_iff_ne.mpr c32
                                            simp only [Option.some.injEq, Prod.mk.injEq] at H
                                            obtain ⟨rfl, rfl, rfl⟩ := H
                                            have p28 : 0 ≤ ((ji25) : Int) := of_decide_eq_true (by first | (with_reducible assumption) | assumption)
                                            have q28 : (ji25) < (a0.size : Int) := of_decide_eq_true (by first | (with_reducible assumption) | assumption)
                                            have hx28 := bt_at a0 (ji25)
                                            replace p28 := eq_true p28
                                            replace q28 := eq_true q28
                                            have p31 : 0 ≤ ((ji25) : Int) := of_decide_eq_true (by first | (with_reducible assumption) | assumption)
                                            have q31 : (ji25) < (a0.size : Int) := of_decide_eq_true (by first | (with_reducible assumption) | assumption)
                                            have hx31 := bt_at a0 (ji25)
                                            replace p31 := eq_true p31
                                            replace q31 := eq_true q31
                                            go_wp2
                                            go_ret3
                                            exact ⟨by first | rfl | (simp; done) | (simp only [← hji11, ← hji25] <;> (first | rfl | simp)) | (simp [*]; done), by repeat (first | exact Drawn0.refl _ | apply Drawn0.step)⟩
                                        · rw [if_neg c30] at H
                                          have c30b0 : ((bt a0 (ji11)) == 48) = false := beq_eq_false_iff_ne.mpr c30
                                          have c30b1 : ((bt a0 (ji11)) != 48) = true := bne_iff_ne.mpr c30
                                          have H' := Aside0.mk H
                                          clear H
                                          have p28 : 0 ≤ ((ji25) : Int) := of_decide_eq_true (by first | (with_reducible assumption) | assumption)
                                          have q28 : (ji25) < (a0.size : Int) := of_decide_eq_true (by first | (with_reducible assumption) | assumption)
                                          have hx28 := bt_at a0 (ji25)
                                          replace p28 := eq_true p28
                                          replace q28 := eq_true q28
                                          go_wp2
                                          go_roundg kj20
                                          case measure => have := HJ3.out; have := HK2.out; have := HJ15.out; have := HJ17.out; have := HJ20.out; omega
                                          case rel => exact ⟨(wrap64 (x9_2 + 1)), (by first | rfl | (simp; done) | (simp [*]; done)), H', ⟨by have := HJ3.out; have := HK2.out; have := HJ15.out; have := HJ17.out; have := HJ20.out; omega⟩, by repeat (first | exact Drawn0.refl _ | apply Drawn0.step)⟩
                                      · rw [if_neg c29] at H
                                        have c29b0 : ((bt a0 (ji25)) == 48) = false := beq_eq_false_iff_ne.mpr c29
                                        have c29b1 : ((bt a0 (ji25)) != 48) = true := bne_iff_ne.mpr c29
                                        by_cases c35 : (bt a0 (ji25)) = 49
                                        · rw [if_pos c35] at H
                                          have c35b0 : ((bt a0 (ji25)) == 49) = true := beq_iff_eq.mpr c35
                                          have c35b1 : ((bt a0 (ji25)) != 49) = false := bne_eq_false_iff_eq.mpr c35
                                          clear c35
                                          by_cases c36 : (bt a0 (ji11)) ≤ 50
                                          · rw [if_pos c36] at H
                                            have c36b0 : decide ((bt a0 (ji11)) ≤ 50) = true := decide_eq_true c36
                                            clear c36
                                            have H' := Aside0.mk H
                                            clear H
                                            have p28 : 0 ≤ ((ji25) : Int) := of_decide_eq_true (by first | (with_reducible assumption) | assumption)
                                            have q28 : (ji25) < (a0.size : Int) := of_decide_eq_true (by first | (with_reducible assumption) | assumption)
                                            have hx28 := bt_at a0 (ji25)
                                            replace p28 := eq_true p28
                                            replace q28 := eq_true q28
                                            have p34 : 0 ≤ ((ji25) : Int) := of_decide_eq_true (by first | (with_reducible assumption) | assumption)
                                            have q34 : (ji25) < (a0.size : Int) := of_decide_eq_true (by first | (with_reducible assumption) | assumption)
                                            have hx34 := bt_at a0 (ji25)
                                            replace p34 := eq_true p34
                                            replace q34 := eq_true q34
                                            go_wp2
                                            go_roundg kj20
                                            case measure => have := HJ3.out; have := HK2.out; have := HJ15.out; have := HJ17.out; have := HJ20.out; omega
                                            case rel => exact ⟨(wrap64 (x9_2 + 1)), (by first | rfl | (simp; done) | (simp [*]; done)), H', ⟨by have := HJ3.out; have := HK2.out; have := HJ15.out; have := HJ17.out; have := HJ20.out; omega⟩, by repeat (first | exact Drawn0.refl _ | apply Drawn0.step)⟩
                                          · rw [if_neg c36] at H
                                            have c36b0 : decide ((bt a0 (ji11)) ≤ 50) = false := decide_eq_false c36
                                            clear c36
                                            simp only [Option.some.injEq, Prod.mk.injEq] at H
                                            obtain ⟨rfl, rfl, rfl⟩ := H
                                            have p28 : 0 ≤ ((ji25) : Int) := of_decide_eq_true (by first | (with_reducible assumption) | assumption)
                                            have q28 : (ji25) < (a0.size : Int) := of_decide_eq_true (by first | (with_reducible assumption) | assumption)
                                            have hx28 := bt_at a0 (ji25)
                                            replace p28 := eq_true p28
                                            replace q28 := eq_true q28
                                            have p34 : 0 ≤ ((ji25) : Int) := of_decide_eq_true (by first | (with_reducible assumption) | assumption)
                                            have q34 : (ji25) < (a0.size : Int) := of_decide_eq_true (by first | (with_reducible assumption) | assumption)
                                            have hx34 := bt_at a0 (ji25)
                                            replace p34 := eq_true p34
                                            replace q34 := eq_true q34
                                            go_wp2
                                            go_ret3
                                            exact ⟨by first | rfl | (simp; done) | (simp only [← hji11, ← hji25] <;> (first | rfl | simp)) | (simp [*]; done), by repeat (first | exact Drawn0.refl _ | apply Drawn0.step)⟩
                                        · rw [if_neg c35] at H
                                          have c35b0 : ((bt a0 (ji25)) == 49) = false := beq_eq_false_iff_ne.mpr c35
                                          have c35b1 : ((bt a0 (ji25)) != 49) = true := bne_iff_ne.mpr c35
                                          simp only [Option.some.injEq, Prod.mk.injEq] at H
                                          obtain ⟨rfl, rfl, rfl⟩ := H
                                          have p28 : 0 ≤ ((ji25) : Int) := of_decide_eq_true (by first | (with_reducible assumption) | assumption)
                                          have q28 : (ji25) < (a0.size : Int) := of_decide_eq_true (by first | (with_reducible assumption) | assumption)
                                          have hx28 := bt_at a0 (ji25)
                                          replace p28 := eq_true p28
                                          replace q28 := eq_true q28
                                          have p34 : 0 ≤ ((ji25) : Int) := of_decide_eq_true (by first | (with_reducible assumption) | assumption)
                                          have q34 : (ji25) < (a0.size : Int) := of_decide_eq_true (by first | (with_reducible assumption) | assumption)
                                          have hx34 := bt_at a0 (ji25)
                                          replace p34 := eq_true p34
                                          replace q34 := eq_true q34
                                          go_wp2
                                          go_ret3
                                          exact ⟨by first | rfl | (simp; done) | (simp only [← hji11, ← hji25] <;> (first | rfl | simp)) | (simp [*]; done), by repeat (first | exact Drawn0.refl _ | apply Drawn0.step)⟩
                                    · rw [if_neg c27] at H
                                      exact absurd H (by simp)
                                  · rw [if_neg c26] at H
                                    exact absurd H (by simp)
                                · replace c24 := Bool.eq_false_iff.mpr c24
                                  subst c24
                                  have H1 : (if x11_17 = true then (turnstileref5_part.l0 kj20 a0 a1 a2 (wrap64 (x9_2 + 1))) else (some ((⟨#[]⟩ : ByteArray), 0, wrap64 (a1 + x9_2)))) = some (r1, r2, r3) := by rw [if_neg (show ¬ (false = true) by decide)] at H; exact H
                                  clear H
                                  have H := H1
                                  clear H1
                                  by_cases c37 : x11_17 = true
                                  · subst c37
                                    have H1 : (turnstileref5_part.l0 kj20 a0 a1 a2 (wrap64 (x9_2 + 1))) = some (r1, r2, r3) := by rw [if_pos rfl] at H; exact H
                                    clear H
                                    have H := H1
                                    clear H1
                                    have H' := Aside0.mk H
                                    clear H
                                    go_wp2
                                    go_roundg kj20
                                    case measure => have := HJ3.out; have := HK2.out; have := HJ15.out; have := HJ17.out; have := HJ20.out; omega
                                    case rel => exact ⟨(wrap64 (x9_2 + 1)), (by first | rfl | (simp; done) | (simp [*]; done)), H', ⟨by have := HJ3.out; have := HK2.out; have := HJ15.out; have := HJ17.out; have := HJ20.out; omega⟩, by repeat (first | exact Drawn0.refl _ | apply Drawn0.step)⟩
                                  · replace c37 := Bool.eq_false_iff.mpr c37
                                    subst c37
                                    have H1 : (some ((⟨#[]⟩ : ByteArray), 0, wrap64 (a1 + x9_2))) = some (r1, r2, r3) := by rw [if_neg (show ¬ (false = true) by decide)] at H; exact H
                                    clear H
                                    have H := H1
                                    clear H1
                                    simp only [Option.some.injEq, Prod.mk.injEq] at H
                                    obtain ⟨rfl, rfl, rfl⟩ := H
                                    go_wp2
                                    go_ret3
                                    exact ⟨by first | rfl | (simp; done) | (simp only [← hji11] <;> (first | rfl | simp)) | (simp [*]; done), by repeat (first | exact Drawn0.refl _ | apply Drawn0.step)⟩
                  · rw [if_neg c13] at H
                    exact absurd H (by simp)
                · rw [if_neg c12] at H
                  exact absurd H (by simp)
            · rw [if_neg c9] at H
              have c9b0 : decide (x9_2 < a2) = false := decide_eq_false c9
              clear c9
              by_cases c38 : 0 ≤ a1
              · rw [if_pos c38] at H
                have c38b0 := eq_true c38
                have c38b1 : decide (0 ≤ a1) = true := decide_eq_true c38
                clear c38
                by_cases c39 : a1 ≤ (wrap64 (a1 + a2))
                · rw [if_pos c39] at H
                  have c39b0 := eq_true c39
                  have c39b1 : decide (a1 ≤ (wrap64 (a1 + a2))) = true := decide_eq_true c39
                  by_cases c40 : (wrap64 (a1 + a2)) ≤ (a0.size : Int)
                  · rw [if_pos c40] at H
                    have c40b0 := eq_true c40
                    have c40b1 : decide ((wrap64 (a1 + a2)) ≤ (a0.size : Int)) = true := decide_eq_true c40
                    simp only [Option.some.injEq, Prod.mk.injEq] at H
                    obtain ⟨rfl, rfl, rfl⟩ := H
                    go_wp2
                    go_ret3
                    exact ⟨by first | rfl | (simp; done) | (simp [*]; done), by repeat (first | exact Drawn0.refl _ | apply Drawn0.step)⟩
                  · rw [if_neg c40] at H
                    exact absurd H (by simp)
                · rw [if_neg c39] at H
                  exact absurd H (by simp)
              · rw [if_neg c38] at H
                exact absurd H (by simp)

end Go.Proofs.Ytammbclaejgkpaa.PC
