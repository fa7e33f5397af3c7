/- parts of what is no tag: nil. -/
import Derived.Test.YtjbhhgecdcgpeaaTAx1
namespace Go.Proofs.Ytjbhhgecdcgpeaa.Tb
open Go Go.RowKit Go.Proofs.YtjbhhgecdcgpeaaW.PrintWords Go.Proofs.YtjbhhgecdcgpeaaW.PrintLast Go.Proofs.YtjbhhgecdcgpeaaW.PrintMore Go.Proofs.Ytjbhhgecdcgpeaa.TA
set_option linter.unusedSimpArgs false
set_option linter.unusedVariables false
attribute [local go_sem] max2_int min2_int max_two min_two max_three min_three max_four min_four
set_option maxHeartbeats 8000000 in
set_option maxRecDepth 100000 in
theorem parts_nil (k : Nat) (a0 : Int) (w : World) (h : tlv_parts.f k a0 = some ([] : List Int)) :
    Calls Try.prog 62 #[.int .i64 a0] w fun e w' => e = .returned (.slice none 0 0) ∧ Below w.heap.size w w' := by
  have HB := Aside0.mk (Below.refl w.heap.size w)
  have H : (if a0 < 1 then (tlv_parts.j0 k a0 true) else (tlv_parts.j0 k a0 (decide (a0 > 16777215)))) = some ([] : List Int) := h
  clear h
  have HC2 := Aside0.mk H
  clear H
  go_enter Try.func62, Try.ntmps62
  go_upto_region 1 with (fail)
  go_cut [3] (fun v3 wc => ∃ (kq : Nat) (x3_1 : Bool), v3 = .bool x3_1 ∧ Aside0 (tlv_parts.j0 kq a0 x3_1 = some ([] : List Int)) ∧ Aside0 (kq ≤ k) ∧ Aside0 (Below w.heap.size w wc))
  case first =>
    have H := HC2.out
    clear HC2
    by_cases c3 : a0 < 1
    · rw [if_pos c3] at H
      have c3b0 : decide (a0 < 1) = true := decide_eq_true c3
      clear c3
      (first | rw [c3b0] | (simp only [i64_w, i32_w]; rw [c3b0]) | skip)
      have H' := Aside0.mk H
      clear H
      go_wp2
      go_meet
      case rel => exact ⟨_, (true), (by first | rfl | (simp; done) | (simp [*]; done)), H', ⟨by first | omega | exact Nat.le_refl _⟩, ⟨by repeat (first | (with_reducible first | exact HB.out | apply below_alloc | apply pw_below_drewN | apply below_drew1) | exact HB.out)⟩⟩
    · rw [if_neg c3] at H
      have c3b0 : decide (a0 < 1) = false := decide_eq_false c3
      clear c3
      (first | rw [c3b0] | (simp only [i64_w, i32_w]; rw [c3b0]) | skip)
      have H' := Aside0.mk H
      clear H
      go_wp2
      go_meet
      case rel => exact ⟨_, (decide (a0 > 16777215)), (by first | rfl | (simp; done) | (simp [*]; done)), H', ⟨by first | omega | exact Nat.le_refl _⟩, ⟨by repeat (first | (with_reducible first | exact HB.out | apply below_alloc | apply pw_below_drewN | apply below_drew1) | exact HB.out)⟩⟩
  case rest =>
    clear HC2
    try clear p2
    try clear c3
    try clear c3b0
    obtain ⟨kq, x3_1, rfl, HA, HJ1, HB⟩ := hcut
    cases kq with
    | zero => exact absurd HA.out (by simp [tlv_parts.j0])
    | succ kj1 =>
      have H := HA.out
      clear HA
      simp only [tlv_parts.j0] at H
      by_cases c4 : x3_1 = true
      · subst c4
        have H1 : (some ([] : List Int)) = some ([] : List Int) := rfl
        clear H
        have H := H1
        clear H1
        clear H
        go_wp2
        go_ret
        exact ⟨by first | rfl | (simp; done), by repeat (first | (with_reducible first | exact HB.out | apply below_alloc | apply pw_below_drewN | apply below_drew1) | exact HB.out)⟩
      · replace c4 := Bool.eq_false_iff.mpr c4
        subst c4
        have H1 : (if a0 < 256 then (if (Int.tmod a0 32) = 31 then (some ([] : List Int)) else (some (([(a0) % 256] : List Int)))) else (if a0 < 65536 then (if (Int.tmod (a0 / 256) 32) = 31 then (if (Go.bits .and .i64 a0 255) < 128 then (some (([(a0 / 256) % 256, (a0) % 256] : List Int))) else (some ([] : List Int))) else (some ([] : List Int))) else (if (Int.tmod (a0 / 65536) 32) = 31 then (if (Go.bits .and .i64 (a0 / 256) 255) > 128 then (if (Go.bits .and .i64 a0 255) < 128 then (some (([(a0 / 65536) % 256, (a0 / 256) % 256, (a0) % 256] : List Int))) else (some ([] : List Int))) else (some ([] : List Int))) else (some ([] : List Int))))) = some ([] : List Int) := by rw [if_neg (show ¬ (false = true) by decide)] at H; exact H
        clear H
        have H := H1
        clear H1
        by_cases c5 : a0 < 256
        · rw [if_pos c5] at H
          have c5b0 : decide (a0 < 256) = true := decide_eq_true c5
          clear c5
          by_cases c6 : (Int.tmod a0 32) = 31
          · rw [if_pos c6] at H
            have c6b0 : ((Int.tmod a0 32) == 31) = true := beq_iff_eq.mpr c6
            have c6b1 : ((Int.tmod a0 32) != 31) = false := bne_eq_false_iff_eq.mpr c6
            clear c6
            clear H
            go_wp2
            go_ret
            exact ⟨by first | rfl | (simp; done), by repeat (first | (with_reducible first | exact HB.out | apply below_alloc | apply pw_below_drewN | apply below_drew1) | exact HB.out)⟩
          · rw [if_neg c6] at H
            have c6b0 : ((Int.tmod a0 32) == 31) = false := beq_eq_false_iff_ne.mpr c6
            have c6b1 : ((Int.tmod a0 32) != 31) = true := bne_iff_ne.mpr c6
            exact absurd (Option.some.inj H) (by simp)
        · rw [if_neg c5] at H
          have c5b0 : decide (a0 < 256) = false := decide_eq_false c5
          clear c5
          by_cases c9 : a0 < 65536
          · rw [if_pos c9] at H
            have c9b0 : decide (a0 < 65536) = true := decide_eq_true c9
            clear c9
            by_cases c10 : (Int.tmod (a0 / 256) 32) = 31
            · rw [if_pos c10] at H
              have c10b0 : ((Int.tmod (a0 / 256) 32) == 31) = true := beq_iff_eq.mpr c10
              have c10b1 : ((Int.tmod (a0 / 256) 32) != 31) = false := bne_eq_false_iff_eq.mpr c10
              clear c10
              by_cases c11 : (Go.bits .and .i64 a0 255) < 128
              · rw [if_pos c11] at H
                have c11b0 : decide ((Go.bits .and .i64 a0 255) < 128) = true := decide_eq_true c11
                clear c11
                exact absurd (Option.some.inj H) (by simp)
              · rw [if_neg c11] at H
                have c11b0 : decide ((Go.bits .and .i64 a0 255) < 128) = false := decide_eq_false c11
                clear c11
                clear H
                go_wp2
                go_ret
                exact ⟨by first | rfl | (simp; done), by repeat (first | (with_reducible first | exact HB.out | apply below_alloc | apply pw_below_drewN | apply below_drew1) | exact HB.out)⟩
            · rw [if_neg c10] at H
              have c10b0 : ((Int.tmod (a0 / 256) 32) == 31) = false := beq_eq_false_iff_ne.mpr c10
              have c10b1 : ((Int.tmod (a0 / 256) 32) != 31) = true := bne_iff_ne.mpr c10
              clear H
              go_wp2
              go_ret
              exact ⟨by first | rfl | (simp; done), by repeat (first | (with_reducible first | exact HB.out | apply below_alloc | apply pw_below_drewN | apply below_drew1) | exact HB.out)⟩
          · rw [if_neg c9] at H
            have c9b0 : decide (a0 < 65536) = false := decide_eq_false c9
            clear c9
            by_cases c14 : (Int.tmod (a0 / 65536) 32) = 31
            · rw [if_pos c14] at H
              have c14b0 : ((Int.tmod (a0 / 65536) 32) == 31) = true := beq_iff_eq.mpr c14
              have c14b1 : ((Int.tmod (a0 / 65536) 32) != 31) = false := bne_eq_false_iff_eq.mpr c14
              clear c14
              by_cases c15 : (Go.bits .and .i64 (a0 / 256) 255) > 128
              · rw [if_pos c15] at H
                have c15b0 : decide (128 < (Go.bits .and .i64 (a0 / 256) 255)) = true := decide_eq_true c15
                clear c15
                by_cases c16 : (Go.bits .and .i64 a0 255) < 128
                · rw [if_pos c16] at H
                  have c16b0 : decide ((Go.bits .and .i64 a0 255) < 128) = true := decide_eq_true c16
                  clear c16
                  exact absurd (Option.some.inj H) (by simp)
                · rw [if_neg c16] at H
                  have c16b0 : decide ((Go.bits .and .i64 a0 255) < 128) = false := decide_eq_false c16
                  clear c16
                  clear H
                  go_wp2
                  go_ret
                  exact ⟨by first | rfl | (simp; done), by repeat (first | (with_reducible first | exact HB.out | apply below_alloc | apply pw_below_drewN | apply below_drew1) | exact HB.out)⟩
              · rw [if_neg c15] at H
                have c15b0 : decide (128 < (Go.bits .and .i64 (a0 / 256) 255)) = false := decide_eq_false c15
                clear c15
                clear H
                go_wp2
                go_ret
                exact ⟨by first | rfl | (simp; done), by repeat (first | (with_reducible first | exact HB.out | apply below_alloc | apply pw_below_drewN | apply below_drew1) | exact HB.out)⟩
            · rw [if_neg c14] at H
              have c14b0 : ((Int.tmod (a0 / 65536) 32) == 31) = false := beq_eq_false_iff_ne.mpr c14
              have c14b1 : ((Int.tmod (a0 / 65536) 32) != 31) = true := bne_iff_ne.mpr c14
              clear H
              go_wp2
              go_ret
              exact ⟨by first | rfl | (simp; done), by repeat (first | (with_reducible first | exact HB.out | apply below_alloc | apply pw_below_drewN | apply below_drew1) | exact HB.out)⟩
end Go.Proofs.Ytjbhhgecdcgpeaa.Tb
