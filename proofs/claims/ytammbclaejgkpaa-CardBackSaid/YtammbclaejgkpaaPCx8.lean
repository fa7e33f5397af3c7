-- PRINTED by print.py (a twelfth state) out of the translation. Not trusted: Lean checks it.
import Derived.Test.YtammbclaejgkpaaPCx0
import Derived.Test.YtammbclaejgkpaaPCx1
import Derived.Test.YtammbclaejgkpaaPCx2
import Derived.Test.YtammbclaejgkpaaPCx7
namespace Go.Proofs.Ytammbclaejgkpaa.PC
open Go.RowKit Go.Proofs.YtammbclaejgkpaaW.PrintWords Go.Proofs.YtammbclaejgkpaaW.PrintLast Go.Proofs.YtammbclaejgkpaaW.PrintMore
attribute [local go_sem] max2_int min2_int max_two min_two max_three min_three max_four min_four   -- for this text's walks alone
set_option linter.unusedVariables false
set_option linter.unusedSimpArgs false

attribute [local go_sem high] eqA24
/-! ### turnstilelaw5_CardBack: function 5 -/
mutual
def turnstilelaw5_CardBack.j0 : Nat → List Int → Int → Int → Bool → ByteArray → ByteArray → ByteArray → ByteArray → Option (Bool)
  | 0, _, _, _, _, _, _, _, _ => none
  | k + 1, x0, x2, x5, x13, x187000, x187001, x187002, x187003 => if (Int.tmod x5 3) = 0 then (turnstilelaw5_CardBack.j1 k x0 x2 x13 x187000 x187001 x187002 x187003) else ((turnstilelaw5_digits.f k x0 3).bind fun t193 => (turnstilelaw5_CardBack.j1 k x0 x2 x13 x187000 x187001 t193 x187003))
def turnstilelaw5_CardBack.j1 : Nat → List Int → Int → Bool → ByteArray → ByteArray → ByteArray → ByteArray → Option (Bool)
  | 0, _, _, _, _, _, _, _ => none
  | k + 1, x0, x2, x13, x187000, x187001, x187002, x187003 => if x187001.toList = ([] : List UInt8) then (turnstilelaw5_CardBack.j2 k x0 x2 x13 (wrap64 ((wrap64 ((wrap64 (37 - (x187000.size : Int))) - 1)) - 1)) x187000 x187001 x187002 x187003) else (turnstilelaw5_CardBack.j2 k x0 x2 x13 (wrap64 ((wrap64 (37 - (x187000.size : Int))) - 1)) x187000 x187001 x187002 x187003)
def turnstilelaw5_CardBack.j2 : Nat → List Int → Int → Bool → Int → ByteArray → ByteArray → ByteArray → ByteArray → Option (Bool)
  | 0, _, _, _, _, _, _, _, _ => none
  | k + 1, x0, x2, x13, x16, x187000, x187001, x187002, x187003 => if x187002.toList = ([] : List UInt8) then (turnstilelaw5_CardBack.j3 k x0 x2 x13 (wrap64 (x16 - 1)) x187000 x187001 x187002 x187003) else (turnstilelaw5_CardBack.j3 k x0 x2 x13 x16 x187000 x187001 x187002 x187003)
def turnstilelaw5_CardBack.j3 : Nat → List Int → Int → Bool → Int → ByteArray → ByteArray → ByteArray → ByteArray → Option (Bool)
  | 0, _, _, _, _, _, _, _, _ => none
  | k + 1, x0, x2, x13, x16, x187000, x187001, x187002, x187003 => (turnstilelaw5_pick.f x2 (wrap64 ((wrap64 ((wrap64 (x16 - (x187001.size : Int))) - (x187002.size : Int))) + 1))).bind fun t194 => ((turnstilelaw5_digits.f k x0 t194).bind fun t195 => ((card_WriteTrack.f x187000 x187001 x187002 t195).bind fun bt196 => ((card_ReadTrack.f bt196.1).bind fun bt198 => (if x13 = true then (if bt196.2 = 0 then (if bt198.2.2.2.2.1 = 0 then (if bt198.2.2.2.2.2 = 0 then (if (!(bt198.1.toList == x187000.toList) || (!(bt198.2.1.toList == x187001.toList) || (!(bt198.2.2.1.toList == x187002.toList) || (!(bt198.2.2.2.1.toList == t195.toList))))) = true then (turnstilelaw5_CardBack.j4 k x0 (wrap64 ((wrap64 (x16 - (x187001.size : Int))) - (x187002.size : Int))) true x187000 x187001 x187002 t195) else (turnstilelaw5_CardBack.j4 k x0 (wrap64 ((wrap64 (x16 - (x187001.size : Int))) - (x187002.size : Int))) (decide ((bt196.1.size : Int) > 37)) x187000 x187001 x187002 t195)) else (turnstilelaw5_CardBack.j4 k x0 (wrap64 ((wrap64 (x16 - (x187001.size : Int))) - (x187002.size : Int))) true x187000 x187001 x187002 t195)) else (turnstilelaw5_CardBack.j4 k x0 (wrap64 ((wrap64 (x16 - (x187001.size : Int))) - (x187002.size : Int))) true x187000 x187001 x187002 t195)) else (turnstilelaw5_CardBack.j4 k x0 (wrap64 ((wrap64 (x16 - (x187001.size : Int))) - (x187002.size : Int))) true x187000 x187001 x187002 t195)) else (turnstilelaw5_CardBack.j4 k x0 (wrap64 ((wrap64 (x16 - (x187001.size : Int))) - (x187002.size : Int))) true x187000 x187001 x187002 t195)))))
def turnstilelaw5_CardBack.j4 : Nat → List Int → Int → Bool → ByteArray → ByteArray → ByteArray → ByteArray → Option (Bool)
  | 0, _, _, _, _, _, _, _ => none
  | k + 1, x0, x16, x119, x187000, x187001, x187002, x187003 => if x119 = true then (some false) else ((turnstilelaw5_digits.f k x0 (wrap64 (x16 + 1))).bind fun t205 => ((card_WriteTrack.f x187000 x187001 x187002 t205).bind fun bt206 => (if bt206.1.toList = ([] : List UInt8) then (some (bt206.2 == 52)) else (some false))))
end
def turnstilelaw5_CardBack.f (k : Nat) (l0 : List Int) (a1 : Int) (a2 : Int) (a3 : Int) (a4 : Int) (a5 : Int) : Option (Bool) := (turnstilelaw5_examples.f k).bind fun t183 => ((turnstilelaw5_pick.f a1 19).bind fun t184 => ((turnstilelaw5_digits.f k l0 (wrap64 (1 + t184))).bind fun t185 => (if (Int.tmod a5 2) = 0 then ((turnstilelaw5_pick.f a4 12).bind fun t187 => ((turnstilelaw5_pick.f a3 100).bind fun t188 => ((turnstilelaw5_digits.f k (([wrap64 (Int.tdiv t188 10), a3, wrap64 (Int.tdiv (wrap64 (1 + t187)) 10), Int.tmod (wrap64 (1 + t187)) 10] : List Int)) 4).bind fun t192 => (turnstilelaw5_CardBack.j0 k l0 a2 a5 t183 t185 t192 (⟨#[]⟩ : ByteArray) (⟨#[]⟩ : ByteArray))))) else (turnstilelaw5_CardBack.j0 k l0 a2 a5 t183 t185 (⟨#[]⟩ : ByteArray) (⟨#[]⟩ : ByteArray) (⟨#[]⟩ : ByteArray)))))
theorem turnstilelaw5_CardBack.mono_l : ∀ k, (∀ y0 y1 y2 y3 y4 y5 y6 y7, LeO (turnstilelaw5_CardBack.j0 k y0 y1 y2 y3 y4 y5 y6 y7) (turnstilelaw5_CardBack.j0 (k + 1) y0 y1 y2 y3 y4 y5 y6 y7)) ∧ (∀ y0 y1 y2 y3 y4 y5 y6, LeO (turnstilelaw5_CardBack.j1 k y0 y1 y2 y3 y4 y5 y6) (turnstilelaw5_CardBack.j1 (k + 1) y0 y1 y2 y3 y4 y5 y6)) ∧ (∀ y0 y1 y2 y3 y4 y5 y6 y7, LeO (turnstilelaw5_CardBack.j2 k y0 y1 y2 y3 y4 y5 y6 y7) (turnstilelaw5_CardBack.j2 (k + 1) y0 y1 y2 y3 y4 y5 y6 y7)) ∧ (∀ y0 y1 y2 y3 y4 y5 y6 y7, LeO (turnstilelaw5_CardBack.j3 k y0 y1 y2 y3 y4 y5 y6 y7) (turnstilelaw5_CardBack.j3 (k + 1) y0 y1 y2 y3 y4 y5 y6 y7)) ∧ (∀ y0 y1 y2 y3 y4 y5 y6, LeO (turnstilelaw5_CardBack.j4 k y0 y1 y2 y3 y4 y5 y6) (turnstilelaw5_CardBack.j4 (k + 1) y0 y1 y2 y3 y4 y5 y6))
  | 0 => ⟨fun _ _ _ _ _ _ _ _ r h => by simp [turnstilelaw5_CardBack.j0] at h, fun _ _ _ _ _ _ _ r h => by simp [turnstilelaw5_CardBack.j1] at h, fun _ _ _ _ _ _ _ _ r h => by simp [turnstilelaw5_CardBack.j2] at h, fun _ _ _ _ _ _ _ _ r h => by simp [turnstilelaw5_CardBack.j3] at h, fun _ _ _ _ _ _ _ r h => by simp [turnstilelaw5_CardBack.j4] at h⟩
  | k + 1 => by
    obtain ⟨ih0, ih1, ih2, ih3, ih4⟩ := turnstilelaw5_CardBack.mono_l k
    refine ⟨?_, ?_, ?_, ?_, ?_⟩
    · intro y0 y1 y2 y3 y4 y5 y6 y7
      unfold turnstilelaw5_CardBack.j0
      repeat' first
      | (with_reducible exact ih0 _ _ _ _ _ _ _ _)
      | (with_reducible exact ih1 _ _ _ _ _ _ _)
      | (with_reducible exact ih2 _ _ _ _ _ _ _ _)
      | (with_reducible exact ih3 _ _ _ _ _ _ _ _)
      | (with_reducible exact ih4 _ _ _ _ _ _ _)
      | (with_reducible exact turnstilelaw5_digits.mono _ _ _)
      | (with_reducible exact turnstilelaw5_examples.mono _)
      | (with_reducible exact LeO.refl _)
      | (with_reducible exact LeO.none _)
      | (with_reducible refine LeO.ite ?_ ?_)
      | (with_reducible refine LeO.bind ?_ (fun _ => ?_))
      | exact ih0 _ _ _ _ _ _ _ _
      | exact ih1 _ _ _ _ _ _ _
      | exact ih2 _ _ _ _ _ _ _ _
      | exact ih3 _ _ _ _ _ _ _ _
      | exact ih4 _ _ _ _ _ _ _
      | exact turnstilelaw5_digits.mono _ _ _
      | exact turnstilelaw5_examples.mono _
      | exact LeO.none _
      | refine LeO.ite ?_ ?_
      | refine LeO.bind ?_ (fun _ => ?_)
    · intro y0 y1 y2 y3 y4 y5 y6
      unfold turnstilelaw5_CardBack.j1
      repeat' first
      | (with_reducible exact ih0 _ _ _ _ _ _ _ _)
      | (with_reducible exact ih1 _ _ _ _ _ _ _)
      | (with_reducible exact ih2 _ _ _ _ _ _ _ _)
      | (with_reducible exact ih3 _ _ _ _ _ _ _ _)
      | (with_reducible exact ih4 _ _ _ _ _ _ _)
      | (with_reducible exact turnstilelaw5_digits.mono _ _ _)
      | (with_reducible exact turnstilelaw5_examples.mono _)
      | (with_reducible exact LeO.refl _)
      | (with_reducible exact LeO.none _)
      | (with_reducible refine LeO.ite ?_ ?_)
      | (with_reducible refine LeO.bind ?_ (fun _ => ?_))
      | exact ih0 _ _ _ _ _ _ _ _
      | exact ih1 _ _ _ _ _ _ _
      | exact ih2 _ _ _ _ _ _ _ _
      | exact ih3 _ _ _ _ _ _ _ _
      | exact ih4 _ _ _ _ _ _ _
      | exact turnstilelaw5_digits.mono _ _ _
      | exact turnstilelaw5_examples.mono _
      | exact LeO.none _
      | refine LeO.ite ?_ ?_
      | refine LeO.bind ?_ (fun _ => ?_)
    · intro y0 y1 y2 y3 y4 y5 y6 y7
      unfold turnstilelaw5_CardBack.j2
      repeat' first
      | (with_reducible exact ih0 _ _ _ _ _ _ _ _)
      | (with_reducible exact ih1 _ _ _ _ _ _ _)
      | (with_reducible exact ih2 _ _ _ _ _ _ _ _)
      | (with_reducible exact ih3 _ _ _ _ _ _ _ _)
      | (with_reducible exact ih4 _ _ _ _ _ _ _)
      | (with_reducible exact turnstilelaw5_digits.mono _ _ _)
      | (with_reducible exact turnstilelaw5_examples.mono _)
      | (with_reducible exact LeO.refl _)
      | (with_reducible exact LeO.none _)
      | (with_reducible refine LeO.ite ?_ ?_)
      | (with_reducible refine LeO.bind ?_ (fun _ => ?_))
      | exact ih0 _ _ _ _ _ _ _ _
      | exact ih1 _ _ _ _ _ _ _
      | exact ih2 _ _ _ _ _ _ _ _
      | exact ih3 _ _ _ _ _ _ _ _
      | exact ih4 _ _ _ _ _ _ _
      | exact turnstilelaw5_digits.mono _ _ _
      | exact turnstilelaw5_examples.mono _
      | exact LeO.none _
      | refine LeO.ite ?_ ?_
      | refine LeO.bind ?_ (fun _ => ?_)
    · intro y0 y1 y2 y3 y4 y5 y6 y7
      unfold turnstilelaw5_CardBack.j3
      repeat' first
      | (with_reducible exact ih0 _ _ _ _ _ _ _ _)
      | (with_reducible exact ih1 _ _ _ _ _ _ _)
      | (with_reducible exact ih2 _ _ _ _ _ _ _ _)
      | (with_reducible exact ih3 _ _ _ _ _ _ _ _)
      | (with_reducible exact ih4 _ _ _ _ _ _ _)
      | (with_reducible exact turnstilelaw5_digits.mono _ _ _)
      | (with_reducible exact turnstilelaw5_examples.mono _)
      | (with_reducible exact LeO.refl _)
      | (with_reducible exact LeO.none _)
      | (with_reducible refine LeO.ite ?_ ?_)
      | (with_reducible refine LeO.bind ?_ (fun _ => ?_))
      | exact ih0 _ _ _ _ _ _ _ _
      | exact ih1 _ _ _ _ _ _ _
      | exact ih2 _ _ _ _ _ _ _ _
      | exact ih3 _ _ _ _ _ _ _ _
      | exact ih4 _ _ _ _ _ _ _
      | exact turnstilelaw5_digits.mono _ _ _
      | exact turnstilelaw5_examples.mono _
      | exact LeO.none _
      | refine LeO.ite ?_ ?_
      | refine LeO.bind ?_ (fun _ => ?_)
    · intro y0 y1 y2 y3 y4 y5 y6
      unfold turnstilelaw5_CardBack.j4
      repeat' first
      | (with_reducible exact ih0 _ _ _ _ _ _ _ _)
      | (with_reducible exact ih1 _ _ _ _ _ _ _)
      | (with_reducible exact ih2 _ _ _ _ _ _ _ _)
      | (with_reducible exact ih3 _ _ _ _ _ _ _ _)
      | (with_reducible exact ih4 _ _ _ _ _ _ _)
      | (with_reducible exact turnstilelaw5_digits.mono _ _ _)
      | (with_reducible exact turnstilelaw5_examples.mono _)
      | (with_reducible exact LeO.refl _)
      | (with_reducible exact LeO.none _)
      | (with_reducible refine LeO.ite ?_ ?_)
      | (with_reducible refine LeO.bind ?_ (fun _ => ?_))
      | exact ih0 _ _ _ _ _ _ _ _
      | exact ih1 _ _ _ _ _ _ _
      | exact ih2 _ _ _ _ _ _ _ _
      | exact ih3 _ _ _ _ _ _ _ _
      | exact ih4 _ _ _ _ _ _ _
      | exact turnstilelaw5_digits.mono _ _ _
      | exact turnstilelaw5_examples.mono _
      | exact LeO.none _
      | refine LeO.ite ?_ ?_
      | refine LeO.bind ?_ (fun _ => ?_)
theorem turnstilelaw5_CardBack.mono : ∀ a0 a1 a2 a3 a4 a5 k, LeO (turnstilelaw5_CardBack.f k a0 a1 a2 a3 a4 a5) (turnstilelaw5_CardBack.f (k + 1) a0 a1 a2 a3 a4 a5) := by
  intro a0 a1 a2 a3 a4 a5 k
  obtain ⟨ih0, ih1, ih2, ih3, ih4⟩ := turnstilelaw5_CardBack.mono_l k
  unfold turnstilelaw5_CardBack.f
  repeat' first
      | (with_reducible exact ih0 _ _ _ _ _ _ _ _)
      | (with_reducible exact ih1 _ _ _ _ _ _ _)
      | (with_reducible exact ih2 _ _ _ _ _ _ _ _)
      | (with_reducible exact ih3 _ _ _ _ _ _ _ _)
      | (with_reducible exact ih4 _ _ _ _ _ _ _)
      | (with_reducible exact turnstilelaw5_digits.mono _ _ _)
      | (with_reducible exact turnstilelaw5_examples.mono _)
      | (with_reducible exact LeO.refl _)
      | (with_reducible exact LeO.none _)
      | (with_reducible refine LeO.ite ?_ ?_)
      | (with_reducible refine LeO.bind ?_ (fun _ => ?_))
      | exact ih0 _ _ _ _ _ _ _ _
      | exact ih1 _ _ _ _ _ _ _
      | exact ih2 _ _ _ _ _ _ _ _
      | exact ih3 _ _ _ _ _ _ _ _
      | exact ih4 _ _ _ _ _ _ _
      | exact turnstilelaw5_digits.mono _ _ _
      | exact turnstilelaw5_examples.mono _
      | exact LeO.none _
      | refine LeO.ite ?_ ?_
      | refine LeO.bind ?_ (fun _ => ?_)
set_option maxHeartbeats 8000000 in
set_option maxRecDepth 100000 in
theorem turnstilelaw5_CardBack.calls (k : Nat) (A0 : Option Addr) (c0 : Nat) (l0 : List Int) (a1 : Int) (a2 : Int) (a3 : Int) (a4 : Int) (a5 : Int) (r : Bool) (w : World) (hr0 : Kd.C (Kd.int .i64) w A0 l0.length l0) (hc0 : l0.length ≤ c0) (h : turnstilelaw5_CardBack.f k l0 a1 a2 a3 a4 a5 = some r) :
    Calls Try.prog 5 #[.slice A0 l0.length c0, .int .i64 a1, .int .i64 a2, .int .i64 a3, .int .i64 a4, .int .i64 a5] w fun e w' => e = .returned (.bool r) ∧ Below w.heap.size w w' := by
  have hu24 := Try.underlying24
  have HR0 := Aside0.mk hr0
  have HC0 := Aside0.mk hc0
  clear hr0 hc0
  have HB := Aside0.mk (Below.refl w.heap.size w)
  have H : ((turnstilelaw5_examples.f k).bind fun t183 => ((turnstilelaw5_pick.f a1 19).bind fun t184 => ((turnstilelaw5_digits.f k l0 (wrap64 (1 + t184))).bind fun t185 => (if (Int.tmod a5 2) = 0 then ((turnstilelaw5_pick.f a4 12).bind fun t187 => ((turnstilelaw5_pick.f a3 100).bind fun t188 => ((turnstilelaw5_digits.f k (([wrap64 (Int.tdiv t188 10), a3, wrap64 (Int.tdiv (wrap64 (1 + t187)) 10), Int.tmod (wrap64 (1 + t187)) 10] : List Int)) 4).bind fun t192 => (turnstilelaw5_CardBack.j0 k l0 a2 a5 t183 t185 t192 (⟨#[]⟩ : ByteArray) (⟨#[]⟩ : ByteArray))))) else (turnstilelaw5_CardBack.j0 k l0 a2 a5 t183 t185 (⟨#[]⟩ : ByteArray) (⟨#[]⟩ : ByteArray) (⟨#[]⟩ : ByteArray)))))) = some r := h
  clear h
  replace H := Option.bind_eq_some_iff.mp H
  obtain ⟨t183, A70, H⟩ := H
  replace H : ((turnstilelaw5_pick.f a1 19).bind fun t184 => ((turnstilelaw5_digits.f k l0 (wrap64 (1 + t184))).bind fun t185 => (if (Int.tmod a5 2) = 0 then ((turnstilelaw5_pick.f a4 12).bind fun t187 => ((turnstilelaw5_pick.f a3 100).bind fun t188 => ((turnstilelaw5_digits.f k (([wrap64 (Int.tdiv t188 10), a3, wrap64 (Int.tdiv (wrap64 (1 + t187)) 10), Int.tmod (wrap64 (1 + t187)) 10] : List Int)) 4).bind fun t192 => (turnstilelaw5_CardBack.j0 k l0 a2 a5 t183 t185 t192 (⟨#[]⟩ : ByteArray) (⟨#[]⟩ : ByteArray))))) else (turnstilelaw5_CardBack.j0 k l0 a2 a5 t183 t185 (⟨#[]⟩ : ByteArray) (⟨#[]⟩ : ByteArray) (⟨#[]⟩ : ByteArray))))) = some r := H
  have A7 := Aside0.mk A70
  clear A70
  replace H := Option.bind_eq_some_iff.mp H
  obtain ⟨t184, A80, H⟩ := H
  replace H : ((turnstilelaw5_digits.f k l0 (wrap64 (1 + t184))).bind fun t185 => (if (Int.tmod a5 2) = 0 then ((turnstilelaw5_pick.f a4 12).bind fun t187 => ((turnstilelaw5_pick.f a3 100).bind fun t188 => ((turnstilelaw5_digits.f k (([wrap64 (Int.tdiv t188 10), a3, wrap64 (Int.tdiv (wrap64 (1 + t187)) 10), Int.tmod (wrap64 (1 + t187)) 10] : List Int)) 4).bind fun t192 => (turnstilelaw5_CardBack.j0 k l0 a2 a5 t183 t185 t192 (⟨#[]⟩ : ByteArray) (⟨#[]⟩ : ByteArray))))) else (turnstilelaw5_CardBack.j0 k l0 a2 a5 t183 t185 (⟨#[]⟩ : ByteArray) (⟨#[]⟩ : ByteArray) (⟨#[]⟩ : ByteArray)))) = some r := H
  have A8 := Aside0.mk A80
  clear A80
  replace H := Option.bind_eq_some_iff.mp H
  obtain ⟨t185, A90, H⟩ := H
  replace H : (if (Int.tmod a5 2) = 0 then ((turnstilelaw5_pick.f a4 12).bind fun t187 => ((turnstilelaw5_pick.f a3 100).bind fun t188 => ((turnstilelaw5_digits.f k (([wrap64 (Int.tdiv t188 10), a3, wrap64 (Int.tdiv (wrap64 (1 + t187)) 10), Int.tmod (wrap64 (1 + t187)) 10] : List Int)) 4).bind fun t192 => (turnstilelaw5_CardBack.j0 k l0 a2 a5 t183 t185 t192 (⟨#[]⟩ : ByteArray) (⟨#[]⟩ : ByteArray))))) else (turnstilelaw5_CardBack.j0 k l0 a2 a5 t183 t185 (⟨#[]⟩ : ByteArray) (⟨#[]⟩ : ByteArray) (⟨#[]⟩ : ByteArray))) = some r := H
  have A9 := Aside0.mk A90
  clear A90
  have HC10 := Aside0.mk H
  clear H
  go_enter Try.func5, Try.ntmps5
  go_upto_if 33 with (first | ((with_reducible refine gate_callee (f := 12) rfl ?_); refine goesL_ (some 24) rfl rfl Try.func12 (by kernel_rfl) rfl #[] rfl (by (try simp only [List.map_toArray, List.map_cons, List.map_nil]); first | done | rfl | (simp only [List.length_drop, List.length_take]; rfl)) ?_; (with_reducible refine (turnstilelaw5_examples.calls k  t183 _ A7.out).mono ?_); rintro e w11 ⟨rfl, hb⟩; refine ⟨_, rfl, ?_⟩; have n0_ := Aside0.mk (below_step (by repeat (first | (with_reducible first | exact HB.out | apply below_alloc | apply pw_below_drewN | apply below_drew1) | exact HB.out)) hb); clear HB; have HB := n0_; clear n0_; (try clear hb); (try clear hb2); (try clear hk); (try clear hi)) | ((with_reducible refine gate_callee (f := 18) rfl ?_); refine goesL_ (some 27) rfl rfl Try.func18 (by kernel_rfl) rfl #[.int .i64 a1, .int .i64 19] rfl (by (try simp only [List.map_toArray, List.map_cons, List.map_nil]); first | done | rfl | (simp only [List.length_drop, List.length_take]; rfl)) ?_; (with_reducible refine (turnstilelaw5_pick.calls a1 19 t184 _ A8.out).mono ?_); rintro e w' ⟨rfl, ⟨nd, rfl⟩⟩; refine ⟨_, rfl, ?_⟩; (try (rw [drewN_self w11]; generalize hq_ : World.drewN w11 _ = w11; have n0_ : Aside0 (Below w.heap.size w w11) := ⟨by rw [← hq_]; exact (by repeat (first | (with_reducible first | exact HB.out | apply below_alloc | apply pw_below_drewN | apply below_drew1) | exact HB.out))⟩; clear HB hq_; have HB := n0_; clear n0_))) | ((with_reducible refine gate_callee (f := 17) rfl ?_); refine goesL_ (some 29) rfl rfl Try.func17 (by kernel_rfl) rfl #[.slice A0 l0.length c0, .int .i64 (wrap64 (1 + t184))] rfl (by (try simp only [List.map_toArray, List.map_cons, List.map_nil]); first | done | rfl | (simp only [List.length_drop, List.length_take]; rfl)) ?_; (with_reducible refine (turnstilelaw5_digits.calls k _ _ l0 (wrap64 (1 + t184)) t185 _ ?side1 ?side2 A9.out).mono ?_); (case side1 => repeat (first | exact (Kd.C_below HR0.out HB.out) | (with_reducible refine Kd.C_alloc ?_ _) | (with_reducible refine Kd.C_drewN ?_ _) | (with_reducible refine Kd.C_drew ?_))); (case side2 => exact HC0.out); rintro e w12 ⟨rfl, hb⟩; refine ⟨_, rfl, ?_⟩; have n0_ := Aside0.mk (below_step (by repeat (first | (with_reducible first | exact HB.out | apply below_alloc | apply pw_below_drewN | apply below_drew1) | exact HB.out)) hb); clear HB; have HB := n0_; clear n0_; (try clear hb); (try clear hb2); (try clear hk); (try clear hi)) | ((with_reducible refine gate_dst (N := 14) rfl ?_); (try (refine gate_guard (by rfl) ?_; dsimp only)); refine box_event ?hg (N := 14) ?hd (cs := #[.string (⟨#[]⟩ : ByteArray), .string (⟨#[]⟩ : ByteArray), .string (⟨#[]⟩ : ByteArray), .string (⟨#[]⟩ : ByteArray)]) (t := 24) ?hr ?_; (case hd => rfl); (case hg => rfl); (case hr => first | (go_simp; done) | (go_simp; rfl)); intro gb186 hg w13 hbox hb; have n0_ := Aside0.mk (below_step (by repeat (first | (with_reducible first | exact HB.out | apply below_alloc | apply pw_below_drewN | apply below_drew1) | exact HB.out)) hb); have n1_ := Aside0.mk (hbox); have n2_ := Aside0.mk ((by rw [hg]; exact (below_size (by repeat (first | (with_reducible first | exact HB.out | apply below_alloc | apply pw_below_drewN | apply below_drew1) | exact HB.out))) : w.heap.size ≤ gb186)); have n3_ := Aside0.mk ((by rw [hg]; exact (below_size (by repeat (first | (with_reducible first | exact HB.out | apply below_alloc | apply pw_below_drewN | apply below_drew1) | exact HB.out))) : w.heap.size ≤ gb186)); clear HB; have HB := n0_; have BK186 := n1_; have GW186 := n2_; have GE186 := n3_; clear n0_ n1_ n2_ n3_; clear hb hbox hg; have hcz14_0 : w13.cell? ⟨gb186, 0, none⟩ = some (.string (⟨#[]⟩ : ByteArray)) := (blk_cell BK186.out 0).trans rfl; have hcz14_1 : w13.cell? ⟨gb186, 1, none⟩ = some (.string (⟨#[]⟩ : ByteArray)) := (blk_cell BK186.out 1).trans rfl; have hcz14_2 : w13.cell? ⟨gb186, 2, none⟩ = some (.string (⟨#[]⟩ : ByteArray)) := (blk_cell BK186.out 2).trans rfl; have hcz14_3 : w13.cell? ⟨gb186, 3, none⟩ = some (.string (⟨#[]⟩ : ByteArray)) := (blk_cell BK186.out 3).trans rfl; have hfz14_0 := blk_frozen BK186.out 0; have hfz14_1 := blk_frozen BK186.out 1; have hfz14_2 := blk_frozen BK186.out 2; have hfz14_3 := blk_frozen BK186.out 3))
  (try simp only [Act.put, List.setIfInBounds_toArray, List.set_cons_zero, List.set_cons_succ])
  go_cut [] (fun wc => ∃ (kq : Nat) (x187001_9 : ByteArray), Aside0 (turnstilelaw5_CardBack.j0 kq l0 a2 a5 t183 t185 x187001_9 (⟨#[]⟩ : ByteArray) (⟨#[]⟩ : ByteArray) = some r) ∧ Aside0 (kq ≤ k) ∧ Aside0 (wc.heap[gb186]? = some (.cells #[.string t185, .string x187001_9, .string (⟨#[]⟩ : ByteArray), .string (⟨#[]⟩ : ByteArray)] 24 (0, 0))) ∧ Aside0 (Below w.heap.size w wc))
  case first =>
    have H := HC10.out
    clear HC10
    by_cases c15 : (Int.tmod a5 2) = 0
    · rw [if_pos c15] at H
      have c15b0 : ((Int.tmod a5 2) == 0) = true := beq_iff_eq.mpr c15
      have c15b1 : ((Int.tmod a5 2) != 0) = false := bne_eq_false_iff_eq.mpr c15
      clear c15
      (first | rw [c15b0] | (simp only [i64_w, i32_w]; rw [c15b0]) | skip)
      replace H := Option.bind_eq_some_iff.mp H
      obtain ⟨t187, A160, H⟩ := H
      replace H : ((turnstilelaw5_pick.f a3 100).bind fun t188 => ((turnstilelaw5_digits.f k (([wrap64 (Int.tdiv t188 10), a3, wrap64 (Int.tdiv (wrap64 (1 + t187)) 10), Int.tmod (wrap64 (1 + t187)) 10] : List Int)) 4).bind fun t192 => (turnstilelaw5_CardBack.j0 k l0 a2 a5 t183 t185 t192 (⟨#[]⟩ : ByteArray) (⟨#[]⟩ : ByteArray)))) = some r := H
      have A16 := Aside0.mk A160
      clear A160
      replace H := Option.bind_eq_some_iff.mp H
      obtain ⟨t188, A170, H⟩ := H
      replace H : ((turnstilelaw5_digits.f k (([wrap64 (Int.tdiv t188 10), a3, wrap64 (Int.tdiv (wrap64 (1 + t187)) 10), Int.tmod (wrap64 (1 + t187)) 10] : List Int)) 4).bind fun t192 => (turnstilelaw5_CardBack.j0 k l0 a2 a5 t183 t185 t192 (⟨#[]⟩ : ByteArray) (⟨#[]⟩ : ByteArray))) = some r := H
      have A17 := Aside0.mk A170
      clear A170
      obtain ⟨y189, hy189⟩ : ∃ y_ : List Int, y_ = (([wrap64 (Int.tdiv t188 10), a3, wrap64 (Int.tdiv (wrap64 (1 + t187)) 10), Int.tmod (wrap64 (1 + t187)) 10] : List Int)) := ⟨_, rfl⟩
      replace H : ((turnstilelaw5_digits.f k y189 4).bind fun t192 => (turnstilelaw5_CardBack.j0 k l0 a2 a5 t183 t185 t192 (⟨#[]⟩ : ByteArray) (⟨#[]⟩ : ByteArray))) = some r := by first | (rw [hy189]; with_reducible exact H) | (have H2_ := (Option.bind_some _ _).symm.trans H; rw [hy189]; with_reducible exact H2_) | (have H2_ := (Option.bind_some _ _).symm.trans H; with_reducible exact H2_) | with_reducible exact H | (rw [hy189]; exact H) | exact H
      have Ny189 := Aside0.mk hy189
      clear hy189
      replace H := Option.bind_eq_some_iff.mp H
      obtain ⟨t192, A180, H⟩ := H
      replace H : (turnstilelaw5_CardBack.j0 k l0 a2 a5 t183 t185 t192 (⟨#[]⟩ : ByteArray) (⟨#[]⟩ : ByteArray)) = some r := H
      have A18 := Aside0.mk A180
      clear A180
      have H' := Aside0.mk H
      clear H
      go_wp2_with (first | ((with_reducible refine gate_callee (f := 18) rfl ?_); refine goesL_ (some 35) rfl rfl Try.func18 (by kernel_rfl) rfl #[.int .i64 a4, .int .i64 12] rfl (by (try simp only [List.map_toArray, List.map_cons, List.map_nil]); first | done | rfl | (simp only [List.length_drop, List.length_take]; rfl)) ?_; (with_reducible refine (turnstilelaw5_pick.calls a4 12 t187 _ A16.out).mono ?_); rintro e w' ⟨rfl, ⟨nd, rfl⟩⟩; refine ⟨_, rfl, ?_⟩) | ((with_reducible refine gate_callee (f := 18) rfl ?_); refine goesL_ (some 38) rfl rfl Try.func18 (by kernel_rfl) rfl #[.int .i64 a3, .int .i64 100] rfl (by (try simp only [List.map_toArray, List.map_cons, List.map_nil]); first | done | rfl | (simp only [List.length_drop, List.length_take]; rfl)) ?_; (with_reducible refine (turnstilelaw5_pick.calls a3 100 t188 _ A17.out).mono ?_); rintro e w' ⟨rfl, ⟨nd, rfl⟩⟩; refine ⟨_, rfl, ?_⟩) | ((with_reducible refine gate_dst (N := 45) rfl ?_); (try (refine gate_guard (by rfl) ?_; dsimp only)); refine Kd.R_lit (Kd.int .i64) _ 3 ?hg (N := 45) ?hd (xs := ([wrap64 (Int.tdiv t188 10), a3, wrap64 (Int.tdiv (wrap64 (1 + t187)) 10), Int.tmod (wrap64 (1 + t187)) 10] : List Int)) (inner := [.int .i64 (wrap64 (Int.tdiv t188 10)), .int .i64 a3, .int .i64 (wrap64 (Int.tdiv (wrap64 (1 + t187)) 10)), .int .i64 (Int.tmod (wrap64 (1 + t187)) 10)]) (ok := fun _ => True) (okp := fun _ => True) ?hr ?hp (fun _ hk => hk) trivial (Below.refl _ _) (Nat.le_refl _) (by simp) ?_; (case hd => rfl); (case hg => rfl); (case hr => first | (go_simp; done) | (go_simp; rfl)); (case hp => exact (Reps.one (show Kd.M (Kd.int .i64) _ _ _ (wrap64 (Int.tdiv t188 10)) [.int .i64 (wrap64 (Int.tdiv t188 10))] from rfl) (Reps.one (show Kd.M (Kd.int .i64) _ _ _ a3 [.int .i64 a3] from rfl) (Reps.one (show Kd.M (Kd.int .i64) _ _ _ (wrap64 (Int.tdiv (wrap64 (1 + t187)) 10)) [.int .i64 (wrap64 (Int.tdiv (wrap64 (1 + t187)) 10))] from rfl) (Reps.one (show Kd.M (Kd.int .i64) _ _ _ (Int.tmod (wrap64 (1 + t187)) 10) [.int .i64 (Int.tmod (wrap64 (1 + t187)) 10)] from rfl) (Reps.none _ _)))))); intro v190 w19 ho20 hb hg_ hnew_; clear hg_ hnew_; (first | rw [← Ny189.out] at ho20 | (simp only [Int.reduceToNat] at ho20; rw [← Ny189.out] at ho20)); have n0_ := Aside0.mk (Kd.R_lower ho20 (below_size (by repeat (first | (with_reducible first | exact HB.out | apply below_alloc | apply pw_below_drewN | apply below_drew1 | refine below_set ?_ GE186.out) | exact HB.out)))); have n1_ := Aside0.mk (blk_below (g := gb186) (o := .cells #[.string t185, .string (⟨#[]⟩ : ByteArray), .string (⟨#[]⟩ : ByteArray), .string (⟨#[]⟩ : ByteArray)] 24 (0, 0)) (by (with_reducible repeat (first | refine blk_drewN ?_ _ | refine blk_drew ?_ | refine blk_alloc ?_ _)); refine blk_put (cs := #[.string t185, .string (⟨#[]⟩ : ByteArray), .string (⟨#[]⟩ : ByteArray), .string (⟨#[]⟩ : ByteArray)]) ?_ 3 _ rfl; (with_reducible repeat (first | refine blk_drewN ?_ _ | refine blk_drew ?_ | refine blk_alloc ?_ _)); refine blk_put (cs := #[.string t185, .string (⟨#[]⟩ : ByteArray), .string (⟨#[]⟩ : ByteArray), .string (⟨#[]⟩ : ByteArray)]) ?_ 2 _ rfl; (with_reducible repeat (first | refine blk_drewN ?_ _ | refine blk_drew ?_ | refine blk_alloc ?_ _)); refine blk_put (cs := #[.string t185, .string (⟨#[]⟩ : ByteArray), .string (⟨#[]⟩ : ByteArray), .string (⟨#[]⟩ : ByteArray)]) ?_ 1 _ rfl; (with_reducible repeat (first | refine blk_drewN ?_ _ | refine blk_drew ?_ | refine blk_alloc ?_ _)); refine blk_put (cs := #[.string (⟨#[]⟩ : ByteArray), .string (⟨#[]⟩ : ByteArray), .string (⟨#[]⟩ : ByteArray), .string (⟨#[]⟩ : ByteArray)]) ?_ 0 _ rfl; (with_reducible repeat (first | refine blk_drewN ?_ _ | refine blk_drew ?_ | refine blk_alloc ?_ _)); exact BK186.out) hb); have n2_ := Aside0.mk (below_step (by repeat (first | (with_reducible first | exact HB.out | apply below_alloc | apply pw_below_drewN | apply below_drew1 | refine below_set ?_ GE186.out) | exact HB.out)) hb); clear BK186; clear HB; have HO191 := n0_; have BK186 := n1_; have HB := n2_; clear n0_ n1_ n2_; clear hb ho20; obtain ⟨Ao21, co21, eo21⟩ := Kd.R_slice HO191.out; subst eo21) | ((with_reducible refine gate_callee (f := 17) rfl ?_); refine goesL_ (some 46) rfl rfl Try.func17 (by kernel_rfl) rfl #[.slice Ao21 y189.length co21, .int .i64 4] rfl (by (try simp only [List.map_toArray, List.map_cons, List.map_nil]); first | done | rfl | (simp only [List.length_drop, List.length_take]; rfl)) ?_; (with_reducible refine (turnstilelaw5_digits.calls k _ _ y189 4 t192 _ ?side1 ?side2 A18.out).mono ?_); (case side1 => repeat (first | exact (Kd.R_reads' HO191.out).2.2 | (with_reducible refine Kd.C_alloc ?_ _) | (with_reducible refine Kd.C_drewN ?_ _) | (with_reducible refine Kd.C_drew ?_))); (case side2 => exact (Kd.R_reads' HO191.out).2.1); rintro e w22 ⟨rfl, hb⟩; refine ⟨_, rfl, ?_⟩; have n0_ := Aside0.mk (Kd.R_below (by (with_reducible repeat (first | apply Kd.R_alloc | apply Kd.R_drewN | apply Kd.R_drew)); exact HO191.out) hb); have n1_ := Aside0.mk (blk_below (g := gb186) (o := .cells #[.string t185, .string (⟨#[]⟩ : ByteArray), .string (⟨#[]⟩ : ByteArray), .string (⟨#[]⟩ : ByteArray)] 24 (0, 0)) (by (with_reducible repeat (first | refine blk_drewN ?_ _ | refine blk_drew ?_ | refine blk_alloc ?_ _)); exact BK186.out) hb); have n2_ := Aside0.mk (below_step (by repeat (first | (with_reducible first | exact HB.out | apply below_alloc | apply pw_below_drewN | apply below_drew1 | refine below_set ?_ GE186.out) | exact HB.out)) hb); clear HO191; clear BK186; clear HB; have HO191 := n0_; have BK186 := n1_; have HB := n2_; clear n0_ n1_ n2_; (try clear hb); (try clear hb2); (try clear hk); (try clear hi); have hcz23_0 : w22.cell? ⟨gb186, 0, none⟩ = some (.string t185) := (blk_cell BK186.out 0).trans rfl; have hcz23_1 : w22.cell? ⟨gb186, 1, none⟩ = some (.string (⟨#[]⟩ : ByteArray)) := (blk_cell BK186.out 1).trans rfl; have hcz23_2 : w22.cell? ⟨gb186, 2, none⟩ = some (.string (⟨#[]⟩ : ByteArray)) := (blk_cell BK186.out 2).trans rfl; have hcz23_3 : w22.cell? ⟨gb186, 3, none⟩ = some (.string (⟨#[]⟩ : ByteArray)) := (blk_cell BK186.out 3).trans rfl; have hfz23_0 := blk_frozen BK186.out 0; have hfz23_1 := blk_frozen BK186.out 1; have hfz23_2 := blk_frozen BK186.out 2; have hfz23_3 := blk_frozen BK186.out 3))
      go_meet
      case rel => exact ⟨_, (t192), H', ⟨by first | omega | exact Nat.le_refl _⟩, ⟨by (with_reducible repeat (first | refine blk_drewN ?_ _ | refine blk_drew ?_ | refine blk_alloc ?_ _)); refine blk_put (cs := #[.string t185, .string (⟨#[]⟩ : ByteArray), .string (⟨#[]⟩ : ByteArray), .string (⟨#[]⟩ : ByteArray)]) ?_ 1 _ rfl; (with_reducible repeat (first | refine blk_drewN ?_ _ | refine blk_drew ?_ | refine blk_alloc ?_ _)); exact BK186.out⟩, ⟨by repeat (first | (with_reducible first | exact HB.out | apply below_alloc | apply pw_below_drewN | apply below_drew1 | refine below_set ?_ GE186.out) | exact HB.out)⟩⟩
    · rw [if_neg c15] at H
      have c15b0 : ((Int.tmod a5 2) == 0) = false := beq_eq_false_iff_ne.mpr c15
      have c15b1 : ((Int.tmod a5 2) != 0) = true := bne_iff_ne.mpr c15
      (first | rw [c15b0] | (simp only [i64_w, i32_w]; rw [c15b0]) | skip)
      have H' := Aside0.mk H
      clear H
      go_wp2
      go_meet
      case rel => exact ⟨_, ((⟨#[]⟩ : ByteArray)), H', ⟨by first | omega | exact Nat.le_refl _⟩, ⟨by (with_reducible repeat (first | refine blk_drewN ?_ _ | refine blk_drew ?_ | refine blk_alloc ?_ _)); refine blk_put (cs := #[.string t185, .string (⟨#[]⟩ : ByteArray), .string (⟨#[]⟩ : ByteArray), .string (⟨#[]⟩ : ByteArray)]) ?_ 3 _ rfl; (with_reducible repeat (first | refine blk_drewN ?_ _ | refine blk_drew ?_ | refine blk_alloc ?_ _)); refine blk_put (cs := #[.string t185, .string (⟨#[]⟩ : ByteArray), .string (⟨#[]⟩ : ByteArray), .string (⟨#[]⟩ : ByteArray)]) ?_ 2 _ rfl; (with_reducible repeat (first | refine blk_drewN ?_ _ | refine blk_drew ?_ | refine blk_alloc ?_ _)); refine blk_put (cs := #[.string t185, .string (⟨#[]⟩ : ByteArray), .string (⟨#[]⟩ : ByteArray), .string (⟨#[]⟩ : ByteArray)]) ?_ 1 _ rfl; (with_reducible repeat (first | refine blk_drewN ?_ _ | refine blk_drew ?_ | refine blk_alloc ?_ _)); refine blk_put (cs := #[.string (⟨#[]⟩ : ByteArray), .string (⟨#[]⟩ : ByteArray), .string (⟨#[]⟩ : ByteArray), .string (⟨#[]⟩ : ByteArray)]) ?_ 0 _ rfl; (with_reducible repeat (first | refine blk_drewN ?_ _ | refine blk_drew ?_ | refine blk_alloc ?_ _)); exact BK186.out⟩, ⟨by repeat (first | (with_reducible first | exact HB.out | apply below_alloc | apply pw_below_drewN | apply below_drew1 | refine below_set ?_ GE186.out) | exact HB.out)⟩⟩
  case rest =>
    clear HC10
    try clear c1
    try clear p2
    try clear c5
    try clear p6
    try clear c12
    try clear c15
    try clear c15b0
    try clear c15b1
    try clear c17
    try clear c18
    try clear hcz14_0
    try clear hcz14_1
    try clear hcz14_2
    try clear hcz14_3
    try clear hcz23_0
    try clear hcz23_1
    try clear hcz23_2
    try clear hcz23_3
    try clear hfz14_0
    try clear hfz14_1
    try clear hfz14_2
    try clear hfz14_3
    try clear hfz23_0
    try clear hfz23_1
    try clear hfz23_2
    try clear hfz23_3
    obtain ⟨kq, x187001_9, HA, HJ9, BK186, HB⟩ := hcut
    cases kq with
    | zero => exact absurd HA.out (by simp [turnstilelaw5_CardBack.j0])
    | succ kj9 =>
      have H := HA.out
      clear HA
      simp only [turnstilelaw5_CardBack.j0] at H
      have HC24 := Aside0.mk H
      clear H
      go_upto_if 50 with (fail)
      go_cut [] (fun wc => ∃ (kq : Nat) (x187002_23 : ByteArray), Aside0 (turnstilelaw5_CardBack.j1 kq l0 a2 t183 t185 x187001_9 x187002_23 (⟨#[]⟩ : ByteArray) = some r) ∧ Aside0 (kq ≤ kj9) ∧ Aside0 (wc.heap[gb186]? = some (.cells #[.string t185, .string x187001_9, .string x187002_23, .string (⟨#[]⟩ : ByteArray)] 24 (0, 0))) ∧ Aside0 (Below w.heap.size w wc))
      case first =>
        have H := HC24.out
        clear HC24
        by_cases c25 : (Int.tmod a5 3) = 0
        · rw [if_pos c25] at H
          have c25b0 : ((Int.tmod a5 3) == 0) = true := beq_iff_eq.mpr c25
          have c25b1 : ((Int.tmod a5 3) != 0) = false := bne_eq_false_iff_eq.mpr c25
          clear c25
          (first | rw [c25b0] | (simp only [i64_w, i32_w]; rw [c25b0]) | skip)
          have H' := Aside0.mk H
          clear H
          go_wp2
          go_meet
          case rel => exact ⟨_, ((⟨#[]⟩ : ByteArray)), H', ⟨by have := HJ9.out; first | omega | exact Nat.le_refl _⟩, ⟨by (with_reducible repeat (first | refine blk_drewN ?_ _ | refine blk_drew ?_ | refine blk_alloc ?_ _)); exact BK186.out⟩, ⟨by repeat (first | (with_reducible first | exact HB.out | apply below_alloc | apply pw_below_drewN | apply below_drew1 | refine below_set ?_ GE186.out) | exact HB.out)⟩⟩
        · rw [if_neg c25] at H
          have c25b0 : ((Int.tmod a5 3) == 0) = false := beq_eq_false_iff_ne.mpr c25
          have c25b1 : ((Int.tmod a5 3) != 0) = true := bne_iff_ne.mpr c25
          (first | rw [c25b0] | (simp only [i64_w, i32_w]; rw [c25b0]) | skip)
          replace H := Option.bind_eq_some_iff.mp H
          obtain ⟨t193, A260, H⟩ := H
          replace H : (turnstilelaw5_CardBack.j1 kj9 l0 a2 t183 t185 x187001_9 t193 (⟨#[]⟩ : ByteArray)) = some r := H
          have A26 := Aside0.mk A260
          clear A260
          have H' := Aside0.mk H
          clear H
          go_wp2_with (first | ((with_reducible refine gate_callee (f := 17) rfl ?_); refine goesL_ (some 52) rfl rfl Try.func17 (by kernel_rfl) rfl #[.slice A0 l0.length c0, .int .i64 3] rfl (by (try simp only [List.map_toArray, List.map_cons, List.map_nil]); first | done | rfl | (simp only [List.length_drop, List.length_take]; rfl)) ?_; (with_reducible refine (turnstilelaw5_digits.calls kj9 _ _ l0 3 t193 _ ?side1 ?side2 A26.out).mono ?_); (case side1 => repeat (first | exact (Kd.C_below HR0.out HB.out) | (with_reducible refine Kd.C_alloc ?_ _) | (with_reducible refine Kd.C_drewN ?_ _) | (with_reducible refine Kd.C_drew ?_))); (case side2 => exact HC0.out); rintro e w27 ⟨rfl, hb⟩; refine ⟨_, rfl, ?_⟩; have n0_ := Aside0.mk (blk_below (g := gb186) (o := .cells #[.string t185, .string x187001_9, .string (⟨#[]⟩ : ByteArray), .string (⟨#[]⟩ : ByteArray)] 24 (0, 0)) (by (with_reducible repeat (first | refine blk_drewN ?_ _ | refine blk_drew ?_ | refine blk_alloc ?_ _)); exact BK186.out) hb); have n1_ := Aside0.mk (below_step (by repeat (first | (with_reducible first | exact HB.out | apply below_alloc | apply pw_below_drewN | apply below_drew1 | refine below_set ?_ GE186.out) | exact HB.out)) hb); clear BK186; clear HB; have BK186 := n0_; have HB := n1_; clear n0_ n1_; (try clear hb); (try clear hb2); (try clear hk); (try clear hi); have hcz28_0 : w27.cell? ⟨gb186, 0, none⟩ = some (.string t185) := (blk_cell BK186.out 0).trans rfl; have hcz28_1 : w27.cell? ⟨gb186, 1, none⟩ = some (.string x187001_9) := (blk_cell BK186.out 1).trans rfl; have hcz28_2 : w27.cell? ⟨gb186, 2, none⟩ = some (.string (⟨#[]⟩ : ByteArray)) := (blk_cell BK186.out 2).trans rfl; have hcz28_3 : w27.cell? ⟨gb186, 3, none⟩ = some (.string (⟨#[]⟩ : ByteArray)) := (blk_cell BK186.out 3).trans rfl; have hfz28_0 := blk_frozen BK186.out 0; have hfz28_1 := blk_frozen BK186.out 1; have hfz28_2 := blk_frozen BK186.out 2; have hfz28_3 := blk_frozen BK186.out 3))
          go_meet
          case rel => exact ⟨_, (t193), H', ⟨by have := HJ9.out; first | omega | exact Nat.le_refl _⟩, ⟨by (with_reducible repeat (first | refine blk_drewN ?_ _ | refine blk_drew ?_ | refine blk_alloc ?_ _)); refine blk_put (cs := #[.string t185, .string x187001_9, .string (⟨#[]⟩ : ByteArray), .string (⟨#[]⟩ : ByteArray)]) ?_ 2 _ rfl; (with_reducible repeat (first | refine blk_drewN ?_ _ | refine blk_drew ?_ | refine blk_alloc ?_ _)); exact BK186.out⟩, ⟨by repeat (first | (with_reducible first | exact HB.out | apply below_alloc | apply pw_below_drewN | apply below_drew1 | refine below_set ?_ GE186.out) | exact HB.out)⟩⟩
      case rest =>
        clear HC24
        try clear c1
        try clear c2
        try clear p2
        try clear c5
        try clear p6
        try clear c12
        try clear c15
        try clear c15b0
        try clear c15b1
        try clear c17
        try clear c18
        try clear c25
        try clear c25b0
        try clear c25b1
        try clear hcz14_0
        try clear hcz14_1
        try clear hcz14_2
        try clear hcz14_3
        try clear hcz23_0
        try clear hcz23_1
        try clear hcz23_2
        try clear hcz23_3
        try clear hcz28_0
        try clear hcz28_1
        try clear hcz28_2
        try clear hcz28_3
        try clear hfz14_0
        try clear hfz14_1
        try clear hfz14_2
        try clear hfz14_3
        try clear hfz23_0
        try clear hfz23_1
        try clear hfz23_2
        try clear hfz23_3
        try clear hfz28_0
        try clear hfz28_1
        try clear hfz28_2
        try clear hfz28_3
        try clear p2
        try clear p6
        obtain ⟨kq, x187002_23, HA, HJ23, BK186, HB⟩ := hcut
        cases kq with
        | zero => exact absurd HA.out (by simp [turnstilelaw5_CardBack.j1])
        | succ kj23 =>
          have H := HA.out
          clear HA
          simp only [turnstilelaw5_CardBack.j1] at H
          have HC29 := Aside0.mk H
          clear H
          have hcz30_0 : wc.cell? ⟨gb186, 0, none⟩ = some (.string t185) := (blk_cell BK186.out 0).trans rfl
          have hcz30_1 : wc.cell? ⟨gb186, 1, none⟩ = some (.string x187001_9) := (blk_cell BK186.out 1).trans rfl
          have hcz30_2 : wc.cell? ⟨gb186, 2, none⟩ = some (.string x187002_23) := (blk_cell BK186.out 2).trans rfl
          have hcz30_3 : wc.cell? ⟨gb186, 3, none⟩ = some (.string (⟨#[]⟩ : ByteArray)) := (blk_cell BK186.out 3).trans rfl
          have hfz30_0 := blk_frozen BK186.out 0
          have hfz30_1 := blk_frozen BK186.out 1
          have hfz30_2 := blk_frozen BK186.out 2
          have hfz30_3 := blk_frozen BK186.out 3
          go_upto_if 61 with (fail)
          go_cut [16] (fun v16 wc => ∃ (kq : Nat) (x16_28 : Int), v16 = .int .i64 x16_28 ∧ Aside0 (turnstilelaw5_CardBack.j2 kq l0 a2 t183 x16_28 t185 x187001_9 x187002_23 (⟨#[]⟩ : ByteArray) = some r) ∧ Aside0 (kq ≤ kj23) ∧ Aside0 (wc.heap[gb186]? = some (.cells #[.string t185, .string x187001_9, .string x187002_23, .string (⟨#[]⟩ : ByteArray)] 24 (0, 0))) ∧ Aside0 (Below w.heap.size w wc))
          case first =>
            have H := HC29.out
            clear HC29
            by_cases c31 : x187001_9.toList = ([] : List UInt8)
            · rw [if_pos c31] at H
              have c31b0 : x187001_9.toList.isEmpty = true := by rw [c31]; rfl
              have c31b1 : (x187001_9.toList == ([] : List UInt8)) = true := beq_iff_eq.mpr c31
              have c31b2 : (x187001_9.toList != ([] : List UInt8)) = false := bne_eq_false_iff_eq.mpr c31
              clear c31
              (first | rw [c31b0] | (simp only [i64_w, i32_w]; rw [c31b0]) | skip)
              have H' := Aside0.mk H
              clear H
              go_wp2
              go_meet
              case rel => exact ⟨_, (wrap64 ((wrap64 ((wrap64 (37 - (t185.size : Int))) - 1)) - 1)), (by first | rfl | (simp; done) | (simp [*]; done)), H', ⟨by have := HJ9.out; have := HJ23.out; first | omega | exact Nat.le_refl _⟩, ⟨by (with_reducible repeat (first | refine blk_drewN ?_ _ | refine blk_drew ?_ | refine blk_alloc ?_ _)); exact BK186.out⟩, ⟨by repeat (first | (with_reducible first | exact HB.out | apply below_alloc | apply pw_below_drewN | apply below_drew1 | refine below_set ?_ GE186.out) | exact HB.out)⟩⟩
            · rw [if_neg c31] at H
              have c31b0 : x187001_9.toList.isEmpty = false := by simpa using c31
              have c31b1 : (x187001_9.toList == ([] : List UInt8)) = false := beq_eq_false_iff_ne.mpr c31
              have c31b2 : (x187001_9.toList != ([] : List UInt8)) = true := bne_iff_ne.mpr c31
              (first | rw [c31b0] | (simp only [i64_w, i32_w]; rw [c31b0]) | skip)
              have H' := Aside0.mk H
              clear H
              go_wp2
              go_meet
              case rel => exact ⟨_, (wrap64 ((wrap64 (37 - (t185.size : Int))) - 1)), (by first | rfl | (simp; done) | (simp [*]; done)), H', ⟨by have := HJ9.out; have := HJ23.out; first | omega | exact Nat.le_refl _⟩, ⟨by (with_reducible repeat (first | refine blk_drewN ?_ _ | refine blk_drew ?_ | refine blk_alloc ?_ _)); exact BK186.out⟩, ⟨by repeat (first | (with_reducible first | exact HB.out | apply below_alloc | apply pw_below_drewN | apply below_drew1 | refine below_set ?_ GE186.out) | exact HB.out)⟩⟩
          case rest =>
            clear HC29
            try clear c1
            try clear c2
            try clear p2
            try clear c3
            try clear c5
            try clear p6
            try clear c12
            try clear c15
            try clear c15b0
            try clear c15b1
            try clear c17
            try clear c18
            try clear c25
            try clear c25b0
            try clear c25b1
            try clear c31
            try clear c31b0
            try clear c31b1
            try clear c31b2
            try clear hcz14_0
            try clear hcz14_1
            try clear hcz14_2
            try clear hcz14_3
            try clear hcz23_0
            try clear hcz23_1
            try clear hcz23_2
            try clear hcz23_3
            try clear hcz28_0
            try clear hcz28_1
            try clear hcz28_2
            try clear hcz28_3
            try clear hcz30_0
            try clear hcz30_1
            try clear hcz30_2
            try clear hcz30_3
            try clear hfz14_0
            try clear hfz14_1
            try clear hfz14_2
            try clear hfz14_3
            try clear hfz23_0
            try clear hfz23_1
            try clear hfz23_2
            try clear hfz23_3
            try clear hfz28_0
            try clear hfz28_1
            try clear hfz28_2
            try clear hfz28_3
            try clear hfz30_0
            try clear hfz30_1
            try clear hfz30_2
            try clear hfz30_3
            try clear p2
            try clear p6
            obtain ⟨kq, x16_28, rfl, HA, HJ28, BK186, HB⟩ := hcut
            cases kq with
            | zero => exact absurd HA.out (by simp [turnstilelaw5_CardBack.j2])
            | succ kj28 =>
              have H := HA.out
              clear HA
              simp only [turnstilelaw5_CardBack.j2] at H
              have HC32 := Aside0.mk H
              clear H
              have hcz33_0 : wc.cell? ⟨gb186, 0, none⟩ = some (.string t185) := (blk_cell BK186.out 0).trans rfl
              have hcz33_1 : wc.cell? ⟨gb186, 1, none⟩ = some (.string x187001_9) := (blk_cell BK186.out 1).trans rfl
              have hcz33_2 : wc.cell? ⟨gb186, 2, none⟩ = some (.string x187002_23) := (blk_cell BK186.out 2).trans rfl
              have hcz33_3 : wc.cell? ⟨gb186, 3, none⟩ = some (.string (⟨#[]⟩ : ByteArray)) := (blk_cell BK186.out 3).trans rfl
              have hfz33_0 := blk_frozen BK186.out 0
              have hfz33_1 := blk_frozen BK186.out 1
              have hfz33_2 := blk_frozen BK186.out 2
              have hfz33_3 := blk_frozen BK186.out 3
              go_upto_if 66 with (fail)
              go_cut [16] (fun v16 wc => ∃ (kq : Nat) (x16_31 : Int), v16 = .int .i64 x16_31 ∧ Aside0 (turnstilelaw5_CardBack.j3 kq l0 a2 t183 x16_31 t185 x187001_9 x187002_23 (⟨#[]⟩ : ByteArray) = some r) ∧ Aside0 (kq ≤ kj28) ∧ Aside0 (wc.heap[gb186]? = some (.cells #[.string t185, .string x187001_9, .string x187002_23, .string (⟨#[]⟩ : ByteArray)] 24 (0, 0))) ∧ Aside0 (Below w.heap.size w wc))
              case first =>
                have H := HC32.out
                clear HC32
                by_cases c34 : x187002_23.toList = ([] : List UInt8)
                · rw [if_pos c34] at H
                  have c34b0 : x187002_23.toList.isEmpty = true := by rw [c34]; rfl
                  have c34b1 : (x187002_23.toList == ([] : List UInt8)) = true := beq_iff_eq.mpr c34
                  have c34b2 : (x187002_23.toList != ([] : List UInt8)) = false := bne_eq_false_iff_eq.mpr c34
                  clear c34
                  (first | rw [c34b0] | (simp only [i64_w, i32_w]; rw [c34b0]) | skip)
                  have H' := Aside0.mk H
                  clear H
                  go_wp2
                  go_meet
                  case rel => exact ⟨_, (wrap64 (x16_28 - 1)), (by first | rfl | (simp; done) | (simp [*]; done)), H', ⟨by have := HJ9.out; have := HJ23.out; have := HJ28.out; first | omega | exact Nat.le_refl _⟩, ⟨by (with_reducible repeat (first | refine blk_drewN ?_ _ | refine blk_drew ?_ | refine blk_alloc ?_ _)); exact BK186.out⟩, ⟨by repeat (first | (with_reducible first | exact HB.out | apply below_alloc | apply pw_below_drewN | apply below_drew1 | refine below_set ?_ GE186.out) | exact HB.out)⟩⟩
                · rw [if_neg c34] at H
                  have c34b0 : x187002_23.toList.isEmpty = false := by simpa using c34
                  have c34b1 : (x187002_23.toList == ([] : List UInt8)) = false := beq_eq_false_iff_ne.mpr c34
                  have c34b2 : (x187002_23.toList != ([] : List UInt8)) = true := bne_iff_ne.mpr c34
                  (first | rw [c34b0] | (simp only [i64_w, i32_w]; rw [c34b0]) | skip)
                  have H' := Aside0.mk H
                  clear H
                  go_wp2
                  go_meet
                  case rel => exact ⟨_, (x16_28), (by first | rfl | (simp; done) | (simp [*]; done)), H', ⟨by have := HJ9.out; have := HJ23.out; have := HJ28.out; first | omega | exact Nat.le_refl _⟩, ⟨by (with_reducible repeat (first | refine blk_drewN ?_ _ | refine blk_drew ?_ | refine blk_alloc ?_ _)); exact BK186.out⟩, ⟨by repeat (first | (with_reducible first | exact HB.out | apply below_alloc | apply pw_below_drewN | apply below_drew1 | refine below_set ?_ GE186.out) | exact HB.out)⟩⟩
              case rest =>
                clear HC32
                try clear c1
                try clear c2
                try clear p2
                try clear c3
                try clear c5
                try clear p6
                try clear c12
                try clear c15
                try clear c15b0
                try clear c15b1
                try clear c17
                try clear c18
                try clear c25
                try clear c25b0
                try clear c25b1
                try clear c31
                try clear c31b0
                try clear c31b1
                try clear c31b2
                try clear c34
                try clear c34b0
                try clear c34b1
                try clear c34b2
                try clear hcz14_0
                try clear hcz14_1
                try clear hcz14_2
                try clear hcz14_3
                try clear hcz23_0
                try clear hcz23_1
                try clear hcz23_2
                try clear hcz23_3
                try clear hcz28_0
                try clear hcz28_1
                try clear hcz28_2
                try clear hcz28_3
                try clear hcz30_0
                try clear hcz30_1
                try clear hcz30_2
                try clear hcz30_3
                try clear hcz33_0
                try clear hcz33_1
                try clear hcz33_2
                try clear hcz33_3
                try clear hfz14_0
                try clear hfz14_1
                try clear hfz14_2
                try clear hfz14_3
                try clear hfz23_0
                try clear hfz23_1
                try clear hfz23_2
                try clear hfz23_3
                try clear hfz28_0
                try clear hfz28_1
                try clear hfz28_2
                try clear hfz28_3
                try clear hfz30_0
                try clear hfz30_1
                try clear hfz30_2
                try clear hfz30_3
                try clear hfz33_0
                try clear hfz33_1
                try clear hfz33_2
                try clear hfz33_3
                try clear p2
                try clear p6
                obtain ⟨kq, x16_31, rfl, HA, HJ31, BK186, HB⟩ := hcut
                cases kq with
                | zero => exact absurd HA.out (by simp [turnstilelaw5_CardBack.j3])
                | succ kj31 =>
                  have H := HA.out
                  clear HA
                  simp only [turnstilelaw5_CardBack.j3] at H
                  replace H := Option.bind_eq_some_iff.mp H
                  obtain ⟨t194, A350, H⟩ := H
                  replace H : ((turnstilelaw5_digits.f kj31 l0 t194).bind fun t195 => ((card_WriteTrack.f t185 x187001_9 x187002_23 t195).bind fun bt196 => ((card_ReadTrack.f bt196.1).bind fun bt198 => (if t183 = true then (if bt196.2 = 0 then (if bt198.2.2.2.2.1 = 0 then (if bt198.2.2.2.2.2 = 0 then (if (!(bt198.1.toList == t185.toList) || (!(bt198.2.1.toList == x187001_9.toList) || (!(bt198.2.2.1.toList == x187002_23.toList) || (!(bt198.2.2.2.1.toList == t195.toList))))) = true then (turnstilelaw5_CardBack.j4 kj31 l0 (wrap64 ((wrap64 (x16_31 - (x187001_9.size : Int))) - (x187002_23.size : Int))) true t185 x187001_9 x187002_23 t195) else (turnstilelaw5_CardBack.j4 kj31 l0 (wrap64 ((wrap64 (x16_31 - (x187001_9.size : Int))) - (x187002_23.size : Int))) (decide ((bt196.1.size : Int) > 37)) t185 x187001_9 x187002_23 t195)) else (turnstilelaw5_CardBack.j4 kj31 l0 (wrap64 ((wrap64 (x16_31 - (x187001_9.size : Int))) - (x187002_23.size : Int))) true t185 x187001_9 x187002_23 t195)) else (turnstilelaw5_CardBack.j4 kj31 l0 (wrap64 ((wrap64 (x16_31 - (x187001_9.size : Int))) - (x187002_23.size : Int))) true t185 x187001_9 x187002_23 t195)) else (turnstilelaw5_CardBack.j4 kj31 l0 (wrap64 ((wrap64 (x16_31 - (x187001_9.size : Int))) - (x187002_23.size : Int))) true t185 x187001_9 x187002_23 t195)) else (turnstilelaw5_CardBack.j4 kj31 l0 (wrap64 ((wrap64 (x16_31 - (x187001_9.size : Int))) - (x187002_23.size : Int))) true t185 x187001_9 x187002_23 t195))))) = some r := H
                  have A35 := Aside0.mk A350
                  clear A350
                  replace H := Option.bind_eq_some_iff.mp H
                  obtain ⟨t195, A360, H⟩ := H
                  replace H : ((card_WriteTrack.f t185 x187001_9 x187002_23 t195).bind fun bt196 => ((card_ReadTrack.f bt196.1).bind fun bt198 => (if t183 = true then (if bt196.2 = 0 then (if bt198.2.2.2.2.1 = 0 then (if bt198.2.2.2.2.2 = 0 then (if (!(bt198.1.toList == t185.toList) || (!(bt198.2.1.toList == x187001_9.toList) || (!(bt198.2.2.1.toList == x187002_23.toList) || (!(bt198.2.2.2.1.toList == t195.toList))))) = true then (turnstilelaw5_CardBack.j4 kj31 l0 (wrap64 ((wrap64 (x16_31 - (x187001_9.size : Int))) - (x187002_23.size : Int))) true t185 x187001_9 x187002_23 t195) else (turnstilelaw5_CardBack.j4 kj31 l0 (wrap64 ((wrap64 (x16_31 - (x187001_9.size : Int))) - (x187002_23.size : Int))) (decide ((bt196.1.size : Int) > 37)) t185 x187001_9 x187002_23 t195)) else (turnstilelaw5_CardBack.j4 kj31 l0 (wrap64 ((wrap64 (x16_31 - (x187001_9.size : Int))) - (x187002_23.size : Int))) true t185 x187001_9 x187002_23 t195)) else (turnstilelaw5_CardBack.j4 kj31 l0 (wrap64 ((wrap64 (x16_31 - (x187001_9.size : Int))) - (x187002_23.size : Int))) true t185 x187001_9 x187002_23 t195)) else (turnstilelaw5_CardBack.j4 kj31 l0 (wrap64 ((wrap64 (x16_31 - (x187001_9.size : Int))) - (x187002_23.size : Int))) true t185 x187001_9 x187002_23 t195)) else (turnstilelaw5_CardBack.j4 kj31 l0 (wrap64 ((wrap64 (x16_31 - (x187001_9.size : Int))) - (x187002_23.size : Int))) true t185 x187001_9 x187002_23 t195)))) = some r := H
                  have A36 := Aside0.mk A360
                  clear A360
                  replace H := Option.bind_eq_some_iff.mp H
                  obtain ⟨⟨t196, t197⟩, A370, H⟩ := H
                  replace H : ((card_ReadTrack.f t196).bind fun bt198 => (if t183 = true then (if t197 = 0 then (if bt198.2.2.2.2.1 = 0 then (if bt198.2.2.2.2.2 = 0 then (if (!(bt198.1.toList == t185.toList) || (!(bt198.2.1.toList == x187001_9.toList) || (!(bt198.2.2.1.toList == x187002_23.toList) || (!(bt198.2.2.2.1.toList == t195.toList))))) = true then (turnstilelaw5_CardBack.j4 kj31 l0 (wrap64 ((wrap64 (x16_31 - (x187001_9.size : Int))) - (x187002_23.size : Int))) true t185 x187001_9 x187002_23 t195) else (turnstilelaw5_CardBack.j4 kj31 l0 (wrap64 ((wrap64 (x16_31 - (x187001_9.size : Int))) - (x187002_23.size : Int))) (decide ((t196.size : Int) > 37)) t185 x187001_9 x187002_23 t195)) else (turnstilelaw5_CardBack.j4 kj31 l0 (wrap64 ((wrap64 (x16_31 - (x187001_9.size : Int))) - (x187002_23.size : Int))) true t185 x187001_9 x187002_23 t195)) else (turnstilelaw5_CardBack.j4 kj31 l0 (wrap64 ((wrap64 (x16_31 - (x187001_9.size : Int))) - (x187002_23.size : Int))) true t185 x187001_9 x187002_23 t195)) else (turnstilelaw5_CardBack.j4 kj31 l0 (wrap64 ((wrap64 (x16_31 - (x187001_9.size : Int))) - (x187002_23.size : Int))) true t185 x187001_9 x187002_23 t195)) else (turnstilelaw5_CardBack.j4 kj31 l0 (wrap64 ((wrap64 (x16_31 - (x187001_9.size : Int))) - (x187002_23.size : Int))) true t185 x187001_9 x187002_23 t195))) = some r := H
                  have A37 := Aside0.mk A370
                  clear A370
                  replace H := Option.bind_eq_some_iff.mp H
                  obtain ⟨⟨t198, t199, t200, t201, t202, t203⟩, A380, H⟩ := H
                  replace H : (if t183 = true then (if t197 = 0 then (if t202 = 0 then (if t203 = 0 then (if (!(t198.toList == t185.toList) || (!(t199.toList == x187001_9.toList) || (!(t200.toList == x187002_23.toList) || (!(t201.toList == t195.toList))))) = true then (turnstilelaw5_CardBack.j4 kj31 l0 (wrap64 ((wrap64 (x16_31 - (x187001_9.size : Int))) - (x187002_23.size : Int))) true t185 x187001_9 x187002_23 t195) else (turnstilelaw5_CardBack.j4 kj31 l0 (wrap64 ((wrap64 (x16_31 - (x187001_9.size : Int))) - (x187002_23.size : Int))) (decide ((t196.size : Int) > 37)) t185 x187001_9 x187002_23 t195)) else (turnstilelaw5_CardBack.j4 kj31 l0 (wrap64 ((wrap64 (x16_31 - (x187001_9.size : Int))) - (x187002_23.size : Int))) true t185 x187001_9 x187002_23 t195)) else (turnstilelaw5_CardBack.j4 kj31 l0 (wrap64 ((wrap64 (x16_31 - (x187001_9.size : Int))) - (x187002_23.size : Int))) true t185 x187001_9 x187002_23 t195)) else (turnstilelaw5_CardBack.j4 kj31 l0 (wrap64 ((wrap64 (x16_31 - (x187001_9.size : Int))) - (x187002_23.size : Int))) true t185 x187001_9 x187002_23 t195)) else (turnstilelaw5_CardBack.j4 kj31 l0 (wrap64 ((wrap64 (x16_31 - (x187001_9.size : Int))) - (x187002_23.size : Int))) true t185 x187001_9 x187002_23 t195)) = some r := H
                  have A38 := Aside0.mk A380
                  clear A380
                  have HC39 := Aside0.mk H
                  clear H
                  have hcz40_0 : wc.cell? ⟨gb186, 0, none⟩ = some (.string t185) := (blk_cell BK186.out 0).trans rfl
                  have hcz40_1 : wc.cell? ⟨gb186, 1, none⟩ = some (.string x187001_9) := (blk_cell BK186.out 1).trans rfl
                  have hcz40_2 : wc.cell? ⟨gb186, 2, none⟩ = some (.string x187002_23) := (blk_cell BK186.out 2).trans rfl
                  have hcz40_3 : wc.cell? ⟨gb186, 3, none⟩ = some (.string (⟨#[]⟩ : ByteArray)) := (blk_cell BK186.out 3).trans rfl
                  have hfz40_0 := blk_frozen BK186.out 0
                  have hfz40_1 := blk_frozen BK186.out 1
                  have hfz40_2 := blk_frozen BK186.out 2
                  have hfz40_3 := blk_frozen BK186.out 3
                  go_upto_region 17 with (first | ((with_reducible refine gate_callee (f := 18) rfl ?_); refine goesL_ (some 82) rfl rfl Try.func18 (by kernel_rfl) rfl #[.int .i64 a2, .int .i64 (wrap64 ((wrap64 ((wrap64 (x16_31 - (x187001_9.size : Int))) - (x187002_23.size : Int))) + 1))] rfl (by (try simp only [List.map_toArray, List.map_cons, List.map_nil]); first | done | rfl | (simp only [List.length_drop, List.length_take]; rfl)) ?_; (with_reducible refine (turnstilelaw5_pick.calls a2 (wrap64 ((wrap64 ((wrap64 (x16_31 - (x187001_9.size : Int))) - (x187002_23.size : Int))) + 1)) t194 _ A35.out).mono ?_); rintro e w' ⟨rfl, ⟨nd, rfl⟩⟩; refine ⟨_, rfl, ?_⟩; (try (rw [drewN_self wc]; generalize hq_ : World.drewN wc _ = wc; have n0_ : Aside0 (wc.heap[gb186]? = some (.cells #[.string t185, .string x187001_9, .string x187002_23, .string (⟨#[]⟩ : ByteArray)] 24 (0, 0))) := ⟨by rw [← hq_]; exact (by (with_reducible repeat (first | refine blk_drewN ?_ _ | refine blk_drew ?_ | refine blk_alloc ?_ _)); exact BK186.out)⟩; have n1_ : Aside0 (Below w.heap.size w wc) := ⟨by rw [← hq_]; exact (by repeat (first | (with_reducible first | exact HB.out | apply below_alloc | apply pw_below_drewN | apply below_drew1 | refine below_set ?_ GE186.out) | exact HB.out))⟩; clear BK186 HB hq_; have BK186 := n0_; have HB := n1_; clear n0_ n1_))) | ((with_reducible refine gate_callee (f := 17) rfl ?_); refine goesL_ (some 83) rfl rfl Try.func17 (by kernel_rfl) rfl #[.slice A0 l0.length c0, .int .i64 t194] rfl (by (try simp only [List.map_toArray, List.map_cons, List.map_nil]); first | done | rfl | (simp only [List.length_drop, List.length_take]; rfl)) ?_; (with_reducible refine (turnstilelaw5_digits.calls kj31 _ _ l0 t194 t195 _ ?side1 ?side2 A36.out).mono ?_); (case side1 => repeat (first | exact (Kd.C_below HR0.out HB.out) | (with_reducible refine Kd.C_alloc ?_ _) | (with_reducible refine Kd.C_drewN ?_ _) | (with_reducible refine Kd.C_drew ?_))); (case side2 => exact HC0.out); rintro e w41 ⟨rfl, hb⟩; refine ⟨_, rfl, ?_⟩; have n0_ := Aside0.mk (blk_below (g := gb186) (o := .cells #[.string t185, .string x187001_9, .string x187002_23, .string (⟨#[]⟩ : ByteArray)] 24 (0, 0)) (by (with_reducible repeat (first | refine blk_drewN ?_ _ | refine blk_drew ?_ | refine blk_alloc ?_ _)); exact BK186.out) hb); have n1_ := Aside0.mk (below_step (by repeat (first | (with_reducible first | exact HB.out | apply below_alloc | apply pw_below_drewN | apply below_drew1 | refine below_set ?_ GE186.out) | exact HB.out)) hb); clear BK186; clear HB; have BK186 := n0_; have HB := n1_; clear n0_ n1_; (try clear hb); (try clear hb2); (try clear hk); (try clear hi); have hcz42_0 : w41.cell? ⟨gb186, 0, none⟩ = some (.string t185) := (blk_cell BK186.out 0).trans rfl; have hcz42_1 : w41.cell? ⟨gb186, 1, none⟩ = some (.string x187001_9) := (blk_cell BK186.out 1).trans rfl; have hcz42_2 : w41.cell? ⟨gb186, 2, none⟩ = some (.string x187002_23) := (blk_cell BK186.out 2).trans rfl; have hcz42_3 : w41.cell? ⟨gb186, 3, none⟩ = some (.string (⟨#[]⟩ : ByteArray)) := (blk_cell BK186.out 3).trans rfl; have hfz42_0 := blk_frozen BK186.out 0; have hfz42_1 := blk_frozen BK186.out 1; have hfz42_2 := blk_frozen BK186.out 2; have hfz42_3 := blk_frozen BK186.out 3) | ((with_reducible refine gate_callee (f := 15) rfl ?_); refine goesL_ (some 87) rfl rfl Try.func15 (by kernel_rfl) rfl #[.agg #[.string t185, .string x187001_9, .string x187002_23, .string t195]] rfl (by (try simp only [List.map_toArray, List.map_cons, List.map_nil]); first | done | rfl | (simp only [List.length_drop, List.length_take]; rfl)) ?_; (with_reducible refine (card_WriteTrack.calls t185 x187001_9 x187002_23 t195 t196 t197 _ A37.out).mono ?_); rintro e w43 ⟨rfl, hb⟩; refine ⟨_, rfl, ?_⟩; have n0_ := Aside0.mk (blk_below (g := gb186) (o := .cells #[.string t185, .string x187001_9, .string x187002_23, .string t195] 24 (0, 0)) (by (with_reducible repeat (first | refine blk_drewN ?_ _ | refine blk_drew ?_ | refine blk_alloc ?_ _)); refine blk_put (cs := #[.string t185, .string x187001_9, .string x187002_23, .string (⟨#[]⟩ : ByteArray)]) ?_ 3 _ rfl; (with_reducible repeat (first | refine blk_drewN ?_ _ | refine blk_drew ?_ | refine blk_alloc ?_ _)); exact BK186.out) hb); have n1_ := Aside0.mk (below_step (by repeat (first | (with_reducible first | exact HB.out | apply below_alloc | apply pw_below_drewN | apply below_drew1 | refine below_set ?_ GE186.out) | exact HB.out)) hb); clear BK186; clear HB; have BK186 := n0_; have HB := n1_; clear n0_ n1_; (try clear hb); (try clear hb2); (try clear hk); (try clear hi)) | ((with_reducible refine gate_callee (f := 13) rfl ?_); refine goesL_ (some 92) rfl rfl Try.func13 (by kernel_rfl) rfl #[.string t196] rfl (by (try simp only [List.map_toArray, List.map_cons, List.map_nil]); first | done | rfl | (simp only [List.length_drop, List.length_take]; rfl)) ?_; (with_reducible refine (card_ReadTrack.calls t196 t198 t199 t200 t201 t202 t203 _ A38.out).mono ?_); rintro e w44 ⟨rfl, hb⟩; refine ⟨_, rfl, ?_⟩; have n0_ := Aside0.mk (blk_below (g := gb186) (o := .cells #[.string t185, .string x187001_9, .string x187002_23, .string t195] 24 (0, 0)) (by (with_reducible repeat (first | refine blk_drewN ?_ _ | refine blk_drew ?_ | refine blk_alloc ?_ _)); exact BK186.out) hb); have n1_ := Aside0.mk (below_step (by repeat (first | (with_reducible first | exact HB.out | apply below_alloc | apply pw_below_drewN | apply below_drew1 | refine below_set ?_ GE186.out) | exact HB.out)) hb); clear BK186; clear HB; have BK186 := n0_; have HB := n1_; clear n0_ n1_; (try clear hb); (try clear hb2); (try clear hk); (try clear hi)) | ((with_reducible refine gate_dst (N := 19) rfl ?_); (try (refine gate_guard (by rfl) ?_; dsimp only)); refine box_event ?hg (N := 19) ?hd (cs := #[.string (⟨#[]⟩ : ByteArray), .string (⟨#[]⟩ : ByteArray), .string (⟨#[]⟩ : ByteArray), .string (⟨#[]⟩ : ByteArray)]) (t := 24) ?hr ?_; (case hd => rfl); (case hg => rfl); (case hr => first | (go_simp; done) | (go_simp; rfl)); intro gb204 hg w45 hbox hb; have n0_ := Aside0.mk (blk_below (g := gb186) (o := .cells #[.string t185, .string x187001_9, .string x187002_23, .string t195] 24 (0, 0)) (by (with_reducible repeat (first | refine blk_drewN ?_ _ | refine blk_drew ?_ | refine blk_alloc ?_ _)); exact BK186.out) hb); have n1_ := Aside0.mk (below_step (by repeat (first | (with_reducible first | exact HB.out | apply below_alloc | apply pw_below_drewN | apply below_drew1 | refine below_set ?_ GE186.out) | exact HB.out)) hb); have n2_ := Aside0.mk (hbox); have n3_ := Aside0.mk ((by rw [hg]; exact (below_size (by repeat (first | (with_reducible first | exact HB.out | apply below_alloc | apply pw_below_drewN | apply below_drew1 | refine below_set ?_ GE186.out) | exact HB.out))) : w.heap.size ≤ gb204)); have n4_ := Aside0.mk ((by rw [hg]; exact (below_size (by repeat (first | (with_reducible first | exact HB.out | apply below_alloc | apply pw_below_drewN | apply below_drew1 | refine below_set ?_ GE186.out) | exact HB.out))) : w.heap.size ≤ gb204)); have n5_ := Aside0.mk ((by rw [hg]; exact Nat.ne_of_lt (blk_lt (g := gb186) (o := .cells #[.string t185, .string x187001_9, .string x187002_23, .string t195] 24 (0, 0)) (by (with_reducible repeat (first | refine blk_drewN ?_ _ | refine blk_drew ?_ | refine blk_alloc ?_ _)); exact BK186.out)) : gb186 ≠ gb204)); have n6_ := Aside0.mk ((by rw [hg]; exact Nat.ne_of_gt (blk_lt (g := gb186) (o := .cells #[.string t185, .string x187001_9, .string x187002_23, .string t195] 24 (0, 0)) (by (with_reducible repeat (first | refine blk_drewN ?_ _ | refine blk_drew ?_ | refine blk_alloc ?_ _)); exact BK186.out)) : gb204 ≠ gb186)); clear BK186; clear HB; have BK186 := n0_; have HB := n1_; have BK204 := n2_; have GW204 := n3_; have GE204 := n4_; have NB186_204 := n5_; have NB204_186 := n6_; clear n0_ n1_ n2_ n3_ n4_ n5_ n6_; clear hb hbox hg; have hnb46 := NB204_186.out; have hnc46 := NB186_204.out; have hcz47_0 : w45.cell? ⟨gb204, 0, none⟩ = some (.string (⟨#[]⟩ : ByteArray)) := (blk_cell BK204.out 0).trans rfl; have hcz47_1 : w45.cell? ⟨gb204, 1, none⟩ = some (.string (⟨#[]⟩ : ByteArray)) := (blk_cell BK204.out 1).trans rfl; have hcz47_2 : w45.cell? ⟨gb204, 2, none⟩ = some (.string (⟨#[]⟩ : ByteArray)) := (blk_cell BK204.out 2).trans rfl; have hcz47_3 : w45.cell? ⟨gb204, 3, none⟩ = some (.string (⟨#[]⟩ : ByteArray)) := (blk_cell BK204.out 3).trans rfl; have hfz47_0 := blk_frozen BK204.out 0; have hfz47_1 := blk_frozen BK204.out 1; have hfz47_2 := blk_frozen BK204.out 2; have hfz47_3 := blk_frozen BK204.out 3))
                  (try simp only [Act.put, List.setIfInBounds_toArray, List.set_cons_zero, List.set_cons_succ])
                  go_cut [119] (fun v119 wc => ∃ (kq : Nat) (x119_38 : Bool), v119 = .bool x119_38 ∧ Aside0 (turnstilelaw5_CardBack.j4 kq l0 (wrap64 ((wrap64 (x16_31 - (x187001_9.size : Int))) - (x187002_23.size : Int))) x119_38 t185 x187001_9 x187002_23 t195 = some r) ∧ Aside0 (kq ≤ kj31) ∧ Aside0 (wc.heap[gb186]? = some (.cells #[.string t185, .string x187001_9, .string x187002_23, .string t195] 24 (0, 0))) ∧ Aside0 (wc.heap[gb204]? = some (.cells #[.string t198, .string t199, .string t200, .string t201] 24 (0, 0))) ∧ Aside0 (Below w.heap.size w wc))
                  case first =>
                    have H := HC39.out
                    clear HC39
                    by_cases c48 : t183 = true
                    · subst c48
                      have H1 : (if t197 = 0 then (if t202 = 0 then (if t203 = 0 then (if (!(t198.toList == t185.toList) || (!(t199.toList == x187001_9.toList) || (!(t200.toList == x187002_23.toList) || (!(t201.toList == t195.toList))))) = true then (turnstilelaw5_CardBack.j4 kj31 l0 (wrap64 ((wrap64 (x16_31 - (x187001_9.size : Int))) - (x187002_23.size : Int))) true t185 x187001_9 x187002_23 t195) else (turnstilelaw5_CardBack.j4 kj31 l0 (wrap64 ((wrap64 (x16_31 - (x187001_9.size : Int))) - (x187002_23.size : Int))) (decide ((t196.size : Int) > 37)) t185 x187001_9 x187002_23 t195)) else (turnstilelaw5_CardBack.j4 kj31 l0 (wrap64 ((wrap64 (x16_31 - (x187001_9.size : Int))) - (x187002_23.size : Int))) true t185 x187001_9 x187002_23 t195)) else (turnstilelaw5_CardBack.j4 kj31 l0 (wrap64 ((wrap64 (x16_31 - (x187001_9.size : Int))) - (x187002_23.size : Int))) true t185 x187001_9 x187002_23 t195)) else (turnstilelaw5_CardBack.j4 kj31 l0 (wrap64 ((wrap64 (x16_31 - (x187001_9.size : Int))) - (x187002_23.size : Int))) true t185 x187001_9 x187002_23 t195)) = some r := by rw [if_pos rfl] at H; exact H
                      clear H
                      have H := H1
                      clear H1
                      by_cases c49 : t197 = 0
                      · rw [if_pos c49] at H
                        have c49b0 : (t197 == 0) = true := beq_iff_eq.mpr c49
                        have c49b1 : (t197 != 0) = false := bne_eq_false_iff_eq.mpr c49
                        clear c49
                        (first | rw [c49b0] | (simp only [i64_w, i32_w]; rw [c49b0]) | skip)
                        by_cases c50 : t202 = 0
                        · rw [if_pos c50] at H
                          have c50b0 : (t202 == 0) = true := beq_iff_eq.mpr c50
                          have c50b1 : (t202 != 0) = false := bne_eq_false_iff_eq.mpr c50
                          clear c50
                          by_cases c51 : t203 = 0
                          · rw [if_pos c51] at H
                            have c51b0 : (t203 == 0) = true := beq_iff_eq.mpr c51
                            have c51b1 : (t203 != 0) = false := bne_eq_false_iff_eq.mpr c51
                            clear c51
                            by_cases c52 : (!(t198.toList == t185.toList) || (!(t199.toList == x187001_9.toList) || (!(t200.toList == x187002_23.toList) || (!(t201.toList == t195.toList))))) = true
                            · rw [if_pos c52] at H
                              have c52b0 : (!(t198.toList == t185.toList) || (!(t199.toList == x187001_9.toList) || (!(t200.toList == x187002_23.toList) || (!(t201.toList == t195.toList))))) = true := c52
                              clear c52
                              have H' := Aside0.mk H
                              clear H
                              have hnb53 := NB204_186.out
                              have hnc53 := NB186_204.out
                              have hcz54_0 : w45.cell? ⟨gb204, 0, none⟩ = some (.string (⟨#[]⟩ : ByteArray)) := (blk_cell BK204.out 0).trans rfl
                              have hcz54_1 : w45.cell? ⟨gb204, 1, none⟩ = some (.string (⟨#[]⟩ : ByteArray)) := (blk_cell BK204.out 1).trans rfl
                              have hcz54_2 : w45.cell? ⟨gb204, 2, none⟩ = some (.string (⟨#[]⟩ : ByteArray)) := (blk_cell BK204.out 2).trans rfl
                              have hcz54_3 : w45.cell? ⟨gb204, 3, none⟩ = some (.string (⟨#[]⟩ : ByteArray)) := (blk_cell BK204.out 3).trans rfl
                              have hfz54_0 := blk_frozen BK204.out 0
                              have hfz54_1 := blk_frozen BK204.out 1
                              have hfz54_2 := blk_frozen BK204.out 2
                              have hfz54_3 := blk_frozen BK204.out 3
                              have hcz55_0 : w45.cell? ⟨gb186, 0, none⟩ = some (.string t185) := (blk_cell BK186.out 0).trans rfl
                              have hcz55_1 : w45.cell? ⟨gb186, 1, none⟩ = some (.string x187001_9) := (blk_cell BK186.out 1).trans rfl
                              have hcz55_2 : w45.cell? ⟨gb186, 2, none⟩ = some (.string x187002_23) := (blk_cell BK186.out 2).trans rfl
                              have hcz55_3 : w45.cell? ⟨gb186, 3, none⟩ = some (.string t195) := (blk_cell BK186.out 3).trans rfl
                              have hfz55_0 := blk_frozen BK186.out 0
                              have hfz55_1 := blk_frozen BK186.out 1
                              have hfz55_2 := blk_frozen BK186.out 2
                              have hfz55_3 := blk_frozen BK186.out 3
                              go_wp2
                              go_meet
                              case rel => exact ⟨_, (true), (by first | rfl | (simp; done) | (simp [*]; done)), H', ⟨by have := HJ9.out; have := HJ23.out; have := HJ28.out; have := HJ31.out; first | omega | exact Nat.le_refl _⟩, ⟨by (with_reducible repeat (first | refine blk_drewN ?_ _ | refine blk_drew ?_ | refine blk_alloc ?_ _)); refine blk_far ?_ NB186_204.out _; (with_reducible repeat (first | refine blk_drewN ?_ _ | refine blk_drew ?_ | refine blk_alloc ?_ _)); refine blk_far ?_ NB186_204.out _; (with_reducible repeat (first | refine blk_drewN ?_ _ | refine blk_drew ?_ | refine blk_alloc ?_ _)); refine blk_far ?_ NB186_204.out _; (with_reducible repeat (first | refine blk_drewN ?_ _ | refine blk_drew ?_ | refine blk_alloc ?_ _)); refine blk_far ?_ NB186_204.out _; (with_reducible repeat (first | refine blk_drewN ?_ _ | refine blk_drew ?_ | refine blk_alloc ?_ _)); exact BK186.out⟩, ⟨by (with_reducible repeat (first | refine blk_drewN ?_ _ | refine blk_drew ?_ | refine blk_alloc ?_ _)); refine blk_put (cs := #[.string t198, .string t199, .string t200, .string (⟨#[]⟩ : ByteArray)]) ?_ 3 _ rfl; (with_reducible repeat (first | refine blk_drewN ?_ _ | refine blk_drew ?_ | refine blk_alloc ?_ _)); refine blk_put (cs := #[.string t198, .string t199, .string (⟨#[]⟩ : ByteArray), .string (⟨#[]⟩ : ByteArray)]) ?_ 2 _ rfl; (with_reducible repeat (first | refine blk_drewN ?_ _ | refine blk_drew ?_ | refine blk_alloc ?_ _)); refine blk_put (cs := #[.string t198, .string (⟨#[]⟩ : ByteArray), .string (⟨#[]⟩ : ByteArray), .string (⟨#[]⟩ : ByteArray)]) ?_ 1 _ rfl; (with_reducible repeat (first | refine blk_drewN ?_ _ | refine blk_drew ?_ | refine blk_alloc ?_ _)); refine blk_put (cs := #[.string (⟨#[]⟩ : ByteArray), .string (⟨#[]⟩ : ByteArray), .string (⟨#[]⟩ : ByteArray), .string (⟨#[]⟩ : ByteArray)]) ?_ 0 _ rfl; (with_reducible repeat (first | refine blk_drewN ?_ _ | refine blk_drew ?_ | refine blk_alloc ?_ _)); exact BK204.out⟩, ⟨by repeat (first | (with_reducible first | exact HB.out | apply below_alloc | apply pw_below_drewN | apply below_drew1 | refine below_set ?_ GE186.out | refine below_set ?_ GE204.out) | exact HB.out)⟩⟩
                            · rw [if_neg c52] at H
                              have c52b0 : (!(t198.toList == t185.toList) || (!(t199.toList == x187001_9.toList) || (!(t200.toList == x187002_23.toList) || (!(t201.toList == t195.toList))))) = false := by simpa using c52
                              clear c52
                              have H' := Aside0.mk H
                              clear H
                              have hnb56 := NB204_186.out
                              have hnc56 := NB186_204.out
                              have hcz57_0 : w45.cell? ⟨gb204, 0, none⟩ = some (.string (⟨#[]⟩ : ByteArray)) := (blk_cell BK204.out 0).trans rfl
                              have hcz57_1 : w45.cell? ⟨gb204, 1, none⟩ = some (.string (⟨#[]⟩ : ByteArray)) := (blk_cell BK204.out 1).trans rfl
                              have hcz57_2 : w45.cell? ⟨gb204, 2, none⟩ = some (.string (⟨#[]⟩ : ByteArray)) := (blk_cell BK204.out 2).trans rfl
                              have hcz57_3 : w45.cell? ⟨gb204, 3, none⟩ = some (.string (⟨#[]⟩ : ByteArray)) := (blk_cell BK204.out 3).trans rfl
                              have hfz57_0 := blk_frozen BK204.out 0
                              have hfz57_1 := blk_frozen BK204.out 1
                              have hfz57_2 := blk_frozen BK204.out 2
                              have hfz57_3 := blk_frozen BK204.out 3
                              have hcz58_0 : w45.cell? ⟨gb186, 0, none⟩ = some (.string t185) := (blk_cell BK186.out 0).trans rfl
                              have hcz58_1 : w45.cell? ⟨gb186, 1, none⟩ = some (.string x187001_9) := (blk_cell BK186.out 1).trans rfl
                              have hcz58_2 : w45.cell? ⟨gb186, 2, none⟩ = some (.string x187002_23) := (blk_cell BK186.out 2).trans rfl
                              have hcz58_3 : w45.cell? ⟨gb186, 3, none⟩ = some (.string t195) := (blk_cell BK186.out 3).trans rfl
                              have hfz58_0 := blk_frozen BK186.out 0
                              have hfz58_1 := blk_frozen BK186.out 1
                              have hfz58_2 := blk_frozen BK186.out 2
                              have hfz58_3 := blk_frozen BK186.out 3
                              go_wp2
                              go_meet
                              case rel => exact ⟨_, (decide ((t196.size : Int) > 37)), (by first | rfl | (simp; done) | (simp [*]; done)), H', ⟨by have := HJ9.out; have := HJ23.out; have := HJ28.out; have := HJ31.out; first | omega | exact Nat.le_refl _⟩, ⟨by (with_reducible repeat (first | refine blk_drewN ?_ _ | refine blk_drew ?_ | refine blk_alloc ?_ _)); refine blk_far ?_ NB186_204.out _; (with_reducible repeat (first | refine blk_drewN ?_ _ | refine blk_drew ?_ | refine blk_alloc ?_ _)); refine blk_far ?_ NB186_204.out _; (with_reducible repeat (first | refine blk_drewN ?_ _ | refine blk_drew ?_ | refine blk_alloc ?_ _)); refine blk_far ?_ NB186_204.out _; (with_reducible repeat (first | refine blk_drewN ?_ _ | refine blk_drew ?_ | refine blk_alloc ?_ _)); refine blk_far ?_ NB186_204.out _; (with_reducible repeat (first | refine blk_drewN ?_ _ | refine blk_drew ?_ | refine blk_alloc ?_ _)); exact BK186.out⟩, ⟨by (with_reducible repeat (first | refine blk_drewN ?_ _ | refine blk_drew ?_ | refine blk_alloc ?_ _)); refine blk_put (cs := #[.string t198, .string t199, .string t200, .string (⟨#[]⟩ : ByteArray)]) ?_ 3 _ rfl; (with_reducible repeat (first | refine blk_drewN ?_ _ | refine blk_drew ?_ | refine blk_alloc ?_ _)); refine blk_put (cs := #[.string t198, .string t199, .string (⟨#[]⟩ : ByteArray), .string (⟨#[]⟩ : ByteArray)]) ?_ 2 _ rfl; (with_reducible repeat (first | refine blk_drewN ?_ _ | refine blk_drew ?_ | refine blk_alloc ?_ _)); refine blk_put (cs := #[.string t198, .string (⟨#[]⟩ : ByteArray), .string (⟨#[]⟩ : ByteArray), .string (⟨#[]⟩ : ByteArray)]) ?_ 1 _ rfl; (with_reducible repeat (first | refine blk_drewN ?_ _ | refine blk_drew ?_ | refine blk_alloc ?_ _)); refine blk_put (cs := #[.string (⟨#[]⟩ : ByteArray), .string (⟨#[]⟩ : ByteArray), .string (⟨#[]⟩ : ByteArray), .string (⟨#[]⟩ : ByteArray)]) ?_ 0 _ rfl; (with_reducible repeat (first | refine blk_drewN ?_ _ | refine blk_drew ?_ | refine blk_alloc ?_ _)); exact BK204.out⟩, ⟨by repeat (first | (with_reducible first | exact HB.out | apply below_alloc | apply pw_below_drewN | apply below_drew1 | refine below_set ?_ GE186.out | refine below_set ?_ GE204.out) | exact HB.out)⟩⟩
                          · rw [if_neg c51] at H
                            have c51b0 : (t203 == 0) = false := beq_eq_false_iff_ne.mpr c51
                            have c51b1 : (t203 != 0) = true := bne_iff_ne.mpr c51
                            have H' := Aside0.mk H
                            clear H
                            go_wp2
                            go_meet
                            case rel => exact ⟨_, (true), (by first | rfl | (simp; done) | (simp [*]; done)), H', ⟨by have := HJ9.out; have := HJ23.out; have := HJ28.out; have := HJ31.out; first | omega | exact Nat.le_refl _⟩, ⟨by (with_reducible repeat (first | refine blk_drewN ?_ _ | refine blk_drew ?_ | refine blk_alloc ?_ _)); refine blk_far ?_ NB186_204.out _; (with_reducible repeat (first | refine blk_drewN ?_ _ | refine blk_drew ?_ | refine blk_alloc ?_ _)); refine blk_far ?_ NB186_204.out _; (with_reducible repeat (first | refine blk_drewN ?_ _ | refine blk_drew ?_ | refine blk_alloc ?_ _)); refine blk_far ?_ NB186_204.out _; (with_reducible repeat (first | refine blk_drewN ?_ _ | refine blk_drew ?_ | refine blk_alloc ?_ _)); refine blk_far ?_ NB186_204.out _; (with_reducible repeat (first | refine blk_drewN ?_ _ | refine blk_drew ?_ | refine blk_alloc ?_ _)); exact BK186.out⟩, ⟨by (with_reducible repeat (first | refine blk_drewN ?_ _ | refine blk_drew ?_ | refine blk_alloc ?_ _)); refine blk_put (cs := #[.string t198, .string t199, .string t200, .string (⟨#[]⟩ : ByteArray)]) ?_ 3 _ rfl; (with_reducible repeat (first | refine blk_drewN ?_ _ | refine blk_drew ?_ | refine blk_alloc ?_ _)); refine blk_put (cs := #[.string t198, .string t199, .string (⟨#[]⟩ : ByteArray), .string (⟨#[]⟩ : ByteArray)]) ?_ 2 _ rfl; (with_reducible repeat (first | refine blk_drewN ?_ _ | refine blk_drew ?_ | refine blk_alloc ?_ _)); refine blk_put (cs := #[.string t198, .string (⟨#[]⟩ : ByteArray), .string (⟨#[]⟩ : ByteArray), .string (⟨#[]⟩ : ByteArray)]) ?_ 1 _ rfl; (with_reducible repeat (first | refine blk_drewN ?_ _ | refine blk_drew ?_ | refine blk_alloc ?_ _)); refine blk_put (cs := #[.string (⟨#[]⟩ : ByteArray), .string (⟨#[]⟩ : ByteArray), .string (⟨#[]⟩ : ByteArray), .string (⟨#[]⟩ : ByteArray)]) ?_ 0 _ rfl; (with_reducible repeat (first | refine blk_drewN ?_ _ | refine blk_drew ?_ | refine blk_alloc ?_ _)); exact BK204.out⟩, ⟨by repeat (first | (with_reducible first | exact HB.out | apply below_alloc | apply pw_below_drewN | apply below_drew1 | refine below_set ?_ GE186.out | refine below_set ?_ GE204.out) | exact HB.out)⟩⟩
                        · rw [if_neg c50] at H
                          have c50b0 : (t202 == 0) = false := beq_eq_false_iff_ne.mpr c50
                          have c50b1 : (t202 != 0) = true := bne_iff_ne.mpr c50
                          have H' := Aside0.mk H
                          clear H
                          go_wp2
                          go_meet
                          case rel => exact ⟨_, (true), (by first | rfl | (simp; done) | (simp [*]; done)), H', ⟨by have := HJ9.out; have := HJ23.out; have := HJ28.out; have := HJ31.out; first | omega | exact Nat.le_refl _⟩, ⟨by (with_reducible repeat (first | refine blk_drewN ?_ _ | refine blk_drew ?_ | refine blk_alloc ?_ _)); refine blk_far ?_ NB186_204.out _; (with_reducible repeat (first | refine blk_drewN ?_ _ | refine blk_drew ?_ | refine blk_alloc ?_ _)); refine blk_far ?_ NB186_204.out _; (with_reducible repeat (first | refine blk_drewN ?_ _ | refine blk_drew ?_ | refine blk_alloc ?_ _)); refine blk_far ?_ NB186_204.out _; (with_reducible repeat (first | refine blk_drewN ?_ _ | refine blk_drew ?_ | refine blk_alloc ?_ _)); refine blk_far ?_ NB186_204.out _; (with_reducible repeat (first | refine blk_drewN ?_ _ | refine blk_drew ?_ | refine blk_alloc ?_ _)); exact BK186.out⟩, ⟨by (with_reducible repeat (first | refine blk_drewN ?_ _ | refine blk_drew ?_ | refine blk_alloc ?_ _)); refine blk_put (cs := #[.string t198, .string t199, .string t200, .string (⟨#[]⟩ : ByteArray)]) ?_ 3 _ rfl; (with_reducible repeat (first | refine blk_drewN ?_ _ | refine blk_drew ?_ | refine blk_alloc ?_ _)); refine blk_put (cs := #[.string t198, .string t199, .string (⟨#[]⟩ : ByteArray), .string (⟨#[]⟩ : ByteArray)]) ?_ 2 _ rfl; (with_reducible repeat (first | refine blk_drewN ?_ _ | refine blk_drew ?_ | refine blk_alloc ?_ _)); refine blk_put (cs := #[.string t198, .string (⟨#[]⟩ : ByteArray), .string (⟨#[]⟩ : ByteArray), .string (⟨#[]⟩ : ByteArray)]) ?_ 1 _ rfl; (with_reducible repeat (first | refine blk_drewN ?_ _ | refine blk_drew ?_ | refine blk_alloc ?_ _)); refine blk_put (cs := #[.string (⟨#[]⟩ : ByteArray), .string (⟨#[]⟩ : ByteArray), .string (⟨#[]⟩ : ByteArray), .string (⟨#[]⟩ : ByteArray)]) ?_ 0 _ rfl; (with_reducible repeat (first | refine blk_drewN ?_ _ | refine blk_drew ?_ | refine blk_alloc ?_ _)); exact BK204.out⟩, ⟨by repeat (first | (with_reducible first | exact HB.out | apply below_alloc | apply pw_below_drewN | apply below_drew1 | refine below_set ?_ GE186.out | refine below_set ?_ GE204.out) | exact HB.out)⟩⟩
                      · rw [if_neg c49] at H
                        have c49b0 : (t197 == 0) = false := beq_eq_false_iff_ne.mpr c49
                        have c49b1 : (t197 != 0) = true := bne_iff_ne.mpr c49
                        (first | rw [c49b0] | (simp only [i64_w, i32_w]; rw [c49b0]) | skip)
                        have H' := Aside0.mk H
                        clear H
                        go_wp2
                        go_meet
                        case rel => exact ⟨_, (true), (by first | rfl | (simp; done) | (simp [*]; done)), H', ⟨by have := HJ9.out; have := HJ23.out; have := HJ28.out; have := HJ31.out; first | omega | exact Nat.le_refl _⟩, ⟨by (with_reducible repeat (first | refine blk_drewN ?_ _ | refine blk_drew ?_ | refine blk_alloc ?_ _)); refine blk_far ?_ NB186_204.out _; (with_reducible repeat (first | refine blk_drewN ?_ _ | refine blk_drew ?_ | refine blk_alloc ?_ _)); refine blk_far ?_ NB186_204.out _; (with_reducible repeat (first | refine blk_drewN ?_ _ | refine blk_drew ?_ | refine blk_alloc ?_ _)); refine blk_far ?_ NB186_204.out _; (with_reducible repeat (first | refine blk_drewN ?_ _ | refine blk_drew ?_ | refine blk_alloc ?_ _)); refine blk_far ?_ NB186_204.out _; (with_reducible repeat (first | refine blk_drewN ?_ _ | refine blk_drew ?_ | refine blk_alloc ?_ _)); exact BK186.out⟩, ⟨by (with_reducible repeat (first | refine blk_drewN ?_ _ | refine blk_drew ?_ | refine blk_alloc ?_ _)); refine blk_put (cs := #[.string t198, .string t199, .string t200, .string (⟨#[]⟩ : ByteArray)]) ?_ 3 _ rfl; (with_reducible repeat (first | refine blk_drewN ?_ _ | refine blk_drew ?_ | refine blk_alloc ?_ _)); refine blk_put (cs := #[.string t198, .string t199, .string (⟨#[]⟩ : ByteArray), .string (⟨#[]⟩ : ByteArray)]) ?_ 2 _ rfl; (with_reducible repeat (first | refine blk_drewN ?_ _ | refine blk_drew ?_ | refine blk_alloc ?_ _)); refine blk_put (cs := #[.string t198, .string (⟨#[]⟩ : ByteArray), .string (⟨#[]⟩ : ByteArray), .string (⟨#[]⟩ : ByteArray)]) ?_ 1 _ rfl; (with_reducible repeat (first | refine blk_drewN ?_ _ | refine blk_drew ?_ | refine blk_alloc ?_ _)); refine blk_put (cs := #[.string (⟨#[]⟩ : ByteArray), .string (⟨#[]⟩ : ByteArray), .string (⟨#[]⟩ : ByteArray), .string (⟨#[]⟩ : ByteArray)]) ?_ 0 _ rfl; (with_reducible repeat (first | refine blk_drewN ?_ _ | refine blk_drew ?_ | refine blk_alloc ?_ _)); exact BK204.out⟩, ⟨by repeat (first | (with_reducible first | exact HB.out | apply below_alloc | apply pw_below_drewN | apply below_drew1 | refine below_set ?_ GE186.out | refine below_set ?_ GE204.out) | exact HB.out)⟩⟩
                    · replace c48 := Bool.eq_false_iff.mpr c48
                      subst c48
                      have H1 : (turnstilelaw5_CardBack.j4 kj31 l0 (wrap64 ((wrap64 (x16_31 - (x187001_9.size : Int))) - (x187002_23.size : Int))) true t185 x187001_9 x187002_23 t195) = some r := by rw [if_neg (show ¬ (false = true) by decide)] at H; exact H
                      clear H
                      have H := H1
                      clear H1
                      have H' := Aside0.mk H
                      clear H
                      go_wp2
                      go_meet
                      case rel => exact ⟨_, (true), (by first | rfl | (simp; done) | (simp [*]; done)), H', ⟨by have := HJ9.out; have := HJ23.out; have := HJ28.out; have := HJ31.out; first | omega | exact Nat.le_refl _⟩, ⟨by (with_reducible repeat (first | refine blk_drewN ?_ _ | refine blk_drew ?_ | refine blk_alloc ?_ _)); refine blk_far ?_ NB186_204.out _; (with_reducible repeat (first | refine blk_drewN ?_ _ | refine blk_drew ?_ | refine blk_alloc ?_ _)); refine blk_far ?_ NB186_204.out _; (with_reducible repeat (first | refine blk_drewN ?_ _ | refine blk_drew ?_ | refine blk_alloc ?_ _)); refine blk_far ?_ NB186_204.out _; (with_reducible repeat (first | refine blk_drewN ?_ _ | refine blk_drew ?_ | refine blk_alloc ?_ _)); refine blk_far ?_ NB186_204.out _; (with_reducible repeat (first | refine blk_drewN ?_ _ | refine blk_drew ?_ | refine blk_alloc ?_ _)); exact BK186.out⟩, ⟨by (with_reducible repeat (first | refine blk_drewN ?_ _ | refine blk_drew ?_ | refine blk_alloc ?_ _)); refine blk_put (cs := #[.string t198, .string t199, .string t200, .string (⟨#[]⟩ : ByteArray)]) ?_ 3 _ rfl; (with_reducible repeat (first | refine blk_drewN ?_ _ | refine blk_drew ?_ | refine blk_alloc ?_ _)); refine blk_put (cs := #[.string t198, .string t199, .string (⟨#[]⟩ : ByteArray), .string (⟨#[]⟩ : ByteArray)]) ?_ 2 _ rfl; (with_reducible repeat (first | refine blk_drewN ?_ _ | refine blk_drew ?_ | refine blk_alloc ?_ _)); refine blk_put (cs := #[.string t198, .string (⟨#[]⟩ : ByteArray), .string (⟨#[]⟩ : ByteArray), .string (⟨#[]⟩ : ByteArray)]) ?_ 1 _ rfl; (with_reducible repeat (first | refine blk_drewN ?_ _ | refine blk_drew ?_ | refine blk_alloc ?_ _)); refine blk_put (cs := #[.string (⟨#[]⟩ : ByteArray), .string (⟨#[]⟩ : ByteArray), .string (⟨#[]⟩ : ByteArray), .string (⟨#[]⟩ : ByteArray)]) ?_ 0 _ rfl; (with_reducible repeat (first | refine blk_drewN ?_ _ | refine blk_drew ?_ | refine blk_alloc ?_ _)); exact BK204.out⟩, ⟨by repeat (first | (with_reducible first | exact HB.out | apply below_alloc | apply pw_below_drewN | apply below_drew1 | refine below_set ?_ GE186.out | refine below_set ?_ GE204.out) | exact HB.out)⟩⟩
                  case rest =>
                    clear HC39
                    try clear c1
                    try clear c2
                    try clear p2
                    try clear c3
                    try clear c4
                    try clear c5
                    try clear p6
                    try clear c12
                    try clear c13
                    try clear c15
                    try clear c15b0
                    try clear c15b1
                    try clear c17
                    try clear c18
                    try clear c25
                    try clear c25b0
                    try clear c25b1
                    try clear c31
                    try clear c31b0
                    try clear c31b1
                    try clear c31b2
                    try clear c34
                    try clear c34b0
                    try clear c34b1
                    try clear c34b2
                    try clear c46
                    try clear c48
                    try clear c49
                    try clear c49b0
                    try clear c49b1
                    try clear c50
                    try clear c50b0
                    try clear c50b1
                    try clear c51
                    try clear c51b0
                    try clear c51b1
                    try clear c52
                    try clear c52b0
                    try clear c53
                    try clear c56
                    try clear hcz14_0
                    try clear hcz14_1
                    try clear hcz14_2
                    try clear hcz14_3
                    try clear hcz23_0
                    try clear hcz23_1
                    try clear hcz23_2
                    try clear hcz23_3
                    try clear hcz28_0
                    try clear hcz28_1
                    try clear hcz28_2
                    try clear hcz28_3
                    try clear hcz30_0
                    try clear hcz30_1
                    try clear hcz30_2
                    try clear hcz30_3
                    try clear hcz33_0
                    try clear hcz33_1
                    try clear hcz33_2
                    try clear hcz33_3
                    try clear hcz40_0
                    try clear hcz40_1
                    try clear hcz40_2
                    try clear hcz40_3
                    try clear hcz42_0
                    try clear hcz42_1
                    try clear hcz42_2
                    try clear hcz42_3
                    try clear hcz47_0
                    try clear hcz47_1
                    try clear hcz47_2
                    try clear hcz47_3
                    try clear hcz54_0
                    try clear hcz54_1
                    try clear hcz54_2
                    try clear hcz54_3
                    try clear hcz55_0
                    try clear hcz55_1
                    try clear hcz55_2
                    try clear hcz55_3
                    try clear hcz57_0
                    try clear hcz57_1
                    try clear hcz57_2
                    try clear hcz57_3
                    try clear hcz58_0
                    try clear hcz58_1
                    try clear hcz58_2
                    try clear hcz58_3
                    try clear hfz14_0
                    try clear hfz14_1
                    try clear hfz14_2
                    try clear hfz14_3
                    try clear hfz23_0
                    try clear hfz23_1
                    try clear hfz23_2
                    try clear hfz23_3
                    try clear hfz28_0
                    try clear hfz28_1
                    try clear hfz28_2
                    try clear hfz28_3
                    try clear hfz30_0
                    try clear hfz30_1
                    try clear hfz30_2
                    try clear hfz30_3
                    try clear hfz33_0
                    try clear hfz33_1
                    try clear hfz33_2
                    try clear hfz33_3
                    try clear hfz40_0
                    try clear hfz40_1
                    try clear hfz40_2
                    try clear hfz40_3
                    try clear hfz42_0
                    try clear hfz42_1
                    try clear hfz42_2
                    try clear hfz42_3
                    try clear hfz47_0
                    try clear hfz47_1
                    try clear hfz47_2
                    try clear hfz47_3
                    try clear hfz54_0
                    try clear hfz54_1
                    try clear hfz54_2
                    try clear hfz54_3
                    try clear hfz55_0
                    try clear hfz55_1
                    try clear hfz55_2
                    try clear hfz55_3
                    try clear hfz57_0
                    try clear hfz57_1
                    try clear hfz57_2
                    try clear hfz57_3
                    try clear hfz58_0
                    try clear hfz58_1
                    try clear hfz58_2
                    try clear hfz58_3
                    try clear p2
                    try clear p6
                    obtain ⟨kq, x119_38, rfl, HA, HJ38, BK186, BK204, HB⟩ := hcut
                    cases kq with
                    | zero => exact absurd HA.out (by simp [turnstilelaw5_CardBack.j4])
                    | succ kj38 =>
                      have H := HA.out
                      clear HA
                      simp only [turnstilelaw5_CardBack.j4] at H
                      by_cases c59 : x119_38 = true
                      · subst c59
                        have H1 : (some false) = some r := by rw [if_pos rfl] at H; exact H
                        clear H
                        have H := H1
                        clear H1
                        obtain rfl := Option.some.inj H
                        go_wp2
                        go_ret
                        exact ⟨by first | rfl | (simp [errW_none, errW_some] <;> rfl) | (simp [*, errW_none, errW_some] <;> rfl), by repeat (first | (with_reducible first | exact HB.out | apply below_alloc | apply pw_below_drewN | apply below_drew1 | refine below_set ?_ GE186.out | refine below_set ?_ GE204.out) | exact HB.out)⟩
                      · replace c59 := Bool.eq_false_iff.mpr c59
                        subst c59
                        have H1 : ((turnstilelaw5_digits.f kj38 l0 (wrap64 ((wrap64 ((wrap64 (x16_31 - (x187001_9.size : Int))) - (x187002_23.size : Int))) + 1))).bind fun t205 => ((card_WriteTrack.f t185 x187001_9 x187002_23 t205).bind fun bt206 => (if bt206.1.toList = ([] : List UInt8) then (some (bt206.2 == 52)) else (some false)))) = some r := by rw [if_neg (show ¬ (false = true) by decide)] at H; exact H
                        clear H
                        have H := H1
                        clear H1
                        replace H := Option.bind_eq_some_iff.mp H
                        obtain ⟨t205, A600, H⟩ := H
                        replace H : ((card_WriteTrack.f t185 x187001_9 x187002_23 t205).bind fun bt206 => (if bt206.1.toList = ([] : List UInt8) then (some (bt206.2 == 52)) else (some false))) = some r := H
                        have A60 := Aside0.mk A600
                        clear A600
                        replace H := Option.bind_eq_some_iff.mp H
                        obtain ⟨⟨t206, t207⟩, A610, H⟩ := H
                        replace H : (if t206.toList = ([] : List UInt8) then (some (t207 == 52)) else (some false)) = some r := H
                        have A61 := Aside0.mk A610
                        clear A610
                        by_cases c62 : t206.toList = ([] : List UInt8)
                        · rw [if_pos c62] at H
                          have c62b0 : t206.toList.isEmpty = true := by rw [c62]; rfl
                          have c62b1 : (t206.toList == ([] : List UInt8)) = true := beq_iff_eq.mpr c62
                          have c62b2 : (t206.toList != ([] : List UInt8)) = false := bne_eq_false_iff_eq.mpr c62
                          clear c62
                          obtain rfl := Option.some.inj H
                          go_wp2_with (first | ((with_reducible refine gate_callee (f := 17) rfl ?_); refine goesL_ (some 123) rfl rfl Try.func17 (by kernel_rfl) rfl #[.slice A0 l0.length c0, .int .i64 (wrap64 ((wrap64 ((wrap64 (x16_31 - (x187001_9.size : Int))) - (x187002_23.size : Int))) + 1))] rfl (by (try simp only [List.map_toArray, List.map_cons, List.map_nil]); first | done | rfl | (simp only [List.length_drop, List.length_take]; rfl)) ?_; (with_reducible refine (turnstilelaw5_digits.calls kj38 _ _ l0 (wrap64 ((wrap64 ((wrap64 (x16_31 - (x187001_9.size : Int))) - (x187002_23.size : Int))) + 1)) t205 _ ?side1 ?side2 A60.out).mono ?_); (case side1 => repeat (first | exact (Kd.C_below HR0.out HB.out) | (with_reducible refine Kd.C_alloc ?_ _) | (with_reducible refine Kd.C_drewN ?_ _) | (with_reducible refine Kd.C_drew ?_))); (case side2 => exact HC0.out); rintro e w63 ⟨rfl, hb⟩; refine ⟨_, rfl, ?_⟩; have n0_ := Aside0.mk (blk_below (g := gb186) (o := .cells #[.string t185, .string x187001_9, .string x187002_23, .string t195] 24 (0, 0)) (by (with_reducible repeat (first | refine blk_drewN ?_ _ | refine blk_drew ?_ | refine blk_alloc ?_ _)); exact BK186.out) hb); have n1_ := Aside0.mk (blk_below (g := gb204) (o := .cells #[.string t198, .string t199, .string t200, .string t201] 24 (0, 0)) (by (with_reducible repeat (first | refine blk_drewN ?_ _ | refine blk_drew ?_ | refine blk_alloc ?_ _)); exact BK204.out) hb); have n2_ := Aside0.mk (below_step (by repeat (first | (with_reducible first | exact HB.out | apply below_alloc | apply pw_below_drewN | apply below_drew1 | refine below_set ?_ GE186.out | refine below_set ?_ GE204.out) | exact HB.out)) hb); clear BK186; clear BK204; clear HB; have BK186 := n0_; have BK204 := n1_; have HB := n2_; clear n0_ n1_ n2_; (try clear hb); (try clear hb2); (try clear hk); (try clear hi); have hnb64 := NB186_204.out; have hnc64 := NB204_186.out; have hcz65_0 : w63.cell? ⟨gb186, 0, none⟩ = some (.string t185) := (blk_cell BK186.out 0).trans rfl; have hcz65_1 : w63.cell? ⟨gb186, 1, none⟩ = some (.string x187001_9) := (blk_cell BK186.out 1).trans rfl; have hcz65_2 : w63.cell? ⟨gb186, 2, none⟩ = some (.string x187002_23) := (blk_cell BK186.out 2).trans rfl; have hcz65_3 : w63.cell? ⟨gb186, 3, none⟩ = some (.string t195) := (blk_cell BK186.out 3).trans rfl; have hfz65_0 := blk_frozen BK186.out 0; have hfz65_1 := blk_frozen BK186.out 1; have hfz65_2 := blk_frozen BK186.out 2; have hfz65_3 := blk_frozen BK186.out 3) | ((with_reducible refine gate_callee (f := 15) rfl ?_); refine goesL_ (some 127) rfl rfl Try.func15 (by kernel_rfl) rfl #[.agg #[.string t185, .string x187001_9, .string x187002_23, .string t205]] rfl (by (try simp only [List.map_toArray, List.map_cons, List.map_nil]); first | done | rfl | (simp only [List.length_drop, List.length_take]; rfl)) ?_; (with_reducible refine (card_WriteTrack.calls t185 x187001_9 x187002_23 t205 t206 t207 _ A61.out).mono ?_); rintro e w66 ⟨rfl, hb⟩; refine ⟨_, rfl, ?_⟩; have n0_ := Aside0.mk (blk_below (g := gb186) (o := .cells #[.string t185, .string x187001_9, .string x187002_23, .string t205] 24 (0, 0)) (by (with_reducible repeat (first | refine blk_drewN ?_ _ | refine blk_drew ?_ | refine blk_alloc ?_ _)); refine blk_put (cs := #[.string t185, .string x187001_9, .string x187002_23, .string t195]) ?_ 3 _ rfl; (with_reducible repeat (first | refine blk_drewN ?_ _ | refine blk_drew ?_ | refine blk_alloc ?_ _)); exact BK186.out) hb); have n1_ := Aside0.mk (blk_below (g := gb204) (o := .cells #[.string t198, .string t199, .string t200, .string t201] 24 (0, 0)) (by (with_reducible repeat (first | refine blk_drewN ?_ _ | refine blk_drew ?_ | refine blk_alloc ?_ _)); refine blk_far ?_ NB204_186.out _; (with_reducible repeat (first | refine blk_drewN ?_ _ | refine blk_drew ?_ | refine blk_alloc ?_ _)); exact BK204.out) hb); have n2_ := Aside0.mk (below_step (by repeat (first | (with_reducible first | exact HB.out | apply below_alloc | apply pw_below_drewN | apply below_drew1 | refine below_set ?_ GE186.out | refine below_set ?_ GE204.out) | exact HB.out)) hb); clear BK186; clear BK204; clear HB; have BK186 := n0_; have BK204 := n1_; have HB := n2_; clear n0_ n1_ n2_; (try clear hb); (try clear hb2); (try clear hk); (try clear hi)))
                          go_ret
                          exact ⟨by first | rfl | (simp [errW_none, errW_some] <;> rfl) | (simp [*, errW_none, errW_some] <;> rfl), by repeat (first | (with_reducible first | exact HB.out | apply below_alloc | apply pw_below_drewN | apply below_drew1 | refine below_set ?_ GE186.out | refine below_set ?_ GE204.out) | exact HB.out)⟩
                        · rw [if_neg c62] at H
                          have c62b0 : t206.toList.isEmpty = false := by simpa using c62
                          have c62b1 : (t206.toList == ([] : List UInt8)) = false := beq_eq_false_iff_ne.mpr c62
                          have c62b2 : (t206.toList != ([] : List UInt8)) = true := bne_iff_ne.mpr c62
                          obtain rfl := Option.some.inj H
                          go_wp2_with (first | ((with_reducible refine gate_callee (f := 17) rfl ?_); refine goesL_ (some 123) rfl rfl Try.func17 (by kernel_rfl) rfl #[.slice A0 l0.length c0, .int .i64 (wrap64 ((wrap64 ((wrap64 (x16_31 - (x187001_9.size : Int))) - (x187002_23.size : Int))) + 1))] rfl (by (try simp only [List.map_toArray, List.map_cons, List.map_nil]); first | done | rfl | (simp only [List.length_drop, List.length_take]; rfl)) ?_; (with_reducible refine (turnstilelaw5_digits.calls kj38 _ _ l0 (wrap64 ((wrap64 ((wrap64 (x16_31 - (x187001_9.size : Int))) - (x187002_23.size : Int))) + 1)) t205 _ ?side1 ?side2 A60.out).mono ?_); (case side1 => repeat (first | exact (Kd.C_below HR0.out HB.out) | (with_reducible refine Kd.C_alloc ?_ _) | (with_reducible refine Kd.C_drewN ?_ _) | (with_reducible refine Kd.C_drew ?_))); (case side2 => exact HC0.out); rintro e w67 ⟨rfl, hb⟩; refine ⟨_, rfl, ?_⟩; have n0_ := Aside0.mk (blk_below (g := gb186) (o := .cells #[.string t185, .string x187001_9, .string x187002_23, .string t195] 24 (0, 0)) (by (with_reducible repeat (first | refine blk_drewN ?_ _ | refine blk_drew ?_ | refine blk_alloc ?_ _)); exact BK186.out) hb); have n1_ := Aside0.mk (blk_below (g := gb204) (o := .cells #[.string t198, .string t199, .string t200, .string t201] 24 (0, 0)) (by (with_reducible repeat (first | refine blk_drewN ?_ _ | refine blk_drew ?_ | refine blk_alloc ?_ _)); exact BK204.out) hb); have n2_ := Aside0.mk (below_step (by repeat (first | (with_reducible first | exact HB.out | apply below_alloc | apply pw_below_drewN | apply below_drew1 | refine below_set ?_ GE186.out | refine below_set ?_ GE204.out) | exact HB.out)) hb); clear BK186; clear BK204; clear HB; have BK186 := n0_; have BK204 := n1_; have HB := n2_; clear n0_ n1_ n2_; (try clear hb); (try clear hb2); (try clear hk); (try clear hi); have hnb68 := NB186_204.out; have hnc68 := NB204_186.out; have hcz69_0 : w67.cell? ⟨gb186, 0, none⟩ = some (.string t185) := (blk_cell BK186.out 0).trans rfl; have hcz69_1 : w67.cell? ⟨gb186, 1, none⟩ = some (.string x187001_9) := (blk_cell BK186.out 1).trans rfl; have hcz69_2 : w67.cell? ⟨gb186, 2, none⟩ = some (.string x187002_23) := (blk_cell BK186.out 2).trans rfl; have hcz69_3 : w67.cell? ⟨gb186, 3, none⟩ = some (.string t195) := (blk_cell BK186.out 3).trans rfl; have hfz69_0 := blk_frozen BK186.out 0; have hfz69_1 := blk_frozen BK186.out 1; have hfz69_2 := blk_frozen BK186.out 2; have hfz69_3 := blk_frozen BK186.out 3) | ((with_reducible refine gate_callee (f := 15) rfl ?_); refine goesL_ (some 127) rfl rfl Try.func15 (by kernel_rfl) rfl #[.agg #[.string t185, .string x187001_9, .string x187002_23, .string t205]] rfl (by (try simp only [List.map_toArray, List.map_cons, List.map_nil]); first | done | rfl | (simp only [List.length_drop, List.length_take]; rfl)) ?_; (with_reducible refine (card_WriteTrack.calls t185 x187001_9 x187002_23 t205 t206 t207 _ A61.out).mono ?_); rintro e w70 ⟨rfl, hb⟩; refine ⟨_, rfl, ?_⟩; have n0_ := Aside0.mk (blk_below (g := gb186) (o := .cells #[.string t185, .string x187001_9, .string x187002_23, .string t205] 24 (0, 0)) (by (with_reducible repeat (first | refine blk_drewN ?_ _ | refine blk_drew ?_ | refine blk_alloc ?_ _)); refine blk_put (cs := #[.string t185, .string x187001_9, .string x187002_23, .string t195]) ?_ 3 _ rfl; (with_reducible repeat (first | refine blk_drewN ?_ _ | refine blk_drew ?_ | refine blk_alloc ?_ _)); exact BK186.out) hb); have n1_ := Aside0.mk (blk_below (g := gb204) (o := .cells #[.string t198, .string t199, .string t200, .string t201] 24 (0, 0)) (by (with_reducible repeat (first | refine blk_drewN ?_ _ | refine blk_drew ?_ | refine blk_alloc ?_ _)); refine blk_far ?_ NB204_186.out _; (with_reducible repeat (first | refine blk_drewN ?_ _ | refine blk_drew ?_ | refine blk_alloc ?_ _)); exact BK204.out) hb); have n2_ := Aside0.mk (below_step (by repeat (first | (with_reducible first | exact HB.out | apply below_alloc | apply pw_below_drewN | apply below_drew1 | refine below_set ?_ GE186.out | refine below_set ?_ GE204.out) | exact HB.out)) hb); clear BK186; clear BK204; clear HB; have BK186 := n0_; have BK204 := n1_; have HB := n2_; clear n0_ n1_ n2_; (try clear hb); (try clear hb2); (try clear hk); (try clear hi)))
                          go_ret
                          exact ⟨by first | rfl | (simp [errW_none, errW_some] <;> rfl) | (simp [*, errW_none, errW_some] <;> rfl), by repeat (first | (with_reducible first | exact HB.out | apply below_alloc | apply pw_below_drewN | apply below_drew1 | refine below_set ?_ GE186.out | refine below_set ?_ GE204.out) | exact HB.out)⟩

/-- THE ONE PURE STATEMENT of turnstilelaw5_CardBack: yours. -/
def turnstilelaw5_CardBack.Pure : Prop := ∀ (l0 : List Int) (a1 : Int) (a2 : Int) (a3 : Int) (a4 : Int) (a5 : Int), l0.length ≤ maxLen → l0.length * 8 ≤ 140737488351232 → (∀ x ∈ l0, (Lit.int .i64 x).wf = true) → (Lit.int .i64 a1).wf = true → (Lit.int .i64 a2).wf = true → (Lit.int .i64 a3).wf = true → (Lit.int .i64 a4).wf = true → (Lit.int .i64 a5).wf = true → ∃ k, turnstilelaw5_CardBack.f k l0 a1 a2 a3 a4 a5 = some true
theorem turnstilelaw5_CardBack.walk (P : turnstilelaw5_CardBack.Pure) (a0 : Option Addr) (len0 cap0 : Nat) (z0 : List Int) (a1 : Int) (a2 : Int) (a3 : Int) (a4 : Int) (a5 : Int) (w : World) (w0 : (a0 = none ∧ len0 = 0 ∧ cap0 = 0 ∧ z0 = []) ∨ ∃ x, a0 = some x ∧ len0 ≤ cap0 ∧ cap0 ≤ maxLen ∧ z0.length = cap0 ∧ (∀ i, i < z0.length → w.cell? (x.add i) = some (.int .i64 (z0.getD i 0))) ∧ ∀ n ∈ z0, (Lit.int .i64 n).wf = true) (y0 : len0 * 8 ≤ 140737488351232) (w1 : (Lit.int .i64 a1).wf = true) (w2 : (Lit.int .i64 a2).wf = true) (w3 : (Lit.int .i64 a3).wf = true) (w4 : (Lit.int .i64 a4).wf = true) (w5 : (Lit.int .i64 a5).wf = true) :
    Calls Try.prog 5 #[.slice a0 len0 cap0, .int .i64 a1, .int .i64 a2, .int .i64 a3, .int .i64 a4, .int .i64 a5] w fun e w' => e = .returned (.bool true) ∧ Below w.heap.size w w' := by
  obtain ⟨l0, rfl, hr0, hm0, hw0, hc0⟩ := ReadsInt.ofRowC w0
  obtain ⟨k, h⟩ := P l0 a1 a2 a3 a4 a5 hm0 y0 hw0 w1 w2 w3 w4 w5
  refine (turnstilelaw5_CardBack.calls k _ _ l0 a1 a2 a3 a4 a5 true w (Kd.C_of_reads (d := (0 : Int)) (h1 := fun _ => rfl) hr0) hc0 h).mono ?_
  rintro e w' ⟨rfl, hd⟩
  exact ⟨rfl, hd⟩

end Go.Proofs.Ytammbclaejgkpaa.PC
