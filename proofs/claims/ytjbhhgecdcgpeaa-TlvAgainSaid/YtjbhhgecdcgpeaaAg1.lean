/- TlvAgain: the walk. -/
import Derived.Test.YtjbhhgecdcgpeaaTbM
import Derived.Test.YtjbhhgecdcgpeaaPlB
import Derived.Test.YtjbhhgecdcgpeaaPlC
namespace Go.Proofs.Ytjbhhgecdcgpeaa.Tb
open Go Go.RowKit Go.Shelf Go.Proofs.YtjbhhgecdcgpeaaW.PrintWords Go.Proofs.YtjbhhgecdcgpeaaW.PrintLast Go.Proofs.YtjbhhgecdcgpeaaW.PrintMore Go.Proofs.Ytjbhhgecdcgpeaa.TA
set_option linter.unusedSimpArgs false
set_option linter.unusedVariables false
/-- What a law needs of a reading. -/
theorem readR (b : ByteArray) : ∃ (l : List S43) (e a : Int) (s : ByteArray) (g : Int), parseP b = (l, e, a) ∧ 0 ≤ a ∧ a ≤ b.size ∧ (e ≠ 0 → l = []) ∧ (∃ k, buildP k l = some (s, g)) ∧ (e = 0 → a = 0 ∧ g = 0 ∧ s = b) := by
  obtain ⟨h1, h2, h3, h4⟩ := parse_law b
  rcases hp : parseP b with ⟨l, e, a⟩
  rw [hp] at h1 h2 h3 h4
  by_cases he : e = 0
  · obtain ⟨h5, h6⟩ := h4 he
    exact ⟨l, e, a, b, 0, rfl, h1, h2, h3, ⟨_, h6⟩, fun _ => ⟨h5, rfl, rfl⟩⟩
  · have hl : l = [] := h3 he
    subst hl
    exact ⟨[], e, a, ⟨#[]⟩, 0, rfl, h1, h2, h3, ⟨1, by kernel_rfl⟩, fun h => absurd h he⟩
theorem subR (b : ByteArray) : ∃ (l : List S43) (e a : Int) (s : ByteArray) (g : Int), parseSubP b = (l, e, a) ∧ 0 ≤ a ∧ a ≤ b.size ∧ (e ≠ 0 → l = []) ∧ buildSubP l = (s, g) ∧ (e = 0 → a = 0 ∧ g = 0 ∧ s = b) := by
  obtain ⟨h1, h2, h3, h4⟩ := parseSub_law b
  rcases hp : parseSubP b with ⟨l, e, a⟩
  rw [hp] at h1 h2 h3 h4
  by_cases he : e = 0
  · obtain ⟨h5, h6⟩ := h4 he
    exact ⟨l, e, a, b, 0, rfl, h1, h2, h3, h6, fun _ => ⟨h5, rfl, rfl⟩⟩
  · have hl : l = [] := h3 he
    subst hl
    exact ⟨[], e, a, ⟨#[]⟩, 0, rfl, h1, h2, h3, by kernel_rfl, fun h => absurd h he⟩
theorem parse_at {w : World} {b : ByteArray} {l : List S43} {e a : Int} (hs : b.size ≤ 140737488355328) (h : parseP b = (l, e, a)) :
    Calls Try.prog 14 #[.string b] w fun z w' => ∃ (A : Option Addr) (c : Nat), z = .returned (.tuple #[.slice A l.length c, .int .i64 e, .int .i64 a]) ∧ Kd.C k43 w' A l.length l ∧ l.length ≤ c ∧ Below w.heap.size w w' := by
  have hc := parse_calls w b hs
  rw [h] at hc
  refine hc.mono ?_
  rintro z w' ⟨v, rfl, hR, hB⟩
  obtain ⟨A, c, e⟩ := Kd.R_slice hR
  subst e
  obtain ⟨h1, h2, h3⟩ := Kd.R_reads' hR
  exact ⟨A, c, rfl, h3, h2, hB⟩
theorem parseSub_at {w : World} {b : ByteArray} {l : List S43} {e a : Int} (hs : b.size ≤ 140737488355328) (h : parseSubP b = (l, e, a)) :
    Calls Try.prog 15 #[.string b] w fun z w' => ∃ (A : Option Addr) (c : Nat), z = .returned (.tuple #[.slice A l.length c, .int .i64 e, .int .i64 a]) ∧ Kd.C k43 w' A l.length l ∧ l.length ≤ c ∧ Below w.heap.size w w' := by
  have hc := parseSub_calls w b hs
  rw [h] at hc
  refine hc.mono ?_
  rintro z w' ⟨v, rfl, hR, hB⟩
  obtain ⟨A, c, e⟩ := Kd.R_slice hR
  subst e
  obtain ⟨h1, h2, h3⟩ := Kd.R_reads' hR
  exact ⟨A, c, rfl, h3, h2, hB⟩
theorem build_at {w : World} {A : Option Addr} {n c k : Nat} {l : List S43} {s : ByteArray} {g : Int} (hn : n = l.length) (hC : Kd.C k43 w A l.length l) (hc : l.length ≤ c) (h : buildP k l = some (s, g)) :
    Calls Try.prog 16 #[.slice A n c] w fun z w' => z = .returned (.tuple #[.string s, .int .i64 g]) ∧ Below w.heap.size w w' := by
  subst hn
  exact build_calls k A c l s g w hC hc h
theorem buildSub_at {w : World} {A : Option Addr} {n c : Nat} {l : List S43} {s : ByteArray} {g : Int} (hn : n = l.length) (hC : Kd.C k43 w A l.length l) (hc : l.length ≤ c) (h : buildSubP l = (s, g)) :
    Calls Try.prog 17 #[.slice A n c] w fun z w' => z = .returned (.tuple #[.string s, .int .i64 g]) ∧ Below w.heap.size w w' := by
  subst hn
  refine (bs_calls A c l w hC hc _ rfl).mono ?_
  rintro z w' ⟨rfl, hB⟩
  exact ⟨by rw [show bsOut (bsP l 0 []) = (s, g) from h], hB⟩
set_option maxRecDepth 100000 in
set_option maxHeartbeats 2000000 in
theorem again_calls (w : World) (b : ByteArray) (hs : b.size ≤ 140737488355328) : Calls Try.prog 3 #[.string b] w fun e w' => e = .returned (.bool true) ∧ Below w.heap.size w w' := by
  obtain ⟨l, e, a, s, g, hp, ha0, ha1, hl, ⟨k, hb⟩, hok⟩ := readR b
  obtain ⟨m, f, a2, t, h2, hp2, hc0, hc1, hm, hb2, hok2⟩ := subR b
  have PA := fun w' => parse_at (w := w') hs hp
  have PB := fun w' => parseSub_at (w := w') hs hp2
  have HPA := Aside0.mk PA
  have HPB := Aside0.mk PB
  have HB1 := Aside0.mk hb
  have HB2 := Aside0.mk hb2
  have d1 : decide (a < 0) = false := decide_eq_false (by omega)
  have d2 : decide ((b.size : Int) < a) = false := decide_eq_false (by omega)
  have d3 : decide (a2 < 0) = false := decide_eq_false (by omega)
  have d4 : decide ((b.size : Int) < a2) = false := decide_eq_false (by omega)
  clear PA PB hp hp2 hb hb2
  go_enter Try.func3, Try.ntmps3
  go_upto_region 2 with (go_at_call 13; (with_reducible refine (known_calls _).mono ?_); rintro z w1 ⟨rfl, hB⟩; have HB := Aside0.mk hB; clear hB)
  go_upto_region 3 with (go_at_call 14; (with_reducible refine (HPA.out _).mono ?_); rintro z w2 ⟨A, c, rfl, hC, hc, hB⟩; have HC := Aside0.mk hC; have HB := Aside0.mk (below_step HB.out hB); clear hB hC)
  go_upto_region 4 with (go_at_call 15; (with_reducible refine (HPB.out _).mono ?_); rintro z w3 ⟨A2, c2, rfl, hC2, hc2, hB⟩; have HC2 := Aside0.mk hC2; have HC := Aside0.mk (Kd.C_below HC.out hB); have HB := Aside0.mk (below_step HB.out hB); clear hB hC2)
  by_cases he : e = 0
  · obtain ⟨q1, q2, q3⟩ := hok he
    subst he q1 q2 q3
    clear hok
    by_cases hf : f = 0
    · obtain ⟨q1, q2, q3⟩ := hok2 hf
      subst hf q1 q2 q3
      clear hok2
      go_upto_region 6 with (fail)
      go_upto_region 7 with (go_at_call 16; (with_reducible refine (build_at (by first | rfl | simp) HC.out hc HB1.out).mono ?_); rintro z w4 ⟨rfl, hB⟩; have HC2 := Aside0.mk (Kd.C_below HC2.out hB); have HB := Aside0.mk (below_step HB.out hB); clear hB)
      go_upto_region 8 with (go_at_call 17; (with_reducible refine (buildSub_at (by first | rfl | simp) HC2.out hc2 HB2.out).mono ?_); rintro z w5 ⟨rfl, hB⟩; have HB := Aside0.mk (below_step HB.out hB); clear hB)
      go_wp2_with (fail)
      go_ret
      exact ⟨rfl, HB.out⟩
    · have hm0 := hm hf
      subst hm0
      have n1 : (f == 0) = false := beq_eq_false_iff_ne.mpr hf
      have n2 : (f != 0) = true := bne_iff_ne.mpr hf
      clear hok2
      go_upto_region 6 with (fail)
      go_upto_region 7 with (go_at_call 16; (with_reducible refine (build_at (by first | rfl | simp) HC.out hc HB1.out).mono ?_); rintro z w4 ⟨rfl, hB⟩; have HC2 := Aside0.mk (Kd.C_below HC2.out hB); have HB := Aside0.mk (below_step HB.out hB); clear hB)
      go_upto_region 8 with (go_at_call 17; (with_reducible refine (buildSub_at (by first | rfl | simp) HC2.out hc2 HB2.out).mono ?_); rintro z w5 ⟨rfl, hB⟩; have HB := Aside0.mk (below_step HB.out hB); clear hB)
      go_wp2_with (fail)
      go_ret
      exact ⟨rfl, HB.out⟩
  · have hl0 := hl he
    subst hl0
    have n3 : (e == 0) = false := beq_eq_false_iff_ne.mpr he
    have n4 : (e != 0) = true := bne_iff_ne.mpr he
    clear hok
    by_cases hf : f = 0
    · obtain ⟨q1, q2, q3⟩ := hok2 hf
      subst hf q1 q2 q3
      clear hok2
      go_upto_region 6 with (fail)
      go_upto_region 7 with (go_at_call 16; (with_reducible refine (build_at (by first | rfl | simp) HC.out hc HB1.out).mono ?_); rintro z w4 ⟨rfl, hB⟩; have HC2 := Aside0.mk (Kd.C_below HC2.out hB); have HB := Aside0.mk (below_step HB.out hB); clear hB)
      go_upto_region 8 with (go_at_call 17; (with_reducible refine (buildSub_at (by first | rfl | simp) HC2.out hc2 HB2.out).mono ?_); rintro z w5 ⟨rfl, hB⟩; have HB := Aside0.mk (below_step HB.out hB); clear hB)
      go_wp2_with (fail)
      go_ret
      exact ⟨rfl, HB.out⟩
    · have hm0 := hm hf
      subst hm0
      have n1 : (f == 0) = false := beq_eq_false_iff_ne.mpr hf
      have n2 : (f != 0) = true := bne_iff_ne.mpr hf
      clear hok2
      go_upto_region 6 with (fail)
      go_upto_region 7 with (go_at_call 16; (with_reducible refine (build_at (by first | rfl | simp) HC.out hc HB1.out).mono ?_); rintro z w4 ⟨rfl, hB⟩; have HC2 := Aside0.mk (Kd.C_below HC2.out hB); have HB := Aside0.mk (below_step HB.out hB); clear hB)
      go_upto_region 8 with (go_at_call 17; (with_reducible refine (buildSub_at (by first | rfl | simp) HC2.out hc2 HB2.out).mono ?_); rintro z w5 ⟨rfl, hB⟩; have HB := Aside0.mk (below_step HB.out hB); clear hB)
      go_wp2_with (fail)
      go_ret
      exact ⟨rfl, HB.out⟩
end Go.Proofs.Ytjbhhgecdcgpeaa.Tb
