/- Build: its contract. -/
import Derived.Test.YtjbhhgecdcgpeaaTb8
namespace Go.Proofs.Ytjbhhgecdcgpeaa.Tb
open Go Go.RowKit Go.Proofs.YtjbhhgecdcgpeaaW.PrintWords Go.Proofs.YtjbhhgecdcgpeaaW.PrintLast Go.Proofs.YtjbhhgecdcgpeaaW.PrintMore Go.Proofs.Ytjbhhgecdcgpeaa.TA
set_option linter.unusedSimpArgs false
set_option linter.unusedVariables false
/-- What Build answers. -/
def buildP (k : Nat) (l : List S43) : Option (ByteArray × Int) := (looksP k l 0 1).bind fun o => match o with
  | .error c => some (⟨#[]⟩, c)
  | .ok _ => (writtenP k l []).map fun o => match o with
    | none => (⟨#[]⟩, 91)
    | some b => (strOfNums b, 0)
set_option maxRecDepth 100000 in
set_option maxHeartbeats 1000000 in
theorem build_calls (k : Nat) (A : Option Addr) (cc : Nat) (l : List S43) (s : ByteArray) (e : Int) (w : World) (hr0 : Kd.C k43 w A l.length l) (hc0 : l.length ≤ cc) (hP : buildP k l = some (s, e)) :
    Calls Try.prog 16 #[.slice A l.length cc] w fun z w' => z = .returned (.tuple #[.string s, .int .i64 e]) ∧ Below w.heap.size w w' := by
  obtain ⟨ol, hol, hP⟩ := Option.bind_eq_some_iff.mp hP
  have HP := Aside0.mk hP
  have HOL := Aside0.mk hol
  have HR0 := Aside0.mk hr0
  clear hP hol hr0
  go_enter_defers Try.func16, Try.ntmps16
  go_upto_region 3 with (fail)
  obtain ⟨w1, hw1⟩ : ∃ w1, w1 = (w.alloc (.cells #[.int .i64 0] 24)).alloc (.cells #[.int .i64 0] 3) := ⟨_, rfl⟩
  obtain ⟨c, hc⟩ : ∃ c, c = w.heap.size := ⟨_, rfl⟩
  obtain ⟨a, ha⟩ : ∃ a, a = w.heap.size + 1 := ⟨_, rfl⟩
  have hb1 : Below w.heap.size w w1 := by rw [hw1]; exact below_alloc (below_alloc (Below.refl _ _) _) _
  have hsz : w1.heap.size = w.heap.size + 2 := by rw [hw1]; simp
  have hc1 : w1.heap[c]? = some (.cells #[.int .i64 0] 24 (0, 0)) := by rw [hw1, hc]; exact blk_alloc (heap_alloc_new _ _) _
  have ha1 : w1.heap[a]? = some (.cells #[.int .i64 0] 3 (0, 0)) := by
    rw [hw1, ha]
    have := heap_alloc_new (w.alloc (.cells #[.int .i64 0] 24)) (.cells #[.int .i64 0] 3)
    rwa [show (w.alloc (.cells #[.int .i64 0] 24)).heap.size = w.heap.size + 1 by simp] at this
  rw [← hw1, ← ha, ← hc]
  have hca : c ≠ a := by omega
  have hgc : w.heap.size ≤ c := by omega
  have hga : w.heap.size ≤ a := by omega
  have HB1 := Aside0.mk hb1
  have hlc := looks_calls k A cc l w1 0 1 ol HOL.out (Kd.C_below HR0.out hb1) hc0 (by omega) (by omega) (by omega) (by omega)
  have hs1 := hb1.size
  clear hw1 hc ha hsz hb1
  rcases ol with code | m
  · obtain ⟨rfl, rfl⟩ : (⟨#[]⟩ : ByteArray) = s ∧ code = e := by have h := HP.out; simp only [Option.some.injEq, Prod.mk.injEq] at h; exact h
    go_wp2_with (go_at_call 44; (with_reducible refine hlc.mono ?_); rintro z w3 ⟨hB3, rfl⟩)
    have hc3 := blk_below hc1 hB3
    have ha3 := blk_below ha1 hB3
    refine leaves_cons (f := 41) (args := #[.pointer (some ⟨c, 0, none⟩), .pointer (some ⟨a, 0, none⟩)]) (by simp) (by simp [go_sem]) ?_
    refine (face_panicking c a 0 0 code 0 w3 hca hc3 ha3 []).mono ?_
    rintro e u' w4 ⟨rfl, rfl, hc4, ha4, hC4⟩
    have x0 : w4.cell? ⟨c, 0, none⟩ = some (.int .i64 code) := (blk_cell hc4 0).trans rfl
    have hB4 : Below w.heap.size w w4 := hC4.below (below_step HB1.out hB3) (fun i hi => by omega) (Nat.le_trans hs1 hB3.size)
    simp [Leaves, settle, results, Try.results16, go_sem, x0]
    exact hB4
  · obtain ⟨ow, how, hP⟩ := Option.map_eq_some_iff.mp HP.out
    have HP2 := Aside0.mk hP
    have HOW := Aside0.mk how
    clear how hP
    go_upto_region 4 with (go_at_call 44; (with_reducible refine hlc.mono ?_); rintro z w3 ⟨hB3, rfl⟩; have HB3 := Aside0.mk hB3; clear hB3)
    have hc3 := blk_below hc1 HB3.out
    have ha3 := blk_below ha1 HB3.out
    have HBw3 := Aside0.mk (below_step HB1.out HB3.out)
    have hwc := written_calls k A cc l w3 ow HOW.out (Kd.C_below HR0.out HBw3.out) hc0
    have hs3 := HBw3.out.size
    have hcl := blk_lt hc3
    have hal := blk_lt ha3
    clear hlc hc1 ha1 HB3
    rcases ow with _ | b
    · obtain ⟨rfl, rfl⟩ : (⟨#[]⟩ : ByteArray) = s ∧ 91 = e := by have h := HP2.out; simp only [Prod.mk.injEq] at h; exact h
      go_wp2_with (go_at_call 45; (with_reducible refine hwc.mono ?_); rintro z w4 ⟨hB4, rfl⟩)
      refine leaves_cons (f := 41) (args := #[.pointer (some ⟨c, 0, none⟩), .pointer (some ⟨a, 0, none⟩)]) (by simp) (by simp [go_sem]) ?_
      refine (face_panicking c a 0 0 91 0 w4 hca (blk_below hc3 hB4) (blk_below ha3 hB4) []).mono ?_
      rintro e u' w5 ⟨rfl, rfl, hc5, ha5, hC5⟩
      have x0 : w5.cell? ⟨c, 0, none⟩ = some (.int .i64 91) := (blk_cell hc5 0).trans rfl
      have hB5 : Below w.heap.size w w5 := hC5.below (below_step HBw3.out hB4) (fun i hi => by omega) (Nat.le_trans hs3 hB4.size)
      simp [Leaves, settle, results, Try.results16, go_sem, x0]
      exact hB5
    · obtain ⟨rfl, rfl⟩ : strOfNums b = s ∧ 0 = e := by have h := HP2.out; simp only [Prod.mk.injEq] at h; exact h
      go_wp2_with (go_at_call 45; (with_reducible refine hwc.mono ?_); rintro z w4 ⟨hB4, v, rfl, hR4⟩; have hcv := own_string (P := Try.prog) Try.underlying76 Try.underlying5 Try.underlying9 (Kd.own_of_R hR4); have hc4 := blk_below hc3 hB4; have x0 : w4.cell? ⟨c, 0, none⟩ = some (.int .i64 0) := (blk_cell hc4 0).trans rfl; have f0 := blk_frozen hc4 0; have HB4 := Aside0.mk hB4; clear hB4 hR4)
      obtain ⟨w5, hw5⟩ : ∃ w5, w5 = w4.setCell ⟨c, 0, none⟩ (.int .i64 0) := ⟨_, rfl⟩
      rw [← hw5]
      have hc5 : w5.heap[c]? = some (.cells #[.int .i64 0] 24 (0, 0)) := by rw [hw5]; exact blk_put hc4 0 _ rfl
      have hC5 : Chg (fun i => i = c) w4 w5 := by rw [hw5]; exact (Chg.refl _ _).set ⟨c, 0, none⟩ _ rfl
      have y0 : w5.cell? ⟨c, 0, none⟩ = some (.int .i64 0) := (blk_cell hc5 0).trans rfl
      have hB5 : Below w.heap.size w w5 := hC5.below (below_step HBw3.out HB4.out) (fun i hi => by omega) (Nat.le_trans hs3 HB4.out.size)
      clear hw5
      refine leaves_cons (f := 41) (args := #[.pointer (some ⟨c, 0, none⟩), .pointer (some ⟨a, 0, none⟩)]) (by simp) (by simp [go_sem]) ?_
      refine (face_idle (.pointer (some ⟨c, 0, none⟩)) (.pointer (some ⟨a, 0, none⟩)) w5).mono ?_
      rintro e u' w6 ⟨rfl, rfl, rfl⟩
      simp [Leaves, settle, results, Try.results16, go_sem, y0]
      exact hB5
end Go.Proofs.Ytjbhhgecdcgpeaa.Tb
