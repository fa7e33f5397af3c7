/- Nodes and those within as they stand: the contract of row. -/
import Derived.Test.YtjbhhgecdcgpeaaTbD
namespace Go.Proofs.Ytjbhhgecdcgpeaa.Tb
open Go Go.RowKit Go.Proofs.YtjbhhgecdcgpeaaW.PrintWords Go.Proofs.YtjbhhgecdcgpeaaW.PrintLast Go.Proofs.YtjbhhgecdcgpeaaW.PrintMore Go.Proofs.Ytjbhhgecdcgpeaa.TA
set_option linter.unusedSimpArgs false
set_option linter.unusedVariables false
theorem info111 : (Try.prog.info? 111).map (fun i => (i.zero, i.size, i.bytes)) = some (some (.agg #[.int .i64 0, .int .i64 0, .string ⟨#[]⟩, .slice none 0 0]), 4, 56) := by kernel_rfl
/-- Nodes and all within them, each with how deep it stands. -/
def rowsP : Nat → List S43 → Int → Option (List S51)
  | 0, _, _ => none
  | _ + 1, [], _ => some []
  | k + 1, x :: l, d => (rowsP k x.f2 (d + 1)).bind fun a => (rowsP k l d).map fun b => ⟨d, x⟩ :: (a ++ b)
theorem rowsP_cons {k : Nat} {x : S43} {l : List S43} {d : Int} {r : List S51} (h : rowsP (k + 1) (x :: l) d = some r) : ∃ a b, rowsP k x.f2 (d + 1) = some a ∧ rowsP k l d = some b ∧ r = ⟨d, x⟩ :: (a ++ b) := by
  unfold rowsP at h
  obtain ⟨a, ha, h⟩ := Option.bind_eq_some_iff.mp h
  obtain ⟨b, hb, h⟩ := Option.map_eq_some_iff.mp h
  exact ⟨a, b, ha, hb, h.symm⟩
def RwRel (wb : World) (l : List S43) (d : Int) (out r : List S51) (K kq : Nat) (v2 v11 : Value) (W : World) : Prop :=
  ∃ (acc r' : List S51) (i : Int), Kd.R (Kd.fixed k51 wb) 111 W wb.heap.size (fun _ => True) v2 acc ∧ v11 = .int .i64 i ∧ rowsP kq (l.drop i.toNat) d = some r' ∧ acc ++ r' = out ++ r ∧ Below wb.heap.size wb W ∧ 0 ≤ i ∧ i ≤ l.length ∧ kq ≤ K
set_option maxRecDepth 100000 in
set_option maxHeartbeats 1000000 in
theorem row_calls (k : Nat) : ∀ (wb w : World) (A : Option Addr) (c : Nat) (l : List S43) (d : Int) (v : Value) (out r : List S51) (hP : rowsP k l d = some r) (hr : Kd.C k43 wb A l.length l) (hc : l.length ≤ c) (hB : Below wb.heap.size wb w) (hO : Kd.R (Kd.fixed k51 wb) 111 w wb.heap.size (fun _ => True) v out) (hd0 : 0 ≤ d) (hd1 : d + k ≤ 1000000) (hn : out.length + r.length ≤ 1000000000),
    Calls Try.prog 60 #[.slice A l.length c, .int .i64 d, v] w fun e w' => ∃ v' : Value, e = .returned v' ∧ Kd.R (Kd.fixed k51 wb) 111 w' wb.heap.size (fun _ => True) v' (out ++ r) ∧ Below wb.heap.size wb w' := by
  induction k using Nat.strongRecOn with
  | _ k ih =>
  intro wb w A c l d v out r hP hr hc hB hO hd0 hd1 hn
  have HR := Aside0.mk hr
  have hlen : l.length ≤ 9223372036854775807 := hr.2.1
  have HL0 : RwRel wb l d out r k k v (.int .i64 0) w := ⟨out, r, 0, hO, rfl, hP, rfl, hB, Int.le_refl _, Int.natCast_nonneg _, Nat.le_refl _⟩
  clear hr hP hB hO
  go_enter Try.func60, Try.ntmps60
  go_wp2
  go_loopg [2, 11] k (fun kq v2 v11 W => RwRel wb l d out r k kq v2 v11 W)
  case atStart => exact HL0
  case round =>
    clear HL0
    obtain ⟨acc, r', i, hO, rfl, hP, hacc, hB, hi0, hi1, hkq⟩ := hrel
    have HB := Aside0.mk hB
    have HO := Aside0.mk hO
    have HA := Aside0.mk hacc
    have haccl : acc.length + r'.length = out.length + r.length := by have := congrArg List.length hacc; simpa using this
    clear hB hO hacc
    cases gk with
    | zero => exact absurd hP (by simp [rowsP])
    | succ k1 =>
    by_cases g1 : i < (l.length : Int)
    · have d1 : decide (i < (l.length : Int)) = true := decide_eq_true g1
      rw [drop_rd0 l i hi0 g1] at hP
      obtain ⟨ad, A2, c2, e, x0, x1, x2, hl2, hC2⟩ := at_T43 HR.out i hi0 g1
      cases e
      replace x0 := (HB.out.cell (World.block_lt_of_cell? wb _ x0)).trans x0
      replace x1 := (HB.out.cell (World.block_lt_of_cell? wb _ x1)).trans x1
      replace x2 := (HB.out.cell (World.block_lt_of_cell? wb _ x2)).trans x2
      generalize rd_T43 l i = x at hP x0 x1 x2 hl2 hC2
      obtain ⟨ra, rb, hra, hrb, hr'⟩ := rowsP_cons hP
      have HC2 := Aside0.mk hC2
      have HRA := Aside0.mk hra
      have HRB := Aside0.mk hrb
      have HR' := Aside0.mk hr'
      have hrl : r'.length = 1 + (ra.length + rb.length) := by rw [hr']; simp; omega
      have haccb : acc.length + 1 + ra.length + rb.length ≤ 1000000000 := by omega
      clear hC2 hP hra hrb hr' hrl haccl
      have p0 := eq_true hi0
      have q0 := eq_true g1
      go_upto_region 4 with (fail)
      obtain ⟨w1, hw1⟩ : ∃ w1, w1 = wr.alloc (.cells #[.int .i64 x.f0, .string x.f1, .slice A2 x.f2.length c2] 43) := ⟨_, rfl⟩
      obtain ⟨g, hg⟩ : ∃ g, g = wr.heap.size := ⟨_, rfl⟩
      rw [← hw1, ← hg]
      have hBx1 : w1.heap[g]? = some (.cells #[.int .i64 x.f0, .string x.f1, .slice A2 x.f2.length c2] 43 (0, 0)) := by rw [hw1, hg]; exact heap_alloc_new _ _
      have hB01 : Below wr.heap.size wr w1 := by rw [hw1]; exact below_alloc (Below.refl _ _) _
      have HBd := Aside0.mk (below_drew (below_step HB.out hB01))
      have HOd := Aside0.mk (Kd.R_drew (Kd.R_below HO.out hB01))
      have hBxd : w1.drew.heap[g]? = some (.cells #[.int .i64 x.f0, .string x.f1, .slice A2 x.f2.length c2] 43 (0, 0)) := hBx1
      have hsd : wb.heap.size ≤ w1.drew.heap.size := HBd.out.size
      have hne4 : some g ≠ u2.ownBlock := fun he => by have := Kd.R_lt HO.out g he.symm; omega
      have hM : (Kd.fixed k51 wb).M w1.drew wb.heap.size (fun _ => False) (⟨d, x⟩ : S51) [.int .i64 d, .int .i64 x.f0, .string x.f1, .slice A2 x.f2.length c2] := k51_mk wb ⟨d, x⟩ hl2 HC2.out
      clear hw1 hg x0 x1 x2 p0 q0 d1 HB HO hB01 hBx1
      have z0 : w1.drew.cell? ⟨g, 0, none⟩ = some (.int .i64 x.f0) := (blk_cell hBxd 0).trans rfl
      have z1 : w1.drew.cell? ⟨g, 1, none⟩ = some (.string x.f1) := (blk_cell hBxd 1).trans rfl
      have z2 : w1.drew.cell? ⟨g, 2, none⟩ = some (.slice A2 x.f2.length c2) := (blk_cell hBxd 2).trans rfl
      have ew : wrap64 (d + 1) = d + 1 := by unfold wrap64; omega
      have hic : ∀ v4 w4, Kd.R (Kd.fixed k51 wb) 111 w4 wb.heap.size (fun _ => True) v4 (acc ++ [⟨d, x⟩]) → Below wb.heap.size wb w4 → Calls Try.prog 60 #[.slice A2 x.f2.length c2, .int .i64 (wrap64 (d + 1)), v4] w4 fun e w' => ∃ v' : Value, e = .returned v' ∧ Kd.R (Kd.fixed k51 wb) 111 w' wb.heap.size (fun _ => True) v' ((acc ++ [⟨d, x⟩]) ++ ra) ∧ Below wb.heap.size wb w' := fun v4 w4 hR4 hB4 => by
        rw [ew]
        exact ih k1 (by omega) wb w4 A2 c2 x.f2 (d + 1) v4 (acc ++ [⟨d, x⟩]) ra HRA.out HC2.out hl2 hB4 hR4 (by omega) (by omega) (by simp; omega)
      clear ew
      refine start_ (n := 12) (S := fun w' => w'.cell? ⟨g, 0, none⟩ = some (.int .i64 x.f0) ∧ w'.cell? ⟨g, 1, none⟩ = some (.string x.f1) ∧ w'.cell? ⟨g, 2, none⟩ = some (.slice A2 x.f2.length c2)) (ds := [10]) #[false, false, false, false, false, false, false, false, false, false, false, false] (by kernel_rfl) rfl rfl ⟨z0, z1, z2⟩ (fun hHeld => ?_)
      refine pure_ (i := 0) (N := some 15) (v := ?_) (a' := ?_) #[true, false, false, false, false, false, false, false, false, false, false, false] rfl rfl (by kernel_rfl) (fun _ _ _ h => h) (Or.inl ⟨by rfl, ?_⟩) ?_ ?_
      rotate_left
      · intro w'
        go_simp
        with_reducible rfl
      rotate_left
      · simp only [Act.put, List.setIfInBounds_toArray, List.set_cons_zero, List.set_cons_succ, i64_w, i32_w]
        rfl
      refine pure_ (i := 2) (N := some 17) (v := ?_) (a' := ?_) #[true, false, true, false, false, false, false, false, false, false, false, false] rfl rfl (by kernel_rfl) (fun _ _ _ h => h) (Or.inl ⟨by rfl, ?_⟩) ?_ ?_
      rotate_left
      · intro w'
        go_simp
        with_reducible rfl
      rotate_left
      · simp only [Act.put, List.setIfInBounds_toArray, List.set_cons_zero, List.set_cons_succ, i64_w, i32_w]
        rfl
      refine pure_ (i := 3) (N := some 18) (v := ?_) (a' := ?_) #[true, false, true, true, false, false, false, false, false, false, false, false] rfl rfl (by kernel_rfl) (fun _ _ _ h => h) (Or.inl ⟨by rfl, ?_⟩) ?_ ?_
      rotate_left
      · intro w'
        go_simp
        with_reducible rfl
      rotate_left
      · simp only [Act.put, List.setIfInBounds_toArray, List.set_cons_zero, List.set_cons_succ, i64_w, i32_w]
        rfl
      refine pure_ (i := 4) (N := some 19) (v := ?_) (a' := ?_) #[true, false, true, true, true, false, false, false, false, false, false, false] rfl rfl (by kernel_rfl) (fun _ _ _ h => h) (Or.inl ⟨by rfl, ?_⟩) ?_ ?_
      rotate_left
      · intro w'
        go_simp
        with_reducible rfl
      rotate_left
      · simp only [Act.put, List.setIfInBounds_toArray, List.set_cons_zero, List.set_cons_succ, i64_w, i32_w]
        rfl
      refine pure_ (i := 5) (N := some 20) (v := ?_) (a' := ?_) #[true, false, true, true, true, true, false, false, false, false, false, false] rfl rfl (by kernel_rfl) (fun _ _ _ h => h) (Or.inl ⟨by rfl, ?_⟩) ?_ ?_
      rotate_left
      · intro w'
        go_simp
        with_reducible rfl
      rotate_left
      · simp only [Act.put, List.setIfInBounds_toArray, List.set_cons_zero, List.set_cons_succ, i64_w, i32_w]
        rfl
      refine take_ (i := 1) (N := some 16) (v := ?_) (a' := ?_) #[true, true, true, true, true, true, false, false, false, false, false, false] rfl rfl (by kernel_rfl) (fun _ _ _ h => h) (Or.inl ⟨by rfl, ?_⟩) hHeld ?_ ?_
      rotate_left
      · rintro w' ⟨s0, s1, s2⟩
        go_simp
        with_reducible rfl
      rotate_left
      · simp only [Act.put, List.setIfInBounds_toArray, List.set_cons_zero, List.set_cons_succ, i64_w, i32_w]
        rfl
      refine take_ (i := 6) (N := some 21) (v := ?_) (a' := ?_) #[true, true, true, true, true, true, true, false, false, false, false, false] rfl rfl (by kernel_rfl) (fun _ _ _ h => h) (Or.inl ⟨by rfl, ?_⟩) hHeld ?_ ?_
      rotate_left
      · rintro w' ⟨s0, s1, s2⟩
        go_simp
        with_reducible rfl
      rotate_left
      · simp only [Act.put, List.setIfInBounds_toArray, List.set_cons_zero, List.set_cons_succ, i64_w, i32_w]
        rfl
      refine pure_ (i := 7) (N := some 22) (v := ?_) (a' := ?_) #[true, true, true, true, true, true, true, true, false, false, false, false] rfl rfl (by kernel_rfl) (fun _ _ _ h => h) (Or.inl ⟨by rfl, ?_⟩) ?_ ?_
      rotate_left
      · intro w'
        go_simp
        with_reducible rfl
      rotate_left
      · simp only [Act.put, List.setIfInBounds_toArray, List.set_cons_zero, List.set_cons_succ, i64_w, i32_w]
        rfl
      refine one_ (i := 8) (N := some 23) #[true, true, true, true, true, true, true, true, true, false, false, false] rfl rfl (by kernel_rfl) (by decide) (fun K hK => ?_)
      refine value_ (w1 := ?_) (v := ?_) (by rfl) rfl ?_ ?_
      rotate_left 2
      · go_simp
        constructor
        · rfl
        · rfl
      refine hK.out _ _ ⟨pw_cell_below (below_alloc (Below.refl _ _) _) z0, pw_cell_below (below_alloc (Below.refl _ _) _) z1, pw_cell_below (below_alloc (Below.refl _ _) _) z2⟩ (fun hHeld => ?_)
      clear hK K
      refine norm_ (a' := ?_) ?_ ?_
      rotate_left
      · show Act.put _ (some 23) _ = _
        simp only [Act.put, List.setIfInBounds_toArray, List.set_cons_zero, List.set_cons_succ, i64_w, i32_w]
        rfl
      refine one_ (i := 9) (N := some 24) #[true, true, true, true, true, true, true, true, true, true, false, false] rfl rfl (by kernel_rfl) (by decide) (fun K hK => ?_)
      refine Kd.R_append_step (Kd.fixed k51 wb) (w0 := wb) wb.heap.size (by rfl) _ _ 108 111 (.agg #[.int .i64 0, .int .i64 0, .string ⟨#[]⟩, .slice none 0 0]) 56 rfl Try.underlying108 info111 rfl (by show 0 < 4; decide) (by decide) u2 acc (⟨d, x⟩ : S51) [.int .i64 d, .int .i64 x.f0, .string x.f1, .slice A2 x.f2.length c2] (fun _ => True) (fun _ => False) rfl rfl hM (fun _ h => h.elim) (fun _ _ => trivial) HOd.out HBd.out hsd (by omega) ?_
      intro v4 w4 hR4 hB4 hG4 hat4
      have hBx4 := blk_grown hBxd hG4 hne4
      refine hK.out _ _ ⟨(blk_cell hBx4 0).trans rfl, (blk_cell hBx4 1).trans rfl, (blk_cell hBx4 2).trans rfl⟩ (fun hHeld => ?_)
      clear hK K
      refine norm_ (a' := ?_) ?_ ?_
      rotate_left
      · show Act.put _ (some 24) _ = _
        simp only [Act.put, List.setIfInBounds_toArray, List.set_cons_zero, List.set_cons_succ, i64_w, i32_w]
        rfl
      refine last_ (i := 10) (N := some 25) #[true, true, true, true, true, true, true, true, true, true, true, false] rfl rfl (by kernel_rfl) (by decide) (fun K hK => ?_)
      refine goes_ Try.func60 (by kernel_rfl) rfl #[.slice A2 x.f2.length c2, .int .i64 (wrap64 (d + 1)), v4] (by rfl) rfl rfl (by simp only [List.map_toArray, List.map_cons, List.map_nil]; rfl) ?_
      with_reducible refine (hic v4 w4 hR4 hB4).mono ?_
      rintro e w5 ⟨v5, rfl, hR5, hB5⟩
      refine ⟨_, rfl, ?_⟩
      refine hK.out _ _ ?_
      clear hK K
      refine norm_ (a' := ?_) ?_ ?_
      rotate_left
      · show Act.put _ (some 25) _ = _
        simp only [Act.put, List.setIfInBounds_toArray, List.set_cons_zero, List.set_cons_succ, i64_w, i32_w]
        rfl
      refine pure_ (i := 11) (N := some 2) (v := ?_) (a' := ?_) #[true, true, true, true, true, true, true, true, true, true, true, true] rfl rfl (by kernel_rfl) (fun _ _ _ h => h) (Or.inl ⟨by rfl, ?_⟩) ?_ ?_
      rotate_left
      · intro w'
        go_simp
        with_reducible rfl
      rotate_left
      · simp only [Act.put, List.setIfInBounds_toArray, List.set_cons_zero, List.set_cons_succ, i64_w, i32_w]
        rfl
      refine done_ (by kernel_rfl) ?_
      have HR5 := Aside0.mk hR5
      have HB5 := Aside0.mk hB5
      clear hR5 hB5 hic hR4 hB4 hG4 hat4 hBx4
      go_wp2
      go_roundg k1
      case measure => exact Nat.lt_succ_self _
      case rel => exact ⟨acc ++ [⟨d, x⟩] ++ ra, rb, i + 1, HR5.out, by first | rfl | go_num, HRB.out, by rw [← HA.out, HR'.out]; simp, HB5.out, by omega, by omega, by omega⟩
    · have hi : i = l.length := by omega
      subst hi
      rw [show l.drop ((l.length : Int)).toNat = [] by simp] at hP
      have hrn : r' = [] := by unfold rowsP at hP; exact (Option.some.inj hP).symm
      subst hrn
      have d1 : decide ((l.length : Int) < (l.length : Int)) = false := decide_eq_false (by omega)
      clear hP
      go_wp2
      go_ret
      exact ⟨_, rfl, by rw [← HA.out, List.append_nil]; exact HO.out, HB.out⟩
end Go.Proofs.Ytjbhhgecdcgpeaa.Tb
