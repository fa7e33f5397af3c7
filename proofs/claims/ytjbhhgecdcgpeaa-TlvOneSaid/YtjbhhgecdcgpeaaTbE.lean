/- Find: its contract. -/
import Derived.Test.YtjbhhgecdcgpeaaTbD
import Derived.Test.YtjbhhgecdcgpeaaTb4
namespace Go.Proofs.Ytjbhhgecdcgpeaa.Tb
open Go Go.RowKit Go.Proofs.YtjbhhgecdcgpeaaW.PrintWords Go.Proofs.YtjbhhgecdcgpeaaW.PrintLast Go.Proofs.YtjbhhgecdcgpeaaW.PrintMore Go.Proofs.Ytjbhhgecdcgpeaa.TA
set_option linter.unusedSimpArgs false
set_option linter.unusedVariables false
/-- The node that a path leads to; nothing: there is none. -/
def findP : List S43 → List Int → S43 → Option S43
  | _, [], n => some n
  | l, t :: path, _ => if firstP t l 0 < 0 then none else findP (rd_T43 l (firstP t l 0)).f2 path (rd_T43 l (firstP t l 0))
theorem findP_cons (l : List S43) (t : Int) (path : List Int) (n : S43) : findP l (t :: path) n = if firstP t l 0 < 0 then none else findP (rd_T43 l (firstP t l 0)).f2 path (rd_T43 l (firstP t l 0)) := rfl
theorem Chg.set3 (W : World) (g : Nat) (a b c : Value) : Chg (fun i => i = g) W (((W.setCell ⟨g, 0, none⟩ a).setCell ⟨g, 1, none⟩ b).setCell ⟨g, 2, none⟩ c) := by
  have h := (((Chg.refl (fun i => i = g) W).set (w' := W) ⟨g, 0, none⟩ a rfl).set ⟨g, 1, none⟩ b rfl).set ⟨g, 2, none⟩ c rfl
  exact h
def findF (k : Nat) (l : List S43) (path : List Int) : Option (Int × ByteArray × List S43 × Bool) := match findP l path z43 with
  | none => some (0, ⟨#[]⟩, [], false)
  | some n => (tlv_own.f k n.f2).map fun kids => (n.f0, n.f1, kids, decide (0 < path.length))
theorem atI {w : World} {A : Option Addr} {n : Nat} {xs : List Int} {k : IntKind} (h : (Kd.int k).C w A n xs) (i : Int) (h0 : 0 ≤ i) (h1 : i < n) : ∃ ad, A = some ad ∧ w.cell? (ad.add i.toNat) = some (.int k (rd xs i)) := by
  obtain ⟨ad, c, e, _, hK, hc⟩ := ReadsRow.get_ h 0 i h0 h1
  have hK' : c = [_] := hK
  subst hK'
  have := hc 0 _ rfl
  have hs : (Kd.int k).sz = 1 := rfl
  rw [hs, Nat.mul_one, Nat.add_zero] at this
  exact ⟨ad, e, this⟩
theorem drop_rdI (l : List Int) (i : Int) (h0 : 0 ≤ i) (h1 : i < l.length) : l.drop i.toNat = rd l i :: l.drop (i + 1).toNat := by
  have hi : i.toNat < l.length := by omega
  rw [List.drop_eq_getElem_cons hi, show (i + 1).toNat = i.toNat + 1 by omega]
  congr 1
  unfold rd
  rw [List.getD_eq_getElem?_getD, List.getElem?_eq_getElem hi]
  rfl
/-- A node's variable. -/
def NodeVar (w : World) (g : Nat) (n : S43) (W : World) : Prop := ∃ (A : Option Addr) (c : Nat), W.heap[g]? = some (.cells #[.int .i64 n.f0, .string n.f1, .slice A n.f2.length c] 43 (0, 0)) ∧ n.f2.length ≤ c ∧ Kd.C k43 w A n.f2.length n.f2
def FdRel (w : World) (q g : Nat) (l0 : List S43) (path : List Int) (kq : Nat) (v0 v12 : Value) (W : World) : Prop :=
  ∃ (l : List S43) (A : Option Addr) (c : Nat) (n : S43) (i : Int), v0 = .slice A l.length c ∧ v12 = .int .i64 i ∧ i + kq = path.length ∧ 0 ≤ i ∧ Kd.C k43 w A l.length l ∧ l.length ≤ c ∧ NodeVar w g n W ∧ findP l (path.drop i.toNat) n = findP l0 path z43 ∧
    W.heap[q]? = some (.cells #[.int .i64 0, .string ⟨#[]⟩, .slice none 0 0] 43 (0, 0)) ∧ Below w.heap.size w W
/-- How it ends. -/
def FEnds (r1 : Int) (r2 : ByteArray) (r3 : List S43) (r4 : Bool) (w : World) (e : Ending) (w' : World) : Prop := ∃ v2_ : Value, e = .returned (.tuple #[.agg #[.int .i64 r1, .string r2, v2_], .bool r4]) ∧ Kd.R k43 43 w' w.heap.size (fun _ => True) v2_ r3 ∧ Below w.heap.size w w'
set_option maxRecDepth 100000 in
set_option maxHeartbeats 1000000 in
theorem find_calls (k : Nat) (w : World) (A : Option Addr) (cp : Nat) (l : List S43) (hr : Kd.C k43 w A l.length l) (hcp : l.length ≤ cp) (A1 : Option Addr) (c1 : Nat) (path : List Int) (hr1 : Kd.C (Kd.int .i64) w A1 path.length path) (r1 : Int) (r2 : ByteArray) (r3 : List S43) (r4 : Bool) (hP : findF k l path = some (r1, r2, r3, r4)) :
    Calls Try.prog 33 #[.slice A l.length cp, .slice A1 path.length c1] w (FEnds r1 r2 r3 r4 w) := by
  have HR1 := Aside0.mk hr1
  have hlen : path.length ≤ 9223372036854775807 := hr1.2.1
  have HP := Aside0.mk hP
  have HR := Aside0.mk hr
  have HCP := Aside0.mk hcp
  clear hr1 hP hr hcp
  go_enter Try.func33, Try.ntmps33
  go_upto_region 2 with (fail)
  obtain ⟨w1, hw1⟩ : ∃ w1, w1 = (w.alloc (.cells #[.int .i64 0, .string ⟨#[]⟩, .slice none 0 0] 43)).alloc (.cells #[.int .i64 0, .string ⟨#[]⟩, .slice none 0 0] 43) := ⟨_, rfl⟩
  obtain ⟨q, hq⟩ : ∃ q, q = w.heap.size := ⟨_, rfl⟩
  obtain ⟨g, hg⟩ : ∃ g, g = w.heap.size + 1 := ⟨_, rfl⟩
  have hb1 : Below w.heap.size w w1 := by rw [hw1]; exact below_alloc (below_alloc (Below.refl _ _) _) _
  have hq1 : w1.heap[q]? = some (.cells #[.int .i64 0, .string ⟨#[]⟩, .slice none 0 0] 43 (0, 0)) := by rw [hw1, hq]; exact blk_alloc (heap_alloc_new _ _) _
  have hg1 : w1.heap[g]? = some (.cells #[.int .i64 0, .string ⟨#[]⟩, .slice none 0 0] 43 (0, 0)) := by
    rw [hw1, hg]
    have := heap_alloc_new (w.alloc (.cells #[.int .i64 0, .string ⟨#[]⟩, .slice none 0 0] 43)) (.cells #[.int .i64 0, .string ⟨#[]⟩, .slice none 0 0] 43)
    rwa [show (w.alloc (.cells #[.int .i64 0, .string ⟨#[]⟩, .slice none 0 0] 43)).heap.size = w.heap.size + 1 by simp] at this
  rw [← hw1, ← hg, ← hq]
  have hqg : q ≠ g := by omega
  have hwq : w.heap.size ≤ q := by omega
  have hwg : w.heap.size ≤ g := by omega
  have HF0 : FdRel w q g l path path.length (.slice A l.length cp) (.int .i64 0) w1 := ⟨l, A, cp, z43, 0, rfl, rfl, by omega, Int.le_refl _, HR.out, HCP.out, ⟨none, 0, hg1, by simp [z43], ⟨rfl, by decide, fun h => absurd h (by simp [z43])⟩⟩, rfl, hq1, hb1⟩
  clear hw1 hq hg hq1 hg1 hb1
  go_wp2
  go_loopg [0, 12] path.length (fun kq v0 v12 W => FdRel w q g l path kq v0 v12 W)
  case atStart => exact HF0
  case round =>
    clear HF0
    obtain ⟨ls, As, cs, n, i, rfl, rfl, hK, hi0, hCs, hcs, hN, hF, hQ, hB⟩ := hrel
    have HB := Aside0.mk hB
    have HF := Aside0.mk hF
    have HCs := Aside0.mk hCs
    clear hB hF hCs
    cases gk with
    | zero =>
      have hi : i = path.length := by omega
      subst hi
      have d1 : decide ((path.length : Int) < (path.length : Int)) = false := decide_eq_false (by omega)
      obtain ⟨An, cn, hBx, hln, hCn⟩ := hN
      have HCn := Aside0.mk hCn
      have hE := HF.out
      rw [show path.drop ((path.length : Int)).toNat = [] by simp] at hE
      have hP := HP.out
      unfold findF at hP
      rw [← hE] at hP
      unfold findP at hP
      obtain ⟨kids, hkids, hP⟩ := Option.map_eq_some_iff.mp hP
      obtain ⟨rfl, rfl, rfl, rfl⟩ : n.f0 = r1 ∧ n.f1 = r2 ∧ kids = r3 ∧ decide (0 < path.length) = r4 := by simp only [Prod.mk.injEq] at hP; exact hP
      have HKids := Aside0.mk hkids
      clear hE hP hkids hCn hK hi0
      have x2 : wr.cell? ⟨g, 2, none⟩ = some (.slice An n.f2.length cn) := (blk_cell hBx 2).trans rfl
      have hoc := tlv_own.calls k An cn n.f2 kids wr (Kd.C_below HCn.out HB.out) hln HKids.out
      have hgl := blk_lt hBx
      have hql := blk_lt hQ
      go_upto_region 12 with (go_at_call 69; (with_reducible refine hoc.mono ?_); rintro e w2 ⟨v2, rfl, hR2, hB2⟩; obtain ⟨A2, c2, e2⟩ := Kd.R_slice hR2; subst e2; have f2 : w2.frozen? ⟨g, 2, none⟩ = false := blk_frozen (blk_below hBx hB2) 2; have y2 : w2.cell? ⟨g, 2, none⟩ = some (.slice An n.f2.length cn) := (blk_cell (blk_below hBx hB2) 2).trans rfl; have HB2 := Aside0.mk hB2; have HR2 := Aside0.mk hR2; clear hB2 hR2)
      obtain ⟨w3, hw3⟩ : ∃ w3, w3 = w2.setCell ⟨g, 2, none⟩ (.slice A2 kids.length c2) := ⟨_, rfl⟩
      rw [← hw3]
      have hS3 : Chg (fun i => i = g) w2 w3 := by rw [hw3]; exact (Chg.refl _ _).set ⟨g, 2, none⟩ _ rfl
      have hBx3 : w3.heap[g]? = some (.cells #[.int .i64 n.f0, .string n.f1, .slice A2 kids.length c2] 43 (0, 0)) := by rw [hw3]; exact blk_put (blk_below hBx HB2.out) 2 _ rfl
      have hQ3 : w3.heap[q]? = some (.cells #[.int .i64 0, .string ⟨#[]⟩, .slice none 0 0] 43 (0, 0)) := (hS3.block q (Nat.lt_of_lt_of_le hql HB2.out.size) hqg).trans (blk_below hQ HB2.out)
      have HB3 := Aside0.mk (hS3.below (below_step HB.out HB2.out) (fun i hi => by omega) (Nat.le_trans HB.out.size HB2.out.size))
      have HR3 := Aside0.mk (R_chg HR2.out hS3 (fun k _ hb hf => by omega))
      have hsz23 := hS3.size
      have hsw2 := HB2.out.size
      have hsw := HB.out.size
      clear hw3 hS3 f2 y2 x2 hoc HR2 HB2 hBx hQ
      have z0 : w3.cell? ⟨g, 0, none⟩ = some (.int .i64 n.f0) := (blk_cell hBx3 0).trans rfl
      have z1 : w3.cell? ⟨g, 1, none⟩ = some (.string n.f1) := (blk_cell hBx3 1).trans rfl
      have z2 : w3.cell? ⟨g, 2, none⟩ = some (.slice A2 kids.length c2) := (blk_cell hBx3 2).trans rfl
      have q0 : w3.cell? ⟨q, 0, none⟩ = some (.int .i64 0) := (blk_cell hQ3 0).trans rfl
      have q1 : w3.cell? ⟨q, 1, none⟩ = some (.string ⟨#[]⟩) := (blk_cell hQ3 1).trans rfl
      have q2 : w3.cell? ⟨q, 2, none⟩ = some (.slice none 0 0) := (blk_cell hQ3 2).trans rfl
      have e0 := blk_frozen hQ3 0
      have e1 := blk_frozen hQ3 1
      have e2 := blk_frozen hQ3 2
      by_cases hpl : 0 < path.length
      · have d4 : decide ((0 : Int) < (path.length : Int)) = true := decide_eq_true (by omega)
        have d5 : (0 < path.length) = True := eq_true hpl
        have HDE := Aside0.mk (show decide (0 < path.length) = true from decide_eq_true hpl)
        clear hpl
        go_wp2
        obtain ⟨w4, hw4⟩ : ∃ w4, w4 = ((w3.setCell ⟨q, 0, none⟩ (.int .i64 n.f0)).setCell ⟨q, 1, none⟩ (.string n.f1)).setCell ⟨q, 2, none⟩ (.slice A2 kids.length c2) := ⟨_, rfl⟩
        rw [← hw4]
        have hS4 : Chg (fun i => i = q) w3 w4 := by rw [hw4]; exact Chg.set3 _ _ _ _ _
        have hQ4 : w4.heap[q]? = some (.cells #[.int .i64 n.f0, .string n.f1, .slice A2 kids.length c2] 43 (0, 0)) := by rw [hw4]; exact blk_put (blk_put (blk_put hQ3 0 _ rfl) 1 _ rfl) 2 _ rfl
        have y0 : w4.cell? ⟨q, 0, none⟩ = some (.int .i64 n.f0) := (blk_cell hQ4 0).trans rfl
        have y1 : w4.cell? ⟨q, 1, none⟩ = some (.string n.f1) := (blk_cell hQ4 1).trans rfl
        have y2 : w4.cell? ⟨q, 2, none⟩ = some (.slice A2 kids.length c2) := (blk_cell hQ4 2).trans rfl
        clear hw4
        refine bodyPost_ret (v := .tuple #[.agg #[.int .i64 n.f0, .string n.f1, .slice A2 kids.length c2], .bool true]) (by simp [results, Try.results33, go_sem, y0, y1, y2]) rfl ⟨.slice A2 kids.length c2, by rw [HDE.out], Kd.R_lower (R_chg HR3.out hS4 (fun k _ hb hf => by omega)) hsw, hS4.below HB3.out (fun i hi => by omega) (by omega)⟩
      · have d4 : decide ((0 : Int) < (path.length : Int)) = false := decide_eq_false (by omega)
        have d5 : (0 < path.length) = False := eq_false hpl
        have HDE := Aside0.mk (show decide (0 < path.length) = false from decide_eq_false hpl)
        clear hpl
        go_wp2
        obtain ⟨w4, hw4⟩ : ∃ w4, w4 = ((w3.setCell ⟨q, 0, none⟩ (.int .i64 n.f0)).setCell ⟨q, 1, none⟩ (.string n.f1)).setCell ⟨q, 2, none⟩ (.slice A2 kids.length c2) := ⟨_, rfl⟩
        rw [← hw4]
        have hS4 : Chg (fun i => i = q) w3 w4 := by rw [hw4]; exact Chg.set3 _ _ _ _ _
        have hQ4 : w4.heap[q]? = some (.cells #[.int .i64 n.f0, .string n.f1, .slice A2 kids.length c2] 43 (0, 0)) := by rw [hw4]; exact blk_put (blk_put (blk_put hQ3 0 _ rfl) 1 _ rfl) 2 _ rfl
        have y0 : w4.cell? ⟨q, 0, none⟩ = some (.int .i64 n.f0) := (blk_cell hQ4 0).trans rfl
        have y1 : w4.cell? ⟨q, 1, none⟩ = some (.string n.f1) := (blk_cell hQ4 1).trans rfl
        have y2 : w4.cell? ⟨q, 2, none⟩ = some (.slice A2 kids.length c2) := (blk_cell hQ4 2).trans rfl
        clear hw4
        refine bodyPost_ret (v := .tuple #[.agg #[.int .i64 n.f0, .string n.f1, .slice A2 kids.length c2], .bool false]) (by simp [results, Try.results33, go_sem, y0, y1, y2]) rfl ⟨.slice A2 kids.length c2, by rw [HDE.out], Kd.R_lower (R_chg HR3.out hS4 (fun k _ hb hf => by omega)) hsw, hS4.below HB3.out (fun i hi => by omega) (by omega)⟩
    | succ gk =>
      have hi : i < (path.length : Int) := by omega
      have d1 : decide (i < (path.length : Int)) = true := decide_eq_true hi
      obtain ⟨ad, e1, x0⟩ := atI HR1.out i hi0 hi
      subst e1
      replace x0 := (HB.out.cell (World.block_lt_of_cell? w _ x0)).trans x0
      have hD := drop_rdI path i hi0 hi
      generalize rd path i = t at hD x0
      have HD := Aside0.mk hD
      have HK : Aside0 (i + 1 + gk = path.length) := ⟨by omega⟩
      have p0 := eq_true hi0
      have q0 := eq_true hi
      have hac := at_calls wr As cs ls (Kd.C_below HCs.out HB.out) t
      have hrange := firstP_range t ls 0 (Int.le_refl _)
      obtain ⟨j, hj⟩ : ∃ j, firstP t ls 0 = j := ⟨_, rfl⟩
      rw [hj] at hac hrange
      have HJ := Aside0.mk hj
      have hql := blk_lt hQ
      obtain ⟨An, cn, hBx, hln, hCn⟩ := hN
      have hgl := blk_lt hBx
      clear hD hK hj hln hCn
      by_cases hneg : j < 0
      · have d4 : decide (j < 0) = true := decide_eq_true hneg
        have hP := HP.out
        unfold findF at hP
        rw [← HF.out, HD.out, findP_cons, HJ.out, if_pos hneg] at hP
        obtain ⟨rfl, rfl, rfl, rfl⟩ : 0 = r1 ∧ (⟨#[]⟩ : ByteArray) = r2 ∧ [] = r3 ∧ false = r4 := by simp only [Option.some.injEq, Prod.mk.injEq] at hP; exact hP
        clear hP hneg hrange
        go_upto_region 7 with (go_at_call 68; (with_reducible refine hac.mono ?_); rintro e w2 ⟨rfl, hB2⟩; have HB2 := Aside0.mk hB2; clear hB2)
        have hQ3 := blk_below hQ HB2.out
        have HB3 := Aside0.mk (below_step HB.out HB2.out)
        have hs := HB3.out.size
        clear hac hQ hBx HB2 x0
        have q0 : w2.cell? ⟨q, 0, none⟩ = some (.int .i64 0) := (blk_cell hQ3 0).trans rfl
        have q1 : w2.cell? ⟨q, 1, none⟩ = some (.string ⟨#[]⟩) := (blk_cell hQ3 1).trans rfl
        have q2 : w2.cell? ⟨q, 2, none⟩ = some (.slice none 0 0) := (blk_cell hQ3 2).trans rfl
        have e0 := blk_frozen hQ3 0
        have e1 := blk_frozen hQ3 1
        have e2 := blk_frozen hQ3 2
        go_wp2
        obtain ⟨w4, hw4⟩ : ∃ w4, w4 = ((w2.setCell ⟨q, 0, none⟩ (.int .i64 0)).setCell ⟨q, 1, none⟩ (.string ⟨#[]⟩)).setCell ⟨q, 2, none⟩ (.slice none 0 0) := ⟨_, rfl⟩
        rw [← hw4]
        have hS4 : Chg (fun i => i = q) w2 w4 := by rw [hw4]; exact Chg.set3 _ _ _ _ _
        have hQ4 : w4.heap[q]? = some (.cells #[.int .i64 0, .string ⟨#[]⟩, .slice none 0 0] 43 (0, 0)) := by rw [hw4]; exact blk_put (blk_put (blk_put hQ3 0 _ rfl) 1 _ rfl) 2 _ rfl
        have y0 : w4.cell? ⟨q, 0, none⟩ = some (.int .i64 0) := (blk_cell hQ4 0).trans rfl
        have y1 : w4.cell? ⟨q, 1, none⟩ = some (.string ⟨#[]⟩) := (blk_cell hQ4 1).trans rfl
        have y2 : w4.cell? ⟨q, 2, none⟩ = some (.slice none 0 0) := (blk_cell hQ4 2).trans rfl
        clear hw4
        refine bodyPost_ret (v := .tuple #[.agg #[.int .i64 0, .string ⟨#[]⟩, .slice none 0 0], .bool false]) (by simp [results, Try.results33, go_sem, y0, y1, y2]) rfl ⟨.slice none 0 0, rfl, Kd.R_nil _ _ _ _ _, hS4.below HB3.out (fun i hi => by omega) hs⟩
      · have hj0 : 0 ≤ j := by omega
        have hjl : j < (ls.length : Int) := by omega
        have d4 : decide (j < 0) = false := decide_eq_false hneg
        have HF2 := HF.out
        rw [HD.out, findP_cons, HJ.out, if_neg hneg] at HF2
        obtain ⟨adl, A2, c2, el, z0, z1, z2, hl2, hC2⟩ := at_T43 HCs.out j hj0 hjl
        subst el
        generalize rd_T43 ls j = x at HF2 z0 z1 z2 hl2 hC2
        have HF3 := Aside0.mk HF2
        have HC2 := Aside0.mk hC2
        clear HF2 hC2 hneg hrange
        go_upto_region 8 with (go_at_call 68; (with_reducible refine hac.mono ?_); rintro e w2 ⟨rfl, hB2⟩; have HB2 := Aside0.mk hB2; clear hB2)
        have hQ3 := blk_below hQ HB2.out
        have hBx3 := blk_below hBx HB2.out
        have HB3 := Aside0.mk (below_step HB.out HB2.out)
        have hs := HB3.out.size
        replace z0 := (HB3.out.cell (World.block_lt_of_cell? w _ z0)).trans z0
        replace z1 := (HB3.out.cell (World.block_lt_of_cell? w _ z1)).trans z1
        replace z2 := (HB3.out.cell (World.block_lt_of_cell? w _ z2)).trans z2
        clear hac hQ hBx HB2 x0 d4
        have p1 := eq_true hj0
        have q1 := eq_true hjl
        have g0 : w2.cell? ⟨g, 0, none⟩ = some (.int .i64 n.f0) := (blk_cell hBx3 0).trans rfl
        have g1 : w2.cell? ⟨g, 1, none⟩ = some (.string n.f1) := (blk_cell hBx3 1).trans rfl
        have g2 : w2.cell? ⟨g, 2, none⟩ = some (.slice An n.f2.length cn) := (blk_cell hBx3 2).trans rfl
        have e0 := blk_frozen hBx3 0
        have e1 := blk_frozen hBx3 1
        have e2 := blk_frozen hBx3 2
        go_upto_region 9 with (fail)
        obtain ⟨w4, hw4⟩ : ∃ w4, w4 = ((w2.setCell ⟨g, 0, none⟩ (.int .i64 x.f0)).setCell ⟨g, 1, none⟩ (.string x.f1)).setCell ⟨g, 2, none⟩ (.slice A2 x.f2.length c2) := ⟨_, rfl⟩
        rw [← hw4]
        have hS4 : Chg (fun i => i = g) w2 w4 := by rw [hw4]; exact Chg.set3 _ _ _ _ _
        have hBx4 : w4.heap[g]? = some (.cells #[.int .i64 x.f0, .string x.f1, .slice A2 x.f2.length c2] 43 (0, 0)) := by rw [hw4]; exact blk_put (blk_put (blk_put hBx3 0 _ rfl) 1 _ rfl) 2 _ rfl
        have hQ4 := (hS4.block q (blk_lt hQ3) hqg).trans hQ3
        have HB4 := Aside0.mk (hS4.below HB3.out (fun i hi => by omega) hs)
        clear hw4 hS4 g0 g1 g2 e0 e1 e2 z0 z1 z2 hBx3 hQ3 HB3
        have y2 : w4.cell? ⟨g, 2, none⟩ = some (.slice A2 x.f2.length c2) := (blk_cell hBx4 2).trans rfl
        go_wp2
        go_roundg gk
        case measure => exact Nat.lt_succ_self _
        case rel => exact ⟨x.f2, A2, c2, x, i + 1, rfl, by first | rfl | go_num, HK.out, by omega, HC2.out, hl2, ⟨A2, c2, hBx4, hl2, HC2.out⟩, HF3.out, hQ4, HB4.out⟩
end Go.Proofs.Ytjbhhgecdcgpeaa.Tb
