/- Going over nodes: the contracts of All and of what it hands back. -/
import Derived.Test.YtjbhhgecdcgpeaaTbF
import Derived.RangeFuncNested
import Derived.RangeFuncBound
import Derived.RangeFuncCalls
import Derived.RangeFuncLeaves
import Derived.Shelf.Abstract
import Derived.Shelf.RegionOpen
import Derived.WalkKit
import Derived.OwnWalkIn
import Derived.TacticsInMore
import Derived.LoopNIn
import Derived.LoopIn
namespace Go.Proofs.Ytjbhhgecdcgpeaa.Tb
open Go Go.RowKit Go.Shelf Go.Proofs.YtjbhhgecdcgpeaaW.PrintWords Go.Proofs.YtjbhhgecdcgpeaaW.PrintLast Go.Proofs.YtjbhhgecdcgpeaaW.PrintMore Go.Proofs.Ytjbhhgecdcgpeaa.TA
set_option linter.unusedSimpArgs false
set_option linter.unusedVariables false
attribute [local go_sem] Oper.semAt_some
/-- What comes in a round: a node, how deep it stands, where its kids lie. -/
structure Stand where
  x : S51
  A : Option Addr
  c : Nat
def Stand.enc (s : Stand) : Array Value := #[.int .i64 s.x.f0, .agg #[.int .i64 s.x.f1.f0, .string s.x.f1.f1, .slice s.A s.x.f1.f2.length s.c]]
/-- One of which G holds. -/
def StandG (G : S51 → Prop) := { s : Stand // G s.x }
def StandG.x {G : S51 → Prop} (s : StandG G) : S51 := s.1.x
set_option maxRecDepth 100000 in
theorem all_calls (A : Option Addr) (n c : Nat) (w : World) :
    Calls Try.prog 30 #[.slice A n c] w fun e w' => e = .returned (.func (.func 59) #[] #[.pointer (some ⟨w.heap.size, 0, none⟩)]) ∧ w' = w.alloc (.cells #[.slice A n c] 23) := by
  have hmf : ∀ (fn : Fn) (first cap : Array Value) (w : World), (Instr.makeFunc fn first cap).run Try.prog w = .ok (.func fn first cap) w := fun _ _ _ _ => rfl
  go_enter Try.func30, Try.ntmps30
  go_wp2
  go_ret
  exact ⟨rfl, rfl⟩
/-- A row of standing nodes as it is read in W: A, n; its block is one of type 111. -/
def StRow (wb : World) (r : List S51) (A : Option Addr) (W : World) : Prop := (Kd.fixed k51 wb).C W A r.length r ∧ ∀ ad, A = some ad → 0 < r.length → ∃ (cs : Array Value) (fz : Nat × Nat), W.heap[ad.block]? = some (Obj.cells cs 111 fz)
theorem StRow.move {wb : World} {r : List S51} {A : Option Addr} {W W' : World} (h : StRow wb r A W) (hk : ∀ (k : Nat) (cs : Array Value) (fz : Nat × Nat), W.heap[k]? = some (Obj.cells cs 111 fz) → W'.heap[k]? = some (Obj.cells cs 111 fz)) : StRow wb r A W' := by
  refine ⟨⟨h.1.1, h.1.2.1, fun hn => ?_⟩, fun ad he hn => ?_⟩
  · obtain ⟨ad, e, hc⟩ := h.1.2.2 hn
    refine ⟨ad, e, fun j p hj => ?_⟩
    obtain ⟨c, hl, hR, hcell⟩ := hc j p hj
    obtain ⟨cs, fz, hb⟩ := h.2 ad e hn
    have hb' := hk _ _ _ hb
    exact ⟨c, hl, hR, fun i u hu => (World.cell?_of_block (a := ad.add (j * _ + i)) (by rw [show (ad.add _).block = ad.block by unfold Addr.add; split <;> rfl, hb, hb'])).trans (hcell i u hu)⟩
  · obtain ⟨cs, fz, hb⟩ := h.2 ad he hn
    exact ⟨cs, fz, hk _ _ _ hb⟩
theorem StRow.of_R {wb : World} {r : List S51} {A : Option Addr} {n c : Nat} {W : World} {base : Nat} (h : Kd.R (Kd.fixed k51 wb) 111 W base (fun _ => True) (.slice A n c) r) : n = r.length ∧ StRow wb r A W := by
  obtain ⟨h1, h2, h3⟩ := Kd.R_reads' h
  refine ⟨h1, h3, fun ad he hn => ?_⟩
  obtain ⟨g, cap, hv, _, _, cells, hc⟩ := Kd.R_form h hn
  injection hv with hv _ _
  rw [he] at hv
  injection hv with hv
  subst hv
  exact ⟨cells, _, hc⟩
theorem StRow.at_ {wb : World} {r : List S51} {A : Option Addr} {W : World} (h : StRow wb r A W) (i : Int) (h0 : 0 ≤ i) (h1 : i < r.length) : ∃ ad A3 c3, A = some ad ∧ W.cell? (ad.add (i.toNat * 4)) = some (.int .i64 (rd_T51 r i).f0) ∧ W.cell? ⟨(ad.add (i.toNat * 4)).block, (ad.add (i.toNat * 4)).off + 1, none⟩ = some (.int .i64 (rd_T51 r i).f1.f0) ∧ W.cell? ⟨(ad.add (i.toNat * 4)).block, (ad.add (i.toNat * 4)).off + 2, none⟩ = some (.string (rd_T51 r i).f1.f1) ∧ W.cell? ⟨(ad.add (i.toNat * 4)).block, (ad.add (i.toNat * 4)).off + 3, none⟩ = some (.slice A3 (rd_T51 r i).f1.f2.length c3) ∧ (rd_T51 r i).f1.f2.length ≤ c3 ∧ k43.C wb A3 (rd_T51 r i).f1.f2.length (rd_T51 r i).f1.f2 := by
  obtain ⟨ad, c, e, _, hK, hc0⟩ := Kd.C_get h.1 z51 i h0 h1
  have hc : ∀ j u, c[j]? = some u → W.cell? (ad.add (i.toNat * 4 + j)) = some u := hc0
  obtain ⟨A3, c3, rfl, l3, g3⟩ := k51_open (show k51.K wb (rd_T51 r i) c from hK)
  exact ⟨ad, A3, c3, e, hc 0 _ rfl, by rw [← add_field _ _ 1 (by omega)]; exact hc 1 _ rfl, by rw [← add_field _ _ 2 (by omega)]; exact hc 2 _ rfl, by rw [← add_field _ _ 3 (by omega)]; exact hc 3 _ rfl, l3, g3⟩
theorem drop_rd51 (l : List S51) (i : Int) (h0 : 0 ≤ i) (h1 : i < l.length) : l.drop i.toNat = rd_T51 l i :: l.drop (i + 1).toNat := by
  have hi : i.toNat < l.length := by omega
  rw [List.drop_eq_getElem_cons hi, show (i + 1).toNat = i.toNat + 1 by omega]
  congr 1
  unfold rd_T51
  rw [List.getD_eq_getElem?_getD, List.getElem?_eq_getElem hi]
  rfl
set_option maxRecDepth 100000 in
set_option maxHeartbeats 2000000 in
theorem iter_stops (G : S51 → Prop) (n : Nat) (hn : 1 ≤ n) (w : World) (Bs : Nat) (A : Option Addr) (c : Nat) (l : List S43) (k : Nat) (r : List S51) (hP : rowsP k l 1 = some r) (hk : k ≤ 900000) (hr : r.length ≤ 900000000) (hG : ∀ x ∈ r, G x) (hC : Kd.C k43 w A l.length l) (hc : l.length ≤ c) (hB : w.cell? ⟨Bs, 0, none⟩ = some (.slice A l.length c))
    (Kp : World → World → Prop) (hKp : ∀ X Y : World, Kp X Y → ∀ (k : Nat) (cs : Array Value) (fz : Nat × Nat), X.heap[k]? = some (Obj.cells cs 111 fz) → Y.heap[k]? = some (Obj.cells cs 111 fz)) :
    SeqStopsK Fence.wide n Try.prog 59 #[.pointer (some ⟨Bs, 0, none⟩)] (fun s : StandG G => s.1.enc) Kp (fun ss => ss.map StandG.x = r) (fun pre => pre.map StandG.x <+: r) r.length w := fun ly J Jx W hW hJ hJx hY h0 => by
  have hBW := pw_cell_below hW hB
  have hCW := Kd.C_below hC hW
  have hrw := row_calls k W W A c l 1 (.slice none 0 0) [] r hP hCW hc (Below.refl _ _) (Kd.R_nil _ _ _ _ _) (by omega) (by omega) (by simp; omega)
  clear hP hC hW hB hCW
  refine callsIn_of_wp Try.func59 rfl trivial ?_ rfl
  simp only [Try.ntmps59, List.size_toArray, List.length_cons, List.length_nil, Nat.reduceAdd, Nat.reduceSub, Array.replicate_succ, Array.replicate_zero, List.push_toArray, List.append_toArray, List.nil_append, List.cons_append]
  rw [List.nil_append] at hrw
  gi_wp2_with (refine ⟨trivial, ?_⟩; gi_at_call 60; refine (callsIn_wide.2 hrw).mono ?_; rintro e W1 ⟨v, rfl, hR, hB1⟩; obtain ⟨A6, c6, e6⟩ := Kd.R_slice hR; subst e6; have HS := Aside0.mk (StRow.of_R hR).2; have HJ1 := Aside0.mk (hJ [] W W1 none h0 (grown_of_below hB1 none) (fun r e => by cases e)); clear hR hB1)
  gi_loopw [8] (fun i wr => ∃ (k : Int) (pre : List (StandG G)), i = .int .i64 k ∧ 0 ≤ k ∧ k ≤ r.length ∧ pre.map StandG.x ++ r.drop k.toNat = r ∧ Aside0 (J pre wr) ∧ Aside0 (StRow W r A6 wr)) (fun i _ => r.length - (intOf i).toNat)
  case atStart => exact ⟨0, [], rfl, Int.le_refl _, Int.natCast_nonneg _, rfl, HJ1, HS⟩
  case round =>
    clear HJ1 HS
    obtain ⟨i, pre, rfl, hi0, hi1, hpre, HJ, HS⟩ := hrel
    have HPre := Aside0.mk hpre
    by_cases hlt : i < (r.length : Int)
    · have d1 : decide (i < (r.length : Int)) = true := decide_eq_true hlt
      obtain ⟨ad, A3, c3, e, x0, x1, x2, x3, hl3, hC3⟩ := HS.out.at_ i hi0 hlt
      subst e
      rw [drop_rd51 r i hi0 hlt] at hpre
      have hgx : G (rd_T51 r i) := hG _ ((congrArg (rd_T51 r i ∈ ·) hpre).mp (List.mem_append_right _ (List.mem_cons_self ..)))
      have hpl : pre.length < r.length := by have := congrArg List.length hpre; simp at this; omega
      generalize rd_T51 r i = x at hpre x0 x1 x2 x3 hl3 hC3 hgx
      have HGX := Aside0.mk hgx
      have HPre2 := Aside0.mk hpre
      have p0 := eq_true hi0
      have q0 := eq_true hlt
      obtain ⟨wy, hwy⟩ : ∃ wy, wy = wr.alloc (.cells #[.int .i64 x.f0, .int .i64 x.f1.f0, .string x.f1.f1, .slice A3 x.f1.f2.length c3] 111) := ⟨_, rfl⟩
      have hJy : J pre wy := by rw [hwy]; exact hJ pre wr _ none HJ.out (World.grownBy_alloc wr _ none) (fun r e => by cases e)
      have HSy := Aside0.mk (show StRow W r (some ad) wy by rw [hwy]; exact HS.out.move (fun k cs fz h => blk_alloc h _))
      obtain ⟨fn, tmps, assign, body, hy, hR⟩ := hY pre ⟨⟨x, A3, c3⟩, HGX.out⟩ wy hJy hpl
      simp only [Stand.enc] at hy
      rw [hwy] at hy hR HSy
      clear hpre hC3 hwy hJy hgx
      gi_wp2
      refine hR.mono ?_
      rintro e W3 (⟨rfl, hJ3, hk3⟩ | ⟨rfl, hJx3⟩)
      · have HJ3 := Aside0.mk hJ3
        have HS3 := Aside0.mk (HSy.out.move (hKp _ _ hk3))
        clear hJ3 hk3 hR hy HSy HS HJ
        gi_wp2
        go_roundw
        case rel => exact ⟨i + 1, pre ++ [⟨⟨x, A3, c3⟩, HGX.out⟩], by first | rfl | go_num, by omega, by omega, by rw [List.map_append, List.append_assoc]; exact HPre2.out, HJ3, HS3⟩
        case measure => simp [intOf]; omega
      · gi_wp2
        refine bodyPost_ret (results_none rfl _ _ _) rfl ?_
        exact ⟨⟨_, rfl⟩, .inr ⟨pre ++ [⟨⟨x, A3, c3⟩, HGX.out⟩], ⟨r.drop (i + 1).toNat, by rw [List.map_append, List.append_assoc]; exact HPre2.out⟩, hJx3⟩⟩
    · have hi : i = r.length := by omega
      subst hi
      have d1 : decide ((r.length : Int) < (r.length : Int)) = false := decide_eq_false (by omega)
      clear hpre
      gi_wp2
      go_end0
      have h2 := HPre.out
      rw [show r.drop ((r.length : Int)).toNat = [] by simp, List.append_nil] at h2
      exact ⟨⟨_, rfl⟩, .inl ⟨pre, h2, HJ.out⟩⟩
end Go.Proofs.Ytjbhhgecdcgpeaa.Tb
