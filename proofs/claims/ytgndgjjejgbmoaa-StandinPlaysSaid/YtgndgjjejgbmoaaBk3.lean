/- Contract: counting. -/
import Derived.Test.YtgndgjjejgbmoaaBk2
namespace Go.Proofs.Ytgndgjjejgbmoaa.Bok
open Go Go.RowKit Go.Maps Go.Proofs.YtgndgjjejgbmoaaW.PrintWords Go.Proofs.YtgndgjjejgbmoaaW.PrintLast Go.Proofs.YtgndgjjejgbmoaaW.PrintMore
def cnt (W now : Int) (l : List Ap) : List Int := (l.filter fun a => decide (now - a.at_ < W)).map (·.units)
theorem cnt_snoc (W now : Int) (l : List Ap) (a : Ap) : cnt W now (l ++ [a]) = cnt W now l ++ (if now - a.at_ < W then [a.units] else []) := by
  unfold cnt
  rw [List.filter_append, List.map_append]
  congr 1
  by_cases h : now - a.at_ < W
  · simp [h]
  · simp [h]
theorem look_event {P : Program} {ops : Array Oper} {rest : List Oper} {o : Oper} {a : Act} {Q : Exit → Act → World → Prop} {W : World} (hgd : o.guard = none) (t : TypeId) (mm x : Operand) (ho : o.op = .lookup t mm x false) (m : Nat) (c : ByteArray) (hm : a.eval mm = .map (some m)) (hx : a.eval x = .string c) {v : Value}
    (hrun : (Instr.lookup t (.map (some m)) (.string c) false).run P W = .ok v W) (h : wpList P ops Q rest (a.put o.dst v) W) : wpList P ops Q (o :: rest) a W := by
  refine wpList_plain hgd fun K hK => ?_
  unfold Oper.wp
  have hr : (execOp a.eval o).run P W = .ok (.value v) W := by simp [execOp, ho, hm, hx, hrun]
  rw [hr]
  exact hK _ _ h
theorem info3 : (Try.prog.info? 3).map (fun i => (i.zero, i.size, i.bytes)) = some (some (.int .i64 0), 1, 8) := by kernel_rfl
theorem row_at {w : World} {ad : Addr} {l : List Ap} {cp : Nat} (h : w.ownsRow 0 73 3 (.slice (some ad) l.length cp) l.length (cellsOf l)) (i : Nat) (hi : i < l.length) :
    w.cell? (ad.add (i * 3)) = some (.int .i64 l[i].place) ∧ w.cell? ⟨(ad.add (i * 3)).block, (ad.add (i * 3)).off + 1, none⟩ = some (.int .i64 l[i].units) ∧ w.cell? ⟨(ad.add (i * 3)).block, (ad.add (i * 3)).off + 2, none⟩ = some (.int .i64 l[i].at_) := by
  rcases h.2 with ⟨e1, _⟩ | ⟨g, cap, cur, e1, e2⟩
  · cases e1
  · injection e1 with e1 _ _
    injection e1 with e1
    subst e1
    have hc := h.cells (g := g) rfl
    obtain ⟨k0, k1, k2⟩ := cellsOf_get l i hi
    exact ⟨hc _ _ k0, by rw [← add_field _ _ 1 (by omega)]; exact hc _ _ k1, by rw [← add_field _ _ 2 (by omega)]; exact hc _ _ k2⟩
theorem row_some {w : World} {A : Option Addr} {l : List Ap} {cp : Nat} (h : w.ownsRow 0 73 3 (.slice A l.length cp) l.length (cellsOf l)) (hl : 0 < l.length) : ∃ ad, A = some ad := by
  rcases h.2 with ⟨_, e1⟩ | ⟨g, cap, cur, e1, e2⟩
  · omega
  · injection e1 with e1 _ _
    exact ⟨_, e1⟩
set_option maxRecDepth 100000 in
set_option maxHeartbeats 400000 in
theorem counting_calls {F : Nat → Prop} {p m : Nat} {cards place last : Int} {S : St} (w : World) (h : Book w F p m cards place last S) (L0 L1 L2 W : Int) (c : ByteArray) (hc : c.size ≤ maxLen) (now : Int) (h0 : 0 ≤ now) (h1 : now ≤ 9223372036854775807) (l : List Ap) (hl : S.get c = l) (hln : l.length ≤ 1000000) (hat : ∀ a ∈ l, 0 ≤ a.at_ ∧ a.at_ ≤ 9223372036854775807) :
    Calls Try.prog 19 #[.pointer (some ⟨p, 0, none⟩), .agg #[.int .i64 L0, .int .i64 L1, .int .i64 L2, .int .i64 W], .string c, .int .i64 now] w fun e w' => ∃ v, e = .returned v ∧ Kd.R (Kd.int .i64) 3 w' w.heap.size (fun _ => True) v (cnt W now l) ∧ Below w.heap.size w w' := by
  go_enter Try.func19, Try.ntmps19
  go_upto_region 2 with (fail)
  obtain ⟨w1, hw1⟩ : ∃ w1, w1 = w.alloc (.cells #[.int .i64 L0, .int .i64 L1, .int .i64 L2, .int .i64 W] 23) := ⟨_, rfl⟩
  rw [← hw1]
  have B1 : Below w.heap.size w w1 := by rw [hw1]; exact below_alloc (Below.refl _ _) _
  have hbk : Book w1 F p m cards place last S := h.kept (Chg.of_below B1 : Chg (fun _ => False) w w1) (fun _ _ hf => hf)
  have hbox : w1.heap[w.heap.size]? = some (.cells #[.int .i64 L0, .int .i64 L1, .int .i64 L2, .int .i64 W] 23 (0, 0)) := by rw [hw1]; exact heap_alloc_new _ _
  have hgl : w.heap.size < w1.heap.size := by rw [hw1]; exact Nat.lt_of_lt_of_eq (Nat.lt_succ_self _) (Array.size_push _).symm
  clear hw1
  obtain ⟨v, hrun, hrow, hblk⟩ := hbk.look c hc
  rw [hl] at hrow
  obtain ⟨k0, k1, k2, k3⟩ := hbk.cell
  clear k0 k2 k3
  obtain ⟨A, cp, rfl⟩ : ∃ A cp, v = .slice A l.length cp := by
    rcases hrow.2 with ⟨e1, e2⟩ | ⟨g, cap, cur, e1, _⟩
    · exact ⟨none, 0, by rw [e1, e2]⟩
    · exact ⟨_, _, e1⟩
  go_wp2_with (first | (at_lookup; refine look_event rfl 63 _ _ rfl m c rfl rfl hrun ?_))
  go_loopg [9, 19] l.length (fun kq v9 v19 w' => ∃ i : Nat, v19 = .int .i64 i ∧ Aside0 (i + kq = l.length) ∧ Aside0 (Kd.R (Kd.int .i64) 3 w' w1.heap.size (fun _ => True) v9 (cnt W now (l.take i))) ∧ Aside0 (Below w1.heap.size w1 w'))
  case atStart => exact ⟨0, rfl, ⟨by omega⟩, ⟨Kd.R_nil _ _ _ _ _⟩, ⟨Below.refl _ _⟩⟩
  case round =>
    obtain ⟨i, rfl, HK, HO, HB⟩ := hrel
    cases gk with
    | zero =>
      have e : i = l.length := by have := HK.out; omega
      subst e
      have c1 : decide ((l.length : Int) < (l.length : Int)) = false := decide_eq_false (by omega)
      go_wp2
      go_ret
      refine ⟨_, rfl, ?_, below_step B1 HB.out⟩
      have := HO.out
      rw [List.take_length] at this
      exact Kd.R_lower this B1.size
    | succ gk =>
      have hi : i < l.length := by have := HK.out; omega
      have c1 : decide ((i : Int) < (l.length : Int)) = true := decide_eq_true (by omega)
      have c2 : (0 ≤ (i : Int)) = True := eq_true (by omega)
      have c3 : ((i : Int) < (l.length : Int)) = True := eq_true (by omega)
      have c4 : (i < l.length) = True := eq_true hi
      obtain ⟨ad, rfl⟩ := row_some hrow (by omega)
      obtain ⟨x0, x1, x2⟩ := row_at hrow i hi
      replace x0 := pw_cell_below HB.out x0
      replace x1 := pw_cell_below HB.out x1
      replace x2 := pw_cell_below HB.out x2
      go_upto_region 5 with (fail)
      obtain ⟨wa, hwa⟩ : ∃ wa, wa = wr.alloc (.cells #[.int .i64 l[i].place, .int .i64 l[i].units, .int .i64 l[i].at_] 73) := ⟨_, rfl⟩
      rw [← hwa]
      have HBa : Below w1.heap.size w1 wa := by rw [hwa]; exact below_alloc HB.out _
      have HOa : Kd.R (Kd.int .i64) 3 wa w1.heap.size (fun _ => True) u9 (cnt W now (l.take i)) := by rw [hwa]; exact Kd.R_alloc HO.out _
      have hba : wa.heap[wr.heap.size]? = some (.cells #[.int .i64 l[i].place, .int .i64 l[i].units, .int .i64 l[i].at_] 73 (0, 0)) := by rw [hwa]; exact heap_alloc_new _ _
      have y1 : wa.cell? ⟨wr.heap.size, 1, none⟩ = some (.int .i64 l[i].units) := by simp [World.cell?, hba]
      have y2 : wa.cell? ⟨wr.heap.size, 2, none⟩ = some (.int .i64 l[i].at_) := by simp [World.cell?, hba]
      have hb3 : wa.cell? ⟨w.heap.size, 3, none⟩ = some (.int .i64 W) := by
        have e := (HBa.block _ hgl).trans hbox
        simp [World.cell?, e]
      clear hwa hba x0 x1 x2 HB HO
      have ew : wrap64 (now - l[i].at_) = now - l[i].at_ := by have := hat l[i] (List.getElem_mem hi); unfold wrap64; omega
      have ht : l.take (i + 1) = l.take i ++ [l[i]] := (List.take_append_getElem hi).symm
      have hcn := cnt_snoc W now (l.take i) l[i]
      by_cases hW : now - l[i].at_ < W
      · have d1 : decide (now - l[i].at_ < W) = true := decide_eq_true hW
        rw [if_pos hW, ← ht] at hcn
        have hcl : (cnt W now (l.take i)).length ≤ 1000000 := by
          unfold cnt
          rw [List.length_map]
          exact Nat.le_trans (List.length_filter_le _ _) (by rw [List.length_take]; omega)
        go_wp2_with (first | ((with_reducible refine gate_builtin (b := .append) (xs := #[.tmp 30, .tmp 33]) rfl ?_); at_builtin; refine Kd.R_append (Kd.int .i64) (w0 := w1) w1.heap.size rfl (.tmp 30) (.tmp 33) 60 3 (.int .i64 0) 8 rfl Try.underlying60 info3 rfl (by decide) (by omega) u9 (cnt W now (l.take i)) l[i].units [.int .i64 l[i].units] (fun _ => True) (fun _ => False) rfl rfl ?aP (fun _ hk => hk.elim) ?aF ?aO ?aB ?aS ?aL ?_; (case aP => exact rfl); (case aF => exact fun _ _ => trivial); (case aO => exact HOa); (case aB => exact HBa); (case aS => exact HBa.size); (case aL => omega); intro v5 w5 ho hb hg hat5))
        have e1 : wrap64 ((i : Int) + 1) = ((i + 1 : Nat) : Int) := by unfold wrap64; omega
        go_roundg gk
        case measure => omega
        case rel => exact ⟨i + 1, rfl, ⟨(Nat.add_right_comm i 1 gk).trans HK.out⟩, ⟨by rw [hcn]; exact ho⟩, ⟨hb⟩⟩
      · have d1 : decide (now - l[i].at_ < W) = false := decide_eq_false hW
        rw [if_neg hW, ← ht, List.append_nil] at hcn
        go_wp2
        have e1 : wrap64 ((i : Int) + 1) = ((i + 1 : Nat) : Int) := by unfold wrap64; omega
        go_roundg gk
        case measure => omega
        case rel => exact ⟨i + 1, rfl, ⟨(Nat.add_right_comm i 1 gk).trans HK.out⟩, ⟨by rw [hcn]; exact HOa⟩, ⟨HBa⟩⟩
end Go.Proofs.Ytgndgjjejgbmoaa.Bok
