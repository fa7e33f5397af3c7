/- Contract: Undo. -/
import Derived.Test.YtgndgjjejgbmoaaBk11
namespace Go.Proofs.Ytgndgjjejgbmoaa.Bok
open Go Go.RowKit Go.Maps Go.Proofs.YtgndgjjejgbmoaaW.PrintWords Go.Proofs.YtgndgjjejgbmoaaW.PrintLast Go.Proofs.YtgndgjjejgbmoaaW.PrintMore PStandinHolds
theorem map_lower {w : World} {m n : Nat} {D : DataW Value} (h : w.ownsMap Try.prog 9 raw m n D) {n' : Nat} (hn : Maps.size D ≤ n') : w.ownsMap Try.prog 9 raw m n' D := by
  obtain ⟨es, clock, hb, F, hs, rfl⟩ := h
  refine ⟨es, clock, hb, F, ?_, rfl⟩
  have e1 : Maps.size (DataW.map ((es.toList.map (WideElems.rg Try.prog 9 raw)).foldr DataW.insert [])) = es.size := by simp [Maps.size, length_sorted]
  rw [e1] at hn
  exact hn
theorem Book.del2_ {w w3 : World} {F : Nat → Prop} {p m : Nat} {cards place last : Int} {S : St} (h : Book w F p m cards place last S) {n : Nat} {D : DataW Value} {v : ByteArray → Value} (hn : (n : Int) ≤ place) (hR : Rows w F p m S n D v)
    {c : ByteArray} {g : Nat} (hh : S.has c = true) (hv : (v c).ownBlock = some g) (hm3 : w3.ownsMap Try.prog 9 raw m n (D.del (key c))) (hsz : w.heap.size ≤ w3.heap.size) (hb : ∀ k, k < w.heap.size → k ≠ m → k ≠ g → w3.heap[k]? = w.heap[k]?) : Book w3 F p m cards place last (S.del c) := by
  have hpm := h.p_ne_m
  have hTidy := hR.map.tidy (string_keyed Try.underlying9)
  obtain ⟨y, hy, ey⟩ := mem_of_has hh
  have hgp : p ≠ g := by
    intro e
    have := ((hR.row y hy).2.2 g (by rw [ey]; exact hv)).2.1
    exact this e.symm
  refine ⟨?_, h.inp, h.inm, fun i hi => Nat.lt_of_lt_of_le (h.lt i hi) hsz, nodup_del h.nodup c, fun x hx => h.full x (mem_del.mp hx).1, h.place0, n, D.del (key c), v, hn, hm3, ?_, ?_, ?_, ?_⟩
  · exact (hb p (h.lt p h.inp) hpm hgp).trans h.strct
  · have h1 := Maps.size_del (k := key c) hTidy
    rw [hR.has, hR.size] at h1
    have h2 := len_del h.nodup c
    split at h1 <;> simp_all <;> omega
  · intro d
    rw [has_del]
    by_cases hd : d = c
    · subst hd
      rw [Maps.has_del_same]
      simp
    · rw [Maps.has_del_other (fun e => hd (key_inj e)), hR.has]
      simp [hd]
  · intro x hx
    obtain ⟨hx, hne⟩ := mem_del.mp hx
    obtain ⟨r1, r2, r3⟩ := hR.row x hx
    refine ⟨(Maps.atKey_del_other (fun e => hne (key_inj e)) _).trans r1, ⟨r2.1, ?_⟩, r3⟩
    rcases r2.2 with h' | ⟨g', cap, cur, e1, e2, e3, e4⟩
    · exact .inl h'
    · have e5 : (v x.1).ownBlock = some g' := by rw [e1]; rfl
      have hg := r3 g' e5
      refine .inr ⟨g', cap, cur, e1, e2, (hb g' (h.lt g' hg.1) hg.2.2 (fun e => ?_)).trans e3, e4⟩
      subst e
      exact hR.apart x hx y hy (fun e => hne (e.trans ey)) g' e5 (by rw [ey]; exact hv)
  · intro x hx y hy
    exact hR.apart x (mem_del.mp hx).1 y (mem_del.mp hy).1
theorem upd_event {P : Program} {ops : Array Oper} {rest : List Oper} {o : Oper} {a : Act} {Q : Exit → Act → World → Prop} {W W' : World} (hgd : o.guard = none) (t : TypeId) (mm x y : Operand) (ho : o.op = .mapUpdate t mm x y) (m : Nat) (c : ByteArray) (v : Value) (hm : a.eval mm = .map (some m)) (hx : a.eval x = .string c) (hy : a.eval y = v)
    (hrun : (Instr.mapUpdate t (.map (some m)) (.string c) v).run P W = .ok () W') (h : wpList P ops Q rest (a.put o.dst undef) W') : wpList P ops Q (o :: rest) a W := by
  refine wpList_plain hgd fun K hK => ?_
  unfold Oper.wp
  simp [execOp, ho, hm, hx, hy, hrun, Result.andThen]
  exact hK _ _ h
theorem Chg.of_turned {w w' : World} {m : Nat} {F : Nat → Prop} (h : w.mapTurned w' m) (hm : F m) : Chg F w w' := by
  obtain ⟨es, clock, es', clock', hb, rfl⟩ := h
  exact ⟨rfl, rfl, rfl, by simp [Go.ChangeMaps.setBlock], fun i _ hi => Go.ChangeMaps.heap_setBlock_other hb _ (fun e => hi (by rw [e]; exact hm))⟩
/-- What Undo leaves. -/
def undoS (S : St) (c : ByteArray) (u t : Int) : St := match (S.get c).findIdx? (hit u t) with
  | none => S
  | some i => if (S.get c).length = 1 then S.del c else S.put c ((S.get c).eraseIdx i)
def undoE (S : St) (c : ByteArray) (u t : Int) : Bool := ((S.get c).findIdx? (hit u t)).isSome
theorem has_of_get {S : St} {c : ByteArray} (h : 0 < (S.get c).length) : S.has c = true := by
  cases hb : S.has c with
  | true => rfl
  | false => rw [get_none hb] at h; simp at h
set_option maxRecDepth 100000 in
set_option maxHeartbeats 1000000 in
theorem undo_calls {F : Nat → Prop} {p m : Nat} {cards place last : Int} {S : St} (w : World) (h : Book w F p m cards place last S) (c : ByteArray) (hc : c.size ≤ maxLen) (u t : Int) (hln : (S.get c).length ≤ 1000000) (hpl : place ≤ 1000000) :
    Calls Try.prog 17 #[.pointer (some ⟨p, 0, none⟩), .string c, .int .i64 u, .int .i64 t] w fun e w' => e = .returned (.bool (undoE S c u t)) ∧ ∃ F', Book w' F' p m cards place last (undoS S c u t) ∧ Chg F w w' ∧ ∀ i, F' i → F i ∨ w.heap.size ≤ i := by
  obtain ⟨l, hl⟩ : ∃ l, S.get c = l := ⟨_, rfl⟩
  unfold undoE undoS
  rw [hl] at hln ⊢
  obtain ⟨EB, hEB⟩ : ∃ EB, EB = (l.findIdx? (hit u t)).isSome := ⟨_, rfl⟩
  obtain ⟨S', hS'⟩ : ∃ S', S' = (match l.findIdx? (hit u t) with
  | none => S
  | some i => if l.length = 1 then S.del c else S.put c (l.eraseIdx i)) := ⟨_, rfl⟩
  rw [← hEB, ← hS']
  replace hEB := Aside0.mk hEB
  replace hS' := Aside0.mk hS'
  go_enter Try.func17, Try.ntmps17
  go_upto_region 1 with (fail)
  obtain ⟨w1, hw1⟩ : ∃ w1, w1 = (w.alloc (.cells #[.int .i64 u] 3)).alloc (.cells #[.int .i64 t] 3) := ⟨_, rfl⟩
  rw [← hw1]
  have B1 : Below w.heap.size w w1 := by rw [hw1]; exact below_alloc (below_alloc (Below.refl _ _) _) _
  have hbk : Book w1 F p m cards place last S := h.kept (Chg.of_below B1 : Chg (fun _ => False) w w1) (fun _ _ hf => hf)
  have hsz : (w.alloc (.cells #[.int .i64 u] 3)).heap.size = w.heap.size + 1 := Array.size_push _
  have hb2 : w1.heap[w.heap.size + 1]? = some (.cells #[.int .i64 t] 3 (0, 0)) := by rw [hw1, ← hsz]; exact heap_alloc_new _ _
  have hb1 : w1.heap[w.heap.size]? = some (.cells #[.int .i64 u] 3 (0, 0)) := by
    rw [hw1]
    exact (heap_alloc_old _ _ (by omega)).trans (heap_alloc_new _ _)
  have x1 : w1.cell? ⟨w.heap.size, 0, none⟩ = some (.int .i64 u) := by simp [World.cell?, hb1]
  have x2 : w1.cell? ⟨w.heap.size + 1, 0, none⟩ = some (.int .i64 t) := by simp [World.cell?, hb2]
  clear hw1 hb1 hb2
  obtain ⟨n, D, vv, hnp, hR⟩ := hbk.open_
  obtain ⟨v, hrun, hrow, hblk, hvv⟩ := Rows.look hbk.nodup hR c hc
  rw [hl] at hrow
  replace hrun := hrun w1 hR.map
  obtain ⟨k0, k1, k2, k3⟩ := hbk.cell
  clear k0 k2 k3
  obtain ⟨A, cp, rfl⟩ : ∃ A cp, v = .slice A l.length cp := by
    rcases hrow.2 with ⟨e1, e2⟩ | ⟨g, cap, cur, e1, _⟩
    · exact ⟨none, 0, by rw [e1, e2]⟩
    · exact ⟨_, _, e1⟩
  have hidx := index_calls w1 A cp l hrow hln w.heap.size (w.heap.size + 1) u t x1 x2
  clear x1 x2
  cases hf : l.findIdx? (hit u t) with
  | none =>
    have hat : hitAt u t l = -1 := by unfold hitAt; rw [hf]
    rw [hat] at hidx
    have hc1 : decide ((-1 : Int) < 0) = true := rfl
    go_wp2_with (first | (at_lookup; refine look_event rfl 63 _ _ rfl m c rfl rfl hrun ?_) | (go_at_call 27; with_reducible refine hidx.mono ?_; rintro e w2 ⟨rfl, hB2⟩))
    go_ret
    have hB : Below w.heap.size w w2 := below_step B1 hB2
    have q1 := hEB.out
    have q2 := hS'.out
    rw [hf] at q1 q2
    subst q2
    rw [q1]
    exact ⟨rfl, F, h.kept (Chg.of_below hB : Chg (fun _ => False) w w2) (fun _ _ hf => hf), Chg.of_below hB, fun i hi => .inl hi⟩
  | some i =>
    have hat : hitAt u t l = i := by unfold hitAt; rw [hf]
    rw [hat] at hidx
    have hi : i < l.length := (List.findIdx?_eq_some_iff_getElem.mp hf).1
    obtain ⟨mm, hmm⟩ : ∃ mm, l.length = i + 1 + mm := ⟨l.length - (i + 1), by omega⟩
    obtain ⟨g, rfl⟩ : ∃ g, A = some ⟨g, 0, none⟩ := by
      rcases hrow.2 with ⟨e1, e2⟩ | ⟨g, cap, cur, e1, _⟩
      · omega
      · injection e1 with e1
        exact ⟨g, e1⟩
    have hh : S.has c = true := has_of_get (by rw [hl]; omega)
    replace hvv : vv c = .slice (some ⟨g, 0, none⟩) l.length cp := by
      rcases hvv with ⟨_, e⟩ | ⟨e, _⟩
      · exact e
      · rw [hh] at e; cases e
    obtain ⟨hFg, hgp, hgm⟩ := hblk g rfl
    have hc1 : decide ((i : Int) < 0) = false := decide_eq_false (by omega)
    have e1 : wrap64 ((i : Int) + 1) = ((i + 1 : Nat) : Int) := by unfold wrap64; omega
    obtain ⟨k, hk⟩ : ∃ k, k = i + mm := ⟨_, rfl⟩
    have hHF := Aside0.mk hf
    have hMM := Aside0.mk hmm
    have hdel : ∀ w2, Below w1.heap.size w1 w2 → Calls Try.prog 29 #[.slice (some ⟨g, 0, none⟩) l.length cp, .int .i64 i, .int .i64 ((i : Int) + 1)] w2 fun e w' => e = .returned (.slice (some ⟨g, 0, none⟩) k cp) ∧ w'.ownsRow 0 73 3 (.slice (some ⟨g, 0, none⟩) k cp) k (cellsOf (l.eraseIdx i)) ∧ w2.grownBy w' (some g) := by
      intro w2 hB2
      have hr2 : w2.ownsRow 0 73 3 (.slice (some ⟨g, 0, none⟩) l.length cp) l.length (cellsOf l) := by
        refine ⟨hrow.1, ?_⟩
        rcases hrow.2 with ⟨e1, e2⟩ | ⟨g', cap, cur, e1, e2, e3, e4⟩
        · exact .inl ⟨e1, e2⟩
        · refine .inr ⟨g', cap, cur, e1, e2, (hB2.block g' ?_).trans e3, e4⟩
          exact hbk.lt g' (hblk g' (by rw [e1]; rfl)).1
      have := delete_calls w2 g cp i mm l hr2 hmm hln
      rw [← hk] at this
      exact this
    have hlk : l.length = k + 1 := by rw [hmm, hk]; exact Nat.add_right_comm i 1 mm
    have hlE : (l.eraseIdx i).length = k := by rw [List.length_eraseIdx_of_lt hi, hlk]; rfl
    have hLK := Aside0.mk hlk
    clear hf hmm hlk hk
    have hp1 : ∀ w2 w3, Below w1.heap.size w1 w2 → w2.grownBy w3 (some g) → w3.cell? ⟨p, 1, none⟩ = some (.map (some m)) := fun w2 w3 a b =>
      b.cell (pw_cell_below a k1) (fun e => hgp (by injection e with e; exact e.symm))
    have hmp : ∀ w2 w3, Below w1.heap.size w1 w2 → w2.grownBy w3 (some g) → w3.ownsMap Try.prog 9 raw m n D := fun w2 w3 a b =>
      (hR.kept hbk.inm hbk.p_ne_m (fun i hi _ => a.block i (hbk.lt i hi))).map.kept b (fun e => hgm (by injection e with e; exact e.symm))
    have hdr : ∀ w2 w3, Below w1.heap.size w1 w2 → w2.grownBy w3 (some g) → ∃ w4, (Builtin.delete_ #[63, 9] 0 #[.map (some m), .string c]).run Try.prog w3 = .ok (.tuple #[]) w4 ∧ w4.ownsMap Try.prog 9 raw m n (D.del (key c)) ∧ w3.mapTurned w4 m := fun w2 w3 a b =>
      (hmp w2 w3 a b).drop (string_keyed Try.underlying9) Try.underlying63 (Go.WideMaps.keyOf_string_mk Try.underlying9 hc) 0
    rcases Nat.eq_zero_or_pos k with hk0 | hk0
    · have hks : k = 0 := hk0
      have d1 : decide ((k : Int) = 0) = true := decide_eq_true (by omega)
      have d2 : ((k : Int) == 0) = true := by rw [hks]; rfl
      go_wp2_with (first
        | (at_lookup; refine look_event rfl 63 _ _ rfl m c rfl rfl hrun ?_)
        | (go_at_call 27; with_reducible refine hidx.mono ?_; rintro e w2 ⟨rfl, hB2⟩)
        | (go_at_call 29; with_reducible refine (hdel w2 hB2).mono ?_; rintro e w3 ⟨rfl, hO, hG⟩; have hp3 := hp1 w2 w3 hB2 hG; obtain ⟨w4, hrun4, hm4, ht4⟩ := hdr w2 w3 hB2 hG))
      go_ret
      have q1 := hEB.out
      have q2 := hS'.out
      rw [hHF.out] at q1 q2
      have hl1 : l.length = 1 := by rw [hLK.out, hks]
      simp only [hl1, if_true] at q2
      subst q2
      rw [q1]
      have hR2 := hR.kept hbk.inm hbk.p_ne_m (fun i hi _ => hB2.block i (hbk.lt i hi))
      have hb2 : Book w2 F p m cards place last S := hbk.kept (Chg.of_below hB2 : Chg (fun _ => False) w1 w2) (fun _ _ hf => hf)
      have hC3 : Chg (fun k => k = g) w2 w3 := Chg.of_grown hG (fun k e => by injection e with e; exact e.symm)
      have hC4 : Chg (fun k => k = m) w3 w4 := Chg.of_turned ht4 rfl
      refine ⟨rfl, F, hb2.del2_ hnp hR2 hh (by rw [hvv]; rfl) hm4 (Nat.le_trans hC3.size hC4.size) (fun k hk h1 h2 => (hC4.block k (Nat.lt_of_lt_of_le hk hC3.size) h1).trans (hC3.block k hk h2)), ?_, fun i hi => .inl hi⟩
      exact (((Chg.of_below (below_step B1 hB2) : Chg F w w2).trans hC3 (fun i _ e => by rw [e]; exact hFg))).trans hC4 (fun i _ e => by rw [e]; exact hbk.inm)
    · have d1 : decide ((k : Int) = 0) = false := decide_eq_false (by omega)
      have d2 : ((k : Int) == 0) = false := by rw [← Bool.not_eq_true, beq_iff_eq]; omega
      have hnl : n < maxLen := by unfold maxLen; omega
      have hup : ∀ w2 w3, Below w1.heap.size w1 w2 → w2.grownBy w3 (some g) → ∃ w4, (Instr.mapUpdate 63 (.map (some m)) (.string c) (.slice (some ⟨g, 0, none⟩) k cp)).run Try.prog w3 = .ok () w4 ∧ w4.ownsMap Try.prog 9 raw m (n + 1) (D.put (key c) (.held (.slice (some ⟨g, 0, none⟩) k cp))) ∧ w3.mapTurned w4 m := fun w2 w3 a b =>
        (hmp w2 w3 a b).store (string_keyed Try.underlying9) Try.underlying63 hnl (Go.WideMaps.keyOf_string_mk Try.underlying9 hc) (ps := []) rfl
      go_wp2_with (first
        | (at_lookup; refine look_event rfl 63 _ _ rfl m c rfl rfl hrun ?_)
        | (go_at_call 27; with_reducible refine hidx.mono ?_; rintro e w2 ⟨rfl, hB2⟩)
        | (go_at_call 29; with_reducible refine (hdel w2 hB2).mono ?_; rintro e w3 ⟨rfl, hO, hG⟩; have hp3 := hp1 w2 w3 hB2 hG; obtain ⟨w4, hrun4, hm4, ht4⟩ := hup w2 w3 hB2 hG)
        | (at_mapUpdate; refine upd_event rfl 63 _ _ _ rfl m c _ rfl rfl rfl hrun4 ?_))
      go_ret
      have q1 := hEB.out
      have q2 := hS'.out
      rw [hHF.out] at q1 q2
      have hl1 : ¬ l.length = 1 := by rw [hLK.out]; omega
      simp only [hl1, if_false] at q2
      subst q2
      rw [q1]
      have hR2 := hR.kept hbk.inm hbk.p_ne_m (fun i hi _ => hB2.block i (hbk.lt i hi))
      have hb2 : Book w2 F p m cards place last S := hbk.kept (Chg.of_below hB2 : Chg (fun _ => False) w1 w2) (fun _ _ hf => hf)
      have hC3 : Chg (fun k => k = g) w2 w3 := Chg.of_grown hG (fun k e => by injection e with e; exact e.symm)
      have hC4 : Chg (fun k => k = m) w3 w4 := Chg.of_turned ht4 rfl
      have hm5 : w4.ownsMap Try.prog 9 raw m n (D.put (key c) (.held (.slice (some ⟨g, 0, none⟩) k cp))) := by
        refine map_lower hm4 ?_
        rw [Maps.size_put (hR.map.tidy (string_keyed Try.underlying9)), hR.has, hh]
        exact hR.map.size_le
      have hg4 : w3.grownBy w4 (some m) := ⟨hC4.os, hC4.tape, hC4.output, hC4.size, fun k hk hne => hC4.block k hk (fun e => hne (by rw [e]))⟩
      have hne : l.eraseIdx i ≠ [] := fun e => by rw [e] at hlE; simp at hlE; omega
      have hb4 := hb2.put_ (v0 := .slice (some ⟨g, 0, none⟩) l.length cp) hnp hR2 (.inl ⟨hh, hvv⟩) (.slice (some ⟨g, 0, none⟩) k cp) (l.eraseIdx i) hne (by rw [hlE]; exact hO) hG (.inl rfl) hm5 hg4
      refine ⟨rfl, _, hb4, ?_, fun i hi => ?_⟩
      · exact (((Chg.of_below (below_step B1 hB2) : Chg F w w2).trans hC3 (fun i _ e => by rw [e]; exact hFg))).trans hC4 (fun i _ e => by rw [e]; exact hbk.inm)
      · rcases hi with hi | hi
        · exact .inl hi
        · injection hi with hi
          exact .inl (hi ▸ hFg)
end Go.Proofs.Ytgndgjjejgbmoaa.Bok
