/- A look-up whose value is named. -/
import Derived.Test.YtgndgjjejgbmoaaBk7
namespace Go.Proofs.Ytgndgjjejgbmoaa.Bok
open Go Go.RowKit Go.Maps Go.Proofs.YtgndgjjejgbmoaaW.PrintWords Go.Proofs.YtgndgjjejgbmoaaW.PrintLast Go.Proofs.YtgndgjjejgbmoaaW.PrintMore PStandinHolds
theorem atKey_any {D : DataW Value} {k : Lit} {z u : DataW Value} (hh : Maps.has D k = true) (h : D.atKey k .nil = u) : D.atKey k z = u := by
  revert h hh
  cases D with
  | map es =>
    intro hh k1
    simp only [DataW.atKey] at k1 ⊢
    cases he : es.find? (fun q => q.1.sameKey k) with
    | none =>
      exfalso
      rw [List.find?_eq_none] at he
      rw [Maps.has_eq, List.any_eq_true] at hh
      obtain ⟨q, hq, hq2⟩ := hh
      exact he q hq hq2
    | some q =>
      rw [he] at k1
      exact k1
  | _ => intro hh _; exact Bool.noConfusion hh
theorem Rows.look {w : World} {F : Nat → Prop} {p m n : Nat} {D : DataW Value} {v : ByteArray → Value} {S : St} (hn : (S.map (·.1)).Nodup) (hR : Rows w F p m S n D v) (c : ByteArray) (hc : c.size ≤ maxLen) :
    ∃ v0, (∀ w', w'.ownsMap Try.prog 9 raw m n D → (Instr.lookup 63 (.map (some m)) (.string c) false).run Try.prog w' = .ok v0 w') ∧ w.ownsRow 0 73 3 v0 (S.get c).length (cellsOf (S.get c)) ∧ (∀ b, v0.ownBlock = some b → F b ∧ b ≠ p ∧ b ≠ m) ∧
      ((S.has c = true ∧ v c = v0) ∨ (S.has c = false ∧ v0.ownBlock = none)) := by
  have run : ∀ v0, D.atKey (key c) (.held (.slice none 0 0)) = .held v0 → ∀ w', w'.ownsMap Try.prog 9 raw m n D → (Instr.lookup 63 (.map (some m)) (.string c) false).run Try.prog w' = .ok v0 w' := by
    intro v0 h0 w' hw'
    have hz : (zeroValue 71).run Try.prog w' = .ok (.slice none 0 0) w' := by
      simp [zeroValue]
      rfl
    obtain ⟨u, ps, hrun, hu⟩ := hw'.lookup (string_keyed Try.underlying9) Try.underlying63 hz (zd := .held (.slice none 0 0)) (zp := []) rfl (Go.WideMaps.keyOf_string_mk Try.underlying9 hc)
    injection hu with hu
    injection hu with hu _
    have e : DataW.held u = DataW.held v0 := hu.trans h0
    injection e with e
    rw [← e]
    exact hrun
  have hh := hR.has c
  cases hb : S.has c with
  | false =>
    rw [hb] at hh
    refine ⟨.slice none 0 0, run _ (Maps.atKey_of_not_has (k := key c) hh _), by rw [get_none hb]; exact World.ownsRow_nil _ _ _ _, (fun b hb => by cases hb), .inr ⟨rfl, rfl⟩⟩
  | true =>
    obtain ⟨x, hx, rfl⟩ := mem_of_has hb
    obtain ⟨k1, k2, k3⟩ := hR.row x hx
    rw [hb] at hh
    exact ⟨v x.1, run _ (atKey_any hh k1), by rw [get_of_mem hn hx]; exact k2, k3, .inl ⟨rfl, rfl⟩⟩
theorem Rows.kept {w w' : World} {F : Nat → Prop} {p m n : Nat} {D : DataW Value} {v : ByteArray → Value} {S : St} (hR : Rows w F p m S n D v) (hm : F m) (hpm : p ≠ m) (hb : ∀ i, F i → i ≠ p → w'.heap[i]? = w.heap[i]?) : Rows w' F p m S n D v := by
  refine ⟨?_, hR.size, hR.has, fun x hx => ?_, hR.apart⟩
  · obtain ⟨es, clock, e1, e2⟩ := hR.map
    exact ⟨es, clock, (hb m hm (fun e => hpm e.symm)).trans e1, e2⟩
  · obtain ⟨k1, k2, k3⟩ := hR.row x hx
    refine ⟨k1, ⟨k2.1, ?_⟩, k3⟩
    rcases k2.2 with h' | ⟨g, cap, cur, e1, e2, e3, e4⟩
    · exact .inl h'
    · have hg := k3 g (by rw [e1]; rfl)
      exact .inr ⟨g, cap, cur, e1, e2, (hb g hg.1 hg.2.1).trans e3, e4⟩
theorem Chg.drewN {F : Nat → Prop} {w w' : World} (h : Chg F w w') (k : Nat) : Chg F w (w'.drewN k) := ⟨h.os, h.tape, h.output, h.size, h.block⟩
end Go.Proofs.Ytgndgjjejgbmoaa.Bok
