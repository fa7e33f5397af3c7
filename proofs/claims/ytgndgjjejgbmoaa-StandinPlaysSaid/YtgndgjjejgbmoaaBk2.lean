/- Contract: counting. -/
import Derived.Test.YtgndgjjejgbmoaaBk1
namespace Go.Proofs.Ytgndgjjejgbmoaa.Bok
open Go Go.RowKit Go.Maps Go.Proofs.YtgndgjjejgbmoaaW.PrintWords Go.Proofs.YtgndgjjejgbmoaaW.PrintLast Go.Proofs.YtgndgjjejgbmoaaW.PrintMore
theorem get_of_mem {S : St} (hn : (S.map (·.1)).Nodup) {x : ByteArray × List Ap} (hx : x ∈ S) : S.get x.1 = x.2 := by
  induction S with
  | nil => cases hx
  | cons y S ih =>
    unfold St.get
    simp only [List.find?_cons]
    rcases List.mem_cons.mp hx with rfl | hx'
    · simp
    · rw [List.map_cons, List.nodup_cons] at hn
      have hne : y.1 ≠ x.1 := fun e => hn.1 (by rw [e]; exact List.mem_map.mpr ⟨x, hx', rfl⟩)
      simp only [hne, decide_false]
      exact ih hn.2 hx'
theorem get_none {S : St} {c : ByteArray} (h : S.has c = false) : S.get c = [] := by
  unfold St.has at h
  unfold St.get
  have : S.find? (fun x => decide (x.1 = c)) = none := by
    rw [List.find?_eq_none]
    intro x hx
    have := List.any_eq_false.mp h x hx
    exact this
  rw [this]
theorem mem_of_has {S : St} {c : ByteArray} (h : S.has c = true) : ∃ x ∈ S, x.1 = c := by
  unfold St.has at h
  rw [List.any_eq_true] at h
  obtain ⟨x, hx, e⟩ := h
  exact ⟨x, hx, of_decide_eq_true e⟩
/-- What a look-up finds. -/
theorem Book.look {w : World} {F : Nat → Prop} {p m : Nat} {cards place last : Int} {S : St} (h : Book w F p m cards place last S) (c : ByteArray) (hc : c.size ≤ maxLen) :
    ∃ v, (Instr.lookup 63 (.map (some m)) (.string c) false).run Try.prog w = .ok v w ∧ w.ownsRow 0 73 3 v (S.get c).length (cellsOf (S.get c)) ∧ (∀ b, v.ownBlock = some b → F b ∧ b ≠ p ∧ b ≠ m) := by
  obtain ⟨n, D, v, h1, h2, h3, h4, h5, h6⟩ := h.rows
  have hz : (zeroValue 71).run Try.prog w = .ok (.slice none 0 0) w := by
    simp [zeroValue]
    rfl
  obtain ⟨u, ps, hrun, hu⟩ := h2.lookup (string_keyed Try.underlying9) Try.underlying63 hz (zd := .held (.slice none 0 0)) (zp := []) rfl (Go.WideMaps.keyOf_string_mk Try.underlying9 hc)
  injection hu with hu
  injection hu with hu _
  have hh := h4 c
  change DataW.held u = D.atKey (key c) _ at hu
  cases hb : S.has c with
  | false =>
    rw [hb] at hh
    rw [Maps.atKey_of_not_has (k := key c) hh] at hu
    injection hu with hu
    subst hu
    exact ⟨_, hrun, by rw [get_none hb]; exact World.ownsRow_nil _ _ _ _, fun b hb => by cases hb⟩
  | true =>
    obtain ⟨x, hx, rfl⟩ := mem_of_has hb
    obtain ⟨k1, k2, k3⟩ := h5 x hx
    have k1' : D.atKey (key x.1) (.held (.slice none 0 0)) = .held (v x.1) := by
      rw [hb] at hh
      revert k1 hh
      cases D with
      | map es =>
        intro hh k1
        simp only [DataW.atKey] at k1 ⊢
        cases he : es.find? (fun q => q.1.sameKey (key x.1)) with
        | none =>
          exfalso
          rw [List.find?_eq_none] at he
          rw [Maps.has_eq, List.any_eq_true] at hh
          obtain ⟨q, hq, hq2⟩ := hh
          exact he q hq hq2
        | some q =>
          rw [he] at k1
          exact k1
      | _ => intro hh _; exact Bool.noConfusion hh
    have hu' : DataW.held u = DataW.held (v x.1) := hu.trans k1'
    injection hu' with hu'
    subst hu'
    exact ⟨_, hrun, by rw [get_of_mem h.nodup hx]; exact k2, k3⟩
end Go.Proofs.Ytgndgjjejgbmoaa.Bok
