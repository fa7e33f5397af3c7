/- Contract: oldest. -/
import Derived.Test.YtgndgjjejgbmoaaBk4
namespace Go.Proofs.Ytgndgjjejgbmoaa.Bok
open Go Go.RowKit Go.Maps Go.Proofs.YtgndgjjejgbmoaaW.PrintWords Go.Proofs.YtgndgjjejgbmoaaW.PrintLast Go.Proofs.YtgndgjjejgbmoaaW.PrintMore PStandinHolds
/-- The place of the last approval. -/
def lastP (l : List Ap) : Int := match l.getLast? with | some a => a.place | none => -1
theorem lastP_get {l : List Ap} (h : 0 < l.length) : lastP l = (l[l.length - 1]'(by omega)).place := by
  unfold lastP
  rw [List.getLast?_eq_getElem?, List.getElem?_eq_getElem (by omega)]
/-- The card whose last approval is the oldest. -/
def Oldest (S : St) (c : ByteArray) : Prop := ∃ x ∈ S, x.1 = c ∧ ∀ y ∈ S, lastP x.2 ≤ lastP y.2
theorem key_inv {v : Value} {kl : Lit} (h : keyOf Try.prog 9 v = some kl) : ∃ x : ByteArray, v = .string x ∧ kl = key x := by
  rw [Go.keyOf_string Try.underlying9] at h
  unfold mapKey at h
  rw [Try.underlying9] at h
  cases v <;> simp at h
  exact ⟨_, rfl, h.2.symm⟩
theorem key_same (x y : ByteArray) : (key x).sameKey (key y) = decide (x = y) := by
  by_cases h : x = y
  · subst h
    rw [decide_eq_true rfl]
    exact WideAt.sameKey_self trivial
  · rw [decide_eq_false h]
    exact Maps.sameKey_ne (fun e => h (key_inj e))
/-- What the loop knows: of the cards that have come, the oldest. -/
def Seen (S : St) (left : Lit → Bool) (c : ByteArray) (pl : Int) : Prop := (pl = -1 ∧ ∀ x ∈ S, left (key x.1) = true) ∨ (0 ≤ pl ∧ ∃ x ∈ S, x.1 = c ∧ lastP x.2 = pl ∧ ∀ y ∈ S, left (key y.1) = false → pl ≤ lastP y.2)
theorem seen_next {S : St} (hn : (S.map (·.1)).Nodup) (hp : ∀ x ∈ S, 0 ≤ lastP x.2) {left : Lit → Bool} {c : ByteArray} {pl : Int} (h : Seen S left c pl) {z : ByteArray × List Ap} (hz : z ∈ S) :
    (pl < 0 ∨ lastP z.2 < pl → Seen S (fun x => left x && !x.sameKey (key z.1)) z.1 (lastP z.2)) ∧ (0 ≤ pl ∧ pl ≤ lastP z.2 → Seen S (fun x => left x && !x.sameKey (key z.1)) c pl) := by
  have same : ∀ y ∈ S, y.1 = z.1 → y.2 = z.2 := fun y hy e => by
    rw [← get_of_mem hn hy, ← get_of_mem hn hz, e]
  refine ⟨fun hlt => .inr ⟨hp z hz, z, hz, rfl, rfl, fun y hy hl => ?_⟩, fun hge => ?_⟩
  · simp only [Bool.and_eq_false_iff, Bool.not_eq_false'] at hl
    rcases hl with hl | hl
    · rcases h with ⟨h1, h2⟩ | ⟨h1, x, hx, _, _, h5⟩
      · rw [h2 y hy] at hl
        cases hl
      · have := h5 y hy hl
        omega
    · rw [key_same] at hl
      rw [same y hy (of_decide_eq_true hl)]
      omega
  · rcases h with ⟨h1, _⟩ | ⟨h1, x, hx, h3, h4, h5⟩
    · omega
    · refine .inr ⟨h1, x, hx, h3, h4, fun y hy hl => ?_⟩
      simp only [Bool.and_eq_false_iff, Bool.not_eq_false'] at hl
      rcases hl with hl | hl
      · exact h5 y hy hl
      · rw [key_same] at hl
        rw [same y hy (of_decide_eq_true hl)]
        exact hge.2
set_option maxRecDepth 100000 in
set_option maxHeartbeats 400000 in
theorem oldest_calls {F : Nat → Prop} {p m : Nat} {cards place last : Int} {S : St} (w : World) (h : Book w F p m cards place last S) (hS : S ≠ []) (hp : ∀ x ∈ S, 0 ≤ lastP x.2 ∧ x.2.length ≤ 1000000) (hsz : ∀ x ∈ S, x.1.size ≤ maxLen) :
    Calls Try.prog 22 #[.pointer (some ⟨p, 0, none⟩)] w fun e w' => ∃ c, e = .returned (.string c) ∧ Oldest S c ∧ Below w.heap.size w w' := by
  obtain ⟨k0, k1, k2, k3⟩ := h.cell
  clear k0 k2 k3
  obtain ⟨n, D, v, h1, h2, h3, h4, h5, h6⟩ := h.rows
  go_enter Try.func22, Try.ntmps22
  go_wp2_with (first | ((with_reducible refine gate_dst (N := 12) rfl ?_); refine wpList_range_own _ rfl _ 63 rfl 9 71 (string_keyed Try.underlying9) Try.underlying63 raw m n D rfl h2 ?_; intro w1 HR hg hs))
  simp only [Act.put, List.setIfInBounds_toArray, List.set_cons_zero, List.set_cons_succ]
  go_loopg [3, 4] S.length (fun kq v3 v4 w' => ∃ (c : ByteArray) (pl : Int) (left : Lit → Bool) (cnt : Nat), v3 = .string c ∧ v4 = .int .i64 pl ∧ Aside0 (cnt ≤ kq) ∧ Aside0 (w'.ranges Try.prog 9 raw m w.heap.size n D left cnt) ∧ Aside0 (Below w.heap.size w w') ∧
    Aside0 (Seen S left c pl))
  case atStart =>
    refine ⟨_, _, _, _, rfl, rfl, ⟨Nat.le_of_eq h3⟩, ⟨HR⟩, ⟨⟨hg.os, hg.tape, hg.output, hg.size, fun i hi => hg.block i hi (by simp)⟩⟩, ⟨.inl ⟨rfl, fun x hx => ?_⟩⟩⟩
    rw [h4]
    unfold St.has
    rw [List.any_eq_true]
    exact ⟨x, hx, decide_eq_true rfl⟩
  case round =>
    obtain ⟨c, pl, left, cnt, rfl, rfl, HK, HR1, HB, HI⟩ := hrel
    go_wp2_with (first
      | ((with_reducible refine gate_dst (N := 13) rfl ?_); refine wpList_next_ranges _ rfl _ rfl 9 (string_keyed Try.underlying9) raw Value.string (id : Value → Value) ?iK ?iV m w.heap.size n D left cnt rfl HR1.out ?dn ?mr))
    case iK => exact fun key kl hk => by obtain ⟨x, e, _⟩ := key_inv hk; exact ⟨x, e⟩
    case iV => exact fun v y _ => ⟨v, rfl⟩
    case dn =>
      intro h0 hl
      go_wp2
      go_ret
      refine ⟨c, rfl, ?_, HB.out⟩
      rcases HI.out with ⟨_, hx⟩ | ⟨_, x, hx, e1, e2, e3⟩
      · obtain ⟨x, S', rfl⟩ := List.exists_cons_of_ne_nil hS
        have := hx x (List.mem_cons_self)
        rw [hl] at this
        cases this
      · exact ⟨x, hx, e1, fun y hy => by rw [e2]; exact e3 y hy (hl _)⟩
    case mr =>
      intro x cv kl yd yp w' cnt' hkey hlk hv hat hrg hlt hgr hsz hen
      obtain ⟨x', e1, e2⟩ := key_inv hkey
      injection e1 with e1
      subst e1
      subst e2
      have hhas : St.has S x = true := by rw [← h4]; exact Maps.has_true_of_atKey hat
      obtain ⟨z, hz, rfl⟩ := mem_of_has hhas
      obtain ⟨r1, r2, r3⟩ := h5 z hz
      have hB' : Below w.heap.size w w' := HB.out.trans ⟨hgr.os, hgr.tape, hgr.output, hgr.size, fun i hi => hgr.block i (Nat.lt_of_lt_of_le hi HB.out.size) (fun e => by injection e with e; omega)⟩
      have ecv : cv = v z.1 := by
        rw [hat] at r1
        injection hv with hv
        injection hv with hv _
        rw [← hv] at r1
        injection r1
      subst ecv
      have hlen : 0 < z.2.length := List.length_pos_iff.mpr (h.full z hz)
      obtain ⟨A, cp, ev⟩ : ∃ A cp, v z.1 = .slice A z.2.length cp := by
        rcases r2.2 with ⟨e1, e2⟩ | ⟨g, cap, cur, e1, _⟩
        · omega
        · exact ⟨_, _, e1⟩
      rw [ev] at r2 hen ⊢
      obtain ⟨ad, rfl⟩ := row_some r2 hlen
      obtain ⟨x0, x1, x2⟩ := row_at r2 (z.2.length - 1) (by omega)
      have hP := lastP_get hlen
      rw [← hP] at x0
      replace x0 := pw_cell_below hB' x0
      obtain ⟨P, eP⟩ : ∃ P, P = lastP z.2 := ⟨_, rfl⟩
      rw [← eP] at x0
      have hP0 := (hp z hz).1
      have hPl := (hp z hz).2
      have ew : wrap64 ((z.2.length : Int) - 1) = ((z.2.length - 1 : Nat) : Int) := by unfold wrap64; omega
      clear x1 x2 hP
      obtain ⟨I1, I2⟩ := seen_next h.nodup (fun x hx => (hp x hx).1) HI.out hz
      replace I1 := Aside0.mk I1
      replace I2 := Aside0.mk I2
      by_cases hpl : pl < 0
      · have d1 : decide (pl < 0) = true := decide_eq_true hpl
        go_wp2
        all_goals
          go_roundg cnt'
          case measure => have := HK.out; omega
          case rel => exact ⟨_, _, _, cnt', rfl, rfl, ⟨Nat.le_refl _⟩, ⟨hrg⟩, ⟨hB'⟩, ⟨I1.out (.inl hpl)⟩⟩
      · have d1 : decide (pl < 0) = false := decide_eq_false hpl
        rw [eP] at x0
        by_cases hq : lastP z.2 < pl
        · have d2 : decide (lastP z.2 < pl) = true := decide_eq_true hq
          go_wp2
          all_goals
            go_roundg cnt'
            case measure => have := HK.out; omega
            case rel => exact ⟨_, _, _, cnt', rfl, rfl, ⟨Nat.le_refl _⟩, ⟨hrg⟩, ⟨hB'⟩, ⟨I1.out (.inr hq)⟩⟩
        · have d2 : decide (lastP z.2 < pl) = false := decide_eq_false hq
          go_wp2
          all_goals
            go_roundg cnt'
            case measure => have := HK.out; omega
            case rel => exact ⟨_, _, _, cnt', rfl, rfl, ⟨Nat.le_refl _⟩, ⟨hrg⟩, ⟨hB'⟩, ⟨I2.out ⟨by omega, by omega⟩⟩⟩
end Go.Proofs.Ytgndgjjejgbmoaa.Bok
