/- Plain laws on tracks: which texts 'read' takes, and as what. No Go, no memory. -/
import Derived.Test.YtammbclaejgkpaaRead
namespace Go.Proofs.Ytammbclaejgkpaa.Pure
open Go.RowKit Go.Proofs.YtammbclaejgkpaaW.PrintWords CardRead

def B (l : List UInt8) : ByteArray := ⟨l.toArray⟩
def L (s : ByteArray) : List UInt8 := s.data.toList
theorem B_L (s : ByteArray) : B (L s) = s := rfl
theorem L_B (l : List UInt8) : L (B l) = l := by simp [L, B]
theorem L_size (s : ByteArray) : (L s).length = s.size := by simp [L]
theorem L_inj {a b : ByteArray} (h : L a = L b) : a = b := by rw [← B_L a, ← B_L b, h]
/-- From place i on the text reads l. -/
def At (s : ByteArray) (i : Nat) (l : List UInt8) : Prop := i ≤ s.size ∧ (L s).drop i = l
theorem At.nil {s : ByteArray} {i : Nat} (h : At s i []) : i = s.size := by
  have h1 := List.drop_eq_nil_iff.mp h.2
  have := L_size s
  have := h.1
  omega
theorem At.len {s : ByteArray} {i : Nat} {l : List UInt8} (h : At s i l) : l.length + i = s.size := by
  have h1 := congrArg List.length h.2
  have := L_size s
  have := h.1
  rw [List.length_drop] at h1
  omega
theorem At.cons {s : ByteArray} {i : Nat} {c : UInt8} {l : List UInt8} (h : At s i (c :: l)) : bt s i = (c.toNat : Int) ∧ At s (i + 1) l := by
  have hl := h.len
  simp only [List.length_cons] at hl
  have hi : i < (L s).length := by rw [L_size]; omega
  have h2 := h.2
  rw [List.drop_eq_getElem_cons hi] at h2
  injection h2 with h3 h4
  refine ⟨?_, by omega, h4⟩
  have hlt : i < s.size := by omega
  unfold bt
  rw [dif_pos (by omega)]
  simp only [Int.toNat_natCast]
  rw [← h3]
  rfl
theorem At.all (s : ByteArray) {i : Nat} (h : i ≤ s.size) : At s i ((L s).drop i) := ⟨h, rfl⟩
theorem At.ext {s : ByteArray} {i : Nat} {x t : List UInt8} (h : At s i (x ++ t)) : s.extract i (i + x.length) = B x := by
  apply L_inj
  rw [L_B]
  have := h.2
  unfold L at *
  simp only [ByteArray.data_extract, Array.toList_extract, List.extract_eq_take_drop]
  rw [this]
  simp
theorem At.end_ {s : ByteArray} {i : Nat} {x : List UInt8} (h : At s i x) : s.extract i s.size = B x := by
  have e := At.ext (x := x) (t := []) (by simpa using h)
  have := h.len
  rw [show i + x.length = s.size by omega] at e
  exact e
def DL (l : List UInt8) : Prop := ∀ c ∈ l, dg (c.toNat : Int) = true
def part (l : List UInt8) : List UInt8 := if l = [] then [61] else l
theorem dg61 {c : UInt8} (h : dg (c.toNat : Int) = true) : ¬ (c.toNat : Int) = 61 := by have := dg_yes h; omega

theorem rest_fwd (s pn ex sv : ByteArray) (fm : Nat) : ∀ (l : List UInt8) (i : Nat), At s i l → DL l → rest s pn ex sv fm l.length i = (pn, ex, sv, s.extract fm s.size, 0, 0) := by
  intro l
  induction l with
  | nil => intro i _ _; rfl
  | cons c l ih =>
    intro i h hd
    obtain ⟨hb, h'⟩ := h.cons
    rw [List.length_cons, rest, hb, if_pos (hd c (by simp))]
    exact ih (i + 1) h' (fun x hx => hd x (by simp [hx]))
theorem rest_bwd (s pn ex sv : ByteArray) (fm : Nat) : ∀ (l : List UInt8) (i : Nat), At s i l → (rest s pn ex sv fm l.length i).2.2.2.2.1 = 0 → DL l := by
  intro l
  induction l with
  | nil => intro i _ _ c hc; cases hc
  | cons c l ih =>
    intro i h h0
    obtain ⟨hb, h'⟩ := h.cons
    rw [List.length_cons, rest, hb] at h0
    by_cases hc : dg (c.toNat : Int) = true
    · rw [if_pos hc] at h0
      intro x hx
      rcases List.mem_cons.mp hx with rfl | hx
      · exact hc
      · exact ih (i + 1) h' h0 x hx
    · rw [if_neg hc] at h0
      simp [bad] at h0

theorem serv_fwd (s pn ex : ByteArray) (fm : Nat) (v r : List UInt8) (h : At s fm (part v ++ r)) (hv : v = [] ∨ (v.length = 3 ∧ DL v)) (hr : DL r) :
    serv s pn ex fm (part v ++ r).length fm = (pn, ex, B v, B r, 0, 0) := by
  rcases hv with rfl | ⟨h3, hd⟩
  · obtain ⟨hb, h'⟩ := At.cons (l := r) (by simpa [part] using h)
    have e := rest_fwd s pn ex E (fm + 1) r (fm + 1) h' hr
    simp only [part, if_true, List.cons_append, List.nil_append, List.length_cons]
    rw [serv, if_pos ⟨rfl, hb⟩, e, h'.end_]
    rfl
  · obtain ⟨a, b, c, rfl⟩ : ∃ a b c, v = [a, b, c] := by
      match v, h3 with
      | [a, b, c], _ => exact ⟨a, b, c, rfl⟩
    simp only [part, List.cons_ne_nil, if_false] at h ⊢
    have hx := At.ext (x := [a, b, c]) h
    obtain ⟨ba, h1⟩ := At.cons h
    obtain ⟨bb, h2⟩ := At.cons h1
    obtain ⟨bc, h3⟩ := At.cons h2
    have da := hd a (by simp)
    have db := hd b (by simp)
    have dc := hd c (by simp)
    have e := rest_fwd s pn ex (s.extract fm (fm + 3)) (fm + 3) r (fm + 3) h3 hr
    simp only [List.cons_append, List.nil_append, List.length_cons]
    rw [serv, ba, if_neg (fun h => dg61 da h.2), if_neg (by rw [da]; decide), if_pos (by omega), serv, bb, if_neg (by omega), if_neg (by rw [db]; decide), if_pos (by omega), serv, bc, if_neg (by omega), if_neg (by rw [dc]; decide), if_neg (by omega)]
    refine Eq.trans e ?_
    rw [At.end_ h3, show fm + 3 = fm + [a, b, c].length from rfl, hx]
    rfl
theorem serv_bwd (s pn ex : ByteArray) (fm : Nat) (l : List UInt8) (h : At s fm l) (h0 : (serv s pn ex fm l.length fm).2.2.2.2.1 = 0) :
    ∃ v r, l = part v ++ r ∧ (v = [] ∨ (v.length = 3 ∧ DL v)) ∧ DL r := by
  cases l with
  | nil => simp [serv, bad] at h0
  | cons a l =>
    obtain ⟨ba, h1⟩ := h.cons
    rw [List.length_cons, serv, ba] at h0
    by_cases h61 : (a.toNat : Int) = 61
    · rw [if_pos ⟨rfl, h61⟩] at h0
      refine ⟨[], l, ?_, .inl rfl, rest_bwd _ _ _ _ _ _ _ h1 h0⟩
      have : a = 61 := UInt8.toNat_inj.mp (by simpa using (by omega : a.toNat = 61))
      simp [part, this]
    · rw [if_neg (fun h => h61 h.2)] at h0
      cases da : dg (a.toNat : Int) with
      | false => rw [da, if_pos rfl] at h0; simp [bad] at h0
      | true =>
        rw [da, if_neg (by decide), if_pos (by omega)] at h0
        cases l with
        | nil => simp [serv, bad] at h0
        | cons b l =>
          obtain ⟨bb, h2⟩ := h1.cons
          rw [List.length_cons, serv, bb, if_neg (by omega)] at h0
          cases db : dg (b.toNat : Int) with
          | false => rw [db, if_pos rfl] at h0; simp [bad] at h0
          | true =>
            rw [db, if_neg (by decide), if_pos (by omega)] at h0
            cases l with
            | nil => simp [serv, bad] at h0
            | cons c l =>
              obtain ⟨bc, h3⟩ := h2.cons
              rw [List.length_cons, serv, bc, if_neg (by omega)] at h0
              cases dc : dg (c.toNat : Int) with
              | false => rw [dc, if_pos rfl] at h0; simp [bad] at h0
              | true =>
                rw [dc, if_neg (by decide), if_neg (by omega)] at h0
                refine ⟨[a, b, c], l, by simp [part], .inr ⟨rfl, ?_⟩, rest_bwd _ _ _ _ _ _ _ h3 h0⟩
                intro x hx
                simp only [List.mem_cons, List.not_mem_nil, or_false] at hx
                rcases hx with rfl | rfl | rfl <;> assumption

/-- A month: four digits, the last two 01 to 12. -/
def Mon (l : List UInt8) : Prop := ∃ a b c d : UInt8, l = [a, b, c, d] ∧ dg (a.toNat : Int) = true ∧ dg (b.toNat : Int) = true ∧ dg (c.toNat : Int) = true ∧ dg (d.toNat : Int) = true ∧
  1 ≤ 10 * ((c.toNat : Int) - 48) + ((d.toNat : Int) - 48) ∧ 10 * ((c.toNat : Int) - 48) + ((d.toNat : Int) - 48) ≤ 12
theorem off_ok2 {p c d : Int} (hc : dg c = true) (hd : dg d = true) (h : 10 * (c - 48) + (d - 48) ≤ 12) : ¬ offMonth 2 p c = true := off_2 hc (by have := dg_yes hc; have := dg_yes hd; simp; omega)
theorem off_ok3 {c d : Int} (hc : dg c = true) (hd : dg d = true) (h1 : 1 ≤ 10 * (c - 48) + (d - 48)) (h : 10 * (c - 48) + (d - 48) ≤ 12) : ¬ offMonth 3 c d = true := by
  have := dg_yes hc
  have := dg_yes hd
  intro ho
  simp [offMonth, hd] at ho
  omega
theorem off_dg {k : Nat} {p c : Int} (h : ¬ offMonth k p c = true) : dg c = true := by
  cases hc : dg c with
  | true => rfl
  | false => exact absurd (off_no hc) h
theorem off_b2 {p c : Int} (h : ¬ offMonth 2 p c = true) : c ≤ 49 := by
  have hd := off_dg h
  simp [offMonth, hd] at h
  omega
theorem off_b3 {p c : Int} (h : ¬ offMonth 3 p c = true) : (p = 48 → ¬ c = 48) ∧ (p = 49 → c ≤ 50) := by
  have hd := off_dg h
  simp [offMonth, hd] at h
  omega
theorem expi_fwd (s pn : ByteArray) (fm : Nat) (m t : List UInt8) (h : At s fm (part m ++ t)) (hm : m = [] ∨ Mon m) :
    ∃ j, At s j t ∧ expi s pn fm (part m ++ t).length fm = serv s pn (B m) j t.length j := by
  rcases hm with rfl | ⟨a, b, c, d, rfl, da, db, dc, dd, h1, h2⟩
  · obtain ⟨hb, h'⟩ := At.cons (l := t) (by simpa [part] using h)
    refine ⟨fm + 1, h', ?_⟩
    simp only [part, if_true, List.cons_append, List.nil_append, List.length_cons]
    rw [expi, if_pos ⟨rfl, hb⟩]
    rfl
  · simp only [part, List.cons_ne_nil, if_false] at h ⊢
    have hx := At.ext (x := [a, b, c, d]) h
    obtain ⟨ba, g1⟩ := At.cons h
    obtain ⟨bb, g2⟩ := At.cons g1
    obtain ⟨bc, g3⟩ := At.cons g2
    obtain ⟨bd, g4⟩ := At.cons g3
    refine ⟨fm + 4, g4, ?_⟩
    have p3 : bt s (((fm + 1 + 1 + 1 : Nat) : Int) - 1) = (c.toNat : Int) := by
      rw [show (((fm + 1 + 1 + 1 : Nat) : Int) - 1) = ((fm + 1 + 1 : Nat) : Int) by omega]
      exact bc
    simp only [List.cons_append, List.nil_append, List.length_cons]
    rw [expi, ba, if_neg (fun h => dg61 da h.2), Nat.sub_self, if_neg (off_0 da), if_pos (by omega),
      expi, bb, if_neg (by omega), show fm + 1 - fm = 1 by omega, if_neg (off_1 db), if_pos (by omega),
      expi, bc, if_neg (by omega), show fm + 1 + 1 - fm = 2 by omega, if_neg (off_ok2 dc dd h2), if_pos (by omega),
      expi, bd, p3, if_neg (by omega), show fm + 1 + 1 + 1 - fm = 3 by omega, if_neg (off_ok3 dc dd h1 h2), if_neg (by omega)]
    rw [show fm + 1 + 1 + 1 + 1 = fm + [a, b, c, d].length from rfl, hx]
theorem expi_bwd (s pn : ByteArray) (fm : Nat) (l : List UInt8) (h : At s fm l) (h0 : (expi s pn fm l.length fm).2.2.2.2.1 = 0) :
    ∃ m t, l = part m ++ t ∧ (m = [] ∨ Mon m) ∧ ∃ v r, t = part v ++ r ∧ (v = [] ∨ (v.length = 3 ∧ DL v)) ∧ DL r := by
  cases l with
  | nil => simp [expi, bad] at h0
  | cons a l =>
    obtain ⟨ba, g1⟩ := h.cons
    rw [List.length_cons, expi, ba] at h0
    by_cases h61 : (a.toNat : Int) = 61
    · rw [if_pos ⟨rfl, h61⟩] at h0
      have : a = 61 := UInt8.toNat_inj.mp (by simpa using (by omega : a.toNat = 61))
      exact ⟨[], l, by simp [part, this], .inl rfl, serv_bwd _ _ _ _ _ g1 h0⟩
    · rw [if_neg (fun h => h61 h.2), Nat.sub_self] at h0
      by_cases oa : offMonth 0 (bt s ((fm : Int) - 1)) (a.toNat : Int) = true
      · rw [if_pos oa] at h0; simp [bad] at h0
      rw [if_neg oa, if_pos (by omega)] at h0
      cases l with
      | nil => simp [expi, bad] at h0
      | cons b l =>
        obtain ⟨bb, g2⟩ := g1.cons
        rw [List.length_cons, expi, bb, if_neg (by omega), show fm + 1 - fm = 1 by omega] at h0
        by_cases ob : offMonth 1 (bt s (((fm + 1 : Nat) : Int) - 1)) (b.toNat : Int) = true
        · rw [if_pos ob] at h0; simp [bad] at h0
        rw [if_neg ob, if_pos (by omega)] at h0
        cases l with
        | nil => simp [expi, bad] at h0
        | cons c l =>
          obtain ⟨bc, g3⟩ := g2.cons
          rw [List.length_cons, expi, bc, if_neg (by omega), show fm + 1 + 1 - fm = 2 by omega] at h0
          by_cases oc : offMonth 2 (bt s (((fm + 1 + 1 : Nat) : Int) - 1)) (c.toNat : Int) = true
          · rw [if_pos oc] at h0; simp [bad] at h0
          rw [if_neg oc, if_pos (by omega)] at h0
          cases l with
          | nil => simp [expi, bad] at h0
          | cons d l =>
            obtain ⟨bd, g4⟩ := g3.cons
            have p3 : bt s (((fm + 1 + 1 + 1 : Nat) : Int) - 1) = (c.toNat : Int) := by
              rw [show (((fm + 1 + 1 + 1 : Nat) : Int) - 1) = ((fm + 1 + 1 : Nat) : Int) by omega]
              exact bc
            rw [List.length_cons, expi, bd, p3, if_neg (by omega), show fm + 1 + 1 + 1 - fm = 3 by omega] at h0
            by_cases od : offMonth 3 (c.toNat : Int) (d.toNat : Int) = true
            · rw [if_pos od] at h0; simp [bad] at h0
            rw [if_neg od, if_neg (by omega)] at h0
            have d1 := dg_yes (off_dg oc)
            have d2 := dg_yes (off_dg od)
            have d3 := off_b2 oc
            have d4 := off_b3 od
            refine ⟨[a, b, c, d], l, by simp [part], .inr ⟨a, b, c, d, rfl, off_dg oa, off_dg ob, off_dg oc, off_dg od, by omega, by omega⟩, serv_bwd _ _ _ _ _ g4 h0⟩
theorem pan_fwd (s : ByteArray) : ∀ (p : List UInt8) (i : Nat) (t : List UInt8), At s i (p ++ 61 :: t) → DL p → i + p.length ≤ 19 → 1 ≤ i + p.length →
    pan s (p ++ 61 :: t).length i = expi s (s.extract 0 (i + p.length)) (i + p.length + 1) t.length (i + p.length + 1) := by
  intro p
  induction p with
  | nil =>
    intro i t h _ _ h1
    obtain ⟨hb, _⟩ := At.cons h
    simp only [List.nil_append, List.length_cons, List.length_nil, Nat.add_zero] at h1 ⊢
    have hb' : bt s i = 61 := hb
    rw [pan, hb', if_neg (by rintro ⟨hc, _⟩; revert hc; decide), if_neg (by omega)]
  | cons c p ih =>
    intro i t h hd h19 h1
    obtain ⟨hb, h'⟩ := At.cons h
    simp only [List.cons_append, List.length_cons] at h19 ⊢
    rw [pan, hb, if_pos ⟨hd c (by simp), by omega⟩]
    have e := ih (i + 1) t h' (fun x hx => hd x (by simp [hx])) (by omega) (by omega)
    rw [show i + (p.length + 1) = i + 1 + p.length by omega]
    exact e
theorem pan_bwd (s : ByteArray) : ∀ (l : List UInt8) (i : Nat), At s i l → i ≤ 19 → (pan s l.length i).2.2.2.2.1 = 0 →
    ∃ p t, l = p ++ 61 :: t ∧ DL p ∧ i + p.length ≤ 19 ∧ 1 ≤ i + p.length ∧ ∃ pn fm, At s fm t ∧ (expi s pn fm t.length fm).2.2.2.2.1 = 0 := by
  intro l
  induction l with
  | nil => intro i _ _ h0; simp [pan, bad] at h0
  | cons c l ih =>
    intro i h hi h0
    obtain ⟨hb, h'⟩ := h.cons
    rw [List.length_cons, pan, hb] at h0
    by_cases hc : dg (c.toNat : Int) = true ∧ i < 19
    · rw [if_pos hc] at h0
      obtain ⟨p, t, e, hp, h19, h1, rest⟩ := ih (i + 1) h' (by omega) h0
      refine ⟨c :: p, t, by rw [e]; rfl, ?_, by simp only [List.length_cons]; omega, by simp only [List.length_cons]; omega, rest⟩
      intro x hx
      rcases List.mem_cons.mp hx with rfl | hx
      · exact hc.1
      · exact hp x hx
    · rw [if_neg hc] at h0
      by_cases hn : (c.toNat : Int) ≠ 61 ∨ i = 0
      · rw [if_pos hn] at h0; simp [bad] at h0
      · rw [if_neg hn] at h0
        have h61 : c.toNat = 61 := by omega
        have : c = 61 := UInt8.toNat_inj.mp (by simpa using h61)
        subst this
        exact ⟨[], l, rfl, (fun x hx => by cases hx), by simp; omega, by simp; omega, _, _, h', h0⟩

/-- May these be a track's parts? -/
structure Tr (p m v r : List UInt8) : Prop where
  pd : DL p
  p1 : 1 ≤ p.length
  p2 : p.length ≤ 19
  md : m = [] ∨ Mon m
  vd : v = [] ∨ (v.length = 3 ∧ DL v)
  rd : DL r
  all : (p ++ 61 :: (part m ++ (part v ++ r))).length ≤ 37
def join (p m v r : List UInt8) : List UInt8 := p ++ 61 :: (part m ++ (part v ++ r))
theorem At.zero (l : List UInt8) : At (B l) 0 l := ⟨Nat.zero_le _, by rw [L_B]; rfl⟩
theorem size_B (l : List UInt8) : (B l).size = l.length := by rw [← L_size, L_B]
theorem read_fwd {p m v r : List UInt8} (h : Tr p m v r) : CardRead.read (B (join p m v r)) = (B p, B m, B v, B r, 0, 0) := by
  have hz := At.zero (join p m v r)
  have hs := size_B (join p m v r)
  have hl := h.all
  unfold CardRead.read
  rw [if_neg (by rw [hs]; unfold join; omega), hs]
  have e := pan_fwd (B (join p m v r)) p 0 (part m ++ (part v ++ r)) hz h.pd (by have := h.p2; omega) (by have := h.p1; omega)
  unfold join at e ⊢
  unfold join at hz
  rw [e]
  have hx := At.ext hz
  simp only [Nat.zero_add] at hx ⊢
  have g : At (B (p ++ 61 :: (part m ++ (part v ++ r)))) (p.length + 1) (part m ++ (part v ++ r)) := by
    refine ⟨by rw [size_B]; simp, ?_⟩
    rw [L_B, show p.length + 1 = (p ++ [61]).length by simp, show p ++ 61 :: (part m ++ (part v ++ r)) = (p ++ [61]) ++ (part m ++ (part v ++ r)) by simp, List.drop_left]
  rw [hx]
  obtain ⟨j, hj, ej⟩ := expi_fwd _ (B p) _ m _ g h.md
  rw [ej]
  exact serv_fwd _ _ _ _ _ _ hj h.vd h.rd
theorem read_bwd {s : ByteArray} (h0 : (CardRead.read s).2.2.2.2.1 = 0) : ∃ p m v r, Tr p m v r ∧ s = B (join p m v r) := by
  unfold CardRead.read at h0
  by_cases h37 : 37 < s.size
  · rw [if_pos h37] at h0; simp [bad] at h0
  · rw [if_neg h37] at h0
    have hz : At s 0 (L s) := ⟨Nat.zero_le _, rfl⟩
    rw [← L_size] at h0
    obtain ⟨p, t, e, hp, h19, h1, pn, fm, ht, h0'⟩ := pan_bwd s (L s) 0 hz (by omega) h0
    obtain ⟨m, t', rfl, hm, v, r, rfl, hv, hr⟩ := expi_bwd _ _ _ _ ht h0'
    refine ⟨p, m, v, r, ⟨hp, by omega, by omega, hm, hv, hr, ?_⟩, ?_⟩
    · rw [← e, L_size]; omega
    · unfold join; rw [← e, B_L]
def Ends (s : ByteArray) (r : Res) : Prop := r.2.2.2.2.1 = 0 ∨ ∃ n, r = bad n ∧ n ≤ s.size
theorem rest_ends (s pn ex sv : ByteArray) (fm : Nat) : ∀ n i, n + i = s.size → Ends s (rest s pn ex sv fm n i) := by
  intro n
  induction n with
  | zero => intro i _; exact .inl rfl
  | succ n ih =>
    intro i hn
    rw [rest]
    split
    · exact ih (i + 1) (by omega)
    · exact .inr ⟨i, rfl, by omega⟩
theorem serv_ends (s pn ex : ByteArray) (fm : Nat) : ∀ n i, n + i = s.size → Ends s (serv s pn ex fm n i) := by
  intro n
  induction n with
  | zero => intro i h; exact .inr ⟨i, rfl, by omega⟩
  | succ n ih =>
    intro i hn
    rw [serv]
    split
    · exact rest_ends _ _ _ _ _ n (i + 1) (by omega)
    · split
      · exact .inr ⟨i, rfl, by omega⟩
      · split
        · exact ih (i + 1) (by omega)
        · exact rest_ends _ _ _ _ _ n (i + 1) (by omega)
theorem expi_ends (s pn : ByteArray) (fm : Nat) : ∀ n i, n + i = s.size → Ends s (expi s pn fm n i) := by
  intro n
  induction n with
  | zero => intro i h; exact .inr ⟨i, rfl, by omega⟩
  | succ n ih =>
    intro i hn
    rw [expi]
    split
    · exact serv_ends _ _ _ _ n (i + 1) (by omega)
    · split
      · exact .inr ⟨i, rfl, by omega⟩
      · split
        · exact ih (i + 1) (by omega)
        · exact serv_ends _ _ _ _ n (i + 1) (by omega)
theorem pan_ends (s : ByteArray) : ∀ n i, n + i = s.size → Ends s (pan s n i) := by
  intro n
  induction n with
  | zero => intro i h; exact .inr ⟨i, rfl, by omega⟩
  | succ n ih =>
    intro i hn
    rw [pan]
    split
    · exact ih (i + 1) (by omega)
    · split
      · exact .inr ⟨i, rfl, by omega⟩
      · exact expi_ends _ _ _ n (i + 1) (by omega)
theorem read_ends (s : ByteArray) : Ends s (CardRead.read s) := by
  unfold CardRead.read
  split
  · exact .inr ⟨37, rfl, by omega⟩
  · exact pan_ends s _ _ (by omega)
end Go.Proofs.Ytammbclaejgkpaa.Pure
