/- What a Book is in memory: its struct, its map, each card's own row; what changes, and what stays. -/
import Derived.Test.YtgndgjjejgbmoaaPStandinHoldsx1
import Derived.Maps.OwnSet
import Derived.Maps.OwnOps
import Derived.Maps.RangeWalk
import Derived.Maps.AppendAt
import Derived.StringKeys
import Derived.Carry
import Derived.Deep.RegionWith
import Derived.IntWalk
namespace Go.Proofs.Ytgndgjjejgbmoaa.Bok
open Go Go.RowKit Go.Maps Go.Proofs.YtgndgjjejgbmoaaW.PrintWords Go.Proofs.YtgndgjjejgbmoaaW.PrintLast Go.Proofs.YtgndgjjejgbmoaaW.PrintMore
/-- An approval: its place among all, the amount, the tick. -/
structure Ap where
  place : Int
  units : Int
  at_ : Int
def cellsOf : List Ap → List Value
  | [] => []
  | a :: l => .int .i64 a.place :: .int .i64 a.units :: .int .i64 a.at_ :: cellsOf l
theorem cellsOf_length : ∀ l, (cellsOf l).length = l.length * 3
  | [] => rfl
  | a :: l => by simp only [cellsOf, List.length_cons, cellsOf_length l]; omega
theorem cellsOf_append : ∀ l m, cellsOf (l ++ m) = cellsOf l ++ cellsOf m
  | [], _ => rfl
  | a :: l, m => by simp only [cellsOf, List.cons_append, cellsOf_append l m]
theorem cellsOf_get : ∀ (l : List Ap) (i : Nat) (h : i < l.length), (cellsOf l)[i * 3]? = some (.int .i64 l[i].place) ∧ (cellsOf l)[i * 3 + 1]? = some (.int .i64 l[i].units) ∧ (cellsOf l)[i * 3 + 2]? = some (.int .i64 l[i].at_)
  | a :: l, 0, _ => ⟨rfl, rfl, rfl⟩
  | a :: l, i + 1, h => by
    have := cellsOf_get l i (by simpa using h)
    simp only [cellsOf, List.getElem_cons_succ]
    rw [show (i + 1) * 3 = i * 3 + 3 by omega]
    exact this
/-- A card as a key. -/
def key (c : ByteArray) : Lit := .string c.data.toList
theorem key_inj {c d : ByteArray} (h : key c = key d) : c = d := by
  unfold key at h
  injection h with h
  cases c; cases d
  simp at h
  subst h
  rfl
/-- An element, as it stands. -/
def raw : Value → Option (DataW Value × List MemPlace) := fun v => some (.held v, [])
/-- Cards, each with its approvals. -/
abbrev St := List (ByteArray × List Ap)
def St.get (S : St) (c : ByteArray) : List Ap := match S.find? (fun x => decide (x.1 = c)) with | some x => x.2 | none => []
def St.del (S : St) (c : ByteArray) : St := S.filter (fun x => !decide (x.1 = c))
def St.has (S : St) (c : ByteArray) : Bool := S.any (fun x => decide (x.1 = c))
def St.put (S : St) (c : ByteArray) (l : List Ap) : St := (c, l) :: S.del c
/-- What may be other in w' than in w: the blocks of F, and new ones. -/
structure Chg (F : Nat → Prop) (w w' : World) : Prop where
  os : w'.os = w.os
  tape : w'.tape = w.tape
  output : w'.output = w.output
  size : w.heap.size ≤ w'.heap.size
  block : ∀ i, i < w.heap.size → ¬ F i → w'.heap[i]? = w.heap[i]?
theorem Chg.refl (F : Nat → Prop) (w : World) : Chg F w w := ⟨rfl, rfl, rfl, Nat.le_refl _, fun _ _ _ => rfl⟩
theorem Chg.trans {F G : Nat → Prop} {a b c : World} (h : Chg F a b) (k : Chg G b c) (hG : ∀ i, i < a.heap.size → G i → F i) : Chg F a c :=
  ⟨k.os.trans h.os, k.tape.trans h.tape, k.output.trans h.output, Nat.le_trans h.size k.size, fun i hi hne => (k.block i (Nat.lt_of_lt_of_le hi h.size) (fun hg => hne (hG i hi hg))).trans (h.block i hi hne)⟩
theorem Chg.of_below {F : Nat → Prop} {w w' : World} (h : Below w.heap.size w w') : Chg F w w' := ⟨h.os, h.tape, h.output, h.size, fun i hi _ => h.block i hi⟩
theorem Chg.of_grown {F : Nat → Prop} {w w' : World} {row : Option Nat} (h : w.grownBy w' row) (hr : ∀ k, row = some k → F k) : Chg F w w' := ⟨h.os, h.tape, h.output, h.size, fun i hi hne => h.block i hi (fun e => hne (hr i e.symm))⟩
theorem Chg.below {F : Nat → Prop} {b : Nat} {w0 w w' : World} (h : Chg F w w') (k : Below b w0 w) (hF : ∀ i, F i → b ≤ i) (hb : b ≤ w.heap.size) : Below b w0 w' :=
  k.trans ⟨h.os, h.tape, h.output, h.size, fun i hi => h.block i (by omega) (fun hf => by have := hF i hf; omega)⟩
theorem Chg.grown {F : Nat → Prop} {w w' : World} (h : Chg F w w') (hF : ∀ i, ¬ F i) (row : Option Nat) : w.grownBy w' row := ⟨h.os, h.tape, h.output, h.size, fun i hi _ => h.block i hi (hF i)⟩
/-- Block p is a Book of so many cards, its map block m; F: its blocks. -/
structure Book (w : World) (F : Nat → Prop) (p m : Nat) (cards place last : Int) (S : St) : Prop where
  strct : w.heap[p]? = some (.cells #[.int .i64 cards, .map (some m), .int .i64 place, .int .i64 last] 65 (0, 0))
  inp : F p
  inm : F m
  lt : ∀ i, F i → i < w.heap.size
  nodup : (S.map (·.1)).Nodup
  full : ∀ x ∈ S, x.2 ≠ []
  place0 : 0 ≤ place
  rows : ∃ (n : Nat) (D : DataW Value) (v : ByteArray → Value), (n : Int) ≤ place ∧ w.ownsMap Try.prog 9 raw m n D ∧ Maps.size D = S.length ∧ (∀ c, Maps.has D (key c) = S.has c) ∧
    (∀ x ∈ S, D.atKey (key x.1) .nil = .held (v x.1) ∧ w.ownsRow 0 73 3 (v x.1) x.2.length (cellsOf x.2) ∧ (∀ b, (v x.1).ownBlock = some b → F b ∧ b ≠ p ∧ b ≠ m)) ∧
    (∀ x ∈ S, ∀ y ∈ S, x.1 ≠ y.1 → ∀ b, (v x.1).ownBlock = some b → (v y.1).ownBlock ≠ some b)
theorem Book.kept {w w' : World} {F G : Nat → Prop} {p m : Nat} {cards place last : Int} {S : St} (h : Book w F p m cards place last S) (hc : Chg G w w') (hG : ∀ i, F i → ¬ G i) : Book w' F p m cards place last S := by
  have hb : ∀ i, F i → w'.heap[i]? = w.heap[i]? := fun i hi => hc.block i (h.lt i hi) (hG i hi)
  obtain ⟨n, D, v, h1, h2, h3, h4, h5, h6⟩ := h.rows
  refine ⟨(hb p h.inp).trans h.strct, h.inp, h.inm, fun i hi => Nat.lt_of_lt_of_le (h.lt i hi) hc.size, h.nodup, h.full, h.place0, n, D, v, h1, ?_, h3, h4, fun x hx => ?_, h6⟩
  · obtain ⟨es, clock, e1, e2⟩ := h2
    exact ⟨es, clock, (hb m h.inm).trans e1, e2⟩
  · obtain ⟨k1, k2, k3⟩ := h5 x hx
    refine ⟨k1, ⟨k2.1, ?_⟩, k3⟩
    rcases k2.2 with h' | ⟨g, cap, cur, e1, e2, e3, e4⟩
    · exact .inl h'
    · refine .inr ⟨g, cap, cur, e1, e2, (hb g ((k3 g ?_).1)).trans e3, e4⟩
      rw [e1]
      rfl
end Go.Proofs.Ytgndgjjejgbmoaa.Bok
