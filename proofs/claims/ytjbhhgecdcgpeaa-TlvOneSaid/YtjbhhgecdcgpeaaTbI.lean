/- Nodes printed, a line each: the contract of Print. -/
import Derived.Test.YtjbhhgecdcgpeaaTbG
import Derived.Test.YtjbhhgecdcgpeaaTbH
import Derived.Test.YtjbhhgecdcgpeaaTb7
namespace Go.Proofs.Ytjbhhgecdcgpeaa.Tb
open Go Go.RowKit Go.Shelf Go.Proofs.YtjbhhgecdcgpeaaW.PrintWords Go.Proofs.YtjbhhgecdcgpeaaW.PrintLast Go.Proofs.YtjbhhgecdcgpeaaW.PrintMore Go.Proofs.Ytjbhhgecdcgpeaa.TA
set_option linter.unusedSimpArgs false
set_option linter.unusedVariables false
attribute [local go_sem] Oper.semAt_some
def strL (l : List Int) : List UInt8 := (strOfNums l).data.toList
theorem strL_len (l : List Int) : (strL l).length = (strOfNums l).size := rfl
theorem nempty_list {v : ByteArray} (h : v ≠ ⟨#[]⟩) : v.toList.isEmpty = false := by
  rw [ByteArray.toList_eq]
  rcases v with ⟨⟨l⟩⟩
  cases l with
  | nil => exact absurd rfl h
  | cons _ _ => rfl
/-- The parts of a node's line. -/
def lineA (x : S51) : List UInt8 := Lib.repeatL [32, 32] (x.f0.toNat - 1)
def lineB (x : S51) : List UInt8 := if partsL x.f1.f0 = [] then [63] else hexL (strL (partsL x.f1.f0))
def lineC (x : S51) : List UInt8 := if x.f1.f1 = ⟨#[]⟩ then [] else 32 :: hexL x.f1.f1.data.toList
def lineL (x : S51) : List UInt8 := lineA x ++ lineB x ++ lineC x ++ [10]
def printP (k : Nat) (l : List S43) : Option (List UInt8) := (rowsP k l 1).map fun r => r.flatMap lineL
/-- Cells that are no bytes and no Builder stay. -/
structure Kp (X Y : World) : Prop where
  same : ∀ (k : Nat) (cs : Array Value) (t : TypeId) (fz : Nat × Nat), X.heap[k]? = some (Obj.cells cs t fz) → t ≠ 5 → t ≠ 80 → Y.heap[k]? = some (Obj.cells cs t fz)
theorem Kp.trans {X Y Z : World} (h : Kp X Y) (h2 : Kp Y Z) : Kp X Z := ⟨fun k cs t fz h1 h5 h8 => h2.same k cs t fz (h.same k cs t fz h1 h5 h8) h5 h8⟩
theorem Kp.refl (X : World) : Kp X X := ⟨fun _ _ _ _ h _ _ => h⟩
theorem Kp.alloc (X : World) (o : Obj) : Kp X (X.alloc o) := ⟨fun k cs t fz h _ _ => blk_alloc h _⟩
/-- Behind some steps of a round: the Builder at b holds l. -/
structure PSt (w Wr : World) (b B : Nat) (l : List UInt8) (m : Nat) (W : World) : Prop where
  bld : Bld b b l W
  left : l.length + m ≤ 140737488355328
  below : Below b w W
  keeps : KeepsFrom B Wr W
  kp : Kp Wr W
theorem Bld.kept {b : Nat} {l : List UInt8} {W W' : World} {row : Option Nat} (h : Bld b b l W) (hg : W.grownBy W' row) (hrow : ∀ r, row = some r → ∃ o : Obj, W.heap[r]? = some o ∧ o.isCells = false) : Bld b b l W' := by
  have key : ∀ p, Lib.BuilderAtF 80 5 b b p (Lib.byteCells l) W → Lib.BuilderAtF 80 5 b b p (Lib.byteCells l) W' := by
    rintro p ⟨hB, v, hb, hown, hne⟩
    have hnb : some b ≠ row := by
      rintro rfl
      obtain ⟨o, ho, hc⟩ := hrow b rfl
      rw [hb] at ho
      cases ho
      cases hc
    refine ⟨hB, v, (hg.block b (Array.getElem?_eq_some_iff.1 hb).1 hnb).trans hb, ?_, hne⟩
    refine hown.kept hg ?_
    cases row with
    | none => exact (Classical.em (v.ownBlock = none)).elim .inl .inr
    | some r =>
      refine .inr ?_
      intro hv
      obtain ⟨o, ho, hc⟩ := hrow r rfl
      rcases hown.2 with ⟨rfl, _⟩ | ⟨g, cap, cur, fz, rfl, _, hgc, _⟩
      · simp [Value.ownBlock] at hv
      · simp only [Value.ownBlock, Option.some.injEq] at hv
        subst hv
        rw [hgc] at ho
        cases ho
        cases hc
  exact h.elim (fun x => .inl (key _ x)) (fun x => .inr (key _ x))
theorem Bld.at {b : Nat} {l : List UInt8} {W : World} (h : Bld b b l W) : ∃ p v, W.heap[b]? = some (Obj.cells #[p, v] 80 (0, 0)) := by
  rcases h with ⟨_, v, hb, _⟩ | ⟨_, v, hb, _⟩
  · exact ⟨_, v, hb⟩
  · exact ⟨_, v, hb⟩
theorem Bld.lt {b : Nat} {l : List UInt8} {W : World} (h : Bld b b l W) : b ≤ W.heap.size := by
  obtain ⟨p, v, hb⟩ := h.at
  exact Nat.le_of_lt (Array.getElem?_eq_some_iff.1 hb).1
theorem PSt.begin {w Wr : World} {b B : Nat} {l : List UInt8} {m : Nat} (h : Bld b b l Wr) (hm : l.length + m ≤ 140737488355328) (hB : Below b w Wr) : PSt w Wr b B l m Wr := ⟨h, hm, hB, KeepsFrom.refl _ _, Kp.refl _⟩
theorem PSt.wrote {w Wr : World} {b B : Nat} {l l' : List UInt8} {m m' : Nat} {W W' : World} (h : PSt w Wr b B l m W) (hb : Bld b b l' W') (hm : l'.length + m' ≤ 140737488355328) (hB : Below b W W') (hO : Lib.OthersKept 5 (some b) W W') : PSt w Wr b B l' m' W' := by
  obtain ⟨p, v, hc⟩ := h.bld.at
  refine ⟨hb, hm, h.below.trans hB, h.keeps.trans ⟨hB.size, fun k o _ hk ho => hO k o hk (fun e => ?_) (fun c fz e => ?_)⟩, h.kp.trans ⟨fun k cs t fz hk h5 h8 => hO k _ hk (fun e => ?_) (fun c fz' e => ?_)⟩⟩
  · cases e
    rw [hc] at hk
    cases hk
    cases ho
  · subst e
    cases ho
  · cases e
    rw [hc] at hk
    cases hk
    exact h8 rfl
  · cases e
    exact h5 rfl
/-- Whatever was there is as it was. -/
theorem PSt.beside {w Wr : World} {b B : Nat} {l : List UInt8} {m : Nat} {W W' : World} (h : PSt w Wr b B l m W) (hB : Below W.heap.size W W') : PSt w Wr b B l m W' := by
  have hg := grown_of_below hB none
  exact ⟨h.bld.kept hg (fun r e => by cases e), h.left, h.below.trans (hB.mono h.bld.lt), h.keeps.trans ⟨hB.size, fun k o _ hk _ => (hB.block _ (Array.getElem?_eq_some_iff.1 hk).1).trans hk⟩, h.kp.trans ⟨fun k cs t fz hk _ _ => blk_below hk hB⟩⟩
section
variable {w Wr : World} {b B : Nat} {l : List UInt8} {m : Nat} {W : World}
theorem PSt.string (h : PSt w Wr b B l m W) (s : ByteArray) (hs : s.size ≤ m) : Calls Try.prog 49 #[.pointer (some ⟨b, 0, none⟩), .string s] W fun e W' => e = .returned (.tuple #[.int .i64 s.size, .nilIface]) ∧ PSt w Wr b B (l ++ s.data.toList) (m - s.size) W' := by
  have hl := h.left
  refine (h.bld.string s (by omega) h.bld.lt).mono ?_
  rintro e W' ⟨rfl, hb, hB, hO⟩
  exact ⟨rfl, h.wrote hb (by rw [List.length_append, data_length]; omega) hB hO⟩
theorem PSt.byte (h : PSt w Wr b B l m W) (hs : 1 ≤ m) (c : UInt8) (x : Int) (hx : x = c.toNat) : Calls Try.prog 64 #[.pointer (some ⟨b, 0, none⟩), .int .u8 x] W fun e W' => e = .returned .nilIface ∧ PSt w Wr b B (l ++ [c]) (m - 1) W' := by
  have hl := h.left
  refine (h.bld.byte (by omega) h.bld.lt c x hx).mono ?_
  rintro e W' ⟨rfl, hb, hB, hO⟩
  exact ⟨rfl, h.wrote hb (by rw [List.length_append]; simp; omega) hB hO⟩
theorem PSt.hex (h : PSt w Wr b B l m W) (s : ByteArray) (hs : 2 * s.size ≤ m) : Calls Try.prog 63 #[.pointer (some ⟨b, 0, none⟩), .string s] W fun e W' => e = .returned (.tuple #[]) ∧ PSt w Wr b B (l ++ hexL s.data.toList) (m - 2 * s.size) W' := by
  have hl := h.left
  refine (hex_calls b b l s W h.bld (by omega) h.bld.lt).mono ?_
  rintro e W' ⟨rfl, hb, hB, hO⟩
  exact ⟨rfl, h.wrote hb (by rw [List.length_append, hexL_len, data_length]; omega) hB hO⟩
theorem PSt.rep (h : PSt w Wr b B l m W) (d : Nat) (x : Int) (hx : x = d) (hd : d ≤ 1000000) : Calls Try.prog 61 #[.string ⟨#[32, 32]⟩, .int .i64 x] W fun e W' => e = .returned (.string ⟨(Lib.repeatL [32, 32] d).toArray⟩) ∧ PSt w Wr b B l m W' := by
  subst hx
  refine (Try.strings_Repeat ⟨#[32, 32]⟩ d W (by omega) (by show 2 * d ≤ _; omega)).mono ?_
  rintro e W' ⟨rfl, hB⟩
  exact ⟨rfl, h.beside hB⟩
theorem PSt.parts0 (h : PSt w Wr b B l m W) (t : Int) (ht : partsL t = []) : Calls Try.prog 62 #[.int .i64 t] W fun e W' => e = .returned (.slice none 0 0) ∧ PSt w Wr b B l m W' := by
  refine (parts_none_calls t ht W).mono ?_
  rintro e W' ⟨rfl, hB⟩
  exact ⟨rfl, h.beside hB⟩
theorem PSt.parts1 (h : PSt w Wr b B l m W) (t : Int) (ht : partsL t ≠ []) : Calls Try.prog 62 #[.int .i64 t] W fun e W' => ∃ g c, e = .returned (.slice (some ⟨g, 0, none⟩) (partsL t).length c) ∧ (convert 76 9 (.slice (some ⟨g, 0, none⟩) (partsL t).length c)).run Try.prog W' = .ok (.string (strOfNums (partsL t))) W' ∧ PSt w Wr b B l m W' := by
  refine (parts_row_calls t ht W).mono ?_
  rintro e W' ⟨g, c, rfl, hR, hB⟩
  exact ⟨g, c, rfl, own_string (P := Try.prog) Try.underlying76 Try.underlying5 Try.underlying9 (Kd.own_of_R hR), h.beside hB⟩
theorem PSt.text (h : PSt w Wr b B l m W) : Calls Try.prog 51 #[.pointer (some ⟨b, 0, none⟩)] W fun e W' => e = .returned (.string ⟨l.toArray⟩) ∧ PSt w Wr b B l m W' := by
  refine (Try.Builder_String_any b b l W h.bld h.bld.lt).mono ?_
  rintro e W' ⟨rfl, hb, hB, hO⟩
  exact ⟨rfl, h.wrote hb h.left hB hO⟩
theorem PSt.box (h : PSt w Wr b B l m W) {Bx : Nat} {cs : Array Value} {fz : Nat × Nat} (hx : Wr.heap[Bx]? = some (.cells cs 43 fz)) : W.heap[Bx]? = some (.cells cs 43 fz) := h.kp.same _ _ _ _ hx (by decide) (by decide)
end
def StandG.of {G : S51 → Prop} (s : Stand) (h : G s.x) : StandG G := ⟨s, h⟩
theorem print_enters : ∀ (args : Array Value) (w : World), (callFunc 59 args).run Try.prog w = .ok (.enter 59 args) w := enters_of Try.func59 (by kernel_rfl) rfl
/-- What is known of each row. -/
def PG (M : Nat) (x : S51) : Prop := 1 ≤ x.f0 ∧ x.f0 ≤ 1000000 ∧ (lineL x).length ≤ M
theorem printed_len (M : Nat) (pre : List (StandG (PG M))) : (pre.flatMap fun s => lineL s.x).length ≤ pre.length * M := by
  induction pre with
  | nil => simp
  | cons s pre ih =>
    rw [List.flatMap_cons, List.length_append, List.length_cons, Nat.succ_mul]
    have := s.2.2.2
    have h2 : (lineL s.x).length ≤ M := this
    omega
theorem ownFrom_bld (b : Nat) (B : Nat) (M : Nat) : OwnFrom B (fun (pre : List (StandG (PG M))) W => Bld b b (pre.flatMap fun s => lineL s.x) W) :=
  Own.from (fun s W W' row hs hg hr => hs.kept hg hr) _
/-- Between two rounds. -/
def PI (w : World) (M : Nat) (pre : List (StandG (PG M))) (W : World) : Prop := Bld w.heap.size w.heap.size (pre.flatMap fun s => lineL s.x) W ∧ Below w.heap.size w W
theorem PI.own (w : World) (M B : Nat) (hB : w.heap.size ≤ B) : OwnFrom B (PI w M) := OwnFrom.and (ownFrom_bld _ _ _) (ownFrom_below (Nat.le_refl _) hB)
/-- How a round of Print begins. -/
def PAx (A : Option Addr) (c : Nat) (l : List S43) (b : Nat) (G : S51 → Prop) (s : StandG G) (a' : Act) (W : World) : Prop :=
  ∃ Bx, W.heap[Bx]? = some (.cells #[.int .i64 s.1.x.f1.f0, .string s.1.x.f1.f1, .slice s.1.A s.1.x.f1.f2.length s.1.c] 43 (0, 0)) ∧ a' = { tmps := #[.slice A l.length c, undef, .string ⟨#[]⟩, .pointer (some ⟨b, 0, none⟩), .int .i64 s.1.x.f0, .pointer (some ⟨Bx, 0, none⟩), undef, .slice A l.length c, .func (.func 59) #[] #[.pointer (some ⟨b + 1, 0, none⟩)], .int .i64 s.1.x.f0, .agg #[.int .i64 s.1.x.f1.f0, .string s.1.x.f1.f1, .slice s.1.A s.1.x.f1.f2.length s.1.c], undef, undef, undef, undef, undef, undef, undef, undef, undef, undef, undef, undef, undef, undef, undef, undef, undef, undef, undef, undef, undef, undef], defers := [] }
theorem print_own (A : Option Addr) (c : Nat) (l : List S43) (b B : Nat) (G : S51 → Prop) : ∀ s a', OwnFrom B (fun (_ : Unit) W => PAx A c l b G s a' W) := fun s a' _ X Y row hs hg hr => by
  obtain ⟨Bx, h1, h2⟩ := hs
  exact ⟨Bx, (hg.block Bx (Array.getElem?_eq_some_iff.1 h1).1 (fun e => by obtain ⟨o, ho, hc⟩ := (hr Bx e.symm).2; rw [h1] at ho; cases ho; cases hc)).trans h1, h2⟩
set_option maxRecDepth 100000 in
set_option maxHeartbeats 4000000 in
theorem print_calls (k : Nat) (A : Option Addr) (c : Nat) (l : List S43) (r : List S51) (M : Nat) (w : World) (hP : rowsP k l 1 = some r) (hk : k ≤ 900000) (hr : r.length ≤ 900000000) (hM : r.length * M ≤ 140737488355328) (hG : ∀ x ∈ r, PG M x) (hC : Kd.C k43 w A l.length l) (hc : l.length ≤ c) :
    Calls Try.prog 31 #[.slice A l.length c] w fun e w' => e = .returned (.string ⟨(r.flatMap lineL).toArray⟩) ∧ Below w.heap.size w w' := by
  refine (callsIn_wide (n := 6)).1 ?_
  refine callsIn_of_wp_marks Try.func31 rfl trivial ?_ rfl
  simp only [Try.ntmps31, List.size_toArray, List.length_cons, List.length_nil, Nat.reduceAdd, Nat.reduceSub, Array.replicate_succ, Array.replicate_zero, List.push_toArray, List.append_toArray, List.nil_append, List.cons_append]
  gi_wp2_with (refine ⟨trivial, ?_⟩; gi_at_call 30; refine (callsIn_wide.2 (all_calls A l.length c _)).mono ?_; rintro e w' ⟨rfl, rfl⟩)
  have b0 : Bld w.heap.size w.heap.size [] (w.alloc (.cells #[.pointer none, .slice none 0 0] 80)) := Lib.IsBuilderF.of (Lib.fresh_isBuilder 80 5 w)
  have hB0 : Below w.heap.size w ((w.alloc (.cells #[.pointer none, .slice none 0 0] 80)).alloc (.cells #[.slice A l.length c] 23)) := ((Below.refl _ w).alloc (Nat.le_refl _) _).alloc (by simp) _
  have b1 : Bld w.heap.size w.heap.size [] ((w.alloc (.cells #[.pointer none, .slice none 0 0] 80)).alloc (.cells #[.slice A l.length c] 23)) := b0.kept (World.grownBy_alloc _ _ none) (fun r e => by cases e)
  have bx : ((w.alloc (.cells #[.pointer none, .slice none 0 0] 80)).alloc (.cells #[.slice A l.length c] 23)).cell? ⟨w.heap.size + 1, 0, none⟩ = some (.slice A l.length c) := by
    have h1 := heap_alloc_new (w.alloc (.cells #[.pointer none, .slice none 0 0] 80)) (.cells #[.slice A l.length c] 23)
    rw [World.size_alloc] at h1
    exact (blk_cell h1 0).trans rfl
  have hsz : ((w.alloc (.cells #[.pointer none, .slice none 0 0] 80)).alloc (.cells #[.slice A l.length c] 23)).heap.size = w.heap.size + 2 := by simp
  obtain ⟨W0, hW0⟩ : ∃ W0, (w.alloc (.cells #[.pointer none, .slice none 0 0] 80)).alloc (.cells #[.slice A l.length c] 23) = W0 := ⟨_, rfl⟩
  rw [hW0] at b1 hB0 bx hsz ⊢
  clear hW0 b0
  have hCb := Kd.C_below hC hB0
  have hkb : ∀ (W : World) (l : Nat) (o o' : Obj), W0.heap.size ≤ l → W.heap[l]? = some o → o.isCells = false → o.isWalk = false → Kp W (W.putObj l o') := fun W l o o' hl ho hc _ => ⟨fun k cs t fz hk _ _ => (World.putObj_heap_other (fun e => by rw [e, ho] at hk; cases hk; cases hc)).trans hk⟩
  have hen := print_enters
  have hseq := iter_stops (PG M) (6 - 1) (by decide) W0 (w.heap.size + 1) A c l k r hP hk hr hG hCb hc bx Kp (fun X Y h k cs fz hx => h.same k cs 111 fz hx (by decide) (by decide))
  have hA := print_own A c l w.heap.size W0.heap.size (PG M)
  refine wpIn_rangeFunc_ownH (F := Fence.wide) (n := 6) (P := Try.prog) (α := StandG (PG M)) rfl (by decide) (gf := 59) (lb := #[.pointer (some ⟨w.heap.size + 1, 0, none⟩)]) ?hg ?hF hen
    hseq ?hKt
    hkb ?hB ?hps
    (PI w M)
    (fun _ _ _ => False) (PI.own w M _ (by omega))
    (fun _ _ _ _ _ hs _ _ => hs)
    ⟨b1, hB0⟩
    (PAx A c l w.heap.size (PG M)) hA
    ?assign ?body ?done ?stop
  case hg => rfl
  case hF => trivial
  case hKt => exact Kp.trans
  case hB => exact Below.refl _ _
  case hps => exact fun _ => rfl
  case assign =>
    rintro l2 pre ⟨⟨⟨f0, f1⟩, A3, c3⟩, hx⟩ W K ⟨hb1, hB1⟩ hK
    simp only [Stand.enc] at hK ⊢
    gi_wp2
    exact hK _ _ ((KeepsOthers.alloc _ _).from _) (Kp.alloc _ _) ⟨hb1.kept (World.grownBy_alloc _ _ none) (fun r e => by cases e), hB1.alloc hB1.size _⟩ ⟨W.heap.size, heap_alloc_new _ _, rfl⟩
  case body =>
    rintro l2 pre ⟨⟨⟨f0, f1⟩, A3, c3⟩, hx⟩ a' W hl ⟨rr, hrr⟩ ⟨hb1, hB1⟩ ⟨Bx, hBx, rfl⟩ hlt
    have hg := hx
    obtain ⟨hg1, hg2, hg3⟩ := hg
    have hpl := printed_len M pre
    have hbud : (pre.flatMap fun s => lineL s.x).length + M ≤ 140737488355328 := by
      have : (pre.length + 1) * M ≤ r.length * M := Nat.mul_le_mul_right _ hlt
      rw [Nat.succ_mul] at this
      omega
    have hS0 := PSt.begin (w := w) (B := W0.heap.size) hb1 hbud hB1
    obtain ⟨d, hd⟩ : ∃ d : Nat, f0 = (d : Int) + 1 := ⟨(f0 - 1).toNat, by have : 1 ≤ f0 := hg1; omega⟩
    subst hd
    have hdm : d ≤ 1000000 := by have : (d : Int) + 1 ≤ 1000000 := hg2; omega
    have hlen : 2 * d + (lineB ⟨(d : Int) + 1, f1⟩).length + (lineC ⟨(d : Int) + 1, f1⟩).length + 1 ≤ M := by
      have h3 : (lineL ⟨(d : Int) + 1, f1⟩).length ≤ M := hg3
      unfold lineL lineA at h3
      simp only [List.length_append, Lib.repeatL_length, List.length_cons, List.length_nil] at h3
      omega
    have HD := Aside0.mk (show ((pre ++ [StandG.of ⟨⟨(d : Int) + 1, f1⟩, A3, c3⟩ hx]).flatMap fun s => lineL s.x) = (pre.flatMap fun s => lineL s.x) ++ (Lib.repeatL [32, 32] d ++ lineB ⟨(d : Int) + 1, f1⟩ ++ lineC ⟨(d : Int) + 1, f1⟩ ++ [10]) by
      rw [List.flatMap_append]
      congr 1
      simp only [List.flatMap_cons, List.flatMap_nil, List.append_nil]
      unfold lineL lineA StandG.x StandG.of
      simp)
    simp only [] at hBx ⊢
    rcases f1 with ⟨tg, val, kids⟩
    have hbx1 : ∀ {W' : World}, W'.heap[Bx]? = some (.cells #[.int .i64 tg, .string val, .slice A3 kids.length c3] 43 (0, 0)) → W'.cell? ⟨Bx, 0, none⟩ = some (.int .i64 tg) ∧ W'.cell? ⟨Bx, 1, none⟩ = some (.string val) := fun h => ⟨(blk_cell h 0).trans rfl, (blk_cell h 1).trans rfl⟩
    have HBX := Aside0.mk hBx
    have HS := Aside0.mk hS0
    have HL := Aside0.mk hlen
    have HK : Aside0 (∀ {W' : World}, W'.heap[Bx]? = some (.cells #[.int .i64 tg, .string val, .slice A3 kids.length c3] 43 (0, 0)) → W'.cell? ⟨Bx, 0, none⟩ = some (.int .i64 tg) ∧ W'.cell? ⟨Bx, 1, none⟩ = some (.string val)) := ⟨hbx1⟩
    clear hS0 hlen hBx hb1 hB1 hg1 hg2 hg3 hpl hbud hrr hbx1
    replace HBX : Aside0 (W.heap[Bx]? = some (.cells #[.int .i64 tg, .string val, .slice A3 kids.length c3] 43 (0, 0))) := HBX
    obtain ⟨x0, x1⟩ := HK.out HBX.out
    have hsz2 : (⟨(Lib.repeatL [32, 32] d).toArray⟩ : ByteArray).size = 2 * d := by
      show (Lib.repeatL [32, 32] d).toArray.size = _
      rw [List.size_toArray, Lib.repeatL_length, Nat.mul_comm]
      rfl
    by_cases hp : partsL tg = []
    · have hbl : (lineB ⟨(d : Int) + 1, ⟨tg, val, kids⟩⟩) = [63] := by unfold lineB; exact if_pos hp
      by_cases hv : val = ⟨#[]⟩
      · have hcl : (lineC ⟨(d : Int) + 1, ⟨tg, val, kids⟩⟩) = [] := by unfold lineC; exact if_pos hv
        subst hv
        have hl := HL.out
        rw [hbl, hcl] at hl
        simp only [List.length_cons, List.length_nil, hexL_len, data_length] at hl
        gi_wp2_with (first | (refine ⟨trivial, ?_⟩; gi_at_call 61; (with_reducible refine (CallsIn.inRound l2 (callsIn_wide.2 (HS.out.rep d _ (by omega) hdm))).mono ?_); rintro e W2 ⟨rfl, hS⟩; have HS := Aside0.mk hS; obtain ⟨x0, x1⟩ := HK.out (hS.box HBX.out); clear hS) | (refine ⟨trivial, ?_⟩; gi_at_call 49; (with_reducible refine (CallsIn.inRound l2 (callsIn_wide.2 (HS.out.string _ (by rw [hsz2]; omega)))).mono ?_); rintro e W2 ⟨rfl, hS⟩; rw [hsz2] at hS; have HS := Aside0.mk hS; obtain ⟨x0, x1⟩ := HK.out (hS.box HBX.out); clear hS) | (refine ⟨trivial, ?_⟩; gi_at_call 62; (with_reducible refine (CallsIn.inRound l2 (callsIn_wide.2 (HS.out.parts0 tg hp))).mono ?_); rintro e W2 ⟨rfl, hS⟩; have HS := Aside0.mk hS; obtain ⟨x0, x1⟩ := HK.out (hS.box HBX.out); clear hS) | (refine ⟨trivial, ?_⟩; gi_at_call 63; (with_reducible refine (CallsIn.inRound l2 (callsIn_wide.2 (HS.out.hex _ (by omega)))).mono ?_); rintro e W2 ⟨rfl, hS⟩; have HS := Aside0.mk hS; obtain ⟨x0, x1⟩ := HK.out (hS.box HBX.out); clear hS) | (refine ⟨trivial, ?_⟩; gi_at_call 64; (with_reducible refine (CallsIn.inRound l2 (callsIn_wide.2 (HS.out.byte (by omega) 63 63 (by decide)))).mono ?_); rintro e W2 ⟨rfl, hS⟩; have HS := Aside0.mk hS; obtain ⟨x0, x1⟩ := HK.out (hS.box HBX.out); clear hS) | (refine ⟨trivial, ?_⟩; gi_at_call 64; (with_reducible refine (CallsIn.inRound l2 (callsIn_wide.2 (HS.out.byte (by omega) 32 32 (by decide)))).mono ?_); rintro e W2 ⟨rfl, hS⟩; have HS := Aside0.mk hS; obtain ⟨x0, x1⟩ := HK.out (hS.box HBX.out); clear hS) | (refine ⟨trivial, ?_⟩; gi_at_call 64; (with_reducible refine (CallsIn.inRound l2 (callsIn_wide.2 (HS.out.byte (by omega) 10 10 (by decide)))).mono ?_); rintro e W2 ⟨rfl, hS⟩; have HS := Aside0.mk hS; obtain ⟨x0, x1⟩ := HK.out (hS.box HBX.out); clear hS))
        refine ⟨HS.out.keeps, HS.out.kp, ?_, HS.out.below⟩
        have h3 := HS.out.bld
        have h4 := HD.out
        rw [hbl, hcl] at h4
        simp only [strL, List.append_assoc, List.nil_append, List.append_nil, List.cons_append] at h3 h4
        rw [← h4] at h3
        exact h3
      · have hcl : (lineC ⟨(d : Int) + 1, ⟨tg, val, kids⟩⟩) = 32 :: hexL val.data.toList := by unfold lineC; exact if_neg hv
        have hv1 := nempty_list hv
        have hl := HL.out
        rw [hbl, hcl] at hl
        simp only [List.length_cons, List.length_nil, hexL_len, data_length] at hl
        gi_wp2_with (first | (refine ⟨trivial, ?_⟩; gi_at_call 61; (with_reducible refine (CallsIn.inRound l2 (callsIn_wide.2 (HS.out.rep d _ (by omega) hdm))).mono ?_); rintro e W2 ⟨rfl, hS⟩; have HS := Aside0.mk hS; obtain ⟨x0, x1⟩ := HK.out (hS.box HBX.out); clear hS) | (refine ⟨trivial, ?_⟩; gi_at_call 49; (with_reducible refine (CallsIn.inRound l2 (callsIn_wide.2 (HS.out.string _ (by rw [hsz2]; omega)))).mono ?_); rintro e W2 ⟨rfl, hS⟩; rw [hsz2] at hS; have HS := Aside0.mk hS; obtain ⟨x0, x1⟩ := HK.out (hS.box HBX.out); clear hS) | (refine ⟨trivial, ?_⟩; gi_at_call 62; (with_reducible refine (CallsIn.inRound l2 (callsIn_wide.2 (HS.out.parts0 tg hp))).mono ?_); rintro e W2 ⟨rfl, hS⟩; have HS := Aside0.mk hS; obtain ⟨x0, x1⟩ := HK.out (hS.box HBX.out); clear hS) | (refine ⟨trivial, ?_⟩; gi_at_call 63; (with_reducible refine (CallsIn.inRound l2 (callsIn_wide.2 (HS.out.hex _ (by omega)))).mono ?_); rintro e W2 ⟨rfl, hS⟩; have HS := Aside0.mk hS; obtain ⟨x0, x1⟩ := HK.out (hS.box HBX.out); clear hS) | (refine ⟨trivial, ?_⟩; gi_at_call 64; (with_reducible refine (CallsIn.inRound l2 (callsIn_wide.2 (HS.out.byte (by omega) 63 63 (by decide)))).mono ?_); rintro e W2 ⟨rfl, hS⟩; have HS := Aside0.mk hS; obtain ⟨x0, x1⟩ := HK.out (hS.box HBX.out); clear hS) | (refine ⟨trivial, ?_⟩; gi_at_call 64; (with_reducible refine (CallsIn.inRound l2 (callsIn_wide.2 (HS.out.byte (by omega) 32 32 (by decide)))).mono ?_); rintro e W2 ⟨rfl, hS⟩; have HS := Aside0.mk hS; obtain ⟨x0, x1⟩ := HK.out (hS.box HBX.out); clear hS) | (refine ⟨trivial, ?_⟩; gi_at_call 64; (with_reducible refine (CallsIn.inRound l2 (callsIn_wide.2 (HS.out.byte (by omega) 10 10 (by decide)))).mono ?_); rintro e W2 ⟨rfl, hS⟩; have HS := Aside0.mk hS; obtain ⟨x0, x1⟩ := HK.out (hS.box HBX.out); clear hS))
        refine ⟨HS.out.keeps, HS.out.kp, ?_, HS.out.below⟩
        have h3 := HS.out.bld
        have h4 := HD.out
        rw [hbl, hcl] at h4
        simp only [strL, List.append_assoc, List.nil_append, List.append_nil, List.cons_append] at h3 h4
        rw [← h4] at h3
        exact h3
    · have hbl : (lineB ⟨(d : Int) + 1, ⟨tg, val, kids⟩⟩) = hexL (strL (partsL tg)) := by unfold lineB; exact if_neg hp
      by_cases hv : val = ⟨#[]⟩
      · have hcl : (lineC ⟨(d : Int) + 1, ⟨tg, val, kids⟩⟩) = [] := by unfold lineC; exact if_pos hv
        subst hv
        have hl := HL.out
        rw [hbl, hcl] at hl
        simp only [List.length_cons, List.length_nil, hexL_len, data_length, strL_len] at hl
        gi_wp2_with (first | (refine ⟨trivial, ?_⟩; gi_at_call 61; (with_reducible refine (CallsIn.inRound l2 (callsIn_wide.2 (HS.out.rep d _ (by omega) hdm))).mono ?_); rintro e W2 ⟨rfl, hS⟩; have HS := Aside0.mk hS; obtain ⟨x0, x1⟩ := HK.out (hS.box HBX.out); clear hS) | (refine ⟨trivial, ?_⟩; gi_at_call 49; (with_reducible refine (CallsIn.inRound l2 (callsIn_wide.2 (HS.out.string _ (by rw [hsz2]; omega)))).mono ?_); rintro e W2 ⟨rfl, hS⟩; rw [hsz2] at hS; have HS := Aside0.mk hS; obtain ⟨x0, x1⟩ := HK.out (hS.box HBX.out); clear hS) | (refine ⟨trivial, ?_⟩; gi_at_call 62; (with_reducible refine (CallsIn.inRound l2 (callsIn_wide.2 (HS.out.parts1 tg hp))).mono ?_); rintro e W2 ⟨g2, c2, rfl, hcv, hS⟩; have HS := Aside0.mk hS; obtain ⟨x0, x1⟩ := HK.out (hS.box HBX.out); clear hS) | (refine ⟨trivial, ?_⟩; gi_at_call 63; (with_reducible refine (CallsIn.inRound l2 (callsIn_wide.2 (HS.out.hex _ (by omega)))).mono ?_); rintro e W2 ⟨rfl, hS⟩; have HS := Aside0.mk hS; obtain ⟨x0, x1⟩ := HK.out (hS.box HBX.out); clear hS) | (refine ⟨trivial, ?_⟩; gi_at_call 64; (with_reducible refine (CallsIn.inRound l2 (callsIn_wide.2 (HS.out.byte (by omega) 63 63 (by decide)))).mono ?_); rintro e W2 ⟨rfl, hS⟩; have HS := Aside0.mk hS; obtain ⟨x0, x1⟩ := HK.out (hS.box HBX.out); clear hS) | (refine ⟨trivial, ?_⟩; gi_at_call 64; (with_reducible refine (CallsIn.inRound l2 (callsIn_wide.2 (HS.out.byte (by omega) 32 32 (by decide)))).mono ?_); rintro e W2 ⟨rfl, hS⟩; have HS := Aside0.mk hS; obtain ⟨x0, x1⟩ := HK.out (hS.box HBX.out); clear hS) | (refine ⟨trivial, ?_⟩; gi_at_call 64; (with_reducible refine (CallsIn.inRound l2 (callsIn_wide.2 (HS.out.byte (by omega) 10 10 (by decide)))).mono ?_); rintro e W2 ⟨rfl, hS⟩; have HS := Aside0.mk hS; obtain ⟨x0, x1⟩ := HK.out (hS.box HBX.out); clear hS))
        refine ⟨HS.out.keeps, HS.out.kp, ?_, HS.out.below⟩
        have h3 := HS.out.bld
        have h4 := HD.out
        rw [hbl, hcl] at h4
        simp only [strL, List.append_assoc, List.nil_append, List.append_nil, List.cons_append] at h3 h4
        rw [← h4] at h3
        exact h3
      · have hcl : (lineC ⟨(d : Int) + 1, ⟨tg, val, kids⟩⟩) = 32 :: hexL val.data.toList := by unfold lineC; exact if_neg hv
        have hv1 := nempty_list hv
        have hl := HL.out
        rw [hbl, hcl] at hl
        simp only [List.length_cons, List.length_nil, hexL_len, data_length, strL_len] at hl
        gi_wp2_with (first | (refine ⟨trivial, ?_⟩; gi_at_call 61; (with_reducible refine (CallsIn.inRound l2 (callsIn_wide.2 (HS.out.rep d _ (by omega) hdm))).mono ?_); rintro e W2 ⟨rfl, hS⟩; have HS := Aside0.mk hS; obtain ⟨x0, x1⟩ := HK.out (hS.box HBX.out); clear hS) | (refine ⟨trivial, ?_⟩; gi_at_call 49; (with_reducible refine (CallsIn.inRound l2 (callsIn_wide.2 (HS.out.string _ (by rw [hsz2]; omega)))).mono ?_); rintro e W2 ⟨rfl, hS⟩; rw [hsz2] at hS; have HS := Aside0.mk hS; obtain ⟨x0, x1⟩ := HK.out (hS.box HBX.out); clear hS) | (refine ⟨trivial, ?_⟩; gi_at_call 62; (with_reducible refine (CallsIn.inRound l2 (callsIn_wide.2 (HS.out.parts1 tg hp))).mono ?_); rintro e W2 ⟨g2, c2, rfl, hcv, hS⟩; have HS := Aside0.mk hS; obtain ⟨x0, x1⟩ := HK.out (hS.box HBX.out); clear hS) | (refine ⟨trivial, ?_⟩; gi_at_call 63; (with_reducible refine (CallsIn.inRound l2 (callsIn_wide.2 (HS.out.hex _ (by omega)))).mono ?_); rintro e W2 ⟨rfl, hS⟩; have HS := Aside0.mk hS; obtain ⟨x0, x1⟩ := HK.out (hS.box HBX.out); clear hS) | (refine ⟨trivial, ?_⟩; gi_at_call 64; (with_reducible refine (CallsIn.inRound l2 (callsIn_wide.2 (HS.out.byte (by omega) 63 63 (by decide)))).mono ?_); rintro e W2 ⟨rfl, hS⟩; have HS := Aside0.mk hS; obtain ⟨x0, x1⟩ := HK.out (hS.box HBX.out); clear hS) | (refine ⟨trivial, ?_⟩; gi_at_call 64; (with_reducible refine (CallsIn.inRound l2 (callsIn_wide.2 (HS.out.byte (by omega) 32 32 (by decide)))).mono ?_); rintro e W2 ⟨rfl, hS⟩; have HS := Aside0.mk hS; obtain ⟨x0, x1⟩ := HK.out (hS.box HBX.out); clear hS) | (refine ⟨trivial, ?_⟩; gi_at_call 64; (with_reducible refine (CallsIn.inRound l2 (callsIn_wide.2 (HS.out.byte (by omega) 10 10 (by decide)))).mono ?_); rintro e W2 ⟨rfl, hS⟩; have HS := Aside0.mk hS; obtain ⟨x0, x1⟩ := HK.out (hS.box HBX.out); clear hS))
        refine ⟨HS.out.keeps, HS.out.kp, ?_, HS.out.below⟩
        have h3 := HS.out.bld
        have h4 := HD.out
        rw [hbl, hcl] at h4
        simp only [strL, List.append_assoc, List.nil_append, List.append_nil, List.cons_append] at h3 h4
        rw [← h4] at h3
        exact h3
  case done =>
    rintro D zs W hD hzs ⟨hb1, hB1⟩ hK
    have HS := Aside0.mk (PSt.begin (w := w) (Wr := W) (B := W0.heap.size) (m := 0) hb1 (by
      have h1 := printed_len M zs
      have h2 : zs.length = r.length := by rw [← hzs, List.length_map]
      rw [h2] at h1
      omega) hB1)
    have HZ := Aside0.mk hzs
    clear hb1 hB1 hzs
    gi_wp2_with (refine ⟨trivial, ?_⟩; gi_at_call 51; (with_reducible refine (callsIn_wide.2 HS.out.text).mono ?_); rintro e W2 ⟨rfl, hS⟩; have HS2 := Aside0.mk hS; have hK2 := hS.keeps.same D _ hD hK rfl; clear hS)
    refine ⟨by simp, .inl ⟨_, _, rfl, run_takeDeferred hK2, ?_⟩⟩
    have hz := HZ.out
    have ez : (zs.flatMap fun s => lineL s.x) = r.flatMap lineL := by rw [← hz, List.flatMap_map]
    refine ⟨_, results_tmp rfl _ _ _, ?_, HS2.out.below.trans (belowK_b (w := w) (Nat.le_refl _) W2 D _ _ (by omega) hK2 rfl rfl)⟩
    rw [← ez]
    rfl
  case stop =>
    rintro D c pre W _ _ h _
    exact h.elim
end Go.Proofs.Ytjbhhgecdcgpeaa.Tb
