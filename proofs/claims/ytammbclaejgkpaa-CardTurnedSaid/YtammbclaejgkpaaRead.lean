/- What card.ReadTrack answers: the walk of its code, label by label, against a plain Lean function. For every text; no condition. -/
import Derived.Test.YtammbclaejgkpaaProg
import Derived.Below
import Derived.Deep.Draws
import Derived.Deep.AppendLies
import Derived.Maps.AppendAt
import Derived.OwnWalk
import Derived.Laws.BytesArg
import Derived.Laws.MakeOwn
import Derived.Laws.OwnMore
import Derived.Deep.OwnRows
import Derived.Tactics
import Derived.Lib.ConvBytes
import Derived.Laws.Slices
import Derived.WalkKit
import Derived.KernelRfl
import Derived.RowKit3
import Derived.Deep.LoopGhost
import Derived.Deep.QuietTactic
import Derived.BigQuiet
import Derived.WideLaws
import Derived.Deep.DeepCutAuto
import Derived.Deep.CutBlock
import Derived.Deep.RegionHeld3
import Derived.Laws.Rows
import Derived.Lib.AppendStr
import Derived.ArgAppend
import Derived.Laws.IdiomCopy
import Derived.OrdersHeld
import Derived.Laws.BitsLemmas
import Derived.RowKit
import Derived.Test.YtammbclaejgkpaaWWords
import Derived.Test.YtammbclaejgkpaaWLast
import Derived.Test.YtammbclaejgkpaaWTab
import Derived.Test.YtammbclaejgkpaaWFour
import Derived.Test.YtammbclaejgkpaaWQPut
import Derived.Test.YtammbclaejgkpaaWApart
import Derived.Test.YtammbclaejgkpaaWArr
import Derived.Test.YtammbclaejgkpaaWZeros
import Derived.Test.YtammbclaejgkpaaWFoot
import Derived.Test.YtammbclaejgkpaaWKept
import Derived.Test.YtammbclaejgkpaaWShare
import Derived.Test.YtammbclaejgkpaaWN
import Derived.Test.YtammbclaejgkpaaWFootNe
import Derived.Test.YtammbclaejgkpaaWAt
import Derived.Test.YtammbclaejgkpaaWEqStruct
import Derived.Test.YtammbclaejgkpaaWRepsOne
import Derived.Test.YtammbclaejgkpaaWInv
import Derived.Test.YtammbclaejgkpaaWInvWords
import Derived.Test.YtammbclaejgkpaaWGuard
import Derived.Test.YtammbclaejgkpaaWNEv
import Derived.Test.YtammbclaejgkpaaWMore
import Derived.Test.YtammbclaejgkpaaGoto
import Derived.WalkMore
import Derived.Lib.Hide
namespace Go.Proofs.Ytammbclaejgkpaa.CardRead
open Go Go.RowKit Go.Proofs.YtammbclaejgkpaaW.PrintWords Go.Proofs.YtammbclaejgkpaaW.PrintLast Go.Proofs.YtammbclaejgkpaaW.PrintMore Gotos
abbrev Res := ByteArray × ByteArray × ByteArray × ByteArray × Int × Int
abbrev E : ByteArray := ⟨#[]⟩
def bad (n : Nat) : Res := (E, E, E, E, 52, (n : Int))
def dg (c : Int) : Bool := decide (48 ≤ c) && decide (c ≤ 57)
theorem dg_yes {c : Int} (h : dg c = true) : 48 ≤ c ∧ c ≤ 57 := by simpa [dg] using h
theorem dg_no {c : Int} (h : dg c = false) : c < 48 ∨ 57 < c := by simp [dg] at h; omega
/-- The rest: n bytes are left, the next one is at 'i'. -/
def rest (s pn ex sv : ByteArray) (fm : Nat) : Nat → Nat → Res
  | 0, _ => (pn, ex, sv, s.extract fm s.size, 0, 0)
  | n + 1, i => if dg (bt s i) = true then rest s pn ex sv fm n (i + 1) else bad i
def serv (s pn ex : ByteArray) (fm : Nat) : Nat → Nat → Res
  | 0, i => bad i
  | n + 1, i => if i = fm ∧ bt s i = 61 then rest s pn ex E (i + 1) n (i + 1) else if dg (bt s i) = false then bad i
    else if i + 1 < fm + 3 then serv s pn ex fm n (i + 1) else rest s pn ex (s.extract fm (i + 1)) (i + 1) n (i + 1)
/-- May this byte not be the k-th of a month? p: the byte ahead of it. -/
def offMonth (k : Nat) (p c : Int) : Bool := !(dg c) || (decide (k = 2) && decide (49 < c)) || (decide (k = 3) && decide (p = 48) && decide (c = 48)) || (decide (k = 3) && decide (p = 49) && decide (50 < c))
theorem off_no {k : Nat} {p c : Int} (h : dg c = false) : offMonth k p c = true := by simp [offMonth, h]
theorem off_0 {p c : Int} (h : dg c = true) : ¬ offMonth 0 p c = true := by simp [offMonth, h]
theorem off_1 {p c : Int} (h : dg c = true) : ¬ offMonth 1 p c = true := by simp [offMonth, h]
theorem off_2 {p c : Int} (h : dg c = true) (g : decide (49 < c) = false) : ¬ offMonth 2 p c = true := by simp at g; simp [offMonth, h]; omega
theorem off_2n {p c : Int} (h : dg c = true) (g : decide (49 < c) = true) : offMonth 2 p c = true := by simp at g; simp [offMonth, h]; omega
theorem off_3a {p c : Int} (h : dg c = true) (p48 : (p == 48) = true) (g : (c == 48) = true) : offMonth 3 p c = true := by simp at p48 g; simp [offMonth, h]; omega
theorem off_3b {p c : Int} (h : dg c = true) (p48 : (p == 48) = true) (g : (c == 48) = false) : ¬ offMonth 3 p c = true := by simp at p48 g; simp [offMonth, h]; omega
theorem off_3c {p c : Int} (h : dg c = true) (p48 : (p == 49) = true) (g : decide (50 < c) = true) : offMonth 3 p c = true := by simp at p48 g; simp [offMonth, h]; omega
theorem off_3d {p c : Int} (h : dg c = true) (p48 : (p == 49) = true) (g : decide (50 < c) = false) : ¬ offMonth 3 p c = true := by simp at p48 g; simp [offMonth, h]; omega
theorem off_3e {p c : Int} (h : dg c = true) (p48 : (p == 48) = false) (g : (p == 49) = false) : ¬ offMonth 3 p c = true := by simp at p48 g; simp [offMonth, h]; omega
def expi (s pn : ByteArray) (fm : Nat) : Nat → Nat → Res
  | 0, i => bad i
  | n + 1, i => if i = fm ∧ bt s i = 61 then serv s pn E (i + 1) n (i + 1) else if offMonth (i - fm) (bt s ((i : Int) - 1)) (bt s i) = true then bad i
    else if i + 1 < fm + 4 then expi s pn fm n (i + 1) else serv s pn (s.extract fm (i + 1)) (i + 1) n (i + 1)
def pan (s : ByteArray) : Nat → Nat → Res
  | 0, i => bad i
  | n + 1, i => if dg (bt s i) = true ∧ i < 19 then pan s n (i + 1) else if bt s i ≠ 61 ∨ i = 0 then bad i else expi s (s.extract 0 i) (i + 1) n (i + 1)
def read (s : ByteArray) : Res := if 37 < s.size then bad 37 else pan s s.size 0

theorem digit_any (c : Int) (w : World) : Calls Try.prog 37 #[.int .u8 c] w fun e w' => e = .returned (.bool (dg c)) ∧ w = w' := by
  by_cases h : 48 ≤ c
  · have hb : decide (48 ≤ c) = true := by simpa using h
    go_enter Try.func37, Try.ntmps37
    go_wp2
    go_ret
    exact ⟨by simp [dg, h], rfl⟩
  · have hb : decide (48 ≤ c) = false := by simpa using h
    go_enter Try.func37, Try.ntmps37
    go_wp2
    go_ret
    exact ⟨by simp only [dg, hb, Bool.false_and]; rfl, rfl⟩

/-- The frame at a label. -/
def fr (us : Nat → Value) (s : ByteArray) (b : Nat) (at_ fm : Int) : Act := ⟨#[.string s, us 1, .pointer (some ⟨b, 0, none⟩), .int .i64 0, .int .i64 0, .pointer (some ⟨b + 1, 0, none⟩), .int .i64 at_, .int .i64 fm, us 8, us 9, us 10, us 11, us 12, us 13, us 14, us 15, us 16, us 17, us 18, us 19, us 20, us 21, us 22, us 23, us 24, us 25, us 26, us 27, us 28, us 29, us 30, us 31, us 32, us 33, us 34, us 35, us 36, us 37, us 38, us 39, us 40, us 41, us 42, us 43, us 44, us 45, us 46, us 47, us 48, us 49, us 50, us 51, us 52, us 53, us 54, us 55, us 56, us 57, us 58, us 59, us 60, us 61, us 62, us 63, us 64, us 65, us 66, us 67, us 68, us 69, us 70, us 71, us 72, us 73, us 74, us 75, us 76, us 77, us 78, us 79, us 80, us 81, us 82, us 83, us 84, us 85, us 86, us 87, us 88, us 89, us 90, us 91, us 92, us 93, us 94, us 95, us 96, us 97, us 98, us 99, us 100, us 101, us 102, us 103, us 104, us 105, us 106, us 107, us 108, us 109, us 110, us 111, us 112, us 113, us 114, us 115, us 116, us 117, us 118, us 119, us 120, us 121, us 122, us 123, us 124, us 125, us 126, us 127, us 128, us 129, us 130, us 131, us 132, us 133, us 134, us 135, us 136, us 137, us 138, us 139, us 140, us 141, us 142, us 143, us 144, us 145, us 146, us 147, us 148, us 149, us 150, us 151, us 152, us 153, us 154, us 155, us 156, us 157, us 158, us 159, us 160, us 161, us 162, us 163, us 164, us 165, us 166, us 167, us 168, us 169, us 170, us 171, us 172, us 173, us 174, us 175], []⟩
theorem mk_fr {a : Act} {s : ByteArray} {b : Nat} {at_ fm : Int} (h : a = fr (fun i => a.tmps.getD i undef) s b at_ fm) : ∃ us, a = fr us s b at_ fm := ⟨_, h⟩
def Wd (w : World) (pn ex sv : ByteArray) : World := (w.alloc (.cells #[.string E, .string E, .string E, .string E] 24)).alloc (.cells #[.string pn, .string ex, .string sv, .string E] 24)
def J0 (s : ByteArray) (w : World) (r : Res) (_ : Nat) (a : Act) (w' : World) : Prop := ∃ us, ∃ i : Nat, ∃ fm pn ex sv, a = fr us s w.heap.size i fm ∧ w' = Wd w pn ex sv ∧ bad i = r
def J6 (s : ByteArray) (w : World) (r : Res) (n : Nat) (a : Act) (w' : World) : Prop := ∃ us, ∃ i fm : Nat, ∃ pn ex sv, a = fr us s w.heap.size i fm ∧ w' = Wd w pn ex sv ∧ n + i = s.size ∧ fm ≤ i ∧ rest s pn ex sv fm n i = r
def J4 (s : ByteArray) (w : World) (r : Res) (n : Nat) (a : Act) (w' : World) : Prop := ∃ us, ∃ i : Nat, ∃ fm pn ex sv, a = fr us s w.heap.size i fm ∧ w' = Wd w pn ex sv ∧ n + i = s.size ∧ rest s pn ex sv i n i = r
def J5 (s : ByteArray) (w : World) (r : Res) (n : Nat) (a : Act) (w' : World) : Prop := ∃ us, ∃ i fm : Nat, ∃ pn ex, a = fr us s w.heap.size i fm ∧ w' = Wd w pn ex E ∧ n + i = s.size ∧ fm ≤ i ∧ i < fm + 3 ∧ serv s pn ex fm n i = r
def J2 (s : ByteArray) (w : World) (r : Res) (n : Nat) (a : Act) (w' : World) : Prop := ∃ us, ∃ i : Nat, ∃ fm pn ex, a = fr us s w.heap.size i fm ∧ w' = Wd w pn ex E ∧ n + i = s.size ∧ serv s pn ex i n i = r
def J3 (s : ByteArray) (w : World) (r : Res) (n : Nat) (a : Act) (w' : World) : Prop := ∃ us, ∃ i fm : Nat, ∃ pn, a = fr us s w.heap.size i fm ∧ w' = Wd w pn E E ∧ n + i = s.size ∧ fm ≤ i ∧ i < fm + 4 ∧ 1 ≤ fm ∧ expi s pn fm n i = r
def J1 (s : ByteArray) (w : World) (r : Res) (n : Nat) (a : Act) (w' : World) : Prop := ∃ us, ∃ i : Nat, ∃ fm, a = fr us s w.heap.size i fm ∧ w' = Wd w E E E ∧ n + i = s.size ∧ i ≤ 19 ∧ pan s n i = r
theorem J0_mk {s : ByteArray} {w w' : World} {r : Res} {n : Nat} {a : Act} {iv fv : Int} (i : Nat) (pn ex sv : ByteArray) (h : a = fr (fun k => a.tmps.getD k undef) s w.heap.size iv fv) (hi : iv = i) (hw : w' = Wd w pn ex sv) (hr : bad i = r) : J0 s w r n a w' := by
  subst hi
  exact ⟨_, i, fv, pn, ex, sv, h, hw, hr⟩
theorem J6_mk {s : ByteArray} {w w' : World} {r : Res} {n : Nat} {a : Act} {iv fv : Int} (i fm : Nat) (pn ex sv : ByteArray) (h : a = fr (fun k => a.tmps.getD k undef) s w.heap.size iv fv) (hi : iv = i) (hf : fv = fm) (hw : w' = Wd w pn ex sv) (hn : n + i = s.size) (hle : fm ≤ i) (hr : rest s pn ex sv fm n i = r) : J6 s w r n a w' := by
  subst hi hf
  exact ⟨_, i, fm, pn, ex, sv, h, hw, hn, hle, hr⟩
theorem J4_mk {s : ByteArray} {w w' : World} {r : Res} {n : Nat} {a : Act} {iv fv : Int} (i : Nat) (pn ex sv : ByteArray) (h : a = fr (fun k => a.tmps.getD k undef) s w.heap.size iv fv) (hi : iv = i) (hw : w' = Wd w pn ex sv) (hn : n + i = s.size) (hr : rest s pn ex sv i n i = r) : J4 s w r n a w' := by
  subst hi
  exact ⟨_, i, fv, pn, ex, sv, h, hw, hn, hr⟩
theorem J5_mk {s : ByteArray} {w w' : World} {r : Res} {n : Nat} {a : Act} {iv fv : Int} (i fm : Nat) (pn ex : ByteArray) (h : a = fr (fun k => a.tmps.getD k undef) s w.heap.size iv fv) (hi : iv = i) (hf : fv = fm) (hw : w' = Wd w pn ex E) (hn : n + i = s.size) (hle : fm ≤ i) (hlt : i < fm + 3) (hr : serv s pn ex fm n i = r) : J5 s w r n a w' := by
  subst hi hf
  exact ⟨_, i, fm, pn, ex, h, hw, hn, hle, hlt, hr⟩
theorem J2_mk {s : ByteArray} {w w' : World} {r : Res} {n : Nat} {a : Act} {iv fv : Int} (i : Nat) (pn ex : ByteArray) (h : a = fr (fun k => a.tmps.getD k undef) s w.heap.size iv fv) (hi : iv = i) (hw : w' = Wd w pn ex E) (hn : n + i = s.size) (hr : serv s pn ex i n i = r) : J2 s w r n a w' := by
  subst hi
  exact ⟨_, i, fv, pn, ex, h, hw, hn, hr⟩
theorem J3_mk {s : ByteArray} {w w' : World} {r : Res} {n : Nat} {a : Act} {iv fv : Int} (i fm : Nat) (pn : ByteArray) (h : a = fr (fun k => a.tmps.getD k undef) s w.heap.size iv fv) (hi : iv = i) (hf : fv = fm) (hw : w' = Wd w pn E E) (hn : n + i = s.size) (hle : fm ≤ i) (hlt : i < fm + 4) (h1 : 1 ≤ fm) (hr : expi s pn fm n i = r) : J3 s w r n a w' := by
  subst hi hf
  exact ⟨_, i, fm, pn, h, hw, hn, hle, hlt, h1, hr⟩
theorem J1_mk {s : ByteArray} {w w' : World} {r : Res} {n : Nat} {a : Act} {iv fv : Int} (i : Nat) (h : a = fr (fun k => a.tmps.getD k undef) s w.heap.size iv fv) (hi : iv = i) (hw : w' = Wd w E E E) (hn : n + i = s.size) (hle : i ≤ 19) (hr : pan s n i = r) : J1 s w r n a w' := by
  subst hi
  exact ⟨_, i, fv, h, hw, hn, hle, hr⟩
theorem blk_first (w : World) (o o' : Obj) : ((w.alloc o).alloc o').heap[w.heap.size]? = some o := blk_alloc (blk_new w o) o'
theorem below_two (w : World) (o o' : Obj) : Below w.heap.size w ((w.alloc o).alloc o') := ((Below.refl _ _).alloc (Nat.le_refl _) _).alloc (by simp) _
def Post (w : World) (r : Res) (e : Ending) (w' : World) : Prop :=
  e = .returned (.tuple #[.agg #[.string r.1, .string r.2.1, .string r.2.2.1, .string r.2.2.2.1], .int .i64 r.2.2.2.2.1, .int .i64 r.2.2.2.2.2]) ∧ Below w.heap.size w w'

set_option maxRecDepth 100000 in
set_option maxHeartbeats 8000000 in
theorem read_any (s : ByteArray) (w : World) (hs : s.size ≤ 37) (r : Res) (hr : Hid (pan s s.size 0 = r)) : Calls Try.prog 13 #[.string s] w (Post w r) := by
  go_enter Try.func13, Try.ntmps13
  go_wp2
  refine wp_scope_free ?_
  intro X hret hnorm hgo
  have Hret := Lib.hid hret
  have Hgo := Lib.hid hgo
  clear hret hgo hnorm
  refine label_by1 Hgo.out 0 rfl (J0 s w r) ?_ ?_
  · rintro n a w' ⟨us, i, fm, pn, ex, sv, rfl, rfl, hb⟩ _
    clear Hgo
    subst hb
    unfold fr Wd
    go_wp2
    exact Hret.out _ _ (bodyPost_ret (results_ctt rfl _ _ w.heap.size 24 #[.string E, .string E, .string E, .string E] (0, 0) _ rfl (blk_first _ _ _) Try.underlying24 rfl (by kernel_rfl)) rfl ⟨by simp [bad], below_two _ _ _⟩)
  intro f0 g0
  have G0 := Lib.hid g0
  clear f0 g0
  refine label_by1 Hgo.out 6 rfl (J6 s w r) ?_ ?_
  · clear Hgo
    rintro n a w' ⟨us, i, fm, pn, ex, sv, rfl, rfl, hn, hfm, hb⟩ ih
    have Ih := Lib.hid ih
    have Hb := Lib.hid hb
    clear hb ih
    unfold fr Wd
    cases n with
    | zero =>
      obtain rfl : i = s.size := by omega
      go_wp2
      exact Hret.out _ _ (bodyPost_ret (results_ctt rfl _ _ w.heap.size 24 #[.string pn, .string ex, .string sv, .string (s.extract fm s.size)] (0, 0) _ rfl (blk_first _ _ _) Try.underlying24 rfl (by kernel_rfl)) rfl ⟨by rw [← Hb.out]; simp [rest], below_two _ _ _⟩)
    | succ n =>
      have hi : i < s.size := by omega
      have hx : ∀ h : i < s.size, ((s[i]'h).toNat : Int) = bt s i := fun h => by simpa using bt_at s i (by simpa using h)
      have hx' := eq_true hi
      cases hd : dg (bt s i) with
      | true =>
        go_wp2_with (go_at_call 37; refine (digit_any (bt s i) _).mono ?_; rintro e w' ⟨rfl, rfl⟩)
        refine wp_goto (show X (Exit.goto 6) _ _ from Ih.out n _ _ (J6_mk (i + 1) fm pn ex sv rfl (by omega) rfl rfl (by omega) (by omega) ?_) (by omega))
        rw [← Hb.out, rest, if_pos hd]
      | false =>
        go_wp2_with (go_at_call 37; refine (digit_any (bt s i) _).mono ?_; rintro e w' ⟨rfl, rfl⟩)
        refine wp_goto (show X (Exit.goto 0) _ _ from G0.out 0 _ _ (J0_mk i pn ex sv rfl rfl rfl ?_))
        rw [← Hb.out, rest, if_neg (by rw [hd]; decide)]
  intro f6 g6
  have F6 := Lib.hid f6
  clear f6 g6
  refine label_by1 Hgo.out 4 rfl (J4 s w r) ?_ ?_
  · clear Hgo
    rintro n a w' ⟨us, i, fm, pn, ex, sv, rfl, rfl, hn, hb⟩ _
    have Hb := Lib.hid hb
    clear hb
    unfold fr Wd
    go_wp2
    rename_i K hK
    exact wp_label (hK _ _ (F6.out n _ _ (J6_mk i i pn ex sv rfl rfl rfl rfl hn (by omega) Hb.out)))
  intro f4 g4
  have F4 := Lib.hid f4
  have G4 := Lib.hid g4
  clear f4 g4
  clear F6
  refine label_by1 Hgo.out 5 rfl (J5 s w r) ?_ ?_
  · clear Hgo
    rintro n a w' ⟨us, i, fm, pn, ex, rfl, rfl, hn, hfm, hlt, hb⟩ ih
    have Ih := Lib.hid ih
    have Hb := Lib.hid hb
    clear hb ih
    unfold fr Wd
    cases n with
    | zero =>
      obtain rfl : i = s.size := by omega
      go_wp2
      exact wp_goto (show X (Exit.goto 0) _ _ from G0.out 0 _ _ (J0_mk s.size pn ex E rfl rfl rfl (by rw [← Hb.out, serv])))
    | succ n =>
      have hi : i < s.size := by omega
      have hx : ∀ h : i < s.size, ((s[i]'h).toNat : Int) = bt s i := fun h => by simpa using bt_at s i (by simpa using h)
      have hx' := eq_true hi
      have hne : ((i : Int) == (s.size : Int)) = false := beq_eq_false_iff_ne.mpr (by omega)
      by_cases h0 : i = fm ∧ bt s i = 61
      · obtain ⟨rfl, h61⟩ := h0
        have hb61 : (bt s i == 61) = true := beq_iff_eq.mpr h61
        have He : Hid (rest s pn ex E (i + 1) n (i + 1) = r) := by
          have e := Hb.out
          rw [serv, if_pos ⟨rfl, h61⟩] at e
          exact e
        clear h61
        go_wp2
        exact wp_goto (show X (Exit.goto 4) _ _ from G4.out n _ _ (J4_mk (i + 1) pn ex E rfl (by omega) rfl (by omega) He.out))
      · have He : Hid ((if dg (bt s i) = false then bad i else if i + 1 < fm + 3 then serv s pn ex fm n (i + 1) else rest s pn ex (s.extract fm (i + 1)) (i + 1) n (i + 1)) = r) := by
          have e := Hb.out
          rw [serv, if_neg h0] at e
          exact e
        clear Hb
        have hcase : ((((i : Int) - (fm : Int)) == 0) = true ∧ (bt s i == 61) = false) ∨ (((i : Int) - (fm : Int)) == 0) = false := by
          by_cases hz : i = fm
          · exact .inl ⟨beq_iff_eq.mpr (by omega), beq_eq_false_iff_ne.mpr (fun h => h0 ⟨hz, h⟩)⟩
          · exact .inr (beq_eq_false_iff_ne.mpr (by omega))
        clear h0
        cases hd : dg (bt s i) with
        | true =>
          have He' : Hid ((if i + 1 < fm + 3 then serv s pn ex fm n (i + 1) else rest s pn ex (s.extract fm (i + 1)) (i + 1) n (i + 1)) = r) := by
            have e := He.out
            rw [if_neg (by rw [hd]; decide)] at e
            exact e
          clear He
          by_cases h3 : i + 1 < fm + 3
          · have h3b : decide ((i : Int) + 1 - (fm : Int) < 3) = true := decide_eq_true (by omega)
            rcases hcase with ⟨hk, h61⟩ | hk
            all_goals
              go_wp2_with (go_at_call 37; refine (digit_any (bt s i) _).mono ?_; rintro e w' ⟨rfl, rfl⟩)
              exact wp_goto (show X (Exit.goto 5) _ _ from Ih.out n _ _ (J5_mk (i + 1) fm pn ex rfl (by omega) rfl rfl (by omega) (by omega) (by omega) (by have e := He'.out; rw [if_pos h3] at e; exact e)) (by omega))
          · have h3b : decide ((i : Int) + 1 - (fm : Int) < 3) = false := decide_eq_false (by omega)
            have q1 : (fm : Int) ≤ (i : Int) + 1 := by omega
            have q2 : (i : Int) + 1 ≤ (s.size : Int) := by omega
            rcases hcase with ⟨hk, h61⟩ | hk
            all_goals
              go_wp2_with (go_at_call 37; refine (digit_any (bt s i) _).mono ?_; rintro e w' ⟨rfl, rfl⟩)
              rename_i K hK
              refine wp_label (hK _ _ (F4.out n _ _ (J4_mk (i + 1) pn ex (s.extract fm (i + 1)) rfl (by omega) ?_ (by omega) ?_)))
              · rfl
              · have e := He'.out
                rw [if_neg h3] at e
                exact e
        | false =>
          rcases hcase with ⟨hk, h61⟩ | hk
          all_goals
            go_wp2_with (go_at_call 37; refine (digit_any (bt s i) _).mono ?_; rintro e w' ⟨rfl, rfl⟩)
            exact wp_goto (show X (Exit.goto 0) _ _ from G0.out 0 _ _ (J0_mk i pn ex E rfl rfl rfl (by have e := He.out; rw [if_pos hd] at e; exact e)))
  intro f5 g5
  have F5 := Lib.hid f5
  clear f5 g5
  clear F4 G4
  refine label_by1 Hgo.out 2 rfl (J2 s w r) ?_ ?_
  · clear Hgo
    rintro n a w' ⟨us, i, fm, pn, ex, rfl, rfl, hn, hb⟩ _
    have Hb := Lib.hid hb
    clear hb
    unfold fr Wd
    go_wp2
    rename_i K hK
    exact wp_label (hK _ _ (F5.out n _ _ (J5_mk i i pn ex rfl rfl rfl rfl hn (by omega) (by omega) Hb.out)))
  intro f2 g2
  have F2 := Lib.hid f2
  have G2 := Lib.hid g2
  clear f2 g2
  clear F5
  refine label_by1 Hgo.out 3 rfl (J3 s w r) ?_ ?_
  · clear Hgo
    rintro n a w' ⟨us, i, fm, pn, rfl, rfl, hn, hfm, hlt, h1, hb⟩ ih
    have Ih := Lib.hid ih
    have Hb := Lib.hid hb
    clear hb ih
    unfold fr Wd
    cases n with
    | zero =>
      obtain rfl : i = s.size := by omega
      go_wp2
      exact wp_goto (show X (Exit.goto 0) _ _ from G0.out 0 _ _ (J0_mk s.size pn E E rfl rfl rfl (by rw [← Hb.out, expi])))
    | succ n =>
      have hi : i < s.size := by omega
      have hx : ∀ h : i < s.size, ((s[i]'h).toNat : Int) = bt s i := fun h => by simpa using bt_at s i (by simpa using h)
      have hx' := eq_true hi
      have hy : ∀ h : i - 1 < s.size, ((s[i - 1]'h).toNat : Int) = bt s ((i : Int) - 1) := fun h => by simpa [show ((i : Int) - 1).toNat = i - 1 by omega] using bt_at s ((i : Int) - 1) (by omega)
      have hy' : (i - 1 < s.size) = True := eq_true (by omega)
      have hy0 : (0 : Int) ≤ (i : Int) - 1 := by omega
      have hy1 : (i : Int) - 1 < (s.size : Int) := by omega
      have hne : ((i : Int) == (s.size : Int)) = false := beq_eq_false_iff_ne.mpr (by omega)
      have q1 : (fm : Int) ≤ (i : Int) + 1 := by omega
      have q2 : (i : Int) + 1 ≤ (s.size : Int) := by omega
      by_cases h0 : i = fm ∧ bt s i = 61
      · obtain ⟨rfl, h61⟩ := h0
        have hb61 : (bt s i == 61) = true := beq_iff_eq.mpr h61
        have He : Hid (serv s pn E (i + 1) n (i + 1) = r) := by
          have e := Hb.out
          rw [expi, if_pos ⟨rfl, h61⟩] at e
          exact e
        clear h61
        go_wp2
        exact wp_goto (show X (Exit.goto 2) _ _ from G2.out n _ _ (J2_mk (i + 1) pn E rfl (by omega) rfl (by omega) He.out))
      · have He0 : Hid ((if offMonth (i - fm) (bt s ((i : Int) - 1)) (bt s i) = true then bad i else if i + 1 < fm + 4 then expi s pn fm n (i + 1) else serv s pn (s.extract fm (i + 1)) (i + 1) n (i + 1)) = r) := by
          have e := Hb.out
          rw [expi, if_neg h0] at e
          exact e
        clear Hb
        have hcase : ((((i : Int) - (fm : Int)) == 0) = true ∧ (bt s i == 61) = false) ∨ (((i : Int) - (fm : Int)) == 0) = false := by
          by_cases hz : i = fm
          · exact .inl ⟨beq_iff_eq.mpr (by omega), beq_eq_false_iff_ne.mpr (fun h => h0 ⟨hz, h⟩)⟩
          · exact .inr (beq_eq_false_iff_ne.mpr (by omega))
        clear h0
        generalize hj : i - fm = j at He0
        have hjj : j = 0 ∨ j = 1 ∨ j = 2 ∨ j = 3 := by omega
        have Hj := Lib.hid hj
        clear hj
        cases hd : dg (bt s i) with
        | false =>
          have He := He0
          clear He0
          rcases hcase with ⟨hk, h61⟩ | hk
          all_goals
            go_wp2_with (go_at_call 37; refine (digit_any (bt s i) _).mono ?_; rintro e w' ⟨rfl, rfl⟩)
            exact wp_goto (show X (Exit.goto 0) _ _ from G0.out 0 _ _ (J0_mk i pn E E rfl rfl rfl (by have e := He.out; rw [if_pos (off_no hd)] at e; exact e)))
        | true =>
          rcases hjj with rfl | rfl | rfl | rfl
          · have k2 : (((i : Int) - (fm : Int)) == 2) = false := beq_eq_false_iff_ne.mpr (by have := Hj.out; omega)
            have k3 : (((i : Int) - (fm : Int)) == 3) = false := beq_eq_false_iff_ne.mpr (by have := Hj.out; omega)
            have h4 : decide ((i : Int) + 1 - (fm : Int) < 4) = true := decide_eq_true (by have := Hj.out; omega)
            have l4 : i + 1 < fm + 4 := by have := Hj.out; omega
            have He := He0
            clear He0
            rcases hcase with ⟨hk, h61⟩ | hk
            all_goals
              go_wp2_with (go_at_call 37; refine (digit_any (bt s i) _).mono ?_; rintro e w' ⟨rfl, rfl⟩)
              exact wp_goto (show X (Exit.goto 3) _ _ from Ih.out n _ _ (J3_mk (i + 1) fm pn rfl (by omega) rfl rfl (by omega) (by omega) (by omega) h1 (by have e := He.out; rw [if_neg (off_0 hd), if_pos (by omega)] at e; exact e)) (by omega))
          · have k2 : (((i : Int) - (fm : Int)) == 2) = false := beq_eq_false_iff_ne.mpr (by have := Hj.out; omega)
            have k3 : (((i : Int) - (fm : Int)) == 3) = false := beq_eq_false_iff_ne.mpr (by have := Hj.out; omega)
            have h4 : decide ((i : Int) + 1 - (fm : Int) < 4) = true := decide_eq_true (by have := Hj.out; omega)
            have l4 : i + 1 < fm + 4 := by have := Hj.out; omega
            have He := He0
            clear He0
            rcases hcase with ⟨hk, h61⟩ | hk
            all_goals
              go_wp2_with (go_at_call 37; refine (digit_any (bt s i) _).mono ?_; rintro e w' ⟨rfl, rfl⟩)
              exact wp_goto (show X (Exit.goto 3) _ _ from Ih.out n _ _ (J3_mk (i + 1) fm pn rfl (by omega) rfl rfl (by omega) (by omega) (by omega) h1 (by have e := He.out; rw [if_neg (off_1 hd), if_pos (by omega)] at e; exact e)) (by omega))
          · have k2 : (((i : Int) - (fm : Int)) == 2) = true := beq_iff_eq.mpr (by have := Hj.out; omega)
            have k3 : (((i : Int) - (fm : Int)) == 3) = false := beq_eq_false_iff_ne.mpr (by have := Hj.out; omega)
            have h4 : decide ((i : Int) + 1 - (fm : Int) < 4) = true := decide_eq_true (by have := Hj.out; omega)
            have l4 : i + 1 < fm + 4 := by have := Hj.out; omega
            have He := He0
            clear He0
            rcases hcase with ⟨hk, h61⟩ | hk
            · exact absurd hk (by rw [beq_iff_eq]; have := Hj.out; omega)
            · cases hg : decide (49 < bt s i) with
              | true =>
                go_wp2_with (go_at_call 37; refine (digit_any (bt s i) _).mono ?_; rintro e w' ⟨rfl, rfl⟩)
                exact wp_goto (show X (Exit.goto 0) _ _ from G0.out 0 _ _ (J0_mk i pn E E rfl rfl rfl (by have e := He.out; rw [if_pos (off_2n hd hg)] at e; exact e)))
              | false =>
                go_wp2_with (go_at_call 37; refine (digit_any (bt s i) _).mono ?_; rintro e w' ⟨rfl, rfl⟩)
                exact wp_goto (show X (Exit.goto 3) _ _ from Ih.out n _ _ (J3_mk (i + 1) fm pn rfl (by omega) rfl rfl (by omega) (by omega) (by omega) h1 (by have e := He.out; rw [if_neg (off_2 hd hg), if_pos (by omega)] at e; exact e)) (by omega))
          · have k2 : (((i : Int) - (fm : Int)) == 2) = false := beq_eq_false_iff_ne.mpr (by have := Hj.out; omega)
            have k3 : (((i : Int) - (fm : Int)) == 3) = true := beq_iff_eq.mpr (by have := Hj.out; omega)
            have h4 : decide ((i : Int) + 1 - (fm : Int) < 4) = false := decide_eq_false (by have := Hj.out; omega)
            have l4 : fm + 4 ≤ i + 1 := by have := Hj.out; omega
            have He := He0
            clear He0
            rcases hcase with ⟨hk, h61⟩ | hk
            · exact absurd hk (by rw [beq_iff_eq]; have := Hj.out; omega)
            · cases p48 : (bt s ((i : Int) - 1) == 48) with
              | true =>
                have p49 : (bt s ((i : Int) - 1) == 49) = false := beq_eq_false_iff_ne.mpr (by have := beq_iff_eq.mp p48; omega)
                cases hc : (bt s i == 48) with
                | true =>
                  go_wp2_with (go_at_call 37; refine (digit_any (bt s i) _).mono ?_; rintro e w' ⟨rfl, rfl⟩)
                  exact wp_goto (show X (Exit.goto 0) _ _ from G0.out 0 _ _ (J0_mk i pn E E rfl rfl rfl (by have e := He.out; rw [if_pos (off_3a hd p48 hc)] at e; exact e)))
                | false =>
                  go_wp2_with (go_at_call 37; refine (digit_any (bt s i) _).mono ?_; rintro e w' ⟨rfl, rfl⟩)
                  rename_i K hK
                  exact wp_label (hK _ _ (F2.out n _ _ (J2_mk (i + 1) pn (s.extract fm (i + 1)) rfl (by omega) rfl (by omega) (by have e := He.out; rw [if_neg (off_3b hd p48 hc), if_neg (by omega)] at e; exact e))))
              | false =>
                cases p49 : (bt s ((i : Int) - 1) == 49) with
                | true =>
                  cases hg : decide (50 < bt s i) with
                  | true =>
                    go_wp2_with (go_at_call 37; refine (digit_any (bt s i) _).mono ?_; rintro e w' ⟨rfl, rfl⟩)
                    exact wp_goto (show X (Exit.goto 0) _ _ from G0.out 0 _ _ (J0_mk i pn E E rfl rfl rfl (by have e := He.out; rw [if_pos (off_3c hd p49 hg)] at e; exact e)))
                  | false =>
                    go_wp2_with (go_at_call 37; refine (digit_any (bt s i) _).mono ?_; rintro e w' ⟨rfl, rfl⟩)
                    rename_i K hK
                    exact wp_label (hK _ _ (F2.out n _ _ (J2_mk (i + 1) pn (s.extract fm (i + 1)) rfl (by omega) rfl (by omega) (by have e := He.out; rw [if_neg (off_3d hd p49 hg), if_neg (by omega)] at e; exact e))))
                | false =>
                  go_wp2_with (go_at_call 37; refine (digit_any (bt s i) _).mono ?_; rintro e w' ⟨rfl, rfl⟩)
                  rename_i K hK
                  exact wp_label (hK _ _ (F2.out n _ _ (J2_mk (i + 1) pn (s.extract fm (i + 1)) rfl (by omega) rfl (by omega) (by have e := He.out; rw [if_neg (off_3e hd p48 p49), if_neg (by omega)] at e; exact e))))
  intro f3 g3
  have F3 := Lib.hid f3
  clear f3 g3
  clear F2 G2
  refine label_by1 Hgo.out 1 rfl (J1 s w r) ?_ ?_
  · clear Hgo
    rintro n a w' ⟨us, i, fm, rfl, rfl, hn, hle, hb⟩ ih
    have Ih := Lib.hid ih
    have Hb := Lib.hid hb
    clear hb ih
    unfold fr Wd
    cases n with
    | zero =>
      obtain rfl : i = s.size := by omega
      go_wp2
      exact wp_goto (show X (Exit.goto 0) _ _ from G0.out 0 _ _ (J0_mk s.size E E E rfl rfl rfl (by rw [← Hb.out, pan])))
    | succ n =>
      have hi : i < s.size := by omega
      have hx : ∀ h : i < s.size, ((s[i]'h).toNat : Int) = bt s i := fun h => by simpa using bt_at s i (by simpa using h)
      have hx' := eq_true hi
      have hne : ((i : Int) == (s.size : Int)) = false := beq_eq_false_iff_ne.mpr (by omega)
      have q2 : (i : Int) ≤ (s.size : Int) := by omega
      by_cases h0 : dg (bt s i) = true ∧ i < 19
      · obtain ⟨hd, h19⟩ := h0
        have h19b : decide ((i : Int) < 19) = true := decide_eq_true (by omega)
        go_wp2_with (go_at_call 37; refine (digit_any (bt s i) _).mono ?_; rintro e w' ⟨rfl, rfl⟩)
        exact wp_goto (show X (Exit.goto 1) _ _ from Ih.out n _ _ (J1_mk (i + 1) rfl (by omega) rfl (by omega) (by omega) (by rw [← Hb.out, pan, if_pos ⟨hd, h19⟩])) (by omega))
      · have He : Hid ((if bt s i ≠ 61 ∨ i = 0 then bad i else expi s (s.extract 0 i) (i + 1) n (i + 1)) = r) := by
          have e := Hb.out
          rw [pan, if_neg h0] at e
          exact e
        clear Hb
        have hcase : (dg (bt s i) = true ∧ decide ((i : Int) < 19) = false) ∨ dg (bt s i) = false := by
          cases hd : dg (bt s i) with
          | true => exact .inl ⟨rfl, decide_eq_false (fun h => h0 ⟨hd, by omega⟩)⟩
          | false => exact .inr rfl
        clear h0
        cases h61 : (bt s i == 61) with
        | false =>
          have h61' : (bt s i != 61) = true := by simp only [bne, h61, Bool.not_false]
          rcases hcase with ⟨hd, h19⟩ | hd
          all_goals
            go_wp2_with (go_at_call 37; refine (digit_any (bt s i) _).mono ?_; rintro e w' ⟨rfl, rfl⟩)
            exact wp_goto (show X (Exit.goto 0) _ _ from G0.out 0 _ _ (J0_mk i E E E rfl rfl rfl (by have e := He.out; rw [if_pos (.inl (by simpa using h61))] at e; exact e)))
        | true =>
          have h61' : (bt s i != 61) = false := by simp only [bne, h61, Bool.not_true]
          cases hz : ((i : Int) == 0) with
          | true =>
            rcases hcase with ⟨hd, h19⟩ | hd
            all_goals
              go_wp2_with (go_at_call 37; refine (digit_any (bt s i) _).mono ?_; rintro e w' ⟨rfl, rfl⟩)
              exact wp_goto (show X (Exit.goto 0) _ _ from G0.out 0 _ _ (J0_mk i E E E rfl rfl rfl (by have e := He.out; rw [if_pos (.inr (by have := beq_iff_eq.mp hz; omega))] at e; exact e)))
          | false =>
            rcases hcase with ⟨hd, h19⟩ | hd
            all_goals
              go_wp2_with (go_at_call 37; refine (digit_any (bt s i) _).mono ?_; rintro e w' ⟨rfl, rfl⟩)
              rename_i K hK
              exact wp_label (hK _ _ (F3.out n _ _ (J3_mk (i + 1) (i + 1) (s.extract 0 i) rfl (by omega) (by omega) rfl (by omega) (by omega) (by omega) (by omega) (by have e := He.out; rw [if_neg (by have := beq_iff_eq.mp h61; have := beq_eq_false_iff_ne.mp hz; omega)] at e; exact e))))
  intro f1 g1
  have F1 := Lib.hid f1
  clear f1 g1
  clear Hgo F3 G0
  have h37 : decide (37 < (s.size : Int)) = false := decide_eq_false (by omega)
  have h37n : decide (37 < s.size) = false := decide_eq_false (by omega)
  go_wp2
  rename_i K hK
  exact wp_label (hK _ _ (F1.out s.size _ _ (J1_mk 0 rfl rfl rfl (by omega) (by omega) hr.out)))

set_option maxRecDepth 100000 in
set_option maxHeartbeats 1000000 in
theorem read_long (s : ByteArray) (w : World) (hs : 37 < s.size) : Calls Try.prog 13 #[.string s] w (Post w (bad 37)) := by
  have h37 : decide (37 < (s.size : Int)) = true := decide_eq_true (by omega)
  have h37n : decide (37 < s.size) = true := decide_eq_true (by omega)
  go_enter Try.func13, Try.ntmps13
  go_wp2
  refine wp_scope_free ?_
  intro X hret hnorm hgo
  have Hret := Lib.hid hret
  clear hret hgo hnorm
  go_wp2
  exact Hret.out _ _ (bodyPost_ret (results_ctt rfl _ _ w.heap.size 24 #[.string E, .string E, .string E, .string E] (0, 0) _ rfl (blk_first _ _ _) Try.underlying24 rfl (by kernel_rfl)) rfl ⟨by simp [bad], below_two _ _ _⟩)

theorem read_calls (s : ByteArray) (w : World) : Calls Try.prog 13 #[.string s] w (Post w (read s)) := by
  unfold read
  by_cases h : 37 < s.size
  · rw [if_pos h]
    exact read_long s w h
  · rw [if_neg h]
    exact read_any s w (by omega) _ rfl
end Go.Proofs.Ytammbclaejgkpaa.CardRead
