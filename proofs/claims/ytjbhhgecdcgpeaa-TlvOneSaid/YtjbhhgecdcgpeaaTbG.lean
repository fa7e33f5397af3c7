/- Bytes in sixteenths: the contract of hex. -/
import Derived.Test.YtjbhhgecdcgpeaaTb1
import Derived.Test.YtjbhhgecdcgpeaaShl
import Derived.Laws.BitsLemmas
namespace Go.Proofs.Ytjbhhgecdcgpeaa.Tb
open Go Go.RowKit Go.Proofs.YtjbhhgecdcgpeaaW.PrintWords Go.Proofs.YtjbhhgecdcgpeaaW.PrintLast Go.Proofs.YtjbhhgecdcgpeaaW.PrintMore Go.Proofs.Ytjbhhgecdcgpeaa.TA
set_option linter.unusedSimpArgs false
set_option linter.unusedVariables false
/-- The sign of a sixteenth. -/
def six (n : Nat) : UInt8 := ([48, 49, 50, 51, 52, 53, 54, 55, 56, 57, 65, 66, 67, 68, 69, 70] : List UInt8).getD n 0
def hexL (l : List UInt8) : List UInt8 := l.flatMap fun c => [six (c.toNat / 16), six (c.toNat % 16)]
theorem six_bt (n : Int) (h0 : 0 ≤ n) (h1 : n < 16) : bt (⟨#[48, 49, 50, 51, 52, 53, 54, 55, 56, 57, 65, 66, 67, 68, 69, 70]⟩ : ByteArray) n = ((six n.toNat).toNat : Int) := by
  obtain ⟨m, rfl⟩ := Int.eq_ofNat_of_zero_le h0
  have hm : m < 16 := by omega
  have : ∀ m : Nat, m < 16 → bt (⟨#[48, 49, 50, 51, 52, 53, 54, 55, 56, 57, 65, 66, 67, 68, 69, 70]⟩ : ByteArray) (m : Int) = ((six m).toNat : Int) := by decide
  exact this m hm
/-- Bytes that a Builder holds. -/
def Bld (B b : Nat) (l : List UInt8) (w : World) : Prop := Lib.IsBuilderF 80 5 B b (Lib.byteCells l) w
theorem Bld.byte {B b : Nat} {l : List UInt8} {w : World} (h : Bld B b l w) (hl : l.length + 1 ≤ 140737488355328) (hB : B ≤ w.heap.size) (c : UInt8) (x : Int) (hx : x = c.toNat) :
    Calls Try.prog 64 #[.pointer (some ⟨b, 0, none⟩), .int .u8 x] w fun e w' => e = .returned .nilIface ∧ Bld B b (l ++ [c]) w' ∧ Below B w w' ∧ Lib.OthersKept 5 (some b) w w' := by
  subst hx
  refine (Try.Builder_WriteByte B b _ c.toNat w h (by rw [Lib.byteCells_length]; exact hl) hB).mono ?_
  rintro e w' ⟨rfl, h1, h2, h3⟩
  refine ⟨rfl, .inr ?_, h2, h3⟩
  rw [Lib.byteCells_append]
  exact h1
theorem Bld.string {B b : Nat} {l : List UInt8} {w : World} (h : Bld B b l w) (s : ByteArray) (hl : l.length + s.size ≤ 140737488355328) (hB : B ≤ w.heap.size) :
    Calls Try.prog 49 #[.pointer (some ⟨b, 0, none⟩), .string s] w fun e w' => e = .returned (.tuple #[.int .i64 s.size, .nilIface]) ∧ Bld B b (l ++ s.data.toList) w' ∧ Below B w w' ∧ Lib.OthersKept 5 (some b) w w' := by
  refine (Try.Builder_WriteString B b _ s w h (by rw [Lib.byteCells_length]; exact hl) hB).mono ?_
  rintro e w' ⟨rfl, h1, h2, h3⟩
  refine ⟨rfl, .inr ?_, h2, h3⟩
  rw [Lib.byteCells_append]
  exact h1
def HxRel (B b : Nat) (s : ByteArray) (l : List UInt8) (w0 : World) (kq : Nat) (v7 : Value) (W : World) : Prop :=
  ∃ (i : Int), v7 = .int .i64 i ∧ i + kq = s.size ∧ 0 ≤ i ∧ Bld B b (l ++ hexL (s.data.toList.take i.toNat)) W ∧ Below B w0 W ∧ Lib.OthersKept 5 (some b) w0 W
theorem hexL_len (l : List UInt8) : (hexL l).length = 2 * l.length := by
  induction l with
  | nil => rfl
  | cons c l ih => unfold hexL at ih ⊢; rw [List.flatMap_cons, List.length_append, ih]; simp; omega
theorem hexL_snoc (l : List UInt8) (c : UInt8) : hexL (l ++ [c]) = hexL l ++ [six (c.toNat / 16), six (c.toNat % 16)] := by unfold hexL; rw [List.flatMap_append]; simp
set_option maxRecDepth 100000 in
set_option maxHeartbeats 400000 in
theorem hex_calls (B b : Nat) (l : List UInt8) (s : ByteArray) (w : World) (h : Bld B b l w) (hl : l.length + 2 * s.size ≤ 140737488355328) (hB : B ≤ w.heap.size) :
    Calls Try.prog 63 #[.pointer (some ⟨b, 0, none⟩), .string s] w fun e w' => e = .returned (.tuple #[]) ∧ Bld B b (l ++ hexL s.data.toList) w' ∧ Below B w w' ∧ Lib.OthersKept 5 (some b) w w' := by
  have HL0 : HxRel B b s l w s.size (.int .i64 0) w := ⟨0, rfl, by omega, Int.le_refl _, by simpa [hexL] using h, Below.refl _ _, Lib.OthersKept.refl _ _ _⟩
  clear h
  go_enter Try.func63, Try.ntmps63
  go_wp2
  go_loopg [7] s.size (fun kq v7 W => HxRel B b s l w kq v7 W)
  case atStart => exact HL0
  case round =>
    clear HL0
    obtain ⟨i, rfl, hK, hi0, hb, hBe, hO⟩ := hrel
    have HBe := Aside0.mk hBe
    have HO := Aside0.mk hO
    have HBl := Aside0.mk hb
    clear hBe hO hb
    cases gk with
    | zero =>
      have hi : i = s.size := by omega
      subst hi
      have c1 : decide ((s.size : Int) < (s.size : Int)) = false := decide_eq_false (by omega)
      clear hK hi0
      go_wp2
      go_end0
      refine ⟨rfl, ?_, HBe.out, HO.out⟩
      have := HBl.out
      rwa [List.take_of_length_le (by rw [data_length]; omega)] at this
    | succ gk =>
      have hi : i < (s.size : Int) := by omega
      have c1 : decide (i < (s.size : Int)) = true := decide_eq_true hi
      have c0 : (0 ≤ i) = True := eq_true hi0
      have c2 : (i < (s.size : Int)) = True := eq_true hi
      have c3 : i.toNat < s.size := by omega
      have hbt := bt_at s i c3
      obtain ⟨n, hn⟩ : ∃ n, bt s i = n := ⟨_, rfl⟩
      have hr := bt_range s i
      rw [hn] at hr
      simp only [hn] at hbt
      have HN := Aside0.mk hn
      have n0 := hr.1
      have n1 := hr.2
      have HK : Aside0 (i + 1 + gk = s.size) := ⟨by omega⟩
      clear hn hr hK
      have hll : (l ++ hexL (s.data.toList.take i.toNat)).length + 2 ≤ 140737488355328 := by
        have h1 := hexL_len (s.data.toList.take i.toNat)
        have h2 : (s.data.toList.take i.toNat).length ≤ i.toNat := List.length_take_le _ _
        rw [List.length_append, h1]
        omega
      have hcc : s.data.toList.take (i + 1).toNat = s.data.toList.take i.toNat ++ [s[i.toNat]'c3] := by
        rw [show (i + 1).toNat = i.toNat + 1 by omega, List.take_succ_eq_append_getElem (by rw [data_length]; exact c3)]
        rfl
      have hcn : ((s[i.toNat]'c3).toNat : Int) = n := hbt
      generalize s[i.toNat]'c3 = cc at hcc hcn
      have hq1 : (n / 16).toNat = cc.toNat / 16 := by omega
      have hq2 : (n % 16).toNat = cc.toNat % 16 := by omega
      have HC := Aside0.mk hcc
      have HQ1 := Aside0.mk hq1
      have HQ2 := Aside0.mk hq2
      obtain ⟨l1, hl1⟩ : ∃ l1, l1 = l ++ hexL (s.data.toList.take i.toNat) := ⟨_, rfl⟩
      rw [← hl1] at HBl hll
      have HL1 := Aside0.mk hl1
      clear hcc hcn hq1 hq2 hl1
      go_upto_region 4 with (go_at_call 64; (with_reducible refine (HBl.out.byte (by omega) (Nat.le_trans hB HBe.out.size) (six (n / 16).toNat) _ ((bt_at (⟨#[48, 49, 50, 51, 52, 53, 54, 55, 56, 57, 65, 66, 67, 68, 69, 70]⟩ : ByteArray) (n / 16) _).trans (six_bt _ (by omega) (by omega)))).mono ?_); rintro e w2 ⟨rfl, hb2, hB2, hO2⟩; have HB2 := Aside0.mk hb2; have HBe2 := Aside0.mk (HBe.out.trans hB2); have HO2 := Aside0.mk (HO.out.trans hO2); clear hb2 hB2 hO2)
      have hand : bits .and .u8 n 15 = n % 16 := u8_and15 n (by omega) (by omega)
      go_wp2_with (fail)
      refine ((show Bld B b (l1 ++ [six (n / 16).toNat]) w2 from HB2.out).byte (by simp; omega) (Nat.le_trans hB HBe2.out.size) (six (n % 16).toNat) _ ((bt_at (⟨#[48, 49, 50, 51, 52, 53, 54, 55, 56, 57, 65, 66, 67, 68, 69, 70]⟩ : ByteArray) (n % 16) _).trans (six_bt _ (by omega) (by omega)))).mono ?_
      rintro e w3 ⟨rfl, hb3, hB3, hO3⟩
      have HB33 := Aside0.mk hb3
      have HBe3 := Aside0.mk (HBe2.out.trans hB3)
      have HO3 := Aside0.mk (HO2.out.trans hO3)
      clear hb3 hB3 hO3
      go_wp2
      go_roundg gk
      case measure => exact Nat.lt_succ_self _
      case rel =>
        refine ⟨i + 1, by first | rfl | go_num, HK.out, by omega, ?_, HBe3.out, HO3.out⟩
        have h3 := HB33.out
        rw [HQ1.out, HQ2.out, HL1.out] at h3
        rw [HC.out, hexL_snoc]
        simpa using h3
end Go.Proofs.Ytjbhhgecdcgpeaa.Tb
