/- Plain laws: which of n things; the digits that raw numbers name. -/
import Derived.Test.YtammbclaejgkpaaPdg
import Derived.Test.YtammbclaejgkpaaPCx7
import Derived.OpenShut
namespace Go.Proofs.Ytammbclaejgkpaa.PureT
open Go Go.RowKit Go.Proofs.Ytammbclaejgkpaa.PC Go.Proofs.YtammbclaejgkpaaW.PrintWords Go.Proofs.YtammbclaejgkpaaW.PrintLast CardRead
open Go.Proofs.Ytammbclaejgkpaa.Pure (B L B_L L_B L_size L_inj size_B DL)
open Go.Proofs.Ytammbclaejgkpaa.PureD (L_app)
/-- Which of n things. -/
def pk (c n : Int) : Int := if c < 0 then (-(c + 1)) % n else c % n
theorem pk_range (c : Int) {n : Int} (hn : 0 < n) : 0 ≤ pk c n ∧ pk c n < n := by
  unfold pk
  split
  · exact ⟨Int.emod_nonneg _ (by omega), Int.emod_lt_of_pos _ hn⟩
  · exact ⟨Int.emod_nonneg _ (by omega), Int.emod_lt_of_pos _ hn⟩
theorem w64s' {x : Int} (h : -9223372036854775808 ≤ x) (h' : x ≤ 9223372036854775807) : wrap64 x = x := by unfold wrap64; omega
theorem pick_f (c n : Int) (hn : 0 < n) (hc : (Lit.int .i64 c).wf = true) : turnstilelaw5_pick.f c n = some (pk c n) := by
  have := bounds_i64 hc
  unfold turnstilelaw5_pick.f pk
  by_cases h : c < 0
  · rw [if_pos h, if_pos h, if_neg (by omega), w64s' (x := c + 1) (by omega) (by omega), w64s' (x := -(c + 1)) (by omega) (by omega), Int.tmod_eq_emod_of_nonneg (by omega)]
  · rw [if_neg h, if_neg h, if_neg (by omega), Int.tmod_eq_emod_of_nonneg (by omega)]
/-- The i-th digit of raw numbers. -/
def dr (raw : List Int) (i : Nat) : Int := if i < raw.length then pk (raw.getD i 0) 10 else ((i : Int) % 10)
theorem dr_range (raw : List Int) (i : Nat) : 0 ≤ dr raw i ∧ dr raw i < 10 := by
  unfold dr
  split
  · exact pk_range _ (by omega)
  · omega
def dc (raw : List Int) (i : Nat) : UInt8 := UInt8.ofNat (48 + (dr raw i).toNat)
theorem dc_dg (raw : List Int) (i : Nat) : dg ((dc raw i).toNat : Int) = true := by
  have := dr_range raw i
  have e : ((dc raw i).toNat : Int) = 48 + dr raw i := by
    unfold dc
    rw [UInt8.toNat_ofNat']
    omega
  rw [e]
  simp [dg]
  omega
def dl (raw : List Int) (m : Nat) : List UInt8 := (List.range m).map (dc raw)
theorem dl_len (raw : List Int) (m : Nat) : (dl raw m).length = m := by simp [dl]
theorem dl_DL (raw : List Int) (m : Nat) : DL (dl raw m) := by
  intro c hc
  simp only [dl, List.mem_map] at hc
  obtain ⟨i, _, rfl⟩ := hc
  exact dc_dg raw i
theorem dl_succ (raw : List Int) (m : Nat) : dl raw (m + 1) = dl raw m ++ [dc raw m] := by simp [dl, List.range_succ]
theorem digits_l0 (raw : List Int) (hw : ∀ x ∈ raw, (Lit.int .i64 x).wf = true) (m : Nat) (hm : m ≤ 1000) : ∀ n i, n + i = m → Ev (fun k => turnstilelaw5_digits.l0 k raw m (B (dl raw i)) i) (B (dl raw m)) := by
  intro n
  induction n with
  | zero =>
    intro i hi
    obtain rfl : i = m := by omega
    refine Ev.step (f := fun _ => some (B (dl raw i))) (fun k => ?_) (Ev.now _)
    simp only [turnstilelaw5_digits.l0]
    rw [if_neg (by omega)]
  | succ n ih =>
    intro i hi
    have hr := dr_range raw i
    have e' : strOfNums [(48 + dr raw i) % 256] = B [dc raw i] := by
      have e1 : ((48 + dr raw i) % 256).toNat = 48 + (dr raw i).toNat := by omega
      unfold strOfNums dc B
      rw [List.map_cons, List.map_nil, e1]
    have e : B (dl raw i) ++ strOfNums [(48 + dr raw i) % 256] = B (dl raw (i + 1)) := by
      apply L_inj
      rw [e', L_app, L_B, L_B, L_B, dl_succ]
    refine Ev.step (fun k => ?_) (ih (i + 1) (by omega))
    simp only [turnstilelaw5_digits.l0]
    rw [if_pos (by omega)]
    by_cases hl : i < raw.length
    · have hd : dr raw i = pk (rd raw i) 10 := by unfold dr rd; rw [if_pos hl, Int.toNat_natCast]
      have hmem : rd raw i ∈ raw := by unfold rd; rw [Int.toNat_natCast, List.getD_eq_getElem?_getD, List.getElem?_eq_getElem hl]; simp
      rw [if_pos (by omega), if_pos (by omega), pick_f _ 10 (by omega) (hw _ hmem), ← hd]
      simp only [Option.bind_some]
      rw [w64s' (x := 48 + dr raw i) (by omega) (by omega), if_pos (by rw [e', size_B, size_B, dl_len]; simp; omega), e, w64s' (x := (i : Int) + 1) (by omega) (by omega)]
      rfl
    · have hd : dr raw i = (i : Int) % 10 := by unfold dr; rw [if_neg hl]
      rw [if_neg (by omega), Int.tmod_eq_emod_of_nonneg (by omega), ← hd]
      simp only [Option.bind_some]
      rw [w64s' (x := 48 + dr raw i) (by omega) (by omega), if_pos (by rw [e', size_B, size_B, dl_len]; simp; omega), e, w64s' (x := (i : Int) + 1) (by omega) (by omega)]
      rfl
theorem digits_ev (raw : List Int) (hw : ∀ x ∈ raw, (Lit.int .i64 x).wf = true) (m : Nat) (hm : m ≤ 1000) : Ev (fun k => turnstilelaw5_digits.f k raw m) (B (dl raw m)) := by
  have := digits_l0 raw hw m hm m 0 (by omega)
  exact this
end Go.Proofs.Ytammbclaejgkpaa.PureT
