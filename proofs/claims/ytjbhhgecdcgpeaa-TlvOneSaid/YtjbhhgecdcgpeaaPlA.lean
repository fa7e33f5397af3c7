/- The plain law: what is read is built as the bytes it was read from. -/
import Derived.Test.YtjbhhgecdcgpeaaTb9
import Derived.Test.YtjbhhgecdcgpeaaTbC
namespace Go.Proofs.Ytjbhhgecdcgpeaa.Tb
open Go Go.RowKit Go.Proofs.YtjbhhgecdcgpeaaW.PrintWords Go.Proofs.YtjbhhgecdcgpeaaW.PrintLast Go.Proofs.YtjbhhgecdcgpeaaW.PrintMore Go.Proofs.Ytjbhhgecdcgpeaa.TA
set_option linter.unusedSimpArgs false
set_option linter.unusedVariables false
theorem i64_and255 {x : Int} (h₀ : 0 ≤ x) (h₁ : x < 4294967296) : bits .and .i64 x 255 = x % 256 := bits_mask .i64 32 (by decide) (fun n h0 h1 => by rw [IntKind.wrap_i64]; omega) 8 (by decide) x h₀ h₁
/-- A tag's bytes, plainly. -/
def partsQ (t : Int) : List Int := if t < 1 then [] else if 16777215 < t then [] else if t < 256 then (if t % 32 = 31 then [] else [t])
  else if t < 65536 then (if t / 256 % 32 = 31 then (if t % 256 < 128 then [t / 256, t % 256] else []) else [])
  else (if t / 65536 % 32 = 31 then (if 128 < t / 256 % 256 then (if t % 256 < 128 then [t / 65536, t / 256 % 256, t % 256] else []) else []) else [])
theorem partsL_eq (t : Int) : partsL t = partsQ t := by
  have h := partsL_some t
  unfold tlv_parts.f partsQ at *
  by_cases g0 : t < 1
  · rw [if_pos g0] at h ⊢
    simp only [tlv_parts.j0, if_true] at h
    exact (Option.some.inj h).symm
  rw [if_neg g0] at h ⊢
  by_cases g1 : 16777215 < t
  · rw [if_pos g1]
    rw [show (decide (t > 16777215)) = true from decide_eq_true g1] at h
    simp only [tlv_parts.j0, if_true] at h
    exact (Option.some.inj h).symm
  rw [if_neg g1]
  rw [show (decide (t > 16777215)) = false from decide_eq_false g1] at h
  simp only [tlv_parts.j0, Bool.false_eq_true, if_false] at h
  have e1 : Int.tmod t 32 = t % 32 := Int.tmod_eq_emod_of_nonneg (by omega)
  have e2 : Int.tmod (t / 256) 32 = t / 256 % 32 := Int.tmod_eq_emod_of_nonneg (by omega)
  have e3 : Int.tmod (t / 65536) 32 = t / 65536 % 32 := Int.tmod_eq_emod_of_nonneg (by omega)
  rw [e1, e2, e3, i64_and255 (show 0 ≤ t by omega) (by omega), i64_and255 (show 0 ≤ t / 256 by omega) (by omega)] at h
  clear e1 e2 e3
  split
  · rename_i g2
    rw [if_pos g2] at h
    split
    · rename_i g3
      rw [if_pos g3] at h
      exact (Option.some.inj h).symm
    · rename_i g3
      rw [if_neg g3] at h
      rw [← Option.some.inj h]
      congr 1
      omega
  · rename_i g2
    rw [if_neg g2] at h
    split
    · rename_i g3
      rw [if_pos g3] at h
      split
      · rename_i g4
        rw [if_pos g4] at h
        split
        · rename_i g5
          rw [if_pos g5] at h
          rw [← Option.some.inj h]
          congr 1
          omega
        · rename_i g5
          rw [if_neg g5] at h
          exact (Option.some.inj h).symm
      · rename_i g4
        rw [if_neg g4] at h
        exact (Option.some.inj h).symm
    · rename_i g3
      rw [if_neg g3] at h
      split
      · rename_i g4
        rw [if_pos g4] at h
        split
        · rename_i g5
          rw [if_pos g5] at h
          split
          · rename_i g6
            rw [if_pos g6] at h
            rw [← Option.some.inj h]
            congr 1
            omega
          · rename_i g6
            rw [if_neg g6] at h
            exact (Option.some.inj h).symm
        · rename_i g5
          rw [if_neg g5] at h
          exact (Option.some.inj h).symm
      · rename_i g4
        rw [if_neg g4] at h
        exact (Option.some.inj h).symm
/-- The bytes from a place to a place. -/
def seg (b : ByteArray) (i j : Int) : List Int := ((bytesOf b).drop i.toNat).take (j - i).toNat
theorem seg_nil (b : ByteArray) (i : Int) : seg b i i = [] := by unfold seg; rw [show (i - i).toNat = 0 by omega, List.take_zero]
theorem seg_len (b : ByteArray) (i j : Int) (h0 : 0 ≤ i) (h1 : i ≤ j) (h2 : j ≤ b.size) : (seg b i j).length = (j - i).toNat := by
  unfold seg
  rw [List.length_take, List.length_drop, bytesOf_length]
  omega
theorem seg_all (b : ByteArray) : seg b 0 b.size = bytesOf b := by
  unfold seg
  rw [show (0 : Int).toNat = 0 from rfl, List.drop_zero, List.take_of_length_le (by rw [bytesOf_length]; omega)]
theorem seg_join (b : ByteArray) (i j k : Int) (h0 : 0 ≤ i) (h1 : i ≤ j) (h2 : j ≤ k) : seg b i j ++ seg b j k = seg b i k := by
  unfold seg
  rw [show (k - i).toNat = (j - i).toNat + (k - j).toNat by omega, show j.toNat = i.toNat + (j - i).toNat by omega, List.take_add, List.drop_drop]
theorem seg_one (b : ByteArray) (i : Int) (h0 : 0 ≤ i) (h1 : i < b.size) : seg b i (i + 1) = [bt b i] := by
  have hi : i.toNat < b.size := by omega
  unfold seg
  rw [show (i + 1 - i).toNat = 1 by omega, List.drop_eq_getElem_cons (by rw [bytesOf_length]; exact hi), List.take_succ_cons, List.take_zero]
  congr 1
  rw [← bt_at b i hi]
  simp only [bytesOf, List.getElem_map]
  rfl
theorem seg_two (b : ByteArray) (i : Int) (h0 : 0 ≤ i) (h1 : i + 1 < b.size) : seg b i (i + 2) = [bt b i, bt b (i + 1)] := by
  have h := seg_join b i (i + 1) (i + 2) h0 (by omega) (by omega)
  rw [← h, seg_one b i h0 (by omega), show i + 2 = i + 1 + 1 by omega, seg_one b (i + 1) (by omega) h1]
  rfl
theorem seg_three (b : ByteArray) (i : Int) (h0 : 0 ≤ i) (h1 : i + 2 < b.size) : seg b i (i + 3) = [bt b i, bt b (i + 1), bt b (i + 2)] := by
  have h := seg_join b i (i + 2) (i + 3) h0 (by omega) (by omega)
  rw [← h, seg_two b i h0 (by omega), show i + 3 = i + 2 + 1 by omega, seg_one b (i + 2) (by omega) h1]
  rfl
theorem bytesOf_extract (b : ByteArray) (i j : Int) (h0 : 0 ≤ i) (h1 : i ≤ j) (h2 : j ≤ b.size) : bytesOf (b.extract i.toNat j.toNat) = seg b i j := by
  unfold bytesOf seg
  rw [show (b.extract i.toNat j.toNat).data.toList = (b.data.toList.drop i.toNat).take (j.toNat - i.toNat) by
    rw [ByteArray.data_extract, Array.toList_extract, List.extract_eq_take_drop]]
  rw [List.map_take, List.map_drop, show (j - i).toNat = j.toNat - i.toNat by omega]
  rfl
theorem tag_seg {b : ByteArray} {at_ e t a : Int} (h : tagP b at_ e = .ok (t, a)) (h0 : 0 ≤ at_) (h1 : e ≤ b.size) : partsL t = seg b at_ a ∧ at_ < a ∧ a ≤ e ∧ partsL t ≠ [] := by
  have r0 := bt_range b at_
  have r1 := bt_range b (at_ + 1)
  have r2 := bt_range b (at_ + 2)
  rw [partsL_eq]
  unfold tagP at h
  by_cases g1 : e ≤ at_
  · rw [if_pos g1] at h; cases h
  rw [if_neg g1] at h
  by_cases g2 : bt b at_ = 0
  · rw [if_pos g2] at h; cases h
  rw [if_neg g2] at h
  by_cases g3 : bt b at_ % 32 ≠ 31
  · rw [if_pos g3] at h
    injection h with h
    injection h with e1 e2
    subst e1 e2
    have hp : partsQ (bt b at_) = [bt b at_] := by
      unfold partsQ
      rw [if_neg (by omega), if_neg (by omega), if_pos (by omega), if_neg (by omega)]
    rw [hp, seg_one b at_ h0 (by omega)]
    exact ⟨rfl, by omega, by omega, by simp⟩
  rw [if_neg g3] at h
  by_cases g4 : e ≤ at_ + 1
  · rw [if_pos g4] at h; cases h
  rw [if_neg g4] at h
  by_cases g5 : bt b (at_ + 1) = 128
  · rw [if_pos g5] at h; cases h
  rw [if_neg g5] at h
  by_cases g6 : bt b (at_ + 1) < 128
  · rw [if_pos g6] at h
    injection h with h
    injection h with e1 e2
    subst e2
    have q1 : t / 256 = bt b at_ := by omega
    have q2 : t % 256 = bt b (at_ + 1) := by omega
    have hp : partsQ t = [bt b at_, bt b (at_ + 1)] := by
      unfold partsQ
      rw [if_neg (by omega), if_neg (by omega), if_neg (by omega), if_pos (by omega), if_pos (by omega), if_pos (by omega), q1, q2]
    rw [hp, seg_two b at_ h0 (by omega)]
    exact ⟨rfl, by omega, by omega, by simp⟩
  rw [if_neg g6] at h
  by_cases g7 : e ≤ at_ + 2
  · rw [if_pos g7] at h; cases h
  rw [if_neg g7] at h
  by_cases g8 : 127 < bt b (at_ + 2)
  · rw [if_pos g8] at h; cases h
  rw [if_neg g8] at h
  injection h with h
  injection h with e1 e2
  subst e2
  have q1 : t / 65536 = bt b at_ := by omega
  have q2 : t / 256 % 256 = bt b (at_ + 1) := by omega
  have q3 : t % 256 = bt b (at_ + 2) := by omega
  have hp : partsQ t = [bt b at_, bt b (at_ + 1), bt b (at_ + 2)] := by
    unfold partsQ
    rw [if_neg (by omega), if_neg (by omega), if_neg (by omega), if_neg (by omega), if_pos (by omega), if_pos (by omega), if_pos (by omega), q1, q2, q3]
  rw [hp, seg_three b at_ h0 (by omega)]
  exact ⟨rfl, by omega, by omega, by simp⟩
theorem len_seg {b : ByteArray} {at_ e n a : Int} (h : lenP b at_ e = .ok (n, a)) (h0 : 0 ≤ at_) (h1 : e ≤ b.size) : sizeB n = seg b at_ a ∧ at_ < a ∧ a ≤ e ∧ 0 ≤ n ∧ n ≤ 9999 := by
  have r0 := bt_range b at_
  have r1 := bt_range b (at_ + 1)
  have r2 := bt_range b (at_ + 2)
  unfold lenP at h
  by_cases g1 : e ≤ at_
  · rw [if_pos g1] at h; cases h
  rw [if_neg g1] at h
  by_cases g2 : bt b at_ < 128
  · rw [if_pos g2] at h
    injection h with h
    injection h with e1 e2
    subst e1 e2
    rw [seg_one b at_ h0 (by omega)]
    refine ⟨?_, by omega, by omega, by omega, by omega⟩
    unfold sizeB
    rw [if_pos g2]
    congr 1
    omega
  rw [if_neg g2] at h
  by_cases g3 : bt b at_ = 128
  · rw [if_pos g3] at h; cases h
  rw [if_neg g3] at h
  by_cases g4 : 130 < bt b at_
  · rw [if_pos g4] at h; cases h
  rw [if_neg g4] at h
  by_cases g5 : e < at_ + 1 + bt b at_ - 128
  · rw [if_pos g5] at h; cases h
  rw [if_neg g5] at h
  by_cases g6 : bt b at_ = 129
  · rw [if_pos g6] at h
    by_cases g7 : bt b (at_ + 1) < 128
    · rw [if_pos g7] at h; cases h
    rw [if_neg g7] at h
    injection h with h
    injection h with e1 e2
    subst e1 e2
    rw [seg_two b at_ h0 (by omega)]
    refine ⟨?_, by omega, by omega, by omega, by omega⟩
    unfold sizeB
    rw [if_neg g7, if_pos (by omega), g6]
    congr 2
    omega
  rw [if_neg g6] at h
  by_cases g7 : bt b (at_ + 1) * 256 + bt b (at_ + 2) < 256
  · rw [if_pos g7] at h; cases h
  rw [if_neg g7] at h
  by_cases g8 : 9999 < bt b (at_ + 1) * 256 + bt b (at_ + 2)
  · rw [if_pos g8] at h; cases h
  rw [if_neg g8] at h
  injection h with h
  injection h with e1 e2
  subst e1 e2
  rw [seg_three b at_ h0 (by omega)]
  refine ⟨?_, by omega, by omega, by omega, by omega⟩
  unfold sizeB
  rw [if_neg (by omega), if_neg (by omega), show (bt b (at_ + 1) * 256 + bt b (at_ + 2)) / 256 % 256 = bt b (at_ + 1) by omega, show (bt b (at_ + 1) * 256 + bt b (at_ + 2)) % 256 = bt b (at_ + 2) by omega, show bt b at_ = 130 by omega]
end Go.Proofs.Ytjbhhgecdcgpeaa.Tb
