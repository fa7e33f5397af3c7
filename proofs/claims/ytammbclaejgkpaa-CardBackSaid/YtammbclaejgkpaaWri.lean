/- Plain laws on tracks that are written: what the program's WriteTrack answers, as one condition on its parts. No Go, no memory. -/
import Derived.Test.YtammbclaejgkpaaPar
import Derived.Test.YtammbclaejgkpaaPCx2
namespace Go.Proofs.Ytammbclaejgkpaa.Pure
open Go.RowKit Go.Proofs.Ytammbclaejgkpaa.PC Go.Proofs.YtammbclaejgkpaaW.PrintWords Go.Proofs.YtammbclaejgkpaaW.PrintLast CardRead

theorem toList_L (s : ByteArray) : s.toList = L s := ByteArray.toList_eq s
theorem L_app (a b : ByteArray) : L (a ++ b) = L a ++ L b := by unfold L; rw [ByteArray.data_append]; simp
theorem part_f (s : ByteArray) : card_WriteTrack_1.f s = some (B (part (L s))) := by
  unfold card_WriteTrack_1.f part
  rw [toList_L]
  by_cases h : L s = []
  · rw [if_pos h, if_pos h]; rfl
  · rw [if_neg h, if_neg h]; rfl
/-- The text of a track's parts. -/
def jn (a b c d : ByteArray) : ByteArray := B (join (L a) (L b) (L c) (L d))
theorem part_len (l : List UInt8) : (part l).length ≤ l.length + 1 := by unfold part; split <;> simp
theorem beqL (a b : ByteArray) : (a.toList == b.toList) = decide (a = b) := by
  rw [toList_L, toList_L]
  by_cases h : a = b
  · rw [h]; simp
  · have : ¬ L a = L b := fun e => h (L_inj e)
    simp [h, this]
/-- What is read, held against parts: is it a track, and these its parts? -/
def same (r : Res) (a b c d : ByteArray) : Prop := r.2.2.2.2.1 = 0 ∧ r.1 = a ∧ r.2.1 = b ∧ r.2.2.1 = c ∧ r.2.2.2.1 = d
instance (r : Res) (a b c d : ByteArray) : Decidable (same r a b c d) := by unfold same; infer_instance
theorem write_f (a b c d : ByteArray) (h : a.size + b.size + c.size + d.size + 3 ≤ 9223372036854775807) :
    card_WriteTrack.f a b c d = some (if same (CardRead.read (jn a b c d)) a b c d then (jn a b c d, 0) else (E, 52)) := by
  have e61 : (⟨#[61]⟩ : ByteArray) = B [61] := rfl
  have hb := part_len (L b)
  have hc := part_len (L c)
  have sb := L_size b
  have sc := L_size c
  have ej : a ++ B [61] ++ B (part (L b)) ++ B (part (L c)) ++ d = jn a b c d := by
    apply L_inj
    simp only [L_app, L_B, jn, join]
    simp
  have s1 : (B [61]).size = 1 := rfl
  unfold card_WriteTrack.f
  rw [if_pos (by omega), part_f, part_f, e61]
  simp only [Option.bind_some]
  rw [if_pos (by rw [ByteArray.size_append, size_B, size_B]; simp only [List.length_cons, List.length_nil]; omega),
    if_pos (by rw [ByteArray.size_append, ByteArray.size_append, size_B, size_B, size_B]; simp only [List.length_cons, List.length_nil]; omega),
    if_pos (by rw [ByteArray.size_append, ByteArray.size_append, ByteArray.size_append, size_B, size_B, size_B]; simp only [List.length_cons, List.length_nil]; omega), ej]
  unfold card_ReadTrack.f
  simp only [Option.bind_some]
  generalize CardRead.read (jn a b c d) = r
  rw [beqL, beqL, beqL, beqL]
  by_cases hs : same r a b c d
  · rw [if_pos hs, if_pos hs.1, if_neg (by obtain ⟨_, h1, h2, h3, h4⟩ := hs; simp [h1, h2, h3, h4])]
  · rw [if_neg hs]
    by_cases h0 : r.2.2.2.2.1 = 0
    · rw [if_pos h0, if_pos (by
        by_cases h1 : r.1 = a
        · by_cases h2 : r.2.1 = b
          · by_cases h3 : r.2.2.1 = c
            · by_cases h4 : r.2.2.2.1 = d
              · exact absurd ⟨h0, h1, h2, h3, h4⟩ hs
              · simp [h4]
            · simp [h3]
          · simp [h2]
        · simp [h1])]
    · rw [if_neg h0]
/-- A track's parts are read as they were written, and only they. -/
theorem same_iff (a b c d : ByteArray) : same (CardRead.read (jn a b c d)) a b c d ↔ Tr (L a) (L b) (L c) (L d) := by
  constructor
  · rintro ⟨h0, ha, hb, hc, hd⟩
    obtain ⟨p, m, v, r, ht, hs⟩ := read_bwd h0
    have hr := read_fwd ht
    rw [← hs] at hr
    rw [hr] at ha hb hc hd
    simp only at ha hb hc hd
    rw [← ha, ← hb, ← hc, ← hd, L_B, L_B, L_B, L_B]
    exact ht
  · intro ht
    have hr := read_fwd ht
    rw [B_L, B_L, B_L, B_L] at hr
    unfold jn
    rw [hr]
    exact ⟨rfl, rfl, rfl, rfl, rfl⟩
end Go.Proofs.Ytammbclaejgkpaa.Pure
