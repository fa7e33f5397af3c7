/- Plain laws: the document's WriteTrack answers as the program's does. No Go, no memory. -/
import Derived.Test.YtammbclaejgkpaaWri
import Derived.Test.YtammbclaejgkpaaDig
import Derived.Test.YtammbclaejgkpaaPCx6
namespace Go.Proofs.Ytammbclaejgkpaa.Pure
open Go.RowKit Go.Proofs.Ytammbclaejgkpaa.PC Go.Proofs.YtammbclaejgkpaaW.PrintWords Go.Proofs.YtammbclaejgkpaaW.PrintLast CardRead

theorem bt_L (s : ByteArray) (j : Nat) (h : j < (L s).length) : bt s j = ((L s)[j].toNat : Int) := by
  have h' : j < s.size := by rw [← L_size]; exact h
  unfold bt
  rw [dif_pos (by omega)]
  simp only [Int.toNat_natCast]
  rfl
theorem digs_L (s : ByteArray) (a b : Int) : digs s a b = true ↔ DL (L s) ∧ a ≤ s.size ∧ (s.size : Int) ≤ b := by
  constructor
  · intro h
    obtain ⟨h1, h2⟩ := digs_yes h
    refine ⟨fun c hc => ?_, h1⟩
    obtain ⟨j, hj, rfl⟩ := List.getElem_of_mem hc
    rw [← bt_L s j hj]
    exact h2 j (by rw [← L_size]; exact hj)
  · rintro ⟨h1, h2, h3⟩
    refine digs_of h2 h3 (fun j hj => ?_)
    rw [bt_L s j (by rw [L_size]; exact hj)]
    exact h1 _ (List.getElem_mem _)
theorem isMonth_L (s : ByteArray) : isMonth s = true ↔ Mon (L s) := by
  constructor
  · intro h
    simp only [isMonth, Bool.and_eq_true, decide_eq_true_eq] at h
    obtain ⟨hd, h1, h2⟩ := h
    obtain ⟨hl, h3, h4⟩ := (digs_L s 4 4).mp hd
    have hs : (L s).length = 4 := by rw [L_size]; omega
    have b2 := bt_L s 2 (by omega)
    have b3 := bt_L s 3 (by omega)
    obtain ⟨a, b, c, d, e⟩ : ∃ a b c d, L s = [a, b, c, d] := by
      match L s, hs with
      | [a, b, c, d], _ => exact ⟨a, b, c, d, rfl⟩
    have e2 : (L s)[2]'(by omega) = c := by simp [e]
    have e3 : (L s)[3]'(by omega) = d := by simp [e]
    rw [e2] at b2
    rw [e3] at b3
    have b2' : bt s 2 = (c.toNat : Int) := b2
    have b3' : bt s 3 = (d.toNat : Int) := b3
    rw [b2', b3'] at h1 h2
    rw [e] at hl
    exact ⟨a, b, c, d, e, hl a (by simp), hl b (by simp), hl c (by simp), hl d (by simp), h1, h2⟩
  · rintro ⟨a, b, c, d, e, da, db, dc, dd, h1, h2⟩
    have hs : (L s).length = 4 := by rw [e]; rfl
    have b2 := bt_L s 2 (by omega)
    have b3 := bt_L s 3 (by omega)
    have e2 : (L s)[2]'(by omega) = c := by simp [e]
    have e3 : (L s)[3]'(by omega) = d := by simp [e]
    rw [e2] at b2
    rw [e3] at b3
    have b2' : bt s 2 = (c.toNat : Int) := b2
    have b3' : bt s 3 = (d.toNat : Int) := b3
    have hz : s.size = 4 := by rw [← L_size]; exact hs
    simp only [isMonth, Bool.and_eq_true, decide_eq_true_eq]
    refine ⟨(digs_L s 4 4).mpr ⟨?_, by omega, by omega⟩, by rw [b2', b3']; exact h1, by rw [b2', b3']; exact h2⟩
    rw [e]
    intro x hx
    simp only [List.mem_cons, List.not_mem_nil, or_false] at hx
    rcases hx with rfl | rfl | rfl | rfl <;> assumption
theorem toList_nil (s : ByteArray) : s.toList = ([] : List UInt8) ↔ L s = [] := by rw [toList_L]

theorem ref_write_ev (a b c d : ByteArray) (h : a.size + b.size + c.size + d.size + 3 ≤ 9223372036854775806) :
    Ev (fun k => turnstileref5_WriteTrack.f k a b c d) (if same (CardRead.read (jn a b c d)) a b c d then (jn a b c d, 0) else (E, 52)) := by
  have hiff := same_iff a b c d
  have da := ref_digits_ev a (by omega) 1 19
  have dc := ref_digits_ev c (by omega) 3 3
  have dd := ref_digits_ev d (by omega) 0 37
  have mb := ref_Month_ev b (by omega)
  have la := L_size a
  have lb := L_size b
  have lc := L_size c
  have ld := L_size d
  have no : ¬ Tr (L a) (L b) (L c) (L d) → Ev (fun k => turnstileref5_WriteTrack.j2 k true a b c d) (if same (CardRead.read (jn a b c d)) a b c d then (jn a b c d, 0) else (E, 52)) := by
    intro hn
    rw [if_neg (fun hs => hn (hiff.mp hs))]
    refine Ev.step (f := fun _ => some (E, 52)) (fun k => ?_) (Ev.now _)
    simp only [turnstileref5_WriteTrack.j2, if_true]
  have s61 : (⟨#[61]⟩ : ByteArray).size = 1 := rfl
  have j3 : ∀ x8 : ByteArray, x8 ++ b = B (L a ++ 61 :: part (L b)) → digs a 1 19 = true → (L b = [] ∨ Mon (L b)) → (L c = [] ∨ ((L c).length = 3 ∧ DL (L c))) → digs d 0 37 = true →
      Ev (fun k => turnstileref5_WriteTrack.j3 k x8 a b c d) (if same (CardRead.read (jn a b c d)) a b c d then (jn a b c d, 0) else (E, 52)) := by
    intro x8 hx ha hb hc hd
    obtain ⟨ha1, ha2, ha3⟩ := (digs_L a 1 19).mp ha
    obtain ⟨hd1, hd2, hd3⟩ := (digs_L d 0 37).mp hd
    have hsz : (x8 ++ b).size = (L a).length + 1 + (part (L b)).length := by rw [hx, size_B]; simp; omega
    have hpb := part_len (L b)
    have hx8 : x8.size + b.size = (L a).length + 1 + (part (L b)).length := by rw [← hsz, ByteArray.size_append]
    have fin : ∀ s : ByteArray, s = jn a b c d → Ev (fun _ : Nat => if (s.size : Int) > 37 then some ((⟨#[]⟩ : ByteArray), (52 : Int)) else some (s, 0)) (if same (CardRead.read (jn a b c d)) a b c d then (jn a b c d, 0) else (E, 52)) := by
      rintro s rfl
      have hj : (jn a b c d).size = (join (L a) (L b) (L c) (L d)).length := by unfold jn; rw [size_B]
      by_cases h37 : ((jn a b c d).size : Int) > 37
      · simp only [if_pos h37]
        rw [if_neg (fun hs => by have := (hiff.mp hs).all; unfold join at hj; omega)]
        exact Ev.now _
      · simp only [if_neg h37]
        rw [if_pos (hiff.mpr ⟨ha1, by omega, by omega, hb, hc, hd1, by unfold join at hj; omega⟩)]
        exact Ev.now _
    by_cases he : L c = []
    · refine Ev.step (fun k => ?_) (fin ((((x8 ++ b) ++ (⟨#[61]⟩ : ByteArray)) ++ c) ++ d) ?_)
      · simp only [turnstileref5_WriteTrack.j3]
        have c0 : c.size = 0 := by rw [← lc, he]; rfl
        rw [if_pos (by omega), if_pos ((toList_nil c).mpr he), if_pos (by omega), if_pos (by rw [ByteArray.size_append, hsz, s61]; omega), if_pos (by rw [ByteArray.size_append, ByteArray.size_append, hsz, s61]; omega)]
      · apply L_inj
        have : L (⟨#[61]⟩ : ByteArray) = [61] := rfl
        rw [hx]
        simp only [L_app, L_B, jn, join, he, this]
        simp [part]
    · refine Ev.step (fun k => ?_) (fin (((x8 ++ b) ++ c) ++ d) ?_)
      · simp only [turnstileref5_WriteTrack.j3]
        rw [if_pos (by omega), if_neg (fun h' => he ((toList_nil c).mp h')), if_pos (by omega), if_pos (by rw [ByteArray.size_append, hsz]; omega)]
      · apply L_inj
        rw [hx]
        simp only [L_app, L_B, jn, join]
        have : part (L c) = L c := by unfold part; rw [if_neg he]
        rw [this]
        simp
  have j2 : digs a 1 19 = true → (L b = [] ∨ Mon (L b)) → (L c = [] ∨ ((L c).length = 3 ∧ DL (L c))) → digs d 0 37 = true →
      Ev (fun k => turnstileref5_WriteTrack.j2 k false a b c d) (if same (CardRead.read (jn a b c d)) a b c d then (jn a b c d, 0) else (E, 52)) := by
    intro ha hb hc hd
    by_cases he : L b = []
    · refine Ev.step (fun k => ?_) (j3 ((a ++ (⟨#[61]⟩ : ByteArray)) ++ (⟨#[61]⟩ : ByteArray)) ?_ ha hb hc hd)
      · simp only [turnstileref5_WriteTrack.j2]
        rw [if_neg (by decide), if_pos (by omega), if_pos ((toList_nil b).mpr he), if_pos (by rw [ByteArray.size_append, s61]; omega)]
      · apply L_inj
        have : L (⟨#[61]⟩ : ByteArray) = [61] := rfl
        simp only [L_app, L_B, he, this]
        simp [part]
    · refine Ev.step (fun k => ?_) (j3 (a ++ (⟨#[61]⟩ : ByteArray)) ?_ ha hb hc hd)
      · simp only [turnstileref5_WriteTrack.j2]
        rw [if_neg (by decide), if_pos (by omega), if_neg (fun h' => he ((toList_nil b).mp h'))]
      · apply L_inj
        have : L (⟨#[61]⟩ : ByteArray) = [61] := rfl
        simp only [L_app, L_B, this]
        have : part (L b) = L b := by unfold part; rw [if_neg he]
        rw [this]
        simp
  have j1 : ∀ pm : Bool, (pm = true ↔ (L b = [] ∨ Mon (L b))) → ∀ pc : Bool, (pc = true ↔ (L c = [] ∨ ((L c).length = 3 ∧ DL (L c)))) →
      Ev (fun k => turnstileref5_WriteTrack.j1 k (digs a 1 19) pm pc a b c d) (if same (CardRead.read (jn a b c d)) a b c d then (jn a b c d, 0) else (E, 52)) := by
    intro pm hpm pc hpc
    have G : ∀ g : Nat → Option (ByteArray × Int), Ev g (if same (CardRead.read (jn a b c d)) a b c d then (jn a b c d, 0) else (E, 52)) → (∀ k, turnstileref5_WriteTrack.j1 (k + 1) (digs a 1 19) pm pc a b c d = (turnstileref5_digits.f k d 0 37).bind fun _ => g k) → Ev (fun k => turnstileref5_WriteTrack.j1 k (digs a 1 19) pm pc a b c d) (if same (CardRead.read (jn a b c d)) a b c d then (jn a b c d, 0) else (E, 52)) :=
      fun g hg hk => Ev.step hk (Ev.bind dd hg)
    cases xa : digs a 1 19 with
    | false =>
      refine Ev.step (f := fun k => (turnstileref5_digits.f k d 0 37).bind fun _ => turnstileref5_WriteTrack.j2 k true a b c d) (fun k => ?_) (Ev.bind dd (no (fun ht => ?_)))
      · simp only [turnstileref5_WriteTrack.j1]
        congr 1
      · have := (digs_L a 1 19).mpr ⟨ht.pd, by have := ht.p1; omega, by have := ht.p2; omega⟩
        rw [xa] at this; cases this
    | true =>
      cases xm : pm with
      | false =>
        refine Ev.step (f := fun k => (turnstileref5_digits.f k d 0 37).bind fun _ => turnstileref5_WriteTrack.j2 k true a b c d) (fun k => ?_) (Ev.bind dd (no (fun ht => ?_)))
        · simp only [turnstileref5_WriteTrack.j1, if_true]
          congr 1
        · have := hpm.mpr ht.md
          rw [xm] at this; cases this
      | true =>
        cases xc : pc with
        | false =>
          refine Ev.step (f := fun k => (turnstileref5_digits.f k d 0 37).bind fun _ => turnstileref5_WriteTrack.j2 k true a b c d) (fun k => ?_) (Ev.bind dd (no (fun ht => ?_)))
          · simp only [turnstileref5_WriteTrack.j1, if_true]
            congr 1
          · have := hpc.mpr ht.vd
            rw [xc] at this; cases this
        | true =>
          refine Ev.step (f := fun k => (turnstileref5_digits.f k d 0 37).bind fun t => turnstileref5_WriteTrack.j2 k (!t) a b c d) (fun k => by simp only [turnstileref5_WriteTrack.j1, if_true]) (Ev.bind dd ?_)
          cases xd : digs d 0 37 with
          | true => exact j2 xa (hpm.mp xm) (hpc.mp xc) xd
          | false =>
            refine no (fun ht => ?_)
            have hall := ht.all
            simp only [List.length_append, List.length_cons] at hall
            have := (digs_L d 0 37).mpr ⟨ht.rd, by omega, by omega⟩
            rw [xd] at this; cases this
  have j0 : ∀ pm : Bool, (pm = true ↔ (L b = [] ∨ Mon (L b))) →
      Ev (fun k => turnstileref5_WriteTrack.j0 k (digs a 1 19) pm a b c d) (if same (CardRead.read (jn a b c d)) a b c d then (jn a b c d, 0) else (E, 52)) := by
    intro pm hpm
    by_cases he : L c = []
    · refine Ev.step (fun k => ?_) (j1 pm hpm true (by simp [he]))
      simp only [turnstileref5_WriteTrack.j0]
      rw [if_pos ((toList_nil c).mpr he)]
    · refine Ev.step (f := fun k => (turnstileref5_digits.f k c 3 3).bind fun t => turnstileref5_WriteTrack.j1 k (digs a 1 19) pm t a b c d) (fun k => ?_) (Ev.bind dc (j1 pm hpm _ ?_))
      · simp only [turnstileref5_WriteTrack.j0]
        rw [if_neg (fun h' => he ((toList_nil c).mp h'))]
      · rw [digs_L]
        constructor
        · rintro ⟨h1, h2, h3⟩; exact .inr ⟨by omega, h1⟩
        · rintro (h1 | ⟨h1, h2⟩)
          · exact absurd h1 he
          · exact ⟨h2, by omega, by omega⟩
  refine Ev.bind da ?_
  by_cases he : L b = []
  · simp only [if_pos ((toList_nil b).mpr he)]
    exact j0 true (by simp [he])
  · simp only [if_neg (fun h' => he ((toList_nil b).mp h'))]
    exact Ev.bind mb (j0 _ (by rw [isMonth_L]; simp [he]))
end Go.Proofs.Ytammbclaejgkpaa.Pure
