/- A plain law: any track that may be is written, and read as it was; a byte more than a track may have is refused. For all raw numbers; no condition beyond what the statement's arguments are. -/
import Derived.Test.YtammbclaejgkpaaTrk
import Derived.Test.YtammbclaejgkpaaRwt
import Derived.Test.YtammbclaejgkpaaPCx8
import Derived.OpenShut
namespace Go.Proofs.Ytammbclaejgkpaa.Pure
open Go.RowKit Go.Proofs.Ytammbclaejgkpaa.PC Go.Proofs.YtammbclaejgkpaaW.PrintWords Go.Proofs.YtammbclaejgkpaaW.PrintLast CardRead

/-- Which of n things. -/
def pk (c n : Int) : Int := if c < 0 then (-(c + 1)) % n else c % n
theorem pk_range (c : Int) {n : Int} (hn : 0 < n) : 0 ≤ pk c n ∧ pk c n < n := by
  unfold pk
  split
  · exact ⟨Int.emod_nonneg _ (by omega), Int.emod_lt_of_pos _ hn⟩
  · exact ⟨Int.emod_nonneg _ (by omega), Int.emod_lt_of_pos _ hn⟩
theorem w64s' {x : Int} (h : -9223372036854775808 ≤ x) (h' : x ≤ 9223372036854775807) : wrap64 x = x := by unfold wrap64; omega
theorem pick_f (c n : Int) (hn : 0 < n) (hc : (Lit.int .i64 c).wf = true) : turnstilelaw5_pick.f c n = some (pk c n) := by
  have := bounds_i64 hc
  unfold turnstilelaw5_pick.f pk
  by_cases h : c < 0
  · rw [if_pos h, if_pos h, if_neg (by omega), w64s' (x := c + 1) (by omega) (by omega), w64s' (x := -(c + 1)) (by omega) (by omega), Int.tmod_eq_emod_of_nonneg (by omega)]
  · rw [if_neg h, if_neg h, if_neg (by omega), Int.tmod_eq_emod_of_nonneg (by omega)]
/-- The i-th digit of raw numbers. -/
def dr (raw : List Int) (i : Nat) : Int := if i < raw.length then pk (raw.getD i 0) 10 else ((i : Int) % 10)
theorem dr_range (raw : List Int) (i : Nat) : 0 ≤ dr raw i ∧ dr raw i < 10 := by
  unfold dr
  split
  · exact pk_range _ (by omega)
  · omega
def dc (raw : List Int) (i : Nat) : UInt8 := UInt8.ofNat (48 + (dr raw i).toNat)
theorem dc_dg (raw : List Int) (i : Nat) : dg ((dc raw i).toNat : Int) = true := by
  have := dr_range raw i
  have e : ((dc raw i).toNat : Int) = 48 + dr raw i := by
    unfold dc
    rw [UInt8.toNat_ofNat']
    omega
  rw [e]
  simp [dg]
  omega
def dl (raw : List Int) (m : Nat) : List UInt8 := (List.range m).map (dc raw)
theorem dl_len (raw : List Int) (m : Nat) : (dl raw m).length = m := by simp [dl]
theorem dl_DL (raw : List Int) (m : Nat) : DL (dl raw m) := by
  intro c hc
  simp only [dl, List.mem_map] at hc
  obtain ⟨i, _, rfl⟩ := hc
  exact dc_dg raw i
theorem dl_succ (raw : List Int) (m : Nat) : dl raw (m + 1) = dl raw m ++ [dc raw m] := by simp [dl, List.range_succ]
theorem digits_l0 (raw : List Int) (hw : ∀ x ∈ raw, (Lit.int .i64 x).wf = true) (m : Nat) (hm : m ≤ 1000) : ∀ n i, n + i = m → Ev (fun k => turnstilelaw5_digits.l0 k raw m (B (dl raw i)) i) (B (dl raw m)) := by
  intro n
  induction n with
  | zero =>
    intro i hi
    obtain rfl : i = m := by omega
    refine Ev.step (f := fun _ => some (B (dl raw i))) (fun k => ?_) (Ev.now _)
    simp only [turnstilelaw5_digits.l0]
    rw [if_neg (by omega)]
  | succ n ih =>
    intro i hi
    have hr := dr_range raw i
    have e' : strOfNums [(48 + dr raw i) % 256] = B [dc raw i] := by
      have e1 : ((48 + dr raw i) % 256).toNat = 48 + (dr raw i).toNat := by omega
      unfold strOfNums dc B
      rw [List.map_cons, List.map_nil, e1]
    have e : B (dl raw i) ++ strOfNums [(48 + dr raw i) % 256] = B (dl raw (i + 1)) := by
      apply L_inj
      rw [e', L_app, L_B, L_B, L_B, dl_succ]
    refine Ev.step (fun k => ?_) (ih (i + 1) (by omega))
    simp only [turnstilelaw5_digits.l0]
    rw [if_pos (by omega)]
    by_cases hl : i < raw.length
    · have hd : dr raw i = pk (rd raw i) 10 := by unfold dr rd; rw [if_pos hl, Int.toNat_natCast]
      have hmem : rd raw i ∈ raw := by unfold rd; rw [Int.toNat_natCast, List.getD_eq_getElem?_getD, List.getElem?_eq_getElem hl]; simp
      rw [if_pos (by omega), if_pos (by omega), pick_f _ 10 (by omega) (hw _ hmem), ← hd]
      simp only [Option.bind_some]
      rw [w64s' (x := 48 + dr raw i) (by omega) (by omega), if_pos (by rw [e', size_B, size_B, dl_len]; simp; omega), e, w64s' (x := (i : Int) + 1) (by omega) (by omega)]
      rfl
    · have hd : dr raw i = (i : Int) % 10 := by unfold dr; rw [if_neg hl]
      rw [if_neg (by omega), Int.tmod_eq_emod_of_nonneg (by omega), ← hd]
      simp only [Option.bind_some]
      rw [w64s' (x := 48 + dr raw i) (by omega) (by omega), if_pos (by rw [e', size_B, size_B, dl_len]; simp; omega), e, w64s' (x := (i : Int) + 1) (by omega) (by omega)]
      rfl
theorem digits_ev (raw : List Int) (hw : ∀ x ∈ raw, (Lit.int .i64 x).wf = true) (m : Nat) (hm : m ≤ 1000) : Ev (fun k => turnstilelaw5_digits.f k raw m) (B (dl raw m)) := by
  have := digits_l0 raw hw m hm m 0 (by omega)
  exact this
/-- The place that is left for the rest. -/
def roomFor (m v : List UInt8) (p : Nat) : Nat := 37 - p - 1 - (part m).length - (part v).length
theorem part_b (l : List UInt8) {n : Nat} (h : l.length ≤ n) (hn : 1 ≤ n) : (part l).length ≤ n ∧ 1 ≤ (part l).length := by
  unfold part
  cases l with
  | nil => simpa using hn
  | cons a l =>
    rw [if_neg (by simp)]
    exact ⟨h, by simp⟩
theorem wsz (p m v r : List UInt8) (h : p.length + m.length + v.length + r.length ≤ 1000) : (B p).size + (B m).size + (B v).size + (B r).size + 3 ≤ 9223372036854775807 := by rw [size_B, size_B, size_B, size_B]; omega
theorem j4_ev (raw : List Int) (hw : ∀ x ∈ raw, (Lit.int .i64 x).wf = true) (p m v : List UInt8) (t : ByteArray) (R : Nat) (hR : R + p.length + 1 + (part m).length + (part v).length = 37) (hm : m.length ≤ 4) (hv : v.length ≤ 3) :
    Ev (fun k => turnstilelaw5_CardBack.j4 k raw (R : Int) false (B p) (B m) (B v) t) true := by
  have er : wrap64 ((R : Int) + 1) = ((R + 1 : Nat) : Int) := by rw [w64 (by omega) (by omega)]; rfl
  have hw' := write_f (B p) (B m) (B v) (B (dl raw (R + 1))) (wsz _ _ _ _ (by rw [dl_len]; omega))
  rw [if_neg (by
    rw [same_iff, L_B, L_B, L_B, L_B]
    intro ht
    have := ht.all
    simp only [List.length_append, List.length_cons, dl_len] at this
    omega)] at hw'
  refine Ev.step (f := fun k => (turnstilelaw5_digits.f k raw ((R + 1 : Nat) : Int)).bind fun t205 => ((card_WriteTrack.f (B p) (B m) (B v) t205).bind fun bt206 => (if bt206.1.toList = ([] : List UInt8) then (some (bt206.2 == 52)) else (some false)))) (fun k => ?_) (Ev.bind (digits_ev raw hw _ (by omega)) ?_)
  · simp only [turnstilelaw5_CardBack.j4]
    rw [if_neg (by decide), er]
  · rw [hw']
    refine Ev.congr (f := fun _ => some true) (fun _ => ?_) (Ev.now _)
    simp only [Option.bind_some]
    rw [if_pos ((toList_nil E).mpr rfl)]
    rfl
theorem j3_ev (raw : List Int) (hw : ∀ x ∈ raw, (Lit.int .i64 x).wf = true) (c : Int) (hc : (Lit.int .i64 c).wf = true) (p m v : List UInt8) (t : ByteArray) (R : Nat) (hR : R + p.length + 1 + (part m).length + (part v).length = 37) (hp1 : 1 ≤ p.length) (hp : p.length ≤ 19) (hpd : DL p) (hm : m = [] ∨ Mon m) (hv : v = [] ∨ (v.length = 3 ∧ DL v)) (x : Int) (hx : x = (R : Int) + (m.length : Int) + (v.length : Int)) :
    Ev (fun k => turnstilelaw5_CardBack.j3 k raw c true x (B p) (B m) (B v) t) true := by
  have hm4 : m.length ≤ 4 := by
    rcases hm with rfl | ⟨_, _, _, _, rfl, _⟩ <;> simp
  have hv3 : v.length ≤ 3 := by
    rcases hv with rfl | ⟨h, _⟩
    · simp
    · omega
  have e1 : wrap64 (x - ((B m).size : Int)) = (R : Int) + (v.length : Int) := by rw [size_B, hx, w64 (by omega) (by omega)]; omega
  have e2 : wrap64 ((R : Int) + (v.length : Int) - ((B v).size : Int)) = (R : Int) := by rw [size_B, w64 (by omega) (by omega)]; omega
  have e3 : wrap64 ((R : Int) + 1) = (R : Int) + 1 := w64 (by omega) (by omega)
  have hk := pk_range c (n := (R : Int) + 1) (by omega)
  obtain ⟨q, hq⟩ := Int.eq_ofNat_of_zero_le hk.1
  have hq' : q ≤ R := by omega
  have hql : q ≤ 1000 := by omega
  have hpc := pick_f c ((R : Int) + 1) (by omega) hc
  rw [hq] at hpc
  have htr : Tr p m v (dl raw q) := ⟨hpd, hp1, hp, hm, hv, dl_DL raw q, by simp only [List.length_append, List.length_cons, dl_len]; omega⟩
  have hlen : p.length + m.length + v.length + (dl raw q).length ≤ 1000 := by rw [dl_len]; omega
  have hrd := read_fwd htr
  have hw' := write_f (B p) (B m) (B v) (B (dl raw q)) (wsz _ _ _ _ hlen)
  have hjn : jn (B p) (B m) (B v) (B (dl raw q)) = B (join p m v (dl raw q)) := by unfold jn; rw [L_B, L_B, L_B, L_B]
  rw [if_pos ((same_iff _ _ _ _).mpr (by rw [L_B, L_B, L_B, L_B]; exact htr)), hjn] at hw'
  have hd37 : decide (((B (join p m v (dl raw q))).size : Int) > 37) = false := by
    refine decide_eq_false ?_
    have := htr.all
    rw [size_B]
    unfold join
    omega
  have G := digits_ev raw hw q hql
  have F := j4_ev raw hw p m v (B (dl raw q)) R hR hm4 hv3
  clear htr hlen hR hq' hk hq hx
  obtain ⟨K1, G⟩ := G
  obtain ⟨K2, F⟩ := F
  refine ⟨K1 + K2 + 1, fun n hn => ?_⟩
  obtain ⟨k, rfl⟩ : ∃ k, n = k + 1 := ⟨n - 1, by omega⟩
  simp only [turnstilelaw5_CardBack.j3]
  rw [e1, e2, e3, hpc]
  simp only [Option.bind_some, if_true]
  rw [show turnstilelaw5_digits.f k raw (q : Int) = some (B (dl raw q)) from G k (by omega)]
  simp only [Option.bind_some]
  rw [hw']
  unfold card_ReadTrack.f
  simp only [Option.bind_some, hrd, if_true, beqL, decide_true, Bool.not_true, Bool.or_false, if_neg Bool.false_ne_true, hd37]
  exact F k (by omega)
theorem CardBack : turnstilelaw5_CardBack.Pure := by
  intro raw a1 a2 a3 a4 a5 _ hl hw h1 h2 h3 h4 h5
  have k1 := pk_range a1 (n := 19) (by omega)
  obtain ⟨p, hp⟩ := Int.eq_ofNat_of_zero_le k1.1
  refine Ev.rounds (Ev.bind examples_ev ?_)
  rw [pick_f a1 19 (by omega) h1, hp]
  have ep : wrap64 (1 + (p : Int)) = ((1 + p : Nat) : Int) := by rw [w64s' (by omega) (by omega)]; omega
  refine Ev.congr (f := fun k => (turnstilelaw5_digits.f k raw ((1 + p : Nat) : Int)).bind fun t185 => (if (Int.tmod a5 2) = 0 then ((turnstilelaw5_pick.f a4 12).bind fun t187 => ((turnstilelaw5_pick.f a3 100).bind fun t188 => ((turnstilelaw5_digits.f k (([wrap64 (Int.tdiv t188 10), a3, wrap64 (Int.tdiv (wrap64 (1 + t187)) 10), Int.tmod (wrap64 (1 + t187)) 10] : List Int)) 4).bind fun t192 => (turnstilelaw5_CardBack.j0 k raw a2 a5 true t185 t192 (⟨#[]⟩ : ByteArray) (⟨#[]⟩ : ByteArray))))) else (turnstilelaw5_CardBack.j0 k raw a2 a5 true t185 (⟨#[]⟩ : ByteArray) (⟨#[]⟩ : ByteArray) (⟨#[]⟩ : ByteArray)))) (fun k => by simp only [Option.bind_some, ep]) (Ev.bind (digits_ev raw hw (1 + p) (by omega)) ?_)
  have lp := dl_len raw (1 + p)
  have j1 : ∀ m v, (m = [] ∨ Mon m) → (v = [] ∨ (v.length = 3 ∧ DL v)) → Ev (fun k => turnstilelaw5_CardBack.j1 k raw a2 true (B (dl raw (1 + p))) (B m) (B v) E) true := by
    intro m v hm hv
    have hm4 : m = [] ∨ m.length = 4 := by
      rcases hm with rfl | ⟨_, _, _, _, rfl, _⟩ <;> simp
    have hB : ∀ l : List UInt8, (B l).toList = l := fun l => by rw [toList_L, L_B]
    have e37 : wrap64 (37 - ((B (dl raw (1 + p))).size : Int)) = 37 - ((1 + p : Nat) : Int) := by rw [size_B, lp, w64s' (by omega) (by omega)]
    have e36 : wrap64 (37 - ((1 + p : Nat) : Int) - 1) = 36 - ((1 + p : Nat) : Int) := by rw [w64s' (by omega) (by omega)]; omega
    have e35 : wrap64 (36 - ((1 + p : Nat) : Int) - 1) = 35 - ((1 + p : Nat) : Int) := by rw [w64s' (by omega) (by omega)]; omega
    have e34 : wrap64 (35 - ((1 + p : Nat) : Int) - 1) = 34 - ((1 + p : Nat) : Int) := by rw [w64s' (by omega) (by omega)]; omega
    have hp20 : (1 + p : Nat) ≤ 19 := by omega
    have j3 := fun R hR x hx => j3_ev raw hw a2 h2 (dl raw (1 + p)) m v E R (by rw [lp]; exact hR) (by omega) (by omega) (dl_DL _ _) hm hv x hx
    have j2 : ∀ x, x = (if m = [] then 35 else 36) - ((1 + p : Nat) : Int) → Ev (fun k => turnstilelaw5_CardBack.j2 k raw a2 true x (B (dl raw (1 + p))) (B m) (B v) E) true := by
      intro x hx
      have hpm : (part m).length = 1 ∧ m.length = 0 ∧ x = 35 - ((1 + p : Nat) : Int) ∨ (part m).length = 4 ∧ m.length = 4 ∧ x = 36 - ((1 + p : Nat) : Int) := by
        rcases hm4 with rfl | h4
        · exact .inl ⟨rfl, rfl, by simpa using hx⟩
        · have hne : m ≠ [] := by rintro rfl; simp at h4
          rw [if_neg hne] at hx
          refine .inr ⟨?_, h4, hx⟩
          unfold part
          rw [if_neg hne, h4]
      by_cases he : v = []
      · have hpv : (part v).length = 1 ∧ v.length = 0 := by rw [he]; exact ⟨rfl, rfl⟩
        have hx1 : wrap64 (x - 1) = x - 1 := w64s' (by omega) (by omega)
        refine Ev.step (fun k => ?_) (j3 (35 - (1 + p) - (part m).length) (by omega) (wrap64 (x - 1)) (by rw [hx1]; omega))
        simp only [turnstilelaw5_CardBack.j2, hB]
        rw [if_pos he]
      · have h3v : v.length = 3 := by
          rcases hv with h | h
          · exact absurd h he
          · exact h.1
        have hpv : (part v).length = 3 := by unfold part; rw [if_neg he, h3v]
        refine Ev.step (fun k => ?_) (j3 (33 - (1 + p) - (part m).length) (by omega) x (by omega))
        simp only [turnstilelaw5_CardBack.j2, hB]
        rw [if_neg he]
    by_cases he : m = []
    · refine Ev.step (fun k => ?_) (j2 (35 - ((1 + p : Nat) : Int)) (by rw [if_pos he]))
      simp only [turnstilelaw5_CardBack.j1, hB]
      rw [if_pos he, e37, e36, e35]
    · refine Ev.step (fun k => ?_) (j2 (36 - ((1 + p : Nat) : Int)) (by rw [if_neg he]))
      simp only [turnstilelaw5_CardBack.j1, hB]
      rw [if_neg he, e37, e36]
  have j0 : ∀ m, (m = [] ∨ Mon m) → Ev (fun k => turnstilelaw5_CardBack.j0 k raw a2 a5 true (B (dl raw (1 + p))) (B m) E E) true := by
    intro m hm
    by_cases h3 : Int.tmod a5 3 = 0
    · refine Ev.step (fun k => ?_) (j1 m [] hm (.inl rfl))
      simp only [turnstilelaw5_CardBack.j0]
      rw [if_pos h3]
      rfl
    · refine Ev.step (f := fun k => (turnstilelaw5_digits.f k raw 3).bind fun t193 => (turnstilelaw5_CardBack.j1 k raw a2 true (B (dl raw (1 + p))) (B m) t193 E)) (fun k => ?_) (Ev.bind (digits_ev raw hw 3 (by omega)) (j1 m (dl raw 3) hm (.inr ⟨dl_len _ _, dl_DL _ _⟩)))
      simp only [turnstilelaw5_CardBack.j0]
      rw [if_neg h3]
  by_cases h2' : Int.tmod a5 2 = 0
  · simp only [if_pos h2']
    rw [pick_f a4 12 (by omega) h4, pick_f a3 100 (by omega) h3]
    simp only [Option.bind_some]
    have k4 := pk_range a4 (n := 12) (by omega)
    have k3 := pk_range a3 (n := 100) (by omega)
    generalize pk a4 12 = y at *
    generalize pk a3 100 = z at *
    have e1 : wrap64 (1 + y) = 1 + y := w64s' (by omega) (by omega)
    have e2 : wrap64 (Int.tdiv z 10) = z / 10 := by rw [Int.tdiv_eq_ediv_of_nonneg (by omega), w64s' (by omega) (by omega)]
    have e3 : wrap64 (Int.tdiv (1 + y) 10) = (1 + y) / 10 := by rw [Int.tdiv_eq_ediv_of_nonneg (by omega), w64s' (by omega) (by omega)]
    have e4 : Int.tmod (1 + y) 10 = (1 + y) % 10 := Int.tmod_eq_emod_of_nonneg (by omega)
    rw [e1, e2, e3, e4]
    refine Ev.bind (digits_ev [z / 10, a3, (1 + y) / 10, (1 + y) % 10] ?_ 4 (by omega)) (j0 _ (.inr ?_))
    · intro x hx
      simp only [List.mem_cons, List.not_mem_nil, or_false] at hx
      rcases hx with rfl | rfl | rfl | rfl
      · exact WalkArith.wf_i64 (by omega)
      · exact h3
      · exact WalkArith.wf_i64 (by omega)
      · exact WalkArith.wf_i64 (by omega)
    · have c2 : dr [z / 10, a3, (1 + y) / 10, (1 + y) % 10] 2 = (1 + y) / 10 := by
        unfold dr pk
        simp
        first | (split <;> omega) | (intro _; omega) | omega
      have c3 : dr [z / 10, a3, (1 + y) / 10, (1 + y) % 10] 3 = (1 + y) % 10 := by
        unfold dr pk
        simp
        first | (split <;> omega) | (intro _; omega) | omega
      generalize [z / 10, a3, (1 + y) / 10, (1 + y) % 10] = w at *
      have u : ∀ i, ((dc w i).toNat : Int) = 48 + dr w i := by
        intro i
        have := dr_range w i
        unfold dc
        rw [UInt8.toNat_ofNat']
        omega
      refine ⟨dc w 0, dc w 1, dc w 2, dc w 3, rfl, dc_dg _ _, dc_dg _ _, dc_dg _ _, dc_dg _ _, ?_, ?_⟩
      · rw [u, u, c2, c3]; omega
      · rw [u, u, c2, c3]; omega
  · simp only [if_neg h2']
    exact j0 [] (.inl rfl)
end Go.Proofs.Ytammbclaejgkpaa.Pure
