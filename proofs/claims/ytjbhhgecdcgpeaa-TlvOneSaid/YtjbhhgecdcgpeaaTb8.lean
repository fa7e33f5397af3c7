/- Nodes as bytes: the contract of written. -/
import Derived.Test.YtjbhhgecdcgpeaaTb7
namespace Go.Proofs.Ytjbhhgecdcgpeaa.Tb
open Go Go.RowKit Go.Proofs.YtjbhhgecdcgpeaaW.PrintWords Go.Proofs.YtjbhhgecdcgpeaaW.PrintLast Go.Proofs.YtjbhhgecdcgpeaaW.PrintMore Go.Proofs.Ytjbhhgecdcgpeaa.TA
set_option linter.unusedSimpArgs false
set_option linter.unusedVariables false
theorem add_blk (a : Addr) (n : Nat) : (a.add n).block = a.block := by unfold Addr.add; split <;> rfl
theorem C_mv {W W1 : World} {A : Option Addr} {m : Nat} {k : IntKind} {ys : List Int} (h : (Kd.int k).C W A m ys) (hm : ∀ ad, A = some ad → 0 < m → W1.heap[ad.block]? = W.heap[ad.block]?) : (Kd.int k).C W1 A m ys := by
  refine ⟨h.1, h.2.1, fun hn => ?_⟩
  obtain ⟨ad, e, hc⟩ := h.2.2 hn
  refine ⟨ad, e, fun j p hj => ?_⟩
  obtain ⟨c, hl, hR, hcell⟩ := hc j p hj
  exact ⟨c, hl, hR, fun i u hu => (World.cell?_of_block (a := ad.add (j * _ + i)) (by rw [add_blk]; exact hm ad e hn)).trans (hcell i u hu)⟩
theorem C_ofReads {W : World} {A : Option Addr} {m : Nat} {k : IntKind} {ys : List Int} (h : ReadsInt W k A m ys) : (Kd.int k).C W A m ys := by
  refine ⟨h.1, h.2.1, fun hn => ?_⟩
  obtain ⟨ad, e, hc⟩ := h.2.2 hn
  refine ⟨ad, e, fun j p hj => ⟨[.int k p], rfl, rfl, fun i u hu => ?_⟩⟩
  have hjl : j < m := by rw [← h.1]; exact (List.getElem?_eq_some_iff.mp hj).1
  cases i with
  | zero =>
    have hu' : Value.int k p = u := by simpa using hu
    subst hu'
    have := hc j hjl
    rw [List.getD_eq_getElem?_getD, hj] at this
    show W.cell? (ad.add (j * 1 + 0)) = _
    rw [Nat.mul_one, Nat.add_zero]
    exact this
  | succ i => simp at hu
theorem C_lt {W : World} {A : Option Addr} {m : Nat} {k : IntKind} {ys : List Int} (h : (Kd.int k).C W A m ys) (ad : Addr) (he : A = some ad) (hm : 0 < m) : ad.block < W.heap.size := by
  obtain ⟨ad', e, hc⟩ := h.2.2 hm
  rw [e] at he
  injection he with he
  subst he
  obtain ⟨c, hl, hR, hcell⟩ := hc 0 _ (List.getElem?_eq_getElem (by have := h.1; omega))
  have hR' : c = [_] := hR
  subst hR'
  have := World.block_lt_of_cell? W _ (hcell 0 _ rfl)
  rwa [add_blk] at this
/-- Bytes that lie in a block from lo to hi. -/
structure Cont (lo hi : Nat) (W : World) (A : Option Addr) (m : Nat) (ys : List Int) : Prop where
  c : (Kd.int .u8).C W A m ys
  q : ∀ ad, A = some ad → 0 < m → lo ≤ ad.block ∧ ad.block < hi
theorem Cont.step {lo hi : Nat} {W W1 : World} {A : Option Addr} {m : Nat} {ys : List Int} (h : Cont lo hi W A m ys) (hm : ∀ i, lo ≤ i → i < hi → W1.heap[i]? = W.heap[i]?) : Cont lo hi W1 A m ys :=
  ⟨C_mv h.c (fun ad he h0 => hm _ (h.q ad he h0).1 (h.q ad he h0).2), h.q⟩
/-- A length's bytes. -/
def sizeB (n : Int) : List Int := if n < 128 then [n % 256] else if n < 256 then [129, n % 256] else [130, n / 256 % 256, n % 256]
theorem size_some (l : List Int) (n : Int) (h : l.length + 3 < 140737488355328) : tlv_size.f l n = some (l ++ sizeB n) := by
  unfold tlv_size.f sizeB
  split
  · rw [if_pos (by omega)]
  split
  · rw [Option.bind_some, if_pos (by simp; omega)]
  · rw [Option.bind_some, if_pos (by simp; omega)]
theorem sizeB_len (n : Int) : (sizeB n).length ≤ 3 := by unfold sizeB; split <;> (try split) <;> simp
theorem partsL_len (t : Int) : (partsL t).length ≤ 3 := by
  have h := partsL_some t
  generalize partsL t = r at h
  unfold tlv_parts.f at h
  simp only [tlv_parts.j0] at h
  repeat' split at h
  all_goals (injection h with h; subst h; simp)
/-- Nodes behind what is there; nothing: too many bytes. (The bound of a value is the one under which a row may grow.) -/
def oneW (b content : List Int) (t : Int) : Option (List Int) := if 9999 < (b ++ partsL t ++ sizeB content.length ++ content).length then none else some (b ++ partsL t ++ sizeB content.length ++ content)
def writtenP : Nat → List S43 → List Int → Option (Option (List Int))
  | 0, _, _ => none
  | _ + 1, [], b => some (some b)
  | k + 1, x :: l, b => if x.f1.size ≤ 140737488340000 then
      (if markedB x.f0 = true then writtenP k x.f2 [] else some (some (bytesOf x.f1))).bind fun o => match o with
        | none => some none
        | some content => match oneW b content x.f0 with
          | none => some none
          | some b1 => writtenP k l b1
    else none
section
variable {k : Nat} {x : S43} {l : List S43} {b : List Int}
theorem writtenP_nil : writtenP (k + 1) [] b = some (some b) := by simp [writtenP]
theorem writtenP_size {o : Option (List Int)} (h : writtenP (k + 1) (x :: l) b = some o) : x.f1.size ≤ 140737488340000 := by
  unfold writtenP at h
  split at h
  · assumption
  · cases h
theorem writtenP_marked {o : Option (List Int)} (h : writtenP (k + 1) (x :: l) b = some o) (hm : markedB x.f0 = true) : ∃ oc, writtenP k x.f2 [] = some oc ∧ (match oc with
        | none => some none
        | some content => match oneW b content x.f0 with
          | none => some none
          | some b1 => writtenP k l b1) = some o := by
  have hs := writtenP_size h
  unfold writtenP at h
  rw [if_pos hs, if_pos hm] at h
  exact Option.bind_eq_some_iff.mp h
theorem writtenP_plain {o : Option (List Int)} (h : writtenP (k + 1) (x :: l) b = some o) (hm : markedB x.f0 = false) : (match oneW b (bytesOf x.f1) x.f0 with
          | none => some none
          | some b1 => writtenP k l b1) = some o := by
  have hs := writtenP_size h
  unfold writtenP at h
  rw [if_pos hs, if_neg (by rw [hm]; simp), Option.bind_some] at h
  exact h
end
theorem oneW_some {b content b1 : List Int} {t : Int} (h : oneW b content t = some b1) : b1 = b ++ partsL t ++ sizeB content.length ++ content ∧ b1.length ≤ 9999 := by
  unfold oneW at h
  split at h
  · cases h
  · injection h with h
    subst h
    exact ⟨rfl, by omega⟩
theorem writtenP_len : ∀ (k : Nat) {l : List S43} {b r : List Int}, writtenP k l b = some (some r) → b.length ≤ 9999 → r.length ≤ 9999
  | 0, _, _, _, h, _ => by simp [writtenP] at h
  | k + 1, [], b, r, h, hb => by
    rw [writtenP_nil] at h
    injection h with h
    injection h with h
    subst h
    exact hb
  | k + 1, x :: l, b, r, h, hb => by
    cases hm : markedB x.f0 with
    | true =>
      obtain ⟨oc, hoc, h⟩ := writtenP_marked h hm
      rcases oc with _ | content
      · cases h
      · rcases h1 : oneW b content x.f0 with _ | b1
        · simp only [h1] at h; cases h
        · simp only [h1] at h; exact writtenP_len k h (oneW_some h1).2
    | false =>
      have h := writtenP_plain h hm
      rcases h1 : oneW b (bytesOf x.f1) x.f0 with _ | b1
      · simp only [h1] at h; cases h
      · simp only [h1] at h; exact writtenP_len k h (oneW_some h1).2
/-- How it ends. -/
def WEnds (o : Option (List Int)) (w : World) (z : Ending) (w' : World) : Prop := Below w.heap.size w w' ∧ match o with
  | some b => ∃ v, z = .returned v ∧ Kd.R (Kd.int .u8) 5 w' w.heap.size (fun _ => True) v b
  | none => z = gaveUp 91 0
def WrRel (w : World) (l : List S43) (o : Option (List Int)) (K kq : Nat) (v3 v9 : Value) (W : World) : Prop :=
  ∃ (b : List Int) (i : Int), Kd.R (Kd.int .u8) 5 W w.heap.size (fun _ => True) v3 b ∧ v9 = .int .i64 i ∧ writtenP kq (l.drop i.toNat) b = some o ∧ Below w.heap.size w W ∧ b.length ≤ 9999 ∧ 0 ≤ i ∧ i ≤ l.length ∧ kq ≤ K
/-- What stands where both ways to a content meet. -/
def CutW (w : World) (g q : Nat) (A2 : Option Addr) (c2 : Nat) (x : S43) (N : List Int → Option (Option (List Int))) (o : Option (List Int)) (b : List Int) (u3 v6 : Value) (wc : World) : Prop :=
  ∃ (A : Option Addr) (m c : Nat) (content : List Int), v6 = .slice A m c ∧ Cont q wc.heap.size wc A m content ∧ content.length ≤ 140737488340000 ∧ (match oneW b content x.f0 with
        | none => some none
        | some b1 => N b1) = some o ∧
    wc.heap[g]? = some (.cells #[.int .i64 x.f0, .string x.f1, .slice A2 x.f2.length c2] 43 (0, 0)) ∧ Below w.heap.size w wc ∧ Kd.R (Kd.int .u8) 5 wc w.heap.size (fun k => k < q) u3 b
set_option maxRecDepth 100000 in
set_option maxHeartbeats 1000000 in
theorem written_calls (k : Nat) : ∀ (A : Option Addr) (c : Nat) (l : List S43) (w : World) (o : Option (List Int)) (hP : writtenP k l [] = some o) (hr0 : Kd.C k43 w A l.length l) (hc0 : l.length ≤ c),
    Calls Try.prog 45 #[.slice A l.length c] w fun z w' => WEnds o w z w' := by
  induction k using Nat.strongRecOn with
  | _ k ih =>
  intro A c l w o hP hr0 hc0
  have HR0 := Aside0.mk hr0
  have hlen : l.length ≤ 9223372036854775807 := hr0.2.1
  have HL0 : WrRel w l o k k (.slice none 0 0) (.int .i64 0) w := ⟨[], 0, Kd.R_nil _ _ _ _ _, rfl, hP, Below.refl _ _, by simp, Int.le_refl _, Int.natCast_nonneg _, Nat.le_refl _⟩
  have kb := fun s W => print_bytes (P := Try.prog) 9 76 5 Try.underlying9 Try.underlying76 Try.underlying5 s W
  clear hr0 hP
  go_enter Try.func45, Try.ntmps45
  go_wp2
  go_loopg [3, 9] k (fun kq v3 v9 W => WrRel w l o k kq v3 v9 W)
  case atStart => exact HL0
  case round =>
    clear HL0
    obtain ⟨b, i, hO, rfl, hP, hB, hbl, hi0, hi1, hkq⟩ := hrel
    have HB := Aside0.mk hB
    have HO := Aside0.mk hO
    clear hB hO
    cases gk with
    | zero => exact absurd hP (by simp [writtenP])
    | succ k1 =>
    by_cases g1 : i < (l.length : Int)
    · have d1 : decide (i < (l.length : Int)) = true := decide_eq_true g1
      rw [drop_rd l i hi0 g1] at hP
      obtain ⟨ad, A2, c2, e, x0, x1, x2, hl2, hC2⟩ := at_T43 HR0.out i hi0 g1
      cases e
      replace x0 := (HB.out.cell (World.block_lt_of_cell? w _ x0)).trans x0
      replace x1 := (HB.out.cell (World.block_lt_of_cell? w _ x1)).trans x1
      replace x2 := (HB.out.cell (World.block_lt_of_cell? w _ x2)).trans x2
      generalize rd_T43 l i = x at hP x0 x1 x2 hl2 hC2
      have HC2 := Aside0.mk hC2
      have HP := Aside0.mk hP
      have hxs := writtenP_size hP
      clear hC2 hP
      have p0 := eq_true hi0
      have q0 := eq_true g1
      go_upto_region 5 with (fail)
      obtain ⟨w1, hw1⟩ : ∃ w1, w1 = wr.alloc (.cells #[.int .i64 x.f0, .string x.f1, .slice A2 x.f2.length c2] 43) := ⟨_, rfl⟩
      obtain ⟨g, hg⟩ : ∃ g, g = wr.heap.size := ⟨_, rfl⟩
      rw [← hw1, ← hg]
      have hBx1 : w1.heap[g]? = some (.cells #[.int .i64 x.f0, .string x.f1, .slice A2 x.f2.length c2] 43 (0, 0)) := by rw [hw1, hg]; exact heap_alloc_new _ _
      have hB01 : Below wr.heap.size wr w1 := by rw [hw1]; exact below_alloc (Below.refl _ _) _
      have HB1 := Aside0.mk (below_step HB.out hB01)
      have HO1 := Aside0.mk (Kd.R_below HO.out hB01)
      clear hw1 hg x0 x1 x2 p0 q0 d1 HB HO hB01
      have y0 : w1.cell? ⟨g, 0, none⟩ = some (.int .i64 x.f0) := (blk_cell hBx1 0).trans rfl
      have y1 : w1.cell? ⟨g, 1, none⟩ = some (.string x.f1) := (blk_cell hBx1 1).trans rfl
      obtain ⟨mk, hmk⟩ : ∃ mk, markedB x.f0 = mk := ⟨_, rfl⟩
      have Hmk := Aside0.mk hmk
      clear hmk
      go_upto_region 6 with (fail)
      obtain ⟨w2, hw2⟩ : ∃ w2, w2 = Lib.bytesWorld w1 5 x.f1 := ⟨_, rfl⟩
      obtain ⟨q, hq⟩ : ∃ q, q = w1.heap.size := ⟨_, rfl⟩
      obtain ⟨cq, hcq⟩ : ∃ cq, cq = grownCap w1 x.f1.size 0 5 := ⟨_, rfl⟩
      rw [← hw2, ← hq, ← hcq]
      have hB12 : Below w1.heap.size w1 w2 := by rw [hw2]; exact bytes_below (Below.refl _ _) (Nat.le_refl _) 5 x.f1
      have hq2 : q < w2.heap.size := by rw [hw2, Lib.bytesWorld_size]; omega
      have hCt : (Kd.int .u8).C w2 (some ⟨q, 0, none⟩) x.f1.size (bytesOf x.f1) := by rw [hw2, hq]; exact C_ofReads (bytes_reads w1 5 x.f1 (by omega))
      have HCT := Aside0.mk (show Cont q w2.heap.size w2 (some ⟨q, 0, none⟩) x.f1.size (bytesOf x.f1) from ⟨hCt, fun ad he _ => by injection he with he; subst he; exact ⟨Nat.le_refl _, hq2⟩⟩)
      have HO2 := Aside0.mk (Kd.R_below (Kd.R_mono (ok' := fun k => k < q) (Kd.R_bound HO1.out) (fun k hk => by have := hk.2.2.1; omega)) hB12)
      have HB2 := Aside0.mk (below_step HB1.out hB12)
      have hBx2 := blk_below hBx1 hB12
      have hgq : g < q := by have := blk_lt hBx1; omega
      clear hw2 hq hcq hB12 hCt HO1 HB1 hBx1 y0 y1 kb
      have y0 : w2.cell? ⟨g, 0, none⟩ = some (.int .i64 x.f0) := (blk_cell hBx2 0).trans rfl
      have hmc := marked_calls x.f0 w2
      rw [Hmk.out] at hmc
      go_upto_if 18 with (go_at_call 71; (with_reducible refine hmc.mono ?_); rintro z w3 ⟨rfl, hB3⟩; have HB3 := Aside0.mk hB3; clear hB3)
      have hBx3 := blk_below hBx2 HB3.out
      have HBw3 := Aside0.mk (below_step HB2.out HB3.out)
      have HO3 := Aside0.mk (Kd.R_below HO2.out HB3.out)
      have hq3 : q < w3.heap.size := Nat.lt_of_lt_of_le hq2 HB3.out.size
      have HCT3 := Aside0.mk (HCT.out.step (fun i _ hi => HB3.out.block i hi))
      have hs23 := HB3.out.size
      clear y0 hmc hBx2 HO2 HB2 HB3 HCT
      have y2 : w3.cell? ⟨g, 2, none⟩ = some (.slice A2 x.f2.length c2) := (blk_cell hBx3 2).trans rfl
      go_cut [6] (fun v6 wc => CutW w g q A2 c2 x (writtenP k1 (l.drop (i + 1).toNat)) o b u3 v6 wc)
      case first =>
        cases mk with
        | true =>
          obtain ⟨oc, hoc, hP⟩ := writtenP_marked HP.out Hmk.out
          have hic := ih k1 (by omega) A2 c2 x.f2 w3 oc hoc (Kd.C_below HC2.out HBw3.out) hl2
          have HOC := Aside0.mk hoc
          have HP2 := Aside0.mk hP
          clear hoc hP
          rcases oc with _ | content
          · have hP := HP2.out
            obtain rfl := Option.some.inj hP
            clear hP
            go_wp2_with (go_at_call 45; (with_reducible refine hic.mono ?_); rintro z w4 ⟨hB4, rfl⟩)
            exact ⟨rfl, below_step HBw3.out hB4, rfl⟩
          go_wp2_with (go_at_call 45; (with_reducible refine hic.mono ?_); rintro z w4 ⟨hB4, v4, rfl, hR4⟩; obtain ⟨A4, c4, e4, hl4, hC4⟩ := Kd.R_reads hR4; subst e4; have HB4 := Aside0.mk hB4; have HR4 := Aside0.mk hR4; have HC4 := Aside0.mk hC4; clear hB4 hR4 hC4)
          go_meet
          case rel =>
            refine ⟨A4, content.length, c4, content, rfl, ⟨HC4.out, fun ad he h0 => ?_⟩, ?_, HP2.out, blk_below hBx3 HB4.out, below_step HBw3.out HB4.out, Kd.R_below HO3.out HB4.out⟩
            · obtain ⟨g4, cap4, he4, hb4, hlt4, _⟩ := Kd.R_form HR4.out h0
              injection he4 with he4
              rw [he] at he4
              injection he4 with he4
              subst he4
              exact ⟨Nat.le_trans (Nat.le_of_lt hq3) hb4, hlt4⟩
            · have := writtenP_len k1 HOC.out (by simp)
              omega
        | false =>
          have hP := writtenP_plain HP.out Hmk.out
          have HP2 := Aside0.mk hP
          clear hP
          go_wp2
          go_meet
          case rel => exact ⟨some ⟨q, 0, none⟩, x.f1.size, cq, bytesOf x.f1, rfl, ⟨HCT3.out.c, fun ad he h0 => ⟨(HCT3.out.q ad he h0).1, Nat.lt_of_lt_of_le (HCT3.out.q ad he h0).2 hs23⟩⟩, by rw [bytesOf_length]; exact hxs, HP2.out, hBx3, HBw3.out, HO3.out⟩
      case rest =>
        obtain ⟨A6, m6, c6, content, rfl, hCt, hcl, hP, hBx, hB, hO⟩ := hcut
        have hm6 : content.length = m6 := hCt.c.1
        obtain ⟨hi6, hhi6⟩ : ∃ hi6, hi6 = wc.heap.size := ⟨_, rfl⟩
        rw [← hhi6] at hCt
        have HCt := Aside0.mk hCt
        have HP2 := Aside0.mk hP
        have HB := Aside0.mk hB
        have HO := Aside0.mk hO
        have hge6 : g < hi6 := by rw [hhi6]; exact blk_lt hBx
        have hhi := Nat.le_of_eq hhi6
        have hhi2 := Nat.le_of_eq hhi6.symm
        have hM6 := Aside0.mk hm6
        have hws := HB.out.size
        have hws2 := HB.out
        have y0 : wc.cell? ⟨g, 0, none⟩ = some (.int .i64 x.f0) := (blk_cell hBx 0).trans rfl
        have hpc := tlv_parts.calls 2 x.f0 (partsL x.f0) wc (partsL_some x.f0)
        have hpl := partsL_len x.f0
        obtain ⟨pl, hpl0⟩ : ∃ pl, pl = partsL x.f0 := ⟨_, rfl⟩
        rw [← hpl0] at hpc hpl
        have HPL := Aside0.mk hpl0
        clear hP hB hO hCt hhi6 hm6 hpl0 hws2 HP
        go_upto_region 9 with (first
          | (go_at_call 62; (with_reducible refine hpc.mono ?_); rintro z w3 ⟨v3, rfl, hR3, hB3⟩; obtain ⟨A3, c3, e3, hl3, hC3⟩ := Kd.R_reads hR3; subst e3; have HB3 := Aside0.mk hB3; have HC3 := Aside0.mk hC3; clear hB3 hC3 hR3)
          | ((with_reducible refine gate_builtin (b := .append) (xs := #[.tmp 22, .tmp 25]) rfl ?_); at_builtin; refine Kd.R_append_row (Value.int .u8) 0 (w0 := w3) w.heap.size rfl (.tmp 22) (.tmp 25) 76 5 (.int .u8 0) 1 rfl Try.underlying76 info5 rfl (by decide) u3 b pl A3 pl.length c3 (fun _ => True) rfl rfl (fun _ _ => trivial) (Kd.R_mono (Kd.R_below HO.out HB3.out) (fun _ _ => trivial)) HC3.out (Below.refl _ _) (Nat.le_trans hws HB3.out.size) (by omega) ?_; intro v4 w4 hR4 _ hg4 hat4; have HR4 := Aside0.mk hR4; have HG4 := Aside0.mk hg4; have HA4 := Aside0.mk hat4; clear hR4 hg4 hat4))
        have hcs : wc.heap.size = hi6 := by omega
        have hown3 : ∀ k, u3.ownBlock = some k → k < q := HO.out.1
        have hs3 := HB3.out.size
        have hs4 := HG4.out.size
        have hCt4 : Cont q hi6 w4 A6 m6 content := HCt.out.step (fun i h1 h2 => (HG4.out.block i (by omega) (fun he => by have := hown3 i he.symm; omega)).trans (HB3.out.block i (by omega)))
        have hB4 : Below w.heap.size w w4 := pw_below_grown (below_step HB.out HB3.out) _ (by omega) HG4.out (fun k hk => Kd.R_base HO.out k hk)
        have hown4 : ∀ k, v4.ownBlock = some k → k < q ∨ hi6 ≤ k := fun k hk => by
          rcases HA4.out with h | ⟨b4, h, hb4⟩
          · exact .inl (hown3 k (by rw [← h]; exact hk))
          · rw [hk] at h; injection h with h; omega
        obtain ⟨bp, hbp⟩ : ∃ bp, bp = b ++ pl := ⟨_, rfl⟩
        have hbpl : bp.length ≤ 10002 := by rw [hbp]; simp; omega
        have hR4' : Kd.R (Kd.int .u8) 5 w4 w.heap.size (fun k => some k = v4.ownBlock) v4 bp := by rw [hbp]; exact Kd.R_of_own (Kd.own_of_R HR4.out) (fun k hk => hk.symm)
        obtain ⟨bs, hbs⟩ : ∃ bs, bs = bp ++ sizeB m6 := ⟨_, rfl⟩
        have hbsl : bs.length ≤ 10005 := by rw [hbs]; have := sizeB_len m6; simp; omega
        have hsz := tlv_size.calls (fun k => some k = v4.ownBlock) v4 bp m6 bs w w4 hB4 hR4' (by rw [hbs]; exact size_some bp m6 (by omega))
        have HC4 := Aside0.mk hCt4
        have HW4 := Aside0.mk hown4
        have HBP := Aside0.mk hbp
        have HBS := Aside0.mk hbs
        have hs34 : hi6 ≤ w4.heap.size := by omega
        obtain ⟨r6, hr6⟩ : ∃ r6, r6 = bs ++ content := ⟨_, rfl⟩
        have hr6l : r6.length = bs.length + content.length := by rw [hr6]; simp
        have HR6 := Aside0.mk hr6
        have HR6L := Aside0.mk hr6l
        have hone : oneW b content x.f0 = if 9999 < r6.length then none else some r6 := by unfold oneW; rw [hr6, hbs, hbp, HPL.out, HCt.out.c.1]
        have HONE := Aside0.mk hone
        have hct : bs.length + m6 ≤ 140737488355328 := by have := HCt.out.c.1; omega
        have hws4 : w.heap.size ≤ w4.heap.size := by omega
        clear hcs hown3 hs3 hs4 hCt4 hB4 hown4 hbp hR4' hbs hr6 hr6l hone HR4 HG4 HA4 HB3 HC3 HO y0 hpc hcl
        go_upto_region 10 with (go_at_call 77; (with_reducible refine hsz.mono ?_); rintro z w5 ⟨v5, rfl, hR5, hB5, hK5⟩; have HR5 := Aside0.mk hR5; have HB5 := Aside0.mk hB5; have HK5 := Aside0.mk hK5; clear hR5 hB5 hK5)
        have hCt5 : Cont q hi6 w5 A6 m6 content := HC4.out.step (fun i h1 h2 => HK5.out.2 i (by omega) (fun he => by have := HW4.out i he.symm; omega))
        have HC5 := Aside0.mk hCt5
        have hs5 := HK5.out.1
        have hws5 : w.heap.size ≤ w5.heap.size := by omega
        clear hCt5 hsz
        by_cases hbig : 9999 < r6.length
        · have hP := HP2.out
          rw [HONE.out, if_pos hbig] at hP
          obtain rfl := Option.some.inj hP
          have d6 : decide ((9999 : Int) < (r6.length : Int)) = true := decide_eq_true (by omega)
          have d7 : (9999 < r6.length) = True := eq_true hbig
          clear hP hbig
          go_wp2_with ((with_reducible refine gate_builtin (b := .append) (xs := #[.tmp 31, .tmp 32]) rfl ?_); at_builtin; refine Kd.R_append_row (Value.int .u8) 0 (w0 := w5) w.heap.size rfl (.tmp 31) (.tmp 32) 76 5 (.int .u8 0) 1 rfl Try.underlying76 info5 rfl (by decide) v5 bs content A6 m6 c6 (fun _ => True) rfl rfl (fun _ _ => trivial) (Kd.R_mono HR5.out (fun _ _ => trivial)) HC5.out.c (Below.refl _ _) hws5 (by omega) ?_; intro v6 w6 hR6 _ hg6 hat6; rw [← HR6.out] at hR6; obtain ⟨A7, c7, e7⟩ := Kd.R_slice hR6; subst e7; have HG6 := Aside0.mk hg6; clear hR6 hg6 hat6)
          exact ⟨rfl, pw_below_grown HB5.out _ hws5 HG6.out (fun k hk => Kd.R_base HR5.out k hk), rfl⟩
        · have hP := HP2.out
          rw [HONE.out, if_neg hbig] at hP
          have HP3 := Aside0.mk hP
          have d6 : decide ((9999 : Int) < (r6.length : Int)) = false := decide_eq_false (by omega)
          have d7 : (9999 < r6.length) = False := eq_false hbig
          have hr9 : r6.length ≤ 9999 := by omega
          clear hP hbig
          go_wp2_with ((with_reducible refine gate_builtin (b := .append) (xs := #[.tmp 31, .tmp 32]) rfl ?_); at_builtin; refine Kd.R_append_row (Value.int .u8) 0 (w0 := w5) w.heap.size rfl (.tmp 31) (.tmp 32) 76 5 (.int .u8 0) 1 rfl Try.underlying76 info5 rfl (by decide) v5 bs content A6 m6 c6 (fun _ => True) rfl rfl (fun _ _ => trivial) (Kd.R_mono HR5.out (fun _ _ => trivial)) HC5.out.c (Below.refl _ _) hws5 (by omega) ?_; intro v6 w6 hR6 _ hg6 hat6; rw [← HR6.out] at hR6; obtain ⟨A7, c7, e7⟩ := Kd.R_slice hR6; subst e7; have HG6 := Aside0.mk hg6; have HRR6 := Aside0.mk hR6; clear hR6 hg6 hat6)
          go_roundg k1
          case measure => exact Nat.lt_succ_self _
          case rel => exact ⟨r6, i + 1, HRR6.out, by first | rfl | go_num, HP3.out, pw_below_grown HB5.out _ hws5 HG6.out (fun k hk => Kd.R_base HR5.out k hk), hr9, by omega, by omega, by omega⟩
    · have hi : i = l.length := by omega
      subst hi
      rw [show l.drop ((l.length : Int)).toNat = [] by simp, writtenP_nil] at hP
      obtain rfl := Option.some.inj hP
      have d1 : decide ((l.length : Int) < (l.length : Int)) = false := decide_eq_false (by omega)
      clear hP
      go_wp2
      go_ret
      exact ⟨HB.out, _, rfl, HO.out⟩
end Go.Proofs.Ytjbhhgecdcgpeaa.Tb
