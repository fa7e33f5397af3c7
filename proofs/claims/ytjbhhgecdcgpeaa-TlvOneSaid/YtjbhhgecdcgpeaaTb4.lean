/- The reader of bytes: nodes. -/
import Derived.Test.YtjbhhgecdcgpeaaTb3
namespace Go.Proofs.Ytjbhhgecdcgpeaa.Tb
open Go Go.RowKit Go.Proofs.YtjbhhgecdcgpeaaW.PrintWords Go.Proofs.YtjbhhgecdcgpeaaW.PrintLast Go.Proofs.YtjbhhgecdcgpeaaW.PrintMore Go.Proofs.Ytjbhhgecdcgpeaa.TA
set_option linter.unusedSimpArgs false
set_option linter.unusedVariables false
theorem R_chg {α : Type} {d : Kd α} {e : Nat} {W W' : World} {base : Nat} {ok : Nat → Prop} {v : Value} {xs : List α} {F : Nat → Prop} (h : d.R e W base ok v xs) (hc : Chg F W W') (hF : ∀ k, ok k → base ≤ k → ¬ F k) : d.R e W' base ok v xs :=
  Kd.R_mono (Kd.R_step (Kd.R_bound h) (fun k ho hk => hc.block k hk (hF k ho.1 ho.2.1))) (fun _ h => h.1)
/-- Does a number stand for a node with kids? -/
def markedB (t : Int) : Bool := (tlv_marked.f 2 t).getD false
theorem parts_some (t : Int) : ∃ l, tlv_parts.f 2 t = some l := by
  unfold tlv_parts.f
  simp only [tlv_parts.j0]
  repeat' split
  all_goals exact ⟨_, rfl⟩
theorem marked_some (t : Int) : tlv_marked.f 2 t = some (markedB t) := by
  unfold markedB
  obtain ⟨l, hl⟩ := parts_some t
  unfold tlv_marked.f
  rw [hl]
  simp only [Option.bind_some]
  split
  · rfl
  · rfl
theorem marked_calls (t : Int) (w : World) : Calls Try.prog 71 #[.int .i64 t] w fun e w' => e = .returned (.bool (markedB t)) ∧ Below w.heap.size w w' := tlv_marked.calls 2 t _ w (marked_some t)
/-- Nodes read up to an end: they, where it ends, how many were read by then; or why it is given up, and where. -/
abbrev NOut := Except (Int × Int) (List S43 × Int × Int)
def consN (x : S43) : NOut → NOut
  | .error z => .error z
  | .ok (l, a, m) => .ok (x :: l, a, m)
def preN (l0 : List S43) : NOut → NOut
  | .error z => .error z
  | .ok (l, a, m) => .ok (l0 ++ l, a, m)
theorem preN_nil (o : NOut) : preN [] o = o := by
  rcases o with z | ⟨l, a, m⟩ <;> rfl
theorem preN_cons (l : List S43) (x : S43) (o : NOut) : preN l (consN x o) = preN (l ++ [x]) o := by
  rcases o with z | ⟨l, a, m⟩
  · rfl
  · simp [preN, consN]
def kidsN (N : Int → Int → Option NOut) (t : Int) : NOut → Option NOut
  | .error x => some (.error x)
  | .ok (kids, a3, m3) => (N a3 m3).map (consN ⟨t, ⟨#[]⟩, kids⟩)
def nodesP : Nat → ByteArray → Int → Int → Int → Int → Option NOut
  | 0, _, _, _, _, _ => none
  | k + 1, b, e, deep, at_, many =>
    if at_ < e then
      if many = 500 then some (.error (93, at_)) else
      if 8 < deep then some (.error (92, at_)) else
      match tagP b at_ e with
      | .error x => some (.error x)
      | .ok (t, a1) =>
        match lenP b a1 e with
        | .error x => some (.error x)
        | .ok (n, a2) =>
          if e - a2 < n then some (.error (10, e)) else
          if markedB t = true then (nodesP k b (a2 + n) (deep + 1) a2 (many + 1)).bind (kidsN (nodesP k b e deep) t)
          else (nodesP k b e deep (a2 + n) (many + 1)).map (consN ⟨t, b.extract a2.toNat (a2 + n).toNat, []⟩)
    else some (.ok ([], at_, many))
section
variable {k : Nat} {b : ByteArray} {e deep at_ many : Int}
theorem nodesP_end (h : ¬ at_ < e) : nodesP (k + 1) b e deep at_ many = some (.ok ([], at_, many)) := by simp [nodesP, h]
theorem nodesP_many (h : at_ < e) (h1 : many = 500) : nodesP (k + 1) b e deep at_ many = some (.error (93, at_)) := by simp [nodesP, h, h1]
theorem nodesP_deep (h : at_ < e) (h1 : ¬ many = 500) (h2 : 8 < deep) : nodesP (k + 1) b e deep at_ many = some (.error (92, at_)) := by simp [nodesP, h, h1, h2]
theorem nodesP_tag (h : at_ < e) (h1 : ¬ many = 500) (h2 : ¬ 8 < deep) {x : Int × Int} (h3 : tagP b at_ e = .error x) : nodesP (k + 1) b e deep at_ many = some (.error x) := by simp [nodesP, h, h1, h2, h3]
variable {t a1 : Int}
theorem nodesP_len (h : at_ < e) (h1 : ¬ many = 500) (h2 : ¬ 8 < deep) (h3 : tagP b at_ e = .ok (t, a1)) {x : Int × Int} (h4 : lenP b a1 e = .error x) : nodesP (k + 1) b e deep at_ many = some (.error x) := by simp [nodesP, h, h1, h2, h3, h4]
variable {n a2 : Int}
theorem nodesP_short (h : at_ < e) (h1 : ¬ many = 500) (h2 : ¬ 8 < deep) (h3 : tagP b at_ e = .ok (t, a1)) (h4 : lenP b a1 e = .ok (n, a2)) (h5 : e - a2 < n) : nodesP (k + 1) b e deep at_ many = some (.error (10, e)) := by simp [nodesP, h, h1, h2, h3, h4, h5]
theorem nodesP_kids (h : at_ < e) (h1 : ¬ many = 500) (h2 : ¬ 8 < deep) (h3 : tagP b at_ e = .ok (t, a1)) (h4 : lenP b a1 e = .ok (n, a2)) (h5 : ¬ e - a2 < n) (h6 : markedB t = true) : nodesP (k + 1) b e deep at_ many = (nodesP k b (a2 + n) (deep + 1) a2 (many + 1)).bind (kidsN (nodesP k b e deep) t) := by simp [nodesP, h, h1, h2, h3, h4, h5, h6]
theorem nodesP_plain (h : at_ < e) (h1 : ¬ many = 500) (h2 : ¬ 8 < deep) (h3 : tagP b at_ e = .ok (t, a1)) (h4 : lenP b a1 e = .ok (n, a2)) (h5 : ¬ e - a2 < n) (h6 : markedB t = false) : nodesP (k + 1) b e deep at_ many = (nodesP k b e deep (a2 + n) (many + 1)).map (consN ⟨t, b.extract a2.toNat (a2 + n).toNat, []⟩) := by simp [nodesP, h, h1, h2, h3, h4, h5, h6]
end
theorem tagP_ok {b : ByteArray} {at_ e t a : Int} (h : tagP b at_ e = .ok (t, a)) (h0 : 0 ≤ at_) : at_ < a ∧ a ≤ e ∧ 0 < t ∧ t < 16777216 := by
  unfold tagP at h
  have r0 := bt_range b at_
  have r1 := bt_range b (at_ + 1)
  have r2 := bt_range b (at_ + 2)
  repeat' split at h
  all_goals first | (cases h; done) | (injection h with h; injection h with h1 h2; omega)
theorem lenP_ok {b : ByteArray} {at_ e n a : Int} (h : lenP b at_ e = .ok (n, a)) (h0 : 0 ≤ at_) : at_ < a ∧ a ≤ e ∧ 0 ≤ n ∧ n ≤ 9999 := by
  unfold lenP at h
  have r0 := bt_range b at_
  have r1 := bt_range b (at_ + 1)
  have r2 := bt_range b (at_ + 2)
  repeat' split at h
  all_goals first | (cases h; done) | (injection h with h; injection h with h1 h2; omega)
theorem nodesP_ok : ∀ (k : Nat) {b : ByteArray} {e deep at_ many : Int} {l : List S43} {a m : Int}, nodesP k b e deep at_ many = some (.ok (l, a, m)) → 0 ≤ at_ → many ≤ 500 → at_ ≤ a ∧ e ≤ a ∧ (at_ ≤ e → a = e) ∧ many ≤ m ∧ m ≤ 500
  | 0, _, _, _, _, _, _, _, _, h, _, _ => by simp [nodesP] at h
  | k + 1, b, e, deep, at_, many, l, a, m, h, h0, hm => by
    unfold nodesP at h
    split at h
    case isFalse hlt =>
      injection h with h
      injection h with h
      injection h with h1 h2
      injection h2 with h2 h3
      omega
    rename_i hlt
    split at h
    · cases h
    rename_i hm5
    split at h
    · cases h
    split at h
    · cases h
    rename_i t a1 ht
    have tk := tagP_ok ht h0
    split at h
    · cases h
    rename_i n a2 hl
    have lk := lenP_ok hl (by omega)
    split at h
    · cases h
    rename_i hs
    split at h
    · obtain ⟨o, ho, h⟩ := Option.bind_eq_some_iff.mp h
      rcases o with x | ⟨kids, a3, m3⟩
      · cases h
      · have ik := nodesP_ok k ho (by omega) (by omega)
        obtain ⟨o2, ho2, h⟩ := Option.map_eq_some_iff.mp h
        rcases o2 with x | ⟨rest, a4, m4⟩
        · cases h
        · have ir := nodesP_ok k ho2 (by omega) (by omega)
          injection h with h
          injection h with h1 h2
          injection h2 with h2 h3
          have := ik.2.2.1 (by omega)
          omega
    · obtain ⟨o2, ho2, h⟩ := Option.map_eq_some_iff.mp h
      rcases o2 with x | ⟨rest, a4, m4⟩
      · cases h
      · have ir := nodesP_ok k ho2 (by omega) (by omega)
        injection h with h
        injection h with h1 h2
        injection h2 with h2 h3
        omega
theorem hNX {v : Value} {g : Nat} (h : ∀ k, v.ownBlock = some k → k < g) : ∀ k, g < k → True ∧ some k ≠ v.ownBlock := fun k hk => ⟨trivial, fun he => by have := h k he.symm; omega⟩
theorem hC_lt {i r B : Nat} (h : i = r) (h1 : B ≤ i) (h2 : r < B) : False := by omega
/-- How a reading of nodes ends. -/
def NEnds (r : Nat) (b : ByteArray) (o : NOut) (w : World) (z : Ending) (w' : World) : Prop := Chg (fun i => i = r) w w' ∧ match o with
  | .ok (l, a, m) => (∃ v, z = .returned v ∧ Kd.R k43 43 w' w.heap.size (fun _ => True) v l) ∧ Reads w' r b a m
  | .error (c, p) => z = gaveUp c p
/-- What a round finds. -/
def NRel (w : World) (r : Nat) (b : ByteArray) (e deep : Int) (o : NOut) (K kq : Nat) (v7 : Value) (W : World) : Prop :=
  ∃ (acc : List S43) (at_ many : Int) (o' : NOut), Kd.R k43 43 W w.heap.size (fun _ => True) v7 acc ∧ Reads W r b at_ many ∧ Chg (fun i => i = r) w W ∧ nodesP kq b e deep at_ many = some o' ∧ o = preN acc o' ∧ 0 ≤ at_ ∧ (acc.length : Int) ≤ many ∧ many ≤ 500 ∧ kq ≤ K
set_option maxRecDepth 100000 in
set_option maxHeartbeats 1000000 in
theorem nodes_calls (k : Nat) : ∀ (w : World) (r : Nat) (b : ByteArray) (at_ many e deep : Int) (o : NOut) (hP : nodesP k b e deep at_ many = some o) (hb : Reads w r b at_ many) (h0 : 0 ≤ at_) (he : e ≤ b.size) (hs : b.size ≤ 1000000) (hm0 : 0 ≤ many) (hm : many ≤ 500) (hd0 : 0 ≤ deep) (hd1 : deep ≤ 9),
    Calls Try.prog 42 #[.pointer (some ⟨r, 0, none⟩), .int .i64 e, .int .i64 deep] w fun z w' => NEnds r b o w z w' := by
  induction k using Nat.strongRecOn with
  | _ k ih =>
  intro w r b at_ many e deep o hP hb h0 he hs hm0 hm hd0 hd1
  have hrw : r < w.heap.size := (Array.getElem?_eq_some_iff.mp hb).1
  have HR0 : NRel w r b e deep o k k (.slice none 0 0) w := ⟨[], at_, many, o, Kd.R_nil _ _ _ _ _, hb, Chg.refl _ _, hP, (preN_nil o).symm, h0, by simpa using hm0, hm, Nat.le_refl _⟩
  clear hP hb h0 hm0 hm
  go_enter Try.func42, Try.ntmps42
  go_wp2
  go_loopg [7] k (fun kq v7 W => NRel w r b e deep o k kq v7 W)
  case atStart => exact HR0
  case round =>
    clear HR0
    obtain ⟨acc, at_, many, o', hO, hb, hC, hP, hpre, h0, hal, hm, hkq⟩ := hrel
    have HO := Aside0.mk hO
    have HC := Aside0.mk hC
    have HPre := Aside0.mk hpre
    clear hO hC hpre
    have hm0 : 0 ≤ many := by omega
    obtain ⟨x0, x1, x2⟩ := hb.cell
    cases gk with
    | zero => exact absurd hP (by simp [nodesP])
    | succ k1 =>
    by_cases g1 : at_ < e
    · have d1 : decide (at_ < e) = true := decide_eq_true g1
      by_cases g2 : many = 500
      · rw [nodesP_many g1 g2] at hP
        obtain rfl := Option.some.inj hP
        subst g2
        clear hP hal
        go_wp2
        refine ⟨rfl, HC.out, ?_⟩
        rw [HPre.out]
        rfl
      have d2 : (many == 500) = false := beq_eq_false_iff_ne.mpr g2
      by_cases g3 : 8 < deep
      · rw [nodesP_deep g1 g2 g3] at hP
        obtain rfl := Option.some.inj hP
        have d3 : decide (8 < deep) = true := decide_eq_true g3
        clear hP hal
        go_wp2
        refine ⟨rfl, HC.out, ?_⟩
        rw [HPre.out]
        rfl
      have d3 : decide (8 < deep) = false := decide_eq_false g3
      have f2 := hb.frozen 2
      have HP := Aside0.mk hP
      clear hP
      go_upto_region 8 with (fail)
      obtain ⟨w1, hw1⟩ : ∃ w1, w1 = wr.setCell ⟨r, 2, none⟩ (.int .i64 (many + 1)) := ⟨_, rfl⟩
      rw [← hw1]
      have hR1 : Reads w1 r b at_ (many + 1) := by rw [hw1]; exact hb.set2 _
      have HC1 := Aside0.mk ((Chg.refl (fun i => i = r) wr).set (w' := wr) ⟨r, 2, none⟩ (.int .i64 (many + 1)) rfl)
      rw [← hw1] at HC1
      clear hw1 f2 x0 x1 x2 d1 d2 d3
      have htc := tag_calls w1 r b at_ (many + 1) e hR1 h0 he (by omega)
      obtain ⟨ot, hot⟩ : ∃ ot, tagP b at_ e = ot := ⟨_, rfl⟩
      rw [hot] at htc
      have Hot := Aside0.mk hot
      clear hot
      rcases ot with ⟨c, p⟩ | ⟨t, a1⟩
      · have hP := HP.out
        rw [nodesP_tag g1 g2 (by omega) Hot.out] at hP
        obtain rfl := Option.some.inj hP
        clear hP hal
        go_wp2_with (go_at_call 74; (with_reducible refine htc.mono ?_); rintro z w2 ⟨hC2, rfl⟩)
        refine ⟨rfl, (HC.out.trans HC1.out (fun _ _ h => h)).trans hC2 (fun _ _ h => h), ?_⟩
        rw [HPre.out]
        rfl
      have tk := tagP_ok Hot.out h0
      go_upto_region 9 with (go_at_call 74; (with_reducible refine htc.mono ?_); rintro z w2 ⟨hC2, rfl, hR2⟩; have HC2 := Aside0.mk hC2; clear hC2)
      have hg2 : w1.heap.size ≤ w2.heap.size := HC2.out.size
      obtain ⟨w3, hw3⟩ : ∃ w3, w3 = w2.alloc (.cells #[.int .i64 t, .string ⟨#[]⟩, .slice none 0 0] 43) := ⟨_, rfl⟩
      obtain ⟨g, hg⟩ : ∃ g, g = w2.heap.size := ⟨_, rfl⟩
      rw [← hw3, ← hg]
      have HBx3 : w3.heap[g]? = some (.cells #[.int .i64 t, .string ⟨#[]⟩, .slice none 0 0] 43 (0, 0)) := by rw [hw3, hg]; exact heap_alloc_new _ _
      have hB3 : Below w2.heap.size w2 w3 := by rw [hw3]; exact below_alloc (Below.refl _ _) _
      have hR3 : Reads w3 r b a1 (many + 1) := hR2.kept (F := fun _ => False) (Chg.of_below hB3) (fun h => h)
      have hrl1 : r < w1.heap.size := (Array.getElem?_eq_some_iff.mp hR1).1
      have hgr : r ≠ g := by omega
      have HC3 := Aside0.mk (((HC1.out.trans HC2.out (fun _ _ h => h)).trans (Chg.of_below (F := fun i => i = r) hB3) (fun _ _ h => h)))
      have HCw3 := Aside0.mk (HC.out.trans HC3.out (fun _ _ h => h))
      have hgw0 : wr.heap.size ≤ g := by have := HC1.out.size; omega
      have HO3 := Aside0.mk (R_chg (F := fun i => i = r) (Kd.R_mono (ok' := fun k => k < g) (Kd.R_bound HO.out) (fun k hk => Nat.lt_of_lt_of_le hk.2.2.1 hgw0)) HC3.out (fun k _ hb hf => hC_lt hf hb hrw))
      have hgw : w.heap.size ≤ g := by have := HC.out.size; omega
      clear hw3 hg hg2 hB3 HC HC1 HC2 HC3 HO hb hgw0
      have hlc := length_calls w3 r b a1 (many + 1) e hR3 (by omega) he (by omega)
      obtain ⟨ol, hol⟩ : ∃ ol, lenP b a1 e = ol := ⟨_, rfl⟩
      rw [hol] at hlc
      have Hol := Aside0.mk hol
      clear hol
      rcases ol with ⟨c, p⟩ | ⟨n, a2⟩
      · have hP := HP.out
        rw [nodesP_len g1 g2 (by omega) Hot.out Hol.out] at hP
        obtain rfl := Option.some.inj hP
        clear hP hal
        go_wp2_with (go_at_call 75; (with_reducible refine hlc.mono ?_); rintro z w4 ⟨hC4, rfl⟩)
        refine ⟨rfl, HCw3.out.trans hC4 (fun _ _ h => h), ?_⟩
        rw [HPre.out]
        rfl
      have lk := lenP_ok Hol.out (by omega)
      by_cases g4 : e - a2 < n
      · have hP := HP.out
        rw [nodesP_short g1 g2 (by omega) Hot.out Hol.out g4] at hP
        obtain rfl := Option.some.inj hP
        have d4 : decide (e - a2 < n) = true := decide_eq_true g4
        clear hP hal
        go_wp2_with (go_at_call 75; (with_reducible refine hlc.mono ?_); rintro z w4 ⟨hC4, rfl, hR4⟩; obtain ⟨y0, y1, y2⟩ := hR4.cell)
        refine ⟨rfl, HCw3.out.trans hC4 (fun _ _ h => h), ?_⟩
        rw [HPre.out]
        rfl
      have d4 : decide (e - a2 < n) = false := decide_eq_false g4
      go_upto_region 12 with (go_at_call 75; (with_reducible refine hlc.mono ?_); rintro z w4 ⟨hC4, rfl, hR4⟩; have HC4 := Aside0.mk hC4; clear hC4; obtain ⟨y0, y1, y2⟩ := hR4.cell)
      have hBx4 : w4.heap[g]? = some (.cells #[.int .i64 t, .string ⟨#[]⟩, .slice none 0 0] 43 (0, 0)) := (HC4.out.block g (blk_lt HBx3) (fun h => hgr h.symm)).trans HBx3
      have z0 : w4.cell? ⟨g, 0, none⟩ = some (.int .i64 t) := (blk_cell hBx4 0).trans rfl
      have hmc := marked_calls t w4
      have hrl4 : r < w4.heap.size := (Array.getElem?_eq_some_iff.mp hR4).1
      have HC04 := Aside0.mk (HCw3.out.trans HC4.out (fun _ _ h => h))
      have HO4 := Aside0.mk (R_chg HO3.out HC4.out (fun k _ hb hf => hC_lt hf hb hrw))
      clear hlc HBx3 hR3 hR1 hR2 htc d4 HCw3 HC4 HO3
      obtain ⟨mk, hmk⟩ : ∃ mk, markedB t = mk := ⟨_, rfl⟩
      rw [hmk] at hmc
      have Hmk := Aside0.mk hmk
      clear hmk
      cases mk with
      | true =>
        have hP := HP.out
        rw [nodesP_kids g1 g2 (by omega) Hot.out Hol.out (by omega) Hmk.out] at hP
        obtain ⟨ok, hok, hP2⟩ := Option.bind_eq_some_iff.mp hP
        have HK := Aside0.mk hok
        have HP2 := Aside0.mk hP2
        clear hP hP2 hok
        go_upto_region 13 with (go_at_call 71; (with_reducible refine hmc.mono ?_); rintro z w5 ⟨rfl, hB5⟩; have HB5 := Aside0.mk hB5; clear hB5)
        have hR5 : Reads w5 r b a2 (many + 1) := hR4.kept (F := fun _ => False) (Chg.of_below HB5.out) (fun h => h)
        have hBx5 := blk_below hBx4 HB5.out
        have HC5 := Aside0.mk (HC04.out.trans (Chg.of_below (F := fun i => i = r) HB5.out) (fun _ _ h => h))
        have HO5 := Aside0.mk (Kd.R_below HO4.out HB5.out)
        have hgl5 := blk_lt hBx5
        clear HB5 HC04 HO4 hBx4 hR4 y0 y1 y2 z0 hmc
        obtain ⟨y0, y1, y2⟩ := hR5.cell
        have hic := ih k1 (by omega) w5 r b a2 (many + 1) (a2 + n) (deep + 1) ok HK.out hR5 (by omega) (by omega) hs (by omega) (by omega) (by omega) (by omega)
        rcases ok with ⟨c, p⟩ | ⟨kids, a3, m3⟩
        · have hP := HP2.out
          obtain rfl := Option.some.inj hP
          clear hP hal
          go_wp2_with (go_at_call 42; (with_reducible refine hic.mono ?_); rintro z w6 ⟨hC6, rfl⟩)
          refine ⟨rfl, HC5.out.trans hC6 (fun _ _ h => h), ?_⟩
          rw [HPre.out]
          rfl
        have kk := nodesP_ok k1 HK.out (by omega) (by omega)
        obtain ⟨o2, ho2, he2⟩ := Option.map_eq_some_iff.mp HP2.out
        have HK2 := Aside0.mk ho2
        have HE2 := Aside0.mk he2
        clear ho2 he2 HP2 HK
        have hkv := hBx5
        go_upto_region 16 with (go_at_call 42; (with_reducible refine hic.mono ?_); rintro z w6 ⟨hC6, ⟨vk, rfl, hOk⟩, hR6⟩; obtain ⟨A6, cp6, rfl⟩ := Kd.R_slice hOk; have HC6 := Aside0.mk hC6; have HOk := Aside0.mk hOk; clear hC6 hOk; have f6 : w6.frozen? ⟨g, 2, none⟩ = false := blk_frozen ((HC6.out.block g hgl5 (fun h => hgr h.symm)).trans hBx5) 2; have c6 : w6.cell? ⟨g, 2, none⟩ = some (.slice none 0 0) := (blk_cell ((HC6.out.block g hgl5 (fun h => hgr h.symm)).trans hBx5) 2).trans rfl)
        obtain ⟨w7, hw7⟩ : ∃ w7, w7 = w6.setCell ⟨g, 2, none⟩ (.slice A6 kids.length cp6) := ⟨_, rfl⟩
        rw [← hw7]
        have hBx6 := (HC6.out.block g hgl5 (fun h => hgr h.symm)).trans hBx5
        have hBx7 : w7.heap[g]? = some (.cells #[.int .i64 t, .string ⟨#[]⟩, .slice A6 kids.length cp6] 43 (0, 0)) := by rw [hw7]; exact blk_put hBx6 2 _ rfl
        have hS7 : Chg (fun i => i = g) w6 w7 := by rw [hw7]; exact (Chg.refl _ _).set ⟨g, 2, none⟩ _ rfl
        have hR7 : Reads w7 r b a3 m3 := hR6.kept hS7 hgr
        have HC7 := Aside0.mk ((HC5.out.trans HC6.out (fun _ _ h => h)).trans hS7 (fun i hi h => by omega))
        have HO7 := Aside0.mk (R_chg (R_chg HO5.out HC6.out (fun k _ hb hf => hC_lt hf hb hrw)) hS7 (fun k hk _ hf => by omega))
        have hgl7 := blk_lt hBx7
        have HM7 := Aside0.mk (k43_mkM w7 w.heap.size (fun k => g < k) (⟨t, ⟨#[]⟩, kids⟩ : S43) (Kd.R_lower (R_chg (Kd.R_mono (ok' := fun k => g < k) (Kd.R_bound HOk.out) (fun k hk => Nat.lt_of_lt_of_le hgl5 hk.2.1)) hS7 (fun k hk _ hf => by omega)) (Nat.le_trans hgw (Nat.le_of_lt hgl5))))
        clear hw7 hBx6 hS7 hR6 f6 c6 HC6 HOk HO5 HC5 hBx5 hkv hic y0 y1 y2 hR5
        have z0 : w7.cell? ⟨g, 0, none⟩ = some (.int .i64 t) := (blk_cell hBx7 0).trans rfl
        have z1 : w7.cell? ⟨g, 1, none⟩ = some (.string ⟨#[]⟩) := (blk_cell hBx7 1).trans rfl
        have z2 : w7.cell? ⟨g, 2, none⟩ = some (.slice A6 kids.length cp6) := (blk_cell hBx7 2).trans rfl
        have hnx := hNX HO7.out.1
        go_wp2_with ((with_reducible refine gate_builtin (b := .append) (xs := #[.tmp 98, .tmp 100]) rfl ?_); at_builtin; refine Kd.R_append k43 (w0 := w7) w.heap.size rfl (.tmp 98) (.tmp 100) 23 43 (.agg #[(.int .i64 0), (.string ⟨#[]⟩), (.slice none 0 0)]) 48 rfl Try.underlying23 info43 rfl (by decide) (by decide) u7 acc (⟨t, ⟨#[]⟩, kids⟩ : S43) [.int .i64 t, .string ⟨#[]⟩, .slice A6 kids.length cp6] (fun _ => True) (fun k => g < k) rfl rfl HM7.out hnx (fun _ _ => trivial) (Kd.R_mono HO7.out (fun _ _ => trivial)) (Below.refl _ _) (Nat.le_trans hgw (Nat.le_of_lt hgl7)) (by omega) ?_; intro v8 w8 hO8 hB8 hG8 hat8; have HO8 := Aside0.mk hO8; have HG8 := Aside0.mk hG8; clear hO8 hB8 hG8 hat8)
        have hC8 : Chg (fun i => w.heap.size ≤ i) w7 w8 := Chg.of_grown HG8.out (fun k hk => Kd.R_base HO7.out k hk)
        go_roundg k1
        case measure => exact Nat.lt_succ_self _
        case rel => exact ⟨acc ++ [⟨t, ⟨#[]⟩, kids⟩], a3, m3, o2, HO8.out, hR7.kept hC8 (by omega), HC7.out.trans hC8 (fun i hi hg => by omega), HK2.out, by rw [HPre.out, ← HE2.out, preN_cons], by omega, by simp; omega, by omega, by omega⟩
      | false =>
        have hP := HP.out
        rw [nodesP_plain g1 g2 (by omega) Hot.out Hol.out (by omega) Hmk.out] at hP
        obtain ⟨o2, ho2, he2⟩ := Option.map_eq_some_iff.mp hP
        have HK2 := Aside0.mk ho2
        have HE2 := Aside0.mk he2
        clear ho2 he2 hP
        go_upto_region 14 with (go_at_call 71; (with_reducible refine hmc.mono ?_); rintro z w5 ⟨rfl, hB5⟩; have HB5 := Aside0.mk hB5; clear hB5)
        have hR5 : Reads w5 r b a2 (many + 1) := hR4.kept (F := fun _ => False) (Chg.of_below HB5.out) (fun h => h)
        have hBx5 := blk_below hBx4 HB5.out
        have HC5 := Aside0.mk (HC04.out.trans (Chg.of_below (F := fun i => i = r) HB5.out) (fun _ _ h => h))
        have HO5 := Aside0.mk (Kd.R_below HO4.out HB5.out)
        have hgl5 := blk_lt hBx5
        clear HB5 HC04 HO4 hBx4 hR4 y0 y1 y2 z0 hmc
        obtain ⟨z0, z1, _⟩ := hR5.cell
        have f5 := blk_frozen hBx5 1
        have c5 : w5.cell? ⟨g, 1, none⟩ = some (.string ⟨#[]⟩) := (blk_cell hBx5 1).trans rfl
        have ew : wrap64 (a2 + n) = a2 + n := by unfold wrap64; omega
        have s1 : (0 ≤ a2) = True := eq_true (by omega)
        have s2 : (a2 ≤ a2 + n) = True := eq_true (by omega)
        have s3 : (a2 + n ≤ (b.size : Int)) = True := eq_true (by omega)
        have s4 : (0 ≤ a2 + n) = True := eq_true (by omega)
        refine start_ (n := 17) (S := fun w' => w'.cell? ⟨r, 0, none⟩ = some (.string b) ∧ w'.cell? ⟨r, 1, none⟩ = some (.int .i64 a2)) (ds := [16]) #[false, false, false, false, false, false, false, false, false, false, false, false, false, false, false, false, false] (by kernel_rfl) rfl rfl ⟨z0, z1⟩ (fun hHeld => ?_)
        refine pure_ (i := 0) (N := some 74) (v := ?_) (a' := ?_) #[true, false, false, false, false, false, false, false, false, false, false, false, false, false, false, false, false] rfl rfl (by kernel_rfl) (fun _ _ _ h => h) (Or.inl ⟨by rfl, ?_⟩) ?_ ?_
        rotate_left
        · intro w'
          go_simp
          with_reducible rfl
        rotate_left
        · simp only [Act.put, List.setIfInBounds_toArray, List.set_cons_zero, List.set_cons_succ, i64_w, i32_w]
          rfl
        refine pure_ (i := 1) (N := some 75) (v := ?_) (a' := ?_) #[true, true, false, false, false, false, false, false, false, false, false, false, false, false, false, false, false] rfl rfl (by kernel_rfl) (fun _ _ _ h => h) (Or.inl ⟨by rfl, ?_⟩) ?_ ?_
        rotate_left
        · intro w'
          go_simp
          with_reducible rfl
        rotate_left
        · simp only [Act.put, List.setIfInBounds_toArray, List.set_cons_zero, List.set_cons_succ, i64_w, i32_w]
          rfl
        refine pure_ (i := 2) (N := some 76) (v := ?_) (a' := ?_) #[true, true, true, false, false, false, false, false, false, false, false, false, false, false, false, false, false] rfl rfl (by kernel_rfl) (fun _ _ _ h => h) (Or.inl ⟨by rfl, ?_⟩) ?_ ?_
        rotate_left
        · intro w'
          go_simp
          with_reducible rfl
        rotate_left
        · simp only [Act.put, List.setIfInBounds_toArray, List.set_cons_zero, List.set_cons_succ, i64_w, i32_w]
          rfl
        refine pure_ (i := 4) (N := some 78) (v := ?_) (a' := ?_) #[true, true, true, false, true, false, false, false, false, false, false, false, false, false, false, false, false] rfl rfl (by kernel_rfl) (fun _ _ _ h => h) (Or.inl ⟨by rfl, ?_⟩) ?_ ?_
        rotate_left
        · intro w'
          go_simp
          with_reducible rfl
        rotate_left
        · simp only [Act.put, List.setIfInBounds_toArray, List.set_cons_zero, List.set_cons_succ, i64_w, i32_w]
          rfl
        refine pure_ (i := 5) (N := some 79) (v := ?_) (a' := ?_) #[true, true, true, false, true, true, false, false, false, false, false, false, false, false, false, false, false] rfl rfl (by kernel_rfl) (fun _ _ _ h => h) (Or.inl ⟨by rfl, ?_⟩) ?_ ?_
        rotate_left
        · intro w'
          go_simp
          with_reducible rfl
        rotate_left
        · simp only [Act.put, List.setIfInBounds_toArray, List.set_cons_zero, List.set_cons_succ, i64_w, i32_w]
          rfl
        refine pure_ (i := 6) (N := some 80) (v := ?_) (a' := ?_) #[true, true, true, false, true, true, true, false, false, false, false, false, false, false, false, false, false] rfl rfl (by kernel_rfl) (fun _ _ _ h => h) (Or.inl ⟨by rfl, ?_⟩) ?_ ?_
        rotate_left
        · intro w'
          go_simp
          with_reducible rfl
        rotate_left
        · simp only [Act.put, List.setIfInBounds_toArray, List.set_cons_zero, List.set_cons_succ, i64_w, i32_w]
          rfl
        refine pure_ (i := 8) (N := some 82) (v := ?_) (a' := ?_) #[true, true, true, false, true, true, true, false, true, false, false, false, false, false, false, false, false] rfl rfl (by kernel_rfl) (fun _ _ _ h => h) (Or.inl ⟨by rfl, ?_⟩) ?_ ?_
        rotate_left
        · intro w'
          go_simp
          with_reducible rfl
        rotate_left
        · simp only [Act.put, List.setIfInBounds_toArray, List.set_cons_zero, List.set_cons_succ, i64_w, i32_w]
          rfl
        refine pure_ (i := 9) (N := some 83) (v := ?_) (a' := ?_) #[true, true, true, false, true, true, true, false, true, true, false, false, false, false, false, false, false] rfl rfl (by kernel_rfl) (fun _ _ _ h => h) (Or.inl ⟨by rfl, ?_⟩) ?_ ?_
        rotate_left
        · intro w'
          go_simp
          with_reducible rfl
        rotate_left
        · simp only [Act.put, List.setIfInBounds_toArray, List.set_cons_zero, List.set_cons_succ, i64_w, i32_w]
          rfl
        refine pure_ (i := 10) (N := some 84) (v := ?_) (a' := ?_) #[true, true, true, false, true, true, true, false, true, true, true, false, false, false, false, false, false] rfl rfl (by kernel_rfl) (fun _ _ _ h => h) (Or.inl ⟨by rfl, ?_⟩) ?_ ?_
        rotate_left
        · intro w'
          go_simp
          with_reducible rfl
        rotate_left
        · simp only [Act.put, List.setIfInBounds_toArray, List.set_cons_zero, List.set_cons_succ, i64_w, i32_w]
          rfl
        refine pure_ (i := 12) (N := some 86) (v := ?_) (a' := ?_) #[true, true, true, false, true, true, true, false, true, true, true, false, true, false, false, false, false] rfl rfl (by kernel_rfl) (fun _ _ _ h => h) (Or.inl ⟨by rfl, ?_⟩) ?_ ?_
        rotate_left
        · intro w'
          go_simp
          with_reducible rfl
        rotate_left
        · simp only [Act.put, List.setIfInBounds_toArray, List.set_cons_zero, List.set_cons_succ, i64_w, i32_w]
          rfl
        refine take_ (i := 3) (N := some 77) (v := ?_) (a' := ?_) #[true, true, true, true, true, true, true, false, true, true, true, false, true, false, false, false, false] rfl rfl (by kernel_rfl) (fun _ _ _ h => h) (Or.inl ⟨by rfl, ?_⟩) hHeld ?_ ?_
        rotate_left
        · rintro w' ⟨s0, s1⟩
          go_simp
          with_reducible rfl
        rotate_left
        · simp only [Act.put, List.setIfInBounds_toArray, List.set_cons_zero, List.set_cons_succ, i64_w, i32_w]
          rfl
        refine take_ (i := 7) (N := some 81) (v := ?_) (a' := ?_) #[true, true, true, true, true, true, true, true, true, true, true, false, true, false, false, false, false] rfl rfl (by kernel_rfl) (fun _ _ _ h => h) (Or.inl ⟨by rfl, ?_⟩) hHeld ?_ ?_
        rotate_left
        · rintro w' ⟨s0, s1⟩
          go_simp
          with_reducible rfl
        rotate_left
        · simp only [Act.put, List.setIfInBounds_toArray, List.set_cons_zero, List.set_cons_succ, i64_w, i32_w]
          rfl
        refine take_ (i := 11) (N := some 85) (v := ?_) (a' := ?_) #[true, true, true, true, true, true, true, true, true, true, true, true, true, false, false, false, false] rfl rfl (by kernel_rfl) (fun _ _ _ h => h) (Or.inl ⟨by rfl, ?_⟩) hHeld ?_ ?_
        rotate_left
        · rintro w' ⟨s0, s1⟩
          go_simp
          with_reducible rfl
        rotate_left
        · simp only [Act.put, List.setIfInBounds_toArray, List.set_cons_zero, List.set_cons_succ, i64_w, i32_w]
          rfl
        refine pure_ (i := 13) (N := some 87) (v := ?_) (a' := ?_) #[true, true, true, true, true, true, true, true, true, true, true, true, true, true, false, false, false] rfl rfl (by kernel_rfl) (fun _ _ _ h => h) (Or.inl ⟨by rfl, ?_⟩) ?_ ?_
        rotate_left
        · intro w'
          go_simp
          with_reducible rfl
        rotate_left
        · simp only [Act.put, List.setIfInBounds_toArray, List.set_cons_zero, List.set_cons_succ, i64_w, i32_w]
          rfl
        refine pure_ (i := 14) (N := some 88) (v := ?_) (a' := ?_) #[true, true, true, true, true, true, true, true, true, true, true, true, true, true, true, false, false] rfl rfl (by kernel_rfl) (fun _ _ _ h => h) (Or.inl ⟨by rfl, ?_⟩) ?_ ?_
        rotate_left
        · intro w'
          go_simp
          with_reducible rfl
        rotate_left
        · simp only [Act.put, List.setIfInBounds_toArray, List.set_cons_zero, List.set_cons_succ, i64_w, i32_w]
          rfl
        refine pure_ (i := 15) (N := some 89) (v := ?_) (a' := ?_) #[true, true, true, true, true, true, true, true, true, true, true, true, true, true, true, true, false] rfl rfl (by kernel_rfl) (fun _ _ _ h => h) (Or.inl ⟨by rfl, ?_⟩) ?_ ?_
        rotate_left
        · intro w'
          go_simp
          with_reducible rfl
        rotate_left
        · simp only [Act.put, List.setIfInBounds_toArray, List.set_cons_zero, List.set_cons_succ, i64_w, i32_w]
          rfl
        refine last_ (i := 16) (N := none) #[true, true, true, true, true, true, true, true, true, true, true, true, true, true, true, true, true] rfl rfl (by kernel_rfl) (by decide) (fun K hK => ?_)
        refine skip_ (w1 := ?_) (by rfl) rfl ?_ ?_
        rotate_left
        · go_simp
          rfl
        refine hK.out _ _ ?_
        clear hK K
        refine done_ (by kernel_rfl) ?_
        clear ew s1 s2 s3 s4
        obtain ⟨sv, hsv⟩ : ∃ sv, sv = b.extract a2.toNat (a2 + n).toNat := ⟨_, rfl⟩
        rw [← hsv] at HE2 ⊢
        obtain ⟨w6, hw6⟩ : ∃ w6, w6 = (w5.setCell ⟨g, 1, none⟩ (.string sv)).drew := ⟨_, rfl⟩
        rw [← hw6]
        have hBx6 : w6.heap[g]? = some (.cells #[.int .i64 t, .string sv, .slice none 0 0] 43 (0, 0)) := by rw [hw6]; exact blk_put hBx5 1 _ rfl
        have hS6 : Chg (fun i => i = g) w5 w6 := by
          rw [hw6]
          have hx := (Chg.refl (fun i => i = g) w5).set (w' := w5) ⟨g, 1, none⟩ (.string sv) rfl
          exact ⟨hx.os, hx.tape, hx.output, hx.size, hx.block⟩
        have hR6 : Reads w6 r b a2 (many + 1) := hR5.kept hS6 hgr
        clear hw6 f5 c5 z0 z1 hsv
        obtain ⟨z0, z1, z2⟩ := hR6.cell
        have f6 := hR6.frozen 1
        go_upto_region 16 with (fail)
        obtain ⟨w7, hw7⟩ : ∃ w7, w7 = w6.setCell ⟨r, 1, none⟩ (.int .i64 (a2 + n)) := ⟨_, rfl⟩
        rw [← hw7]
        have hR7 : Reads w7 r b (a2 + n) (many + 1) := by rw [hw7]; exact hR6.set1 _
        have hS7 : Chg (fun i => i = r) w6 w7 := by rw [hw7]; exact (Chg.refl _ _).set ⟨r, 1, none⟩ _ rfl
        have hBx7 := (hS7.block g (blk_lt hBx6) (fun h => hgr h.symm)).trans hBx6
        have HC7 := Aside0.mk ((HC5.out.trans hS6 (fun i hi h => by omega)).trans hS7 (fun _ _ h => h))
        have HO7 := Aside0.mk (R_chg (R_chg HO5.out hS6 (fun k hk _ hf => by omega)) hS7 (fun k _ hb hf => hC_lt hf hb hrw))
        have hgl7 := blk_lt hBx7
        have HM7 := Aside0.mk (k43_mkM w7 w.heap.size (fun k => g < k) (⟨t, sv, []⟩ : S43) (Kd.R_nil k43 43 w7 w.heap.size (fun k => g < k)))
        clear hw7 hBx6 hS6 hS7 hR6 f6 z0 z1 z2 HO5 HC5 hBx5 hR5
        have z0 : w7.cell? ⟨g, 0, none⟩ = some (.int .i64 t) := (blk_cell hBx7 0).trans rfl
        have z1 : w7.cell? ⟨g, 1, none⟩ = some (.string sv) := (blk_cell hBx7 1).trans rfl
        have z2 : w7.cell? ⟨g, 2, none⟩ = some (.slice none 0 0) := (blk_cell hBx7 2).trans rfl
        have hnx := hNX HO7.out.1
        go_wp2_with ((with_reducible refine gate_builtin (b := .append) (xs := #[.tmp 98, .tmp 100]) rfl ?_); at_builtin; refine Kd.R_append k43 (w0 := w7) w.heap.size rfl (.tmp 98) (.tmp 100) 23 43 (.agg #[(.int .i64 0), (.string ⟨#[]⟩), (.slice none 0 0)]) 48 rfl Try.underlying23 info43 rfl (by decide) (by decide) u7 acc (⟨t, sv, []⟩ : S43) [.int .i64 t, .string sv, .slice none 0 0] (fun _ => True) (fun k => g < k) rfl rfl HM7.out hnx (fun _ _ => trivial) (Kd.R_mono HO7.out (fun _ _ => trivial)) (Below.refl _ _) (Nat.le_trans hgw (Nat.le_of_lt hgl7)) (by omega) ?_; intro v8 w8 hO8 hB8 hG8 hat8; have HO8 := Aside0.mk hO8; have HG8 := Aside0.mk hG8; clear hO8 hB8 hG8 hat8)
        have hC8 : Chg (fun i => w.heap.size ≤ i) w7 w8 := Chg.of_grown HG8.out (fun k hk => Kd.R_base HO7.out k hk)
        go_roundg k1
        case measure => exact Nat.lt_succ_self _
        case rel => exact ⟨acc ++ [⟨t, sv, []⟩], a2 + n, many + 1, o2, HO8.out, hR7.kept hC8 (by omega), HC7.out.trans hC8 (fun i hi hg => by omega), HK2.out, by rw [HPre.out, ← HE2.out, preN_cons], by omega, by simp; omega, by omega, by omega⟩
    · rw [nodesP_end g1] at hP
      obtain rfl := Option.some.inj hP
      have d1 : decide (at_ < e) = false := decide_eq_false g1
      clear hP hal
      go_wp2
      go_ret
      refine ⟨HC.out, ?_⟩
      rw [HPre.out]
      refine ⟨⟨_, rfl, ?_⟩, hb⟩
      rw [List.append_nil]
      exact HO.out
end Go.Proofs.Ytjbhhgecdcgpeaa.Tb
