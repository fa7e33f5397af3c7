/- The plain law: what Build builds Parse reads as it was. | The plain law: what is made of raw numbers may be built. | The plain law: the nodes made of raw numbers: few, not too deep, each as it may be. | The plain law: what is made is built, and read as it was. | The plain law: are two lists of nodes the same? -/
import Derived.Test.YtjbhhgecdcgpeaaPlB
import Derived.Test.YtjbhhgecdcgpeaaTbK
import Derived.Test.YtjbhhgecdcgpeaaTAx3
namespace Go.Proofs.Ytjbhhgecdcgpeaa.Tb
open Go Go.RowKit Go.Proofs.YtjbhhgecdcgpeaaW.PrintWords Go.Proofs.YtjbhhgecdcgpeaaW.PrintLast Go.Proofs.YtjbhhgecdcgpeaaW.PrintMore Go.Proofs.Ytjbhhgecdcgpeaa.TA
set_option linter.unusedSimpArgs false
set_option linter.unusedVariables false
/-- Bytes in two parts. -/
theorem seg_split {b : ByteArray} {i j : Int} {p q : List Int} (h0 : 0 ≤ i) (h1 : i ≤ j) (h2 : j ≤ b.size) (h : seg b i j = p ++ q) : i + p.length ≤ j ∧ seg b i (i + p.length) = p ∧ seg b (i + p.length) j = q := by
  have hl := seg_len b i j h0 h1 h2
  rw [h, List.length_append] at hl
  have h3 : i + p.length ≤ j := by omega
  have hj := seg_join b i (i + p.length) j h0 (by omega) h3
  rw [h] at hj
  have hp : (seg b i (i + p.length)).length = p.length := by rw [seg_len b _ _ h0 (by omega) (by omega)]; omega
  obtain ⟨e1, e2⟩ := List.append_inj hj hp
  exact ⟨h3, e1, e2⟩
theorem seg_bt {b : ByteArray} {i : Int} {c : Int} {q : List Int} {j : Int} (h0 : 0 ≤ i) (h1 : i ≤ j) (h2 : j ≤ b.size) (h : seg b i j = c :: q) : bt b i = c ∧ i < j ∧ seg b (i + 1) j = q := by
  obtain ⟨h3, h4, h5⟩ := seg_split (p := [c]) (q := q) h0 h1 h2 h
  have h6 : i + 1 ≤ j := h3
  rw [show (([c] : List Int).length : Int) = 1 from rfl, seg_one b i h0 (by omega)] at h4
  injection h4 with h7 _
  exact ⟨h7, by omega, h5⟩
theorem tag_of {b : ByteArray} {at_ e t : Int} {q : List Int} (h : seg b at_ e = partsL t ++ q) (hne : partsL t ≠ []) (h0 : 0 ≤ at_) (h1 : at_ ≤ e) (h2 : e ≤ b.size) : tagP b at_ e = .ok (t, at_ + (partsL t).length) ∧ seg b (at_ + (partsL t).length) e = q ∧ at_ + (partsL t).length ≤ e := by
  obtain ⟨s1, s2, s3⟩ := seg_split h0 h1 h2 h
  refine ⟨?_, s3, s1⟩
  rw [partsL_eq] at h hne s1 ⊢
  unfold partsQ at h hne s1 ⊢
  by_cases g0 : t < 1
  · rw [if_pos g0] at hne; exact absurd rfl hne
  rw [if_neg g0] at h hne s1 ⊢
  by_cases g1 : 16777215 < t
  · rw [if_pos g1] at hne; exact absurd rfl hne
  rw [if_neg g1] at h hne s1 ⊢
  by_cases g2 : t < 256
  · rw [if_pos g2] at h hne s1 ⊢
    by_cases g3 : t % 32 = 31
    · rw [if_pos g3] at hne; exact absurd rfl hne
    rw [if_neg g3] at h s1 ⊢
    obtain ⟨c1, c2, c3⟩ := seg_bt h0 h1 h2 h
    unfold tagP
    rw [if_neg (by omega), c1, if_neg (by omega), if_pos g3]
    rfl
  rw [if_neg g2] at h hne s1 ⊢
  by_cases g3 : t < 65536
  · rw [if_pos g3] at h hne s1 ⊢
    by_cases g4 : t / 256 % 32 = 31
    case neg => rw [if_neg g4] at hne; exact absurd rfl hne
    rw [if_pos g4] at h hne s1 ⊢
    by_cases g5 : t % 256 < 128
    case neg => rw [if_neg g5] at hne; exact absurd rfl hne
    rw [if_pos g5] at h s1 ⊢
    obtain ⟨c1, c2, c3⟩ := seg_bt h0 h1 h2 h
    obtain ⟨d1, d2, d3⟩ := seg_bt (by omega) (by omega) h2 c3
    unfold tagP
    rw [if_neg (by omega), c1, if_neg (by omega), if_neg (by omega), if_neg (by omega), d1, if_neg (by omega), if_pos g5]
    congr 2
    omega
  rw [if_neg g3] at h hne s1 ⊢
  by_cases g4 : t / 65536 % 32 = 31
  case neg => rw [if_neg g4] at hne; exact absurd rfl hne
  rw [if_pos g4] at h hne s1 ⊢
  by_cases g5 : 128 < t / 256 % 256
  case neg => rw [if_neg g5] at hne; exact absurd rfl hne
  rw [if_pos g5] at h hne s1 ⊢
  by_cases g6 : t % 256 < 128
  case neg => rw [if_neg g6] at hne; exact absurd rfl hne
  rw [if_pos g6] at h s1 ⊢
  obtain ⟨c1, c2, c3⟩ := seg_bt h0 h1 h2 h
  obtain ⟨d1, d2, d3⟩ := seg_bt (by omega) (by omega) h2 c3
  obtain ⟨e1, e2, e3⟩ := seg_bt (by omega) (by omega) h2 d3
  rw [show at_ + 1 + 1 = at_ + 2 by omega] at e1 e2
  unfold tagP
  rw [if_neg (by omega), c1, if_neg (by omega), if_neg (by omega), if_neg (by omega), d1, if_neg (by omega), if_neg (by omega), if_neg (by omega), e1, if_neg (by omega)]
  congr 2
  omega
theorem len_of {b : ByteArray} {at_ e n : Int} {q : List Int} (h : seg b at_ e = sizeB n ++ q) (hn0 : 0 ≤ n) (hn1 : n ≤ 9999) (h0 : 0 ≤ at_) (h1 : at_ ≤ e) (h2 : e ≤ b.size) : lenP b at_ e = .ok (n, at_ + (sizeB n).length) ∧ seg b (at_ + (sizeB n).length) e = q ∧ at_ + (sizeB n).length ≤ e := by
  obtain ⟨s1, s2, s3⟩ := seg_split h0 h1 h2 h
  refine ⟨?_, s3, s1⟩
  unfold sizeB at h s1 ⊢
  by_cases g1 : n < 128
  · rw [if_pos g1] at h s1 ⊢
    obtain ⟨c1, c2, c3⟩ := seg_bt h0 h1 h2 h
    unfold lenP
    rw [if_neg (by omega), c1, if_pos (by omega)]
    congr 2
    omega
  rw [if_neg g1] at h s1 ⊢
  by_cases g2 : n < 256
  · rw [if_pos g2] at h s1 ⊢
    obtain ⟨c1, c2, c3⟩ := seg_bt h0 h1 h2 h
    obtain ⟨d1, d2, d3⟩ := seg_bt (by omega) (by omega) h2 c3
    unfold lenP
    rw [if_neg (by omega), c1, if_neg (by omega), if_neg (by omega), if_neg (by omega), if_neg (by omega), if_pos rfl, d1, if_neg (by omega)]
    congr 2
    omega
  rw [if_neg g2] at h s1 ⊢
  obtain ⟨c1, c2, c3⟩ := seg_bt h0 h1 h2 h
  obtain ⟨d1, d2, d3⟩ := seg_bt (by omega) (by omega) h2 c3
  obtain ⟨e1, e2, e3⟩ := seg_bt (by omega) (by omega) h2 d3
  rw [show at_ + 1 + 1 = at_ + 2 by omega] at e1 e2
  unfold lenP
  rw [if_neg (by omega), c1, if_neg (by omega), if_neg (by omega), if_neg (by omega), if_neg (by omega), if_neg (by omega), d1, e1, if_neg (by omega), if_neg (by omega)]
  congr 2
  omega
theorem writtenP_pre : ∀ (k : Nat) {l : List S43} {b r : List Int}, writtenP k l b = some (some r) → ∃ q, r = b ++ q
  | 0, _, _, _, h => by simp [writtenP] at h
  | k + 1, [], b, r, h => by
    rw [writtenP_nil] at h
    injection h with h
    injection h with h
    exact ⟨[], by rw [h, List.append_nil]⟩
  | k + 1, x :: l, b, r, h => by
    have key : ∀ content, (match oneW b content x.f0 with | none => some none | some b1 => writtenP k l b1) = some (some r) → ∃ q, r = b ++ q := by
      intro content h
      cases ho : oneW b content x.f0 with
      | none => rw [ho] at h; cases h
      | some b1 =>
        rw [ho] at h
        obtain ⟨q, hq⟩ := writtenP_pre k h
        obtain ⟨e1, _⟩ := oneW_some ho
        exact ⟨partsL x.f0 ++ sizeB content.length ++ content ++ q, by rw [hq, e1]; simp only [List.append_assoc]⟩
    cases hm : markedB x.f0 with
    | true =>
      obtain ⟨oc, hoc, h⟩ := writtenP_marked h hm
      cases oc with
      | none => cases h
      | some content => exact key content h
    | false => exact key _ (writtenP_plain h hm)
/-- One step: what was written of a node, in full. -/
theorem writtenP_step {k : Nat} {x : S43} {l : List S43} {acc r : List Int} (h : writtenP (k + 1) (x :: l) acc = some (some r)) :
    ∃ content b1, (if markedB x.f0 = true then writtenP k x.f2 [] = some (some content) else content = bytesOf x.f1) ∧ b1 = acc ++ partsL x.f0 ++ sizeB content.length ++ content ∧ b1.length ≤ 9999 ∧ writtenP k l b1 = some (some r) := by
  have key : ∀ content, (match oneW acc content x.f0 with | none => some none | some b1 => writtenP k l b1) = some (some r) → ∃ b1, b1 = acc ++ partsL x.f0 ++ sizeB content.length ++ content ∧ b1.length ≤ 9999 ∧ writtenP k l b1 = some (some r) := by
    intro content h
    cases ho : oneW acc content x.f0 with
    | none => rw [ho] at h; cases h
    | some b1 =>
      rw [ho] at h
      obtain ⟨e1, e2⟩ := oneW_some ho
      exact ⟨b1, e1, e2, h⟩
  cases hm : markedB x.f0 with
  | true =>
    obtain ⟨oc, hoc, h⟩ := writtenP_marked h hm
    cases oc with
    | none => cases h
    | some content =>
      obtain ⟨b1, e1, e2, e3⟩ := key content h
      exact ⟨content, b1, by rw [if_pos rfl]; exact hoc, e1, e2, e3⟩
  | false =>
    obtain ⟨b1, e1, e2, e3⟩ := key _ (writtenP_plain h hm)
    exact ⟨_, b1, by rw [if_neg (by decide)], e1, e2, e3⟩
theorem back_law : ∀ (k : Nat) {b : ByteArray} {e deep at_ many : Int} {l : List S43} {m : Int} {acc : List Int}, looksP k l many deep = some (.ok m) → writtenP k l acc = some (some (acc ++ seg b at_ e)) → 0 ≤ at_ → at_ ≤ e → e ≤ b.size → many ≤ 500 →
    nodesP k b e deep at_ many = some (.ok (l, e, m))
  | 0, _, _, _, _, _, _, _, _, h, _, _, _, _, _ => by simp [looksP] at h
  | k + 1, b, e, deep, at_, many, [], m, acc, h, hw, h0, h1, h2, hm => by
    rw [looksP_nil] at h
    injection h with h
    injection h with h
    rw [writtenP_nil] at hw
    injection hw with hw
    injection hw with hw
    have hl := congrArg List.length hw
    rw [List.length_append, seg_len b _ _ h0 h1 h2] at hl
    have : at_ = e := by omega
    subst this h
    exact nodesP_end (by omega)
  | k + 1, b, e, deep, at_, many, x :: l, m, acc, h, hw, h0, h1, h2, hm => by
    by_cases g2 : many = 500
    · rw [looksP_many g2] at h; cases h
    by_cases g3 : 8 < deep
    · rw [looksP_deep g2 g3] at h; cases h
    cases g4 : badN x with
    | true => rw [looksP_bad g2 g3 g4] at h; cases h
    | false =>
    rw [looksP_in g2 g3 g4] at h
    obtain ⟨o, ho, h⟩ := Option.bind_eq_some_iff.mp h
    rcases o with c | m1
    · cases h
    have h : looksP k l m1 deep = some (.ok m) := h
    have hm1 := looksP_ok k ho (by omega)
    obtain ⟨content, b1, hc, e1, e2, hr⟩ := writtenP_step hw
    obtain ⟨q, hq⟩ := writtenP_pre k hr
    have hs : seg b at_ e = partsL x.f0 ++ (sizeB content.length ++ (content ++ q)) := by
      rw [e1] at hq
      simp only [List.append_assoc] at hq
      exact List.append_cancel_left hq
    have hpne : partsL x.f0 ≠ [] := by
      intro hz
      unfold badN at g4
      rw [hz] at g4
      simp at g4
    have hcl : content.length ≤ 9999 := by
      rw [e1] at e2
      simp only [List.length_append] at e2
      omega
    obtain ⟨t1, t2, t3⟩ := tag_of hs hpne h0 h1 h2
    obtain ⟨a1, ha1⟩ : ∃ a1, a1 = at_ + ((partsL x.f0).length : Int) := ⟨_, rfl⟩
    have hpp : 0 < (partsL x.f0).length := List.length_pos_iff.mpr hpne
    rw [← ha1] at t1 t2 t3
    obtain ⟨l1, l2, l3⟩ := len_of (n := content.length) t2 (Int.natCast_nonneg _) (by omega) (by omega) t3 h2
    obtain ⟨a2, ha2⟩ : ∃ a2, a2 = a1 + ((sizeB content.length).length : Int) := ⟨_, rfl⟩
    rw [← ha2] at l1 l2 l3
    obtain ⟨c1, c2, c3⟩ := seg_split (by omega) l3 h2 l2
    have g1 : at_ < e := by omega
    have g5 : ¬ e - a2 < content.length := by omega
    have f1 : 0 ≤ a2 := by omega
    have f2 : a2 ≤ a2 + content.length := by omega
    have f3 : a2 + content.length ≤ b.size := by omega
    have hrest : writtenP k l b1 = some (some (b1 ++ seg b (a2 + content.length) e)) := by
      rw [c3, hr, hq]
    cases hk : markedB x.f0 with
    | true =>
      rw [if_pos hk] at hc
      have hc' : writtenP k x.f2 [] = some (some ([] ++ seg b a2 (a2 + content.length))) := by rw [c2, List.nil_append]; exact hc
      have ik := back_law k ho hc' f1 f2 f3 (by omega)
      have ir := back_law k h hrest (by omega) c1 h2 (by omega)
      rw [nodesP_kids g1 g2 g3 t1 l1 g5 hk, ik, Option.bind_some]
      show (nodesP k b e deep (a2 + content.length) m1).map _ = _
      rw [ir]
      have hx : x = ⟨x.f0, ⟨#[]⟩, x.f2⟩ := by
        unfold badN at g4
        rw [hk] at g4
        have he : x.f1.toList.isEmpty = true := by
          cases hh : x.f1.toList.isEmpty with
          | true => rfl
          | false => rw [hh] at g4; simp at g4
        rcases x with ⟨x0, ⟨⟨x1⟩⟩, x2⟩
        rw [ByteArray.toList_eq] at he
        cases x1 with
        | nil => rfl
        | cons _ _ => cases he
      show some (Except.ok ((⟨x.f0, ⟨#[]⟩, x.f2⟩ : S43) :: l, e, m)) = _
      rw [← hx]
    | false =>
      rw [if_neg (by rw [hk]; decide)] at hc
      have hx : x.f2 = [] := by
        unfold badN at g4
        rw [hk] at g4
        cases hh : x.f2 with
        | nil => rfl
        | cons _ _ => rw [hh] at g4; simp at g4
      have hm2 : m1 = many + 1 := by
        rw [hx] at ho
        cases k with
        | zero => simp [looksP] at ho
        | succ k' =>
          rw [looksP_nil] at ho
          injection ho with ho
          injection ho with ho
          exact ho.symm
      subst hm2
      have ir := back_law k h hrest (by omega) c1 h2 (by omega)
      rw [nodesP_plain g1 g2 g3 t1 l1 g5 hk, ir]
      have hv : b.extract a2.toNat (a2 + content.length).toNat = x.f1 := by
        rw [← strOf_bytes (b.extract a2.toNat (a2 + content.length).toNat), bytesOf_extract b a2 (a2 + content.length) f1 f2 f3, c2, hc, strOf_bytes]
      show some (Except.ok ((⟨x.f0, b.extract a2.toNat (a2 + content.length).toNat, []⟩ : S43) :: l, e, m)) = _
      rw [hv]
      have hx2 : x = ⟨x.f0, x.f1, []⟩ := by rcases x with ⟨x0, x1, x2⟩; cases hx; rfl
      rw [← hx2]
theorem nodesP_up : ∀ (k : Nat) {b : ByteArray} {e deep at_ many : Int} {o : NOut}, nodesP k b e deep at_ many = some o → nodesP (k + 1) b e deep at_ many = some o
  | 0, _, _, _, _, _, _, h => by simp [nodesP] at h
  | k + 1, b, e, deep, at_, many, o, h => by
    by_cases g1 : at_ < e
    case neg => rw [nodesP_end g1] at h ⊢; exact h
    by_cases g2 : many = 500
    · rw [nodesP_many g1 g2] at h ⊢; exact h
    by_cases g3 : 8 < deep
    · rw [nodesP_deep g1 g2 g3] at h ⊢; exact h
    cases ht : tagP b at_ e with
    | error x => rw [nodesP_tag g1 g2 g3 ht] at h ⊢; exact h
    | ok ta =>
    obtain ⟨t, a1⟩ := ta
    cases hl : lenP b a1 e with
    | error x => rw [nodesP_len g1 g2 g3 ht hl] at h ⊢; exact h
    | ok na =>
    obtain ⟨n, a2⟩ := na
    by_cases g4 : e - a2 < n
    · rw [nodesP_short g1 g2 g3 ht hl g4] at h ⊢; exact h
    cases hk : markedB t with
    | true =>
      rw [nodesP_kids g1 g2 g3 ht hl g4 hk] at h ⊢
      obtain ⟨o1, ho, h⟩ := Option.bind_eq_some_iff.mp h
      rw [nodesP_up k ho, Option.bind_some]
      rcases o1 with x | ⟨kids, a3, m3⟩
      · exact h
      · obtain ⟨o2, ho2, h'⟩ := Option.map_eq_some_iff.mp h
        show (nodesP (k + 1) b e deep a3 m3).map _ = _
        rw [nodesP_up k ho2]
        exact congrArg some h'
    | false =>
      rw [nodesP_plain g1 g2 g3 ht hl g4 hk] at h ⊢
      obtain ⟨o2, ho2, h'⟩ := Option.map_eq_some_iff.mp h
      rw [nodesP_up k ho2]
      exact congrArg some h'
theorem nodesP_ups {k : Nat} {b : ByteArray} {e deep at_ many : Int} {o : NOut} (h : nodesP k b e deep at_ many = some o) (j : Nat) : nodesP (k + j) b e deep at_ many = some o := by
  induction j with
  | zero => exact h
  | succ j ih => exact nodesP_up _ ih
theorem nodesP_one {k k' : Nat} {b : ByteArray} {e deep at_ many : Int} {o o' : NOut} (h : nodesP k b e deep at_ many = some o) (h' : nodesP k' b e deep at_ many = some o') : o = o' := by
  have h1 := nodesP_ups h k'
  have h2 := nodesP_ups h' k
  rw [Nat.add_comm k' k] at h2
  rw [h1] at h2
  exact Option.some.inj h2
def inB (l : List Int) : Prop := ∀ c ∈ l, 0 ≤ c ∧ c ≤ 255
theorem inB_app {a b : List Int} (h : inB a) (h' : inB b) : inB (a ++ b) := fun c hc => (List.mem_append.mp hc).elim (h c) (h' c)
theorem inB_bytes (b : ByteArray) : inB (bytesOf b) := by
  intro c hc
  unfold bytesOf at hc
  obtain ⟨u, _, rfl⟩ := List.mem_map.mp hc
  have := u.toNat_lt
  omega
theorem inB_parts (t : Int) : inB (partsL t) := by
  rw [partsL_eq]
  unfold partsQ
  intro c hc
  repeat' split at hc
  all_goals simp at hc
  all_goals omega
theorem inB_size (n : Int) : inB (sizeB n) := by
  unfold sizeB
  intro c hc
  repeat' split at hc
  all_goals simp at hc
  all_goals omega
theorem writtenP_inB : ∀ (k : Nat) {l : List S43} {b r : List Int}, writtenP k l b = some (some r) → inB b → inB r
  | 0, _, _, _, h, _ => by simp [writtenP] at h
  | k + 1, [], b, r, h, hb => by
    rw [writtenP_nil] at h
    injection h with h
    injection h with h
    rw [← h]
    exact hb
  | k + 1, x :: l, b, r, h, hb => by
    obtain ⟨content, b1, hc, e1, e2, hr⟩ := writtenP_step h
    have hci : inB content := by
      by_cases hk : markedB x.f0 = true
      · rw [if_pos hk] at hc
        exact writtenP_inB k hc (fun c hc => by cases hc)
      · rw [if_neg hk] at hc
        rw [hc]
        exact inB_bytes _
    refine writtenP_inB k hr ?_
    rw [e1]
    exact inB_app (inB_app (inB_app hb (inB_parts _)) (inB_size _)) hci
theorem bytes_strOf {r : List Int} (h : inB r) : bytesOf (strOfNums r) = r := by
  unfold bytesOf strOfNums
  simp only [List.map_map]
  conv => rhs; rw [← List.map_id r]
  apply List.map_congr_left
  intro c hc
  have := h c hc
  show ((UInt8.ofNat c.toNat).toNat : Int) = c
  rw [UInt8.toNat_ofNat']
  omega
theorem strOf_size (r : List Int) : (strOfNums r).size = r.length := by
  rw [← data_length, strOfNums_data, List.length_map]
/-- Parse reads back what Build has built. -/
theorem build_back {k : Nat} {l : List S43} {m : Int} {r : List Int} (hm : looksP k l 0 1 = some (.ok m)) (hr : writtenP k l [] = some (some r)) : buildP k l = some (strOfNums r, 0) ∧ parseP (strOfNums r) = (l, 0, 0) ∧ r.length ≤ 9999 := by
  have hl : r.length ≤ 9999 := writtenP_len k hr (by simp)
  have hi := writtenP_inB k hr (fun c hc => by cases hc)
  refine ⟨?_, ?_, hl⟩
  · unfold buildP
    rw [hm, Option.bind_some]
    show (writtenP k l []).map _ = _
    rw [hr]
    rfl
  · have hw : writtenP k l [] = some (some ([] ++ seg (strOfNums r) 0 (strOfNums r).size)) := by rw [seg_all, bytes_strOf hi, List.nil_append]; exact hr
    have hn := back_law k hm hw (Int.le_refl _) (Int.natCast_nonneg _) (Int.le_refl _) (by decide)
    have := nodesP_one (readP_some (strOfNums r)) hn
    unfold parseP
    rw [if_neg (by rw [strOf_size]; omega), this]
end Go.Proofs.Ytjbhhgecdcgpeaa.Tb
namespace Go.Proofs.Ytjbhhgecdcgpeaa.Tb
open Go Go.RowKit Go.Proofs.YtjbhhgecdcgpeaaW.PrintWords Go.Proofs.YtjbhhgecdcgpeaaW.PrintLast Go.Proofs.YtjbhhgecdcgpeaaW.PrintMore Go.Proofs.Ytjbhhgecdcgpeaa.TA
set_option linter.unusedSimpArgs false
set_option linter.unusedVariables false
/-- Raw numbers are those of the machine. -/
def rawOk (raw : List Int) : Prop := ∀ v ∈ raw, -9223372036854775808 ≤ v ∧ v < 9223372036854775808
theorem w64 {n : Int} (h0 : -9223372036854775808 ≤ n) (h1 : n < 9223372036854775808) : wrap64 n = n := by
  unfold wrap64
  omega
theorem pick_ok {a n : Int} (h0 : -9223372036854775808 ≤ a) (h1 : a < 9223372036854775808) (hn : 0 < n) : ∃ c, turnstilelaw9_pick.f a n = some c ∧ 0 ≤ c ∧ c < n := by
  unfold turnstilelaw9_pick.f
  by_cases g : a < 0
  · rw [if_pos g, if_neg (by omega), w64 (n := a + 1) (by omega) (by omega), w64 (by omega) (by omega)]
    refine ⟨_, rfl, ?_, ?_⟩
    · exact Int.tmod_nonneg _ (by omega)
    · exact Int.tmod_lt_of_pos _ hn
  · rw [if_neg g, if_neg (by omega)]
    exact ⟨_, rfl, Int.tmod_nonneg _ (by omega), Int.tmod_lt_of_pos _ hn⟩
theorem next_ok {raw : List Int} (hr : rawOk raw) {a many n : Int} (h0 : 0 ≤ a) (h1 : a ≤ 1000000) (hn : 0 < n) : ∃ c, turnstilelaw9_Maker_next.f raw a many n = some (c, a + 1, many) ∧ 0 ≤ c ∧ c < n := by
  unfold turnstilelaw9_Maker_next.f
  rw [w64 (n := a + 1) (by omega) (by omega)]
  by_cases g : a < (raw.length : Int)
  · have hm : rd raw a ∈ raw := by
      unfold rd
      rw [List.getD_eq_getElem?_getD, List.getElem?_eq_getElem (show a.toNat < raw.length by omega)]
      exact List.getElem_mem _
    obtain ⟨c, e, c0, c1⟩ := pick_ok (hr _ hm).1 (hr _ hm).2 hn
    rw [if_pos g, if_pos h0, e, Option.bind_some]
    exact ⟨c, rfl, c0, c1⟩
  · rw [if_neg g]
    exact ⟨0, rfl, Int.le_refl _, hn⟩
set_option maxRecDepth 100000 in
theorem bit32 : ∀ m : Nat, m < 256 → (Go.bits .and .u8 (m : Int) 32 != 0) = decide (m / 32 % 2 = 1) := by decide +kernel
theorem marked_first {t f : Int} {q : List Int} (h : partsL t = f :: q) (h0 : 0 ≤ f) (h1 : f < 256) : markedB t = decide (f / 32 % 2 = 1) := by
  unfold markedB tlv_marked.f
  rw [partsL_some, h, Option.bind_some, if_pos (by simp), if_pos (by simp)]
  rw [show rd (f :: q) 0 = f from rfl]
  have := bit32 f.toNat (by omega)
  rw [show ((f.toNat : Int)) = f by omega] at this
  rw [Option.getD_some, this]
  exact decide_eq_decide.mpr (by omega)
theorem tag_made {raw : List Int} (hr : rawOk raw) {a many : Int} (mk : Bool) (h0 : 0 ≤ a) (h1 : a ≤ 900000) : ∃ t a', (∀ k, turnstilelaw9_Maker_tag.f (k + 1) raw a many mk = some (t, a', many)) ∧ a < a' ∧ a' ≤ a + 5 ∧ partsL t ≠ [] ∧ markedB t = mk := by
  obtain ⟨c, e1, c0, c1⟩ := next_ok hr (many := many) h0 (by omega) (show (0 : Int) < 3 by decide)
  obtain ⟨d, e2, d0, d1⟩ := next_ok hr (many := many) (show 0 ≤ a + 1 by omega) (by omega) (show (0 : Int) < 4 by decide)
  obtain ⟨f, hf, hfm⟩ : ∃ f : Int, f = 64 * d + (if mk = true then 32 else 0) ∧ f / 32 % 2 = (if mk = true then 1 else 0) := ⟨_, rfl, by cases mk <;> simp <;> omega⟩
  have hf0 : 0 ≤ f ∧ f ≤ 224 ∧ f % 32 = 0 := by cases mk <;> simp at hf <;> omega
  have hjj : ∀ k, turnstilelaw9_Maker_tag.f (k + 1) raw a many mk = turnstilelaw9_Maker_tag.j0 (k + 1) c f raw (a + 1 + 1) many := by
    intro k
    unfold turnstilelaw9_Maker_tag.f
    rw [e1, Option.bind_some]
    show (turnstilelaw9_Maker_next.f raw (a + 1) many 4).bind _ = _
    rw [e2, Option.bind_some]
    cases mk with
    | true =>
      rw [if_pos rfl]
      show turnstilelaw9_Maker_tag.j0 (k + 1) c (wrap64 (wrap64 (64 * d) + 32)) raw (a + 1 + 1) many = _
      rw [w64 (n := 64 * d) (by omega) (by omega), w64 (by omega) (by omega), hf, if_pos rfl]
    | false =>
      rw [if_neg (by decide)]
      show turnstilelaw9_Maker_tag.j0 (k + 1) c (wrap64 (64 * d)) raw (a + 1 + 1) many = _
      rw [w64 (n := 64 * d) (by omega) (by omega), hf, if_neg (by decide), Int.add_zero]
  have hmk : ∀ x : Int, x / 32 % 2 = f / 32 % 2 → decide (x / 32 % 2 = 1) = mk := by
    intro x hx
    rw [hx, hfm]
    cases mk <;> rfl
  by_cases g0 : c = 0
  · obtain ⟨u, e3, u0, u1⟩ := next_ok hr (many := many) (show 0 ≤ a + 1 + 1 by omega) (by omega) (show (0 : Int) < 31 by decide)
    obtain ⟨t, ht⟩ : ∃ t : Int, t = if f + u = 0 then 1 else f + u := ⟨_, rfl⟩
    have hp : partsL t = [t] := by
      rw [partsL_eq]
      unfold partsQ
      split at ht
      · subst ht; rfl
      · rw [if_neg (by omega), if_neg (by omega), if_pos (by omega), if_neg (by omega)]
    refine ⟨t, a + 1 + 1 + 1, fun k => ?_, by omega, by omega, by rw [hp]; simp, ?_⟩
    · rw [hjj]
      simp only [turnstilelaw9_Maker_tag.j0]
      rw [if_pos g0, e3, Option.bind_some]
      show (if wrap64 (f + u) = 0 then _ else _) = _
      rw [w64 (n := f + u) (by omega) (by omega), ht]
      split
      · rfl
      · rfl
    · rw [marked_first hp (by split at ht <;> omega) (by split at ht <;> omega)]
      refine hmk t ?_
      split at ht <;> omega
  by_cases g1 : c = 1
  · obtain ⟨u, e3, u0, u1⟩ := next_ok hr (many := many) (show 0 ≤ a + 1 + 1 by omega) (by omega) (show (0 : Int) < 128 by decide)
    have hp : partsL (256 * (f + 31) + u) = [f + 31, u] := by
      rw [partsL_eq]
      unfold partsQ
      rw [if_neg (by omega), if_neg (by omega), if_neg (by omega), if_pos (by omega), if_pos (by omega), if_pos (by omega)]
      rw [show (256 * (f + 31) + u) / 256 = f + 31 by omega, show (256 * (f + 31) + u) % 256 = u by omega]
    refine ⟨256 * (f + 31) + u, a + 1 + 1 + 1, fun k => ?_, by omega, by omega, by rw [hp]; simp, ?_⟩
    · rw [hjj]
      simp only [turnstilelaw9_Maker_tag.j0]
      rw [if_neg g0, if_pos g1, e3, Option.bind_some]
      show some (wrap64 (wrap64 (256 * wrap64 (f + 31)) + u), a + 1 + 1 + 1, many) = _
      rw [w64 (n := f + 31) (by omega) (by omega), w64 (n := 256 * (f + 31)) (by omega) (by omega), w64 (by omega) (by omega)]
    · rw [marked_first hp (by omega) (by omega)]
      exact hmk _ (by omega)
  · obtain ⟨u, e3, u0, u1⟩ := next_ok hr (many := many) (show 0 ≤ a + 1 + 1 by omega) (by omega) (show (0 : Int) < 127 by decide)
    obtain ⟨v, e4, v0, v1⟩ := next_ok hr (many := many) (show 0 ≤ a + 1 + 1 + 1 by omega) (by omega) (show (0 : Int) < 128 by decide)
    have hp : partsL (65536 * (f + 31) + 256 * (129 + u) + v) = [f + 31, 129 + u, v] := by
      rw [partsL_eq]
      unfold partsQ
      rw [if_neg (by omega), if_neg (by omega), if_neg (by omega), if_neg (by omega), if_pos (by omega), if_pos (by omega), if_pos (by omega)]
      rw [show (65536 * (f + 31) + 256 * (129 + u) + v) / 65536 = f + 31 by omega, show (65536 * (f + 31) + 256 * (129 + u) + v) / 256 % 256 = 129 + u by omega, show (65536 * (f + 31) + 256 * (129 + u) + v) % 256 = v by omega]
    refine ⟨65536 * (f + 31) + 256 * (129 + u) + v, a + 1 + 1 + 1 + 1, fun k => ?_, by omega, by omega, by rw [hp]; simp, ?_⟩
    · rw [hjj]
      simp only [turnstilelaw9_Maker_tag.j0]
      rw [if_neg g0, if_neg g1, e3, Option.bind_some]
      show (turnstilelaw9_Maker_next.f raw (a + 1 + 1 + 1) many 128).bind _ = _
      rw [e4, Option.bind_some]
      show some (wrap64 (wrap64 (wrap64 (65536 * wrap64 (f + 31)) + wrap64 (256 * wrap64 (129 + u))) + v), a + 1 + 1 + 1 + 1, many) = _
      rw [w64 (n := f + 31) (by omega) (by omega), w64 (n := 65536 * (f + 31)) (by omega) (by omega), w64 (n := 129 + u) (by omega) (by omega), w64 (n := 256 * (129 + u)) (by omega) (by omega), w64 (n := 65536 * (f + 31) + 256 * (129 + u)) (by omega) (by omega), w64 (by omega) (by omega)]
    · rw [marked_first hp (by omega) (by omega)]
      exact hmk _ (by omega)
theorem value_loop {raw : List Int} (hr : rawOk raw) {many n : Int} (hn : n ≤ 140) : ∀ (j : Nat) (i : Int) (acc : List Int) (a : Int), i + j = n → 0 ≤ i → acc.length = i.toNat → 0 ≤ a → a + j ≤ 900000 → ∃ v : ByteArray, (∀ k, turnstilelaw9_Maker_value.l0 (k + j + 1) n acc i raw a many = some (v, a + j, many)) ∧ (v.size : Int) = n
  | 0, i, acc, a, h, h0, hl, ha, hb => by
    refine ⟨strOfNums acc, fun k => ?_, by rw [strOf_size]; omega⟩
    simp only [turnstilelaw9_Maker_value.l0]
    rw [if_neg (by omega)]
    simp
  | j + 1, i, acc, a, h, h0, hl, ha, hb => by
    obtain ⟨c, e1, c0, c1⟩ := next_ok hr (many := many) ha (by omega) (show (0 : Int) < 256 by decide)
    have h5 : i + 1 + j = n := by omega
    obtain ⟨v, hv, hs⟩ := value_loop hr hn j (i + 1) (acc ++ [c % 256]) (a + 1) h5 (by omega) (by rw [List.length_append, hl]; simp; omega) (by omega) (by omega)
    refine ⟨v, fun k => ?_, hs⟩
    rw [show k + (j + 1) + 1 = (k + j + 1) + 1 by omega]
    rw [turnstilelaw9_Maker_value.l0]
    rw [if_pos (by omega), e1, Option.bind_some, if_pos (by omega)]
    show turnstilelaw9_Maker_value.l0 (k + j + 1) n (acc ++ [c % 256]) (wrap64 (i + 1)) raw (a + 1) many = _
    rw [w64 (n := i + 1) (by omega) (by omega), hv k]
    congr 3
    omega
end Go.Proofs.Ytjbhhgecdcgpeaa.Tb
namespace Go.Proofs.Ytjbhhgecdcgpeaa.Tb
open Go Go.RowKit Go.Proofs.YtjbhhgecdcgpeaaW.PrintWords Go.Proofs.YtjbhhgecdcgpeaaW.PrintLast Go.Proofs.YtjbhhgecdcgpeaaW.PrintMore Go.Proofs.Ytjbhhgecdcgpeaa.TA
set_option linter.unusedSimpArgs false
set_option linter.unusedVariables false
theorem value_made {raw : List Int} (hr : rawOk raw) {a many n : Int} (h0 : 0 ≤ a) (h1 : a ≤ 800000) (hn0 : 0 < n) (hn : n ≤ 140) : ∃ (v : ByteArray) (a' : Int), (∀ k, turnstilelaw9_Maker_value.f (k + 150) raw a many n = some (v, a', many)) ∧ a ≤ a' ∧ a' ≤ a + 140 ∧ v.size ≤ 139 := by
  obtain ⟨c, e1, c0, c1⟩ := next_ok hr (many := many) h0 (by omega) hn0
  obtain ⟨v, hv, hs⟩ := value_loop hr (many := many) (n := c) (by omega) c.toNat 0 [] (a + 1) (by omega) (Int.le_refl _) rfl (by omega) (by omega)
  refine ⟨v, a + 1 + c.toNat, fun k => ?_, by omega, by omega, by omega⟩
  unfold turnstilelaw9_Maker_value.f
  rw [e1, Option.bind_some]
  show turnstilelaw9_Maker_value.l0 (k + 150) c [] 0 raw (a + 1) many = _
  have := hv (k + 149 - c.toNat)
  rw [show k + 149 - c.toNat + c.toNat + 1 = k + 150 by omega] at this
  exact this
/-- No value is long. -/
def okV : Nat → List S43 → Prop
  | 0, _ => False
  | _ + 1, [] => True
  | k + 1, x :: l => x.f1.size ≤ 139 ∧ okV k x.f2 ∧ okV k l
/-- What is known of nodes at a depth: n of them in all. -/
def Fine (K : Nat) (d : Int) (l : List S43) (n : Int) : Prop := ∀ (k : Nat) (c : Int), K ≤ k → 0 ≤ c → c + n ≤ 500 → looksP k l c d = some (.ok (c + n)) ∧ okV k l
theorem Fine.nil {K : Nat} (hK : 1 ≤ K) (d : Int) : Fine K d [] 0 := by
  intro k c hk h0 h1
  obtain ⟨k', rfl⟩ : ∃ k', k = k' + 1 := ⟨k - 1, by omega⟩
  refine ⟨?_, trivial⟩
  rw [looksP_nil, Int.add_zero]
theorem Fine.cons {K K' : Nat} {d : Int} {x : S43} {l : List S43} {n m : Int} (hd : d ≤ 8) (hn : 0 ≤ n) (hm : 0 ≤ m) (hb : badN x = false) (hv : x.f1.size ≤ 139) (hx : Fine K (d + 1) x.f2 n) (hl : Fine K d l m) (hK : K + 1 ≤ K') : Fine K' d (x :: l) (1 + n + m) := by
  intro k c hk h0 h1
  obtain ⟨k', rfl⟩ : ∃ k', k = k' + 1 := ⟨k - 1, by omega⟩
  obtain ⟨a1, a2⟩ := hx k' (c + 1) (by omega) (by omega) (by omega)
  obtain ⟨b1, b2⟩ := hl k' (c + 1 + n) (by omega) (by omega) (by omega)
  refine ⟨?_, hv, a2, b2⟩
  rw [looksP_in (by omega) (by omega) hb, a1, Option.bind_some]
  show looksP k' l (c + 1 + n) d = _
  rw [b1, show c + 1 + n + m = c + (1 + n + m) by omega]
theorem Fine.mono {K K' : Nat} {d : Int} {l : List S43} {n : Int} (h : Fine K d l n) (hK : K ≤ K') : Fine K' d l n := fun k c hk h0 h1 => h k c (Nat.le_trans hK hk) h0 h1
/-- How a list ends. -/
structure Made (F : Nat → Option (List S43 × Int × Int)) (pre : List S43) (K : Nat) (d a many slack : Int) (n : Int) : Prop where
  ex : ∃ (l : List S43) (a' many' : Int), (∀ k, K ≤ k → F k = some (pre ++ l, a', many')) ∧ many ≤ many' ∧ many' ≤ 60 ∧ a ≤ a' ∧ a' + 200 * (60 - many') ≤ a + slack + 200 * (60 - many) ∧ (l.length : Int) ≤ n ∧ Fine K d l (many' - many)
theorem list_made {raw : List Int} (hr : rawOk raw) : ∀ (q : Nat) (d a many : Int), d + q = 9 → 1 ≤ d → d ≤ 8 → 0 ≤ many → many ≤ 60 → 0 ≤ a → a + 200 * (60 - many) ≤ 100000 → Made (fun k => turnstilelaw9_Maker_list.f k raw a many d) [] (200 + 20 * q) d a many 1 4
  | 0, d, a, many, h, h1, h8, _, _, _, _ => by omega
  | q + 1, d, a, many, h, h1, h8, hm0, hm1, ha, hb => by
    have loop : ∀ (j : Nat) (i : Int) (pre : List S43) (a many : Int), i = j → j ≤ 4 → pre.length + j ≤ 10 → 0 ≤ many → many ≤ 60 → 0 ≤ a → a + 200 * (60 - many) ≤ 100010 → Made (fun k => turnstilelaw9_Maker_list.l0 k d pre i raw a many) pre (200 + 20 * q + 3 * j + 3) d a many 0 j := by
      intro j
      induction j with
      | zero =>
        intro i pre a many hi hj hp hm0 hm1 ha hb
        refine ⟨[], a, many, fun k hk => ?_, Int.le_refl _, hm1, Int.le_refl _, by omega, by simp, by rw [Int.sub_self]; exact Fine.nil (by omega) d⟩
        obtain ⟨k', rfl⟩ : ∃ k', k = k' + 2 := ⟨k - 2, by omega⟩
        show turnstilelaw9_Maker_list.l0 (k' + 2) d pre i raw a many = _
        rw [turnstilelaw9_Maker_list.l0, if_neg (by omega), turnstilelaw9_Maker_list.j1, if_neg (by decide), List.append_nil]
      | succ j ih =>
        intro i pre a many hi hj hp hm0 hm1 ha hb
        by_cases g1 : many < 60 ∧ a < (raw.length : Int)
        case neg =>
          refine ⟨[], a, many, fun k hk => ?_, Int.le_refl _, hm1, Int.le_refl _, by omega, by simp; omega, by rw [Int.sub_self]; exact Fine.nil (by omega) d⟩
          obtain ⟨k', rfl⟩ : ∃ k', k = k' + 2 := ⟨k - 2, by omega⟩
          show turnstilelaw9_Maker_list.l0 (k' + 2) d pre i raw a many = _
          rw [turnstilelaw9_Maker_list.l0, if_pos (by omega)]
          by_cases g2 : many < 60
          · rw [if_pos g2, decide_eq_false (by omega), turnstilelaw9_Maker_list.j1, if_neg (by decide), List.append_nil]
          · rw [if_neg g2, turnstilelaw9_Maker_list.j1, if_neg (by decide), List.append_nil]
        obtain ⟨g1, g2⟩ := g1
        obtain ⟨c, e1, c0, c1⟩ := next_ok hr (many := many + 1) ha (by omega) (show (0 : Int) < 3 by decide)
        obtain ⟨t, a2, e2, t0, t1, tp, tm⟩ := tag_made hr (many := many + 1) (c == 0) (show 0 ≤ a + 1 by omega) (by omega)
        -- what stands at the head of each round
        have head : ∀ k, turnstilelaw9_Maker_list.l0 (k + 3) d pre i raw a many = (if c = 0 then (if d < 8 then ((turnstilelaw9_Maker_list.f (k + 1) raw a2 (many + 1) (d + 1)).bind fun bt186 => (turnstilelaw9_Maker_list.l0 (k + 1) d (pre ++ [(⟨t, (⟨#[]⟩ : ByteArray), bt186.1⟩ : S43)]) (i - 1) raw bt186.2.1 bt186.2.2)) else (turnstilelaw9_Maker_list.l0 (k + 1) d (pre ++ [(⟨t, (⟨#[]⟩ : ByteArray), ([] : List (S43))⟩ : S43)]) (i - 1) raw a2 (many + 1))) else ((turnstilelaw9_Maker_next.f raw a2 (many + 1) 3).bind fun bt200 => (if 0 ≤ bt200.1 then (if bt200.1 < 3 then ((turnstilelaw9_Maker_value.f (k + 1) raw bt200.2.1 bt200.2.2 (rd [6, 40, 140] bt200.1)).bind fun bt204 => (turnstilelaw9_Maker_list.l0 (k + 1) d (pre ++ [(⟨t, bt204.1, ([] : List (S43))⟩ : S43)]) (i - 1) raw bt204.2.1 bt204.2.2)) else none) else none))) := by
          intro k
          have hpl : pre.length < 2932031007402 := by omega
          rw [turnstilelaw9_Maker_list.l0, if_pos (by omega), if_pos g1, decide_eq_true g2, turnstilelaw9_Maker_list.j1, if_pos rfl, w64 (n := many + 1) (by omega) (by omega), e1, Option.bind_some]
          show (turnstilelaw9_Maker_tag.f (k + 1) raw (a + 1) (many + 1) (c == 0)).bind _ = _
          rw [e2, Option.bind_some]
          simp only [hpl, if_true, w64 (n := i - 1) (by omega) (by omega), w64 (n := d + 1) (by omega) (by omega), Option.bind_some]
          rfl
        by_cases g3 : c = 0
        · subst g3
          have hmk : markedB t = true := tm
          by_cases g4 : d < 8
          · obtain ⟨kids, a3, m3, k1, k2, k3, k4, k5, k6, k7⟩ := (list_made hr q (d + 1) a2 (many + 1) (by omega) (by omega) (by omega) (by omega) (by omega) (by omega) (by omega)).ex
            obtain ⟨rest, a4, m4, r1, r2, r3, r4, r5, r6, r7⟩ := (ih (i - 1) (pre ++ [⟨t, ⟨#[]⟩, kids⟩]) a3 m3 (by omega) (by omega) (by simp; omega) (by omega) k3 (by omega) (by omega)).ex
            refine ⟨⟨t, ⟨#[]⟩, kids⟩ :: rest, a4, m4, fun k hk => ?_, by omega, r3, by omega, by omega, by simp; omega, ?_⟩
            · obtain ⟨k', rfl⟩ : ∃ k', k = k' + 3 := ⟨k - 3, by omega⟩
              show turnstilelaw9_Maker_list.l0 (k' + 3) d pre i raw a many = _
              rw [head, if_pos rfl, if_pos g4, show turnstilelaw9_Maker_list.f (k' + 1) raw a2 (many + 1) (d + 1) = _ from k1 (k' + 1) (by omega), Option.bind_some]
              have := r1 (k' + 1) (by omega)
              rw [List.append_assoc] at this
              exact this
            · have := Fine.cons (K := 200 + 20 * q + 3 * j + 3) (K' := 200 + 20 * q + 3 * (j + 1) + 3) (d := d) (x := ⟨t, ⟨#[]⟩, kids⟩) (by omega) (by omega) (by omega) (badN_marked tp hmk) (Nat.zero_le _) (k7.mono (by omega)) r7 (by omega)
              rwa [show 1 + (m3 - (many + 1)) + (m4 - m3) = m4 - many by omega] at this
          · obtain ⟨rest, a4, m4, r1, r2, r3, r4, r5, r6, r7⟩ := (ih (i - 1) (pre ++ [⟨t, ⟨#[]⟩, []⟩]) a2 (many + 1) (by omega) (by omega) (by simp; omega) (by omega) (by omega) (by omega) (by omega)).ex
            refine ⟨⟨t, ⟨#[]⟩, []⟩ :: rest, a4, m4, fun k hk => ?_, by omega, r3, by omega, by omega, by simp; omega, ?_⟩
            · obtain ⟨k', rfl⟩ : ∃ k', k = k' + 3 := ⟨k - 3, by omega⟩
              show turnstilelaw9_Maker_list.l0 (k' + 3) d pre i raw a many = _
              rw [head, if_pos rfl, if_neg g4]
              have := r1 (k' + 1) (by omega)
              rw [List.append_assoc] at this
              exact this
            · have := Fine.cons (K := 200 + 20 * q + 3 * j + 3) (K' := 200 + 20 * q + 3 * (j + 1) + 3) (d := d) (x := ⟨t, ⟨#[]⟩, []⟩) (by omega) (Int.le_refl _) (by omega) (badN_marked tp hmk) (Nat.zero_le _) (Fine.nil (by omega) _) r7 (by omega)
              rwa [show 1 + 0 + (m4 - (many + 1)) = m4 - many by omega] at this
        · have hmk : markedB t = false := by rw [tm]; exact beq_eq_false_iff_ne.mpr g3
          obtain ⟨u, e3, u0, u1⟩ := next_ok hr (many := many + 1) (show 0 ≤ a2 by omega) (by omega) (show (0 : Int) < 3 by decide)
          have hrd : 0 < rd [6, 40, 140] u ∧ rd [6, 40, 140] u ≤ 140 := by
            have : u = 0 ∨ u = 1 ∨ u = 2 := by omega
            rcases this with rfl | rfl | rfl <;> decide
          obtain ⟨v, a3, e4, v0, v1, vs⟩ := value_made hr (many := many + 1) (show 0 ≤ a2 + 1 by omega) (by omega) hrd.1 hrd.2
          obtain ⟨rest, a4, m4, r1, r2, r3, r4, r5, r6, r7⟩ := (ih (i - 1) (pre ++ [⟨t, v, []⟩]) a3 (many + 1) (by omega) (by omega) (by simp; omega) (by omega) (by omega) (by omega) (by omega)).ex
          refine ⟨⟨t, v, []⟩ :: rest, a4, m4, fun k hk => ?_, by omega, r3, by omega, by omega, by simp; omega, ?_⟩
          · obtain ⟨k', rfl⟩ : ∃ k', k = k' + 3 := ⟨k - 3, by omega⟩
            show turnstilelaw9_Maker_list.l0 (k' + 3) d pre i raw a many = _
            rw [head, if_neg g3, e3, Option.bind_some]
            show (if 0 ≤ u then _ else _) = _
            rw [if_pos u0, if_pos u1]
            have e5 := e4 (k' + 1 - 150)
            rw [show k' + 1 - 150 + 150 = k' + 1 by omega] at e5
            show (turnstilelaw9_Maker_value.f (k' + 1) raw (a2 + 1) (many + 1) (rd [6, 40, 140] u)).bind _ = _
            rw [e5, Option.bind_some]
            have := r1 (k' + 1) (by omega)
            rw [List.append_assoc] at this
            exact this
          · have := Fine.cons (K := 200 + 20 * q + 3 * j + 3) (K' := 200 + 20 * q + 3 * (j + 1) + 3) (d := d) (x := ⟨t, v, []⟩) (by omega) (Int.le_refl _) (by omega) (badN_plain tp hmk) vs (Fine.nil (by omega) _) r7 (by omega)
            rwa [show 1 + 0 + (m4 - (many + 1)) = m4 - many by omega] at this
    obtain ⟨c, e1, c0, c1⟩ := next_ok hr (many := many) ha (by omega) (show (0 : Int) < 5 by decide)
    obtain ⟨l, a4, m4, r1, r2, r3, r4, r5, r6, r7⟩ := (loop c.toNat c [] (a + 1) many (by omega) (by omega) (by simp; omega) hm0 hm1 (by omega) (by omega)).ex
    refine ⟨l, a4, m4, fun k hk => ?_, r2, r3, by omega, by omega, by omega, r7.mono (by omega)⟩
    obtain ⟨k', rfl⟩ : ∃ k', k = k' + 1 := ⟨k - 1, by omega⟩
    show turnstilelaw9_Maker_list.f (k' + 1) raw a many d = _
    rw [turnstilelaw9_Maker_list.f, e1, Option.bind_some]
    exact r1 k' (by omega)
end Go.Proofs.Ytjbhhgecdcgpeaa.Tb
namespace Go.Proofs.Ytjbhhgecdcgpeaa.Tb
open Go Go.RowKit Go.Proofs.YtjbhhgecdcgpeaaW.PrintWords Go.Proofs.YtjbhhgecdcgpeaaW.PrintLast Go.Proofs.YtjbhhgecdcgpeaaW.PrintMore Go.Proofs.Ytjbhhgecdcgpeaa.TA
set_option linter.unusedSimpArgs false
set_option linter.unusedVariables false
theorem written_ok : ∀ (k : Nat) {l : List S43} {many deep m : Int}, looksP k l many deep = some (.ok m) → okV k l → many ≤ 500 → ∀ acc : List Int, (acc.length : Int) + 145 * (m - many) ≤ 9999 → ∃ r, writtenP k l acc = some (some r) ∧ (r.length : Int) ≤ acc.length + 145 * (m - many)
  | 0, _, _, _, _, h, _, _, _, _ => by simp [looksP] at h
  | k + 1, [], many, deep, m, h, hv, hm, acc, ha => by
    rw [looksP_nil] at h
    injection h with h
    injection h with h
    subst h
    exact ⟨acc, writtenP_nil, by omega⟩
  | k + 1, x :: l, many, deep, m, h, hv, hm, acc, ha => by
    obtain ⟨v1, v2, v3⟩ := hv
    by_cases g2 : many = 500
    · rw [looksP_many g2] at h; cases h
    by_cases g3 : 8 < deep
    · rw [looksP_deep g2 g3] at h; cases h
    cases g4 : badN x with
    | true => rw [looksP_bad g2 g3 g4] at h; cases h
    | false =>
    rw [looksP_in g2 g3 g4] at h
    obtain ⟨o, ho, h⟩ := Option.bind_eq_some_iff.mp h
    rcases o with c | m1
    · cases h
    have h : looksP k l m1 deep = some (.ok m) := h
    have hm1 := looksP_ok k ho (by omega)
    have hm2 := looksP_ok k h (by omega)
    have hp := partsL_len x.f0
    have fin : ∀ content : List Int, (content.length : Int) ≤ 139 + 145 * (m1 - (many + 1)) → (∀ b1, oneW acc content x.f0 = some b1 → writtenP (k + 1) (x :: l) acc = writtenP k l b1) → ∃ r, writtenP (k + 1) (x :: l) acc = some (some r) ∧ (r.length : Int) ≤ acc.length + 145 * (m - many) := by
      intro content hc hw
      have hs := sizeB_len content.length
      have hl : (acc ++ partsL x.f0 ++ sizeB content.length ++ content).length = acc.length + (partsL x.f0).length + (sizeB content.length).length + content.length := by simp only [List.length_append]
      have h1 := oneW_mk (b := acc) (content := content) (t := x.f0) (by omega)
      rw [hw _ h1]
      obtain ⟨r, hr, hrl⟩ := written_ok k h v3 (by omega) (acc ++ partsL x.f0 ++ sizeB content.length ++ content) (by omega)
      exact ⟨r, hr, by omega⟩
    cases hk : markedB x.f0 with
    | true =>
      obtain ⟨r, hr, hrl⟩ := written_ok k ho v2 (by omega) [] (by simp; omega)
      rw [List.length_nil] at hrl
      exact fin r (by omega) (fun b1 h1 => writtenP_mk_marked (by omega) hk hr h1)
    | false =>
      exact fin (bytesOf x.f1) (by rw [bytesOf_length]; omega) (fun b1 h1 => writtenP_mk_plain (by omega) hk h1)
/-- What is made of raw numbers: it is built, and read as it was. -/
theorem made_law {raw : List Int} (hr : rawOk raw) : ∃ (l : List S43) (m : Int) (r : List Int), madeP 400 raw = some l ∧ 0 ≤ m ∧ m ≤ 60 ∧ looksP 400 l 0 1 = some (.ok m) ∧ okV 400 l ∧ writtenP 400 l [] = some (some r) ∧ (r.length : Int) ≤ 145 * m := by
  obtain ⟨l, a', m, k1, k2, k3, k4, k5, k6, k7⟩ := (list_made hr 8 1 0 0 (by omega) (by omega) (by omega) (by omega) (by omega) (by omega) (by omega)).ex
  have h1 : turnstilelaw9_Maker_list.f 400 raw 0 0 1 = some (l, a', m) := k1 400 (by omega)
  obtain ⟨h2, h3⟩ := k7 400 0 (by omega) (by omega) (by omega)
  rw [show (0 : Int) + (m - 0) = m by omega] at h2
  obtain ⟨r, h4, h5⟩ := written_ok 400 h2 h3 (by omega) [] (by simp; omega)
  rw [List.length_nil] at h5
  exact ⟨l, m, r, by unfold madeP; rw [h1]; rfl, k2, k3, h2, h3, h4, by omega⟩
/-- In a law's words. -/
theorem made_built {raw : List Int} (hr : rawOk raw) : ∃ (l : List S43) (m : Int) (r : List Int), madeP 400 raw = some l ∧ 0 ≤ m ∧ m ≤ 60 ∧ looksP 400 l 0 1 = some (.ok m) ∧ okV 400 l ∧ writtenP 400 l [] = some (some r) ∧ r.length ≤ 9000 ∧ buildP 400 l = some (strOfNums r, 0) ∧ parseP (strOfNums r) = (l, 0, 0) := by
  obtain ⟨l, m, r, h1, h2, h3, h4, h5, h6, h7⟩ := made_law hr
  obtain ⟨b1, b2, b3⟩ := build_back h4 h6
  exact ⟨l, m, r, h1, h2, h3, h4, h5, h6, by omega, b1, b2⟩
end Go.Proofs.Ytjbhhgecdcgpeaa.Tb
namespace Go.Proofs.Ytjbhhgecdcgpeaa.Tb
open Go Go.RowKit Go.Proofs.YtjbhhgecdcgpeaaW.PrintWords Go.Proofs.YtjbhhgecdcgpeaaW.PrintLast Go.Proofs.YtjbhhgecdcgpeaaW.PrintMore Go.Proofs.Ytjbhhgecdcgpeaa.TA
set_option linter.unusedSimpArgs false
set_option linter.unusedVariables false
theorem okV_len : ∀ (k : Nat) {l : List S43}, okV k l → l.length < k
  | 0, _, h => h.elim
  | k + 1, [], _ => Nat.succ_pos _
  | k + 1, x :: l, h => by
    have := okV_len k h.2.2
    rw [List.length_cons]
    omega
theorem toList_inj {a b : ByteArray} : a.toList = b.toList ↔ a = b := by
  rw [ByteArray.toList_eq, ByteArray.toList_eq]
  constructor
  · intro h
    rcases a with ⟨⟨a⟩⟩
    rcases b with ⟨⟨b⟩⟩
    simp only at h
    rw [h]
  · intro h; rw [h]
theorem s43_ext {x y : S43} (h0 : x.f0 = y.f0) (h1 : x.f1 = y.f1) (h2 : x.f2 = y.f2) : x = y := by
  rcases x with ⟨a, b, c⟩
  rcases y with ⟨a', b', c'⟩
  simp only at h0 h1 h2
  rw [h0, h1, h2]
def SameL (k : Nat) : Prop := ∀ (l l' : List S43) (i : Int) (K : Nat), okV k (l.drop i.toNat) → k ≤ 1000000 → 0 ≤ i → i ≤ l.length → l.length = l'.length → l.length ≤ 1000000 → 2 * k ≤ K + 1 → ∃ b, turnstileref9_Same.l0 K l l' i = some b ∧ (b = true ↔ l.drop i.toNat = l'.drop i.toNat)
theorem same_of {k : Nat} (hL : SameL k) (l l' : List S43) (K : Nat) (h : okV k l) (hk : k ≤ 1000000) (hK : 2 * k ≤ K) : ∃ b, turnstileref9_Same.f K l l' = some b ∧ (b = true ↔ l = l') := by
  have hlen := okV_len k h
  obtain ⟨K', rfl⟩ : ∃ K', K = K' + 1 := ⟨K - 1, by omega⟩
  rw [turnstileref9_Same.f]
  by_cases g : (l.length : Int) = (l'.length : Int)
  · rw [if_pos g]
    have := hL l l' 0 K' (by simpa using h) hk (Int.le_refl _) (Int.natCast_nonneg _) (by omega) (by omega) (by omega)
    simpa using this
  · rw [if_neg g]
    exact ⟨false, rfl, fun h => by simp at h, fun h => absurd (by rw [h]) g⟩
theorem same_loop : ∀ k, SameL k := by
  intro k
  induction k with
  | zero => intro l l' i K h; exact h.elim
  | succ j ih =>
    intro l l' i K h hj h0 h1 hl hl2 hK
    obtain ⟨K', rfl⟩ : ∃ K', K = K' + 1 := ⟨K - 1, by omega⟩
    rw [turnstileref9_Same.l0]
    by_cases g1 : i < (l.length : Int)
    case neg =>
      rw [if_neg g1]
      refine ⟨true, rfl, ?_⟩
      rw [List.drop_eq_nil_of_le (by omega), List.drop_eq_nil_of_le (by omega)]
      exact ⟨fun _ => rfl, fun _ => rfl⟩
    rw [if_pos g1, if_pos h0, if_pos (by omega)]
    rw [drop_rd l i h0 g1] at h ⊢
    rw [drop_rd l' i h0 (by omega)]
    obtain ⟨v1, v2, v3⟩ := h
    obtain ⟨b1, e1, b1h⟩ := same_of ih (rd_T43 l i).f2 (rd_T43 l' i).f2 K' v2 (by omega) (by omega)
    rw [e1, Option.bind_some]
    cases b1 with
    | false =>
      rw [if_neg (by decide)]
      refine ⟨false, rfl, fun h => by simp at h, fun h => ?_⟩
      injection h with h _
      have := b1h.mpr (by rw [h])
      simp at this
    | true =>
    have hk := b1h.mp rfl
    rw [if_pos rfl]
    by_cases g2 : (rd_T43 l i).f0 = (rd_T43 l' i).f0
    case neg =>
      rw [if_neg g2]
      refine ⟨false, rfl, fun h => by simp at h, fun h => ?_⟩
      injection h with h _
      exact absurd (by rw [h]) g2
    rw [if_pos g2]
    by_cases g3 : (rd_T43 l i).f1.toList = (rd_T43 l' i).f1.toList
    case neg =>
      rw [if_neg g3]
      refine ⟨false, rfl, fun h => by simp at h, fun h => ?_⟩
      injection h with h _
      exact absurd (by rw [h]) g3
    rw [if_pos g3, w64 (n := i + 1) (by omega) (by omega)]
    obtain ⟨b2, e2, b2h⟩ := ih l l' (i + 1) K' v3 (by omega) (by omega) (by omega) hl hl2 (by omega)
    refine ⟨b2, e2, ?_⟩
    rw [b2h]
    have hx := s43_ext g2 (toList_inj.mp g3) hk
    constructor
    · intro h; rw [h, hx]
    · intro h; injection h
theorem same_law {k : Nat} (l l' : List S43) (K : Nat) (h : okV k l) (hk : k ≤ 1000000) (hK : 2 * k ≤ K) : ∃ b, turnstileref9_Same.f K l l' = some b ∧ (b = true ↔ l = l') := same_of (same_loop k) l l' K h hk hK
end Go.Proofs.Ytjbhhgecdcgpeaa.Tb
