/- The plain law: what Parse reads Build builds as these bytes; what is given up is given up within them. -/
import Derived.Test.YtjbhhgecdcgpeaaPlA
namespace Go.Proofs.Ytjbhhgecdcgpeaa.Tb
open Go Go.RowKit Go.Proofs.YtjbhhgecdcgpeaaW.PrintWords Go.Proofs.YtjbhhgecdcgpeaaW.PrintLast Go.Proofs.YtjbhhgecdcgpeaaW.PrintMore Go.Proofs.Ytjbhhgecdcgpeaa.TA
set_option linter.unusedSimpArgs false
set_option linter.unusedVariables false
theorem writtenP_mk_marked {k : Nat} {x : S43} {l : List S43} {b content b1 : List Int} (hs : x.f1.size ≤ 140737488340000) (hm : markedB x.f0 = true) (hk : writtenP k x.f2 [] = some (some content)) (h1 : oneW b content x.f0 = some b1) : writtenP (k + 1) (x :: l) b = writtenP k l b1 := by
  rw [writtenP, if_pos hs, if_pos hm, hk, Option.bind_some]
  simp only [h1]
theorem writtenP_mk_plain {k : Nat} {x : S43} {l : List S43} {b b1 : List Int} (hs : x.f1.size ≤ 140737488340000) (hm : markedB x.f0 = false) (h1 : oneW b (bytesOf x.f1) x.f0 = some b1) : writtenP (k + 1) (x :: l) b = writtenP k l b1 := by
  rw [writtenP, if_pos hs, if_neg (by rw [hm]; decide), Option.bind_some]
  simp only [h1]
theorem oneW_mk {b content : List Int} {t : Int} (h : (b ++ partsL t ++ sizeB content.length ++ content).length ≤ 9999) : oneW b content t = some (b ++ partsL t ++ sizeB content.length ++ content) := by
  unfold oneW
  rw [if_neg (by omega)]
theorem badN_marked {t : Int} {kids : List S43} (hp : partsL t ≠ []) (hm : markedB t = true) : badN ⟨t, ⟨#[]⟩, kids⟩ = false := by
  unfold badN
  rw [hm]
  have : (partsL t).isEmpty = false := by simpa using hp
  rw [this, ByteArray.toList_eq]
  rfl
theorem badN_plain {t : Int} {v : ByteArray} (hp : partsL t ≠ []) (hm : markedB t = false) : badN ⟨t, v, []⟩ = false := by
  unfold badN
  rw [hm]
  have : (partsL t).isEmpty = false := by simpa using hp
  rw [this]
  simp
theorem nodes_back : ∀ (k : Nat) {b : ByteArray} {e deep at_ many : Int} {l : List S43} {a m : Int}, nodesP k b e deep at_ many = some (.ok (l, a, m)) → 0 ≤ at_ → at_ ≤ e → e ≤ b.size → many ≤ 500 →
    looksP k l many deep = some (.ok m) ∧ ∀ acc : List Int, acc.length + (e - at_).toNat ≤ 9999 → writtenP k l acc = some (some (acc ++ seg b at_ e))
  | 0, _, _, _, _, _, _, _, _, h, _, _, _, _ => by simp [nodesP] at h
  | k + 1, b, e, deep, at_, many, l, a, m, h, h0, h1, h2, hm => by
    by_cases g1 : at_ < e
    case neg =>
      rw [nodesP_end g1] at h
      injection h with h
      injection h with h
      injection h with e1 e2
      injection e2 with e2 e3
      subst e1 e3
      have : e = at_ := by omega
      subst this
      refine ⟨looksP_nil, fun acc _ => ?_⟩
      rw [writtenP_nil, seg_nil, List.append_nil]
    by_cases g2 : many = 500
    · rw [nodesP_many g1 g2] at h; cases h
    by_cases g3 : 8 < deep
    · rw [nodesP_deep g1 g2 g3] at h; cases h
    cases ht : tagP b at_ e with
    | error x => rw [nodesP_tag g1 g2 g3 ht] at h; cases h
    | ok ta =>
    obtain ⟨t, a1⟩ := ta
    obtain ⟨s1, b1, b2, b3⟩ := tag_seg ht h0 h2
    cases hl : lenP b a1 e with
    | error x => rw [nodesP_len g1 g2 g3 ht hl] at h; cases h
    | ok na =>
    obtain ⟨n, a2⟩ := na
    obtain ⟨s2, c1, c2, c3, c4⟩ := len_seg hl (by omega) h2
    by_cases g4 : e - a2 < n
    · rw [nodesP_short g1 g2 g3 ht hl g4] at h; cases h
    have j1 := seg_join b at_ a1 a2 h0 (by omega) (by omega)
    have j2 := seg_join b at_ a2 (a2 + n) h0 (by omega) (by omega)
    have j3 := seg_join b at_ (a2 + n) e h0 (by omega) (by omega)
    have hsl : (seg b a2 (a2 + n)).length = n.toNat := by rw [seg_len b _ _ (by omega) (by omega) (by omega)]; omega
    have hn : ((seg b a2 (a2 + n)).length : Int) = n := by rw [hsl]; omega
    have one : ∀ acc : List Int, acc.length + (e - at_).toNat ≤ 9999 → oneW acc (seg b a2 (a2 + n)) t = some (acc ++ seg b at_ (a2 + n)) := by
      intro acc ha
      have ez : acc ++ partsL t ++ sizeB (seg b a2 (a2 + n)).length ++ seg b a2 (a2 + n) = acc ++ seg b at_ (a2 + n) := by
        rw [hn, s1, s2, ← j2, ← j1]
        simp only [List.append_assoc]
      rw [oneW_mk (by rw [ez, List.length_append, seg_len b _ _ h0 (by omega) (by omega)]; omega), ez]
    have nxt : ∀ acc : List Int, acc.length + (e - at_).toNat ≤ 9999 → (acc ++ seg b at_ (a2 + n)).length + (e - (a2 + n)).toNat ≤ 9999 := by
      intro acc ha
      rw [List.length_append, seg_len b _ _ h0 (by omega) (by omega)]
      omega
    have f1 : 0 ≤ a2 + n := by omega
    have f2 : a2 + n ≤ e := by omega
    have f3 : many + 1 ≤ 500 := by omega
    have f4 : 0 ≤ a2 := by omega
    have f5 : a2 ≤ a2 + n := by omega
    have f6 : a2 + n ≤ b.size := by omega
    have f7 : n.toNat ≤ 9999 := by omega
    cases hk : markedB t with
    | true =>
      rw [nodesP_kids g1 g2 g3 ht hl g4 hk] at h
      obtain ⟨o, ho, h⟩ := Option.bind_eq_some_iff.mp h
      rcases o with x | ⟨kids, a3, m3⟩
      · cases h
      obtain ⟨o2, ho2, h'⟩ := Option.map_eq_some_iff.mp h
      clear h
      rcases o2 with x | ⟨rest, a4, m4⟩
      · cases h'
      have h := h'
      have z1 := nodesP_ok k ho f4 f3
      have ea : a3 = a2 + n := z1.2.2.1 f5
      subst ea
      obtain ⟨i1, i2⟩ := nodes_back k ho f4 f5 f6 f3
      obtain ⟨r1, r2⟩ := nodes_back k ho2 f1 f2 h2 z1.2.2.2.2
      injection h with h
      injection h with e1 e2
      injection e2 with e2 e3
      subst e1 e3
      refine ⟨?_, fun acc ha => ?_⟩
      · rw [looksP_in g2 g3 (badN_marked b3 hk), i1, Option.bind_some]
        exact r1
      · have i3 := i2 [] (by simp; omega)
        rw [List.nil_append] at i3
        have i4 := writtenP_mk_marked (x := ⟨t, ⟨#[]⟩, kids⟩) (l := rest) (b := acc) (Nat.zero_le _) hk i3 (one acc ha)
        rw [i4, r2 _ (nxt acc ha), List.append_assoc, j3]
    | false =>
      rw [nodesP_plain g1 g2 g3 ht hl g4 hk] at h
      obtain ⟨o2, ho2, h'⟩ := Option.map_eq_some_iff.mp h
      clear h
      rcases o2 with x | ⟨rest, a4, m4⟩
      · cases h'
      have h := h'
      obtain ⟨r1, r2⟩ := nodes_back k ho2 f1 f2 h2 f3
      injection h with h
      injection h with e1 e2
      injection e2 with e2 e3
      subst e1 e3
      obtain ⟨k', rfl⟩ : ∃ k', k = k' + 1 := by
        cases k with
        | zero => simp [nodesP] at ho2
        | succ k' => exact ⟨k', rfl⟩
      have hv := bytesOf_extract b a2 (a2 + n) f4 f5 f6
      have hvs : (b.extract a2.toNat (a2 + n).toNat).size = n.toNat := by rw [← bytesOf_length, hv, hsl]
      refine ⟨?_, fun acc ha => ?_⟩
      · rw [looksP_in g2 g3 (badN_plain b3 hk)]
        show (looksP (k' + 1) [] (many + 1) (deep + 1)).bind _ = _
        rw [looksP_nil, Option.bind_some]
        exact r1
      · rw [writtenP_mk_plain (by show (b.extract a2.toNat (a2 + n).toNat).size ≤ _; rw [hvs]; exact Nat.le_trans f7 (by decide)) hk (by
          show oneW acc (bytesOf (b.extract a2.toNat (a2 + n).toNat)) t = _
          rw [hv]
          exact one acc ha), r2 _ (nxt acc ha), List.append_assoc, j3]
theorem tag_err {b : ByteArray} {at_ e : Int} {x : Int × Int} (h : tagP b at_ e = .error x) (h0 : 0 ≤ at_) (h1 : at_ ≤ e) : x.1 ≠ 0 ∧ 0 ≤ x.2 ∧ x.2 ≤ e := by
  unfold tagP at h
  repeat' split at h
  all_goals first | (cases h; done) | (injection h with h; subst h; exact ⟨by simp, by show (0 : Int) ≤ _; omega, by show _ ≤ e; omega⟩)
theorem len_err {b : ByteArray} {at_ e : Int} {x : Int × Int} (h : lenP b at_ e = .error x) (h0 : 0 ≤ at_) (h1 : at_ ≤ e) : x.1 ≠ 0 ∧ 0 ≤ x.2 ∧ x.2 ≤ e := by
  unfold lenP at h
  repeat' split at h
  all_goals first | (cases h; done) | (injection h with h; subst h; exact ⟨by simp, by show (0 : Int) ≤ _; omega, by show _ ≤ e; omega⟩)
theorem nodes_err : ∀ (k : Nat) {b : ByteArray} {e deep at_ many : Int} {x : Int × Int}, nodesP k b e deep at_ many = some (.error x) → 0 ≤ at_ → at_ ≤ e → many ≤ 500 → x.1 ≠ 0 ∧ 0 ≤ x.2 ∧ x.2 ≤ e
  | 0, _, _, _, _, _, _, h, _, _, _ => by simp [nodesP] at h
  | k + 1, b, e, deep, at_, many, x, h, h0, h1, hm => by
    by_cases g1 : at_ < e
    case neg => rw [nodesP_end g1] at h; cases h
    by_cases g2 : many = 500
    · rw [nodesP_many g1 g2] at h
      injection h with h
      injection h with h
      subst h
      exact ⟨by simp, h0, h1⟩
    by_cases g3 : 8 < deep
    · rw [nodesP_deep g1 g2 g3] at h
      injection h with h
      injection h with h
      subst h
      exact ⟨by simp, h0, h1⟩
    cases ht : tagP b at_ e with
    | error y =>
      rw [nodesP_tag g1 g2 g3 ht] at h
      injection h with h
      injection h with h
      subst h
      exact tag_err ht h0 h1
    | ok ta =>
    obtain ⟨t, a1⟩ := ta
    have tk := tagP_ok ht h0
    cases hl : lenP b a1 e with
    | error y =>
      rw [nodesP_len g1 g2 g3 ht hl] at h
      injection h with h
      injection h with h
      subst h
      exact len_err hl (by omega) (by omega)
    | ok na =>
    obtain ⟨n, a2⟩ := na
    have lk := lenP_ok hl (by omega)
    by_cases g4 : e - a2 < n
    · rw [nodesP_short g1 g2 g3 ht hl g4] at h
      injection h with h
      injection h with h
      subst h
      exact ⟨by simp, by show (0 : Int) ≤ e; omega, Int.le_refl _⟩
    cases hk : markedB t with
    | true =>
      rw [nodesP_kids g1 g2 g3 ht hl g4 hk] at h
      obtain ⟨o, ho, h⟩ := Option.bind_eq_some_iff.mp h
      rcases o with y | ⟨kids, a3, m3⟩
      · have := nodes_err k ho (by omega) (by omega) (by omega)
        injection h with h
        injection h with h
        subst h
        exact ⟨this.1, this.2.1, by omega⟩
      have z1 := nodesP_ok k ho (by omega) (by omega)
      have ea : a3 = a2 + n := z1.2.2.1 (by omega)
      subst ea
      obtain ⟨o2, ho2, h'⟩ := Option.map_eq_some_iff.mp h
      clear h
      rcases o2 with y | ⟨rest, a4, m4⟩
      · have := nodes_err k ho2 (by omega) (by omega) (by omega)
        injection h' with h'
        subst h'
        exact this
      · cases h'
    | false =>
      rw [nodesP_plain g1 g2 g3 ht hl g4 hk] at h
      obtain ⟨o2, ho2, h⟩ := Option.map_eq_some_iff.mp h
      rcases o2 with y | ⟨rest, a4, m4⟩
      · have := nodes_err k ho2 (by omega) (by omega) (by omega)
        injection h with h
        subst h
        exact this
      · cases h
theorem strOf_bytes (b : ByteArray) : strOfNums (bytesOf b) = b := by
  rcases b with ⟨⟨l⟩⟩
  unfold strOfNums bytesOf
  simp only [List.map_map]
  congr 2
  conv => rhs; rw [← List.map_id l]
  apply List.map_congr_left
  intro c _
  show UInt8.ofNat ((c.toNat : Int)).toNat = c
  simp
theorem strOf_nil : strOfNums [] = ⟨#[]⟩ := rfl
/-- What Parse answers. -/
theorem parse_law (b : ByteArray) : 0 ≤ (parseP b).2.2 ∧ (parseP b).2.2 ≤ b.size ∧ ((parseP b).2.1 ≠ 0 → (parseP b).1 = []) ∧ ((parseP b).2.1 = 0 → (parseP b).2.2 = 0 ∧ buildP (b.size + 1) (parseP b).1 = some (b, 0)) := by
  unfold parseP
  by_cases g : 9999 < b.size
  · rw [if_pos g]
    exact ⟨Int.le_refl _, Int.natCast_nonneg _, fun _ => rfl, fun h => absurd h (by decide)⟩
  rw [if_neg g]
  have h := readP_some b
  cases hr : readP b with
  | error x =>
    obtain ⟨c, p⟩ := x
    rw [hr] at h
    have := nodes_err _ h (Int.le_refl _) (Int.natCast_nonneg _) (by decide)
    exact ⟨this.2.1, this.2.2, fun _ => rfl, fun hc => absurd hc this.1⟩
  | ok o =>
    obtain ⟨l, a, m⟩ := o
    rw [hr] at h
    obtain ⟨i1, i2⟩ := nodes_back _ h (Int.le_refl _) (Int.natCast_nonneg _) (Int.le_refl _) (by decide)
    refine ⟨Int.le_refl _, Int.natCast_nonneg _, fun hc => absurd rfl hc, fun _ => ⟨rfl, ?_⟩⟩
    show buildP (b.size + 1) l = _
    have i3 := i2 [] (by simp; omega)
    rw [List.nil_append, seg_all] at i3
    unfold buildP
    rw [i1, Option.bind_some]
    show (writtenP _ l []).map _ = _
    rw [i3]
    show some (strOfNums (bytesOf b), (0 : Int)) = _
    rw [strOf_bytes]
end Go.Proofs.Ytjbhhgecdcgpeaa.Tb
