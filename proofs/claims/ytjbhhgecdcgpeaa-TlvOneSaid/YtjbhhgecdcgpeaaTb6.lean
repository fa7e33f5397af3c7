/- Parse: its contract. -/
import Derived.Test.YtjbhhgecdcgpeaaTb5
namespace Go.Proofs.Ytjbhhgecdcgpeaa.Tb
open Go Go.RowKit Go.Proofs.YtjbhhgecdcgpeaaW.PrintWords Go.Proofs.YtjbhhgecdcgpeaaW.PrintLast Go.Proofs.YtjbhhgecdcgpeaaW.PrintMore Go.Proofs.Ytjbhhgecdcgpeaa.TA
set_option linter.unusedSimpArgs false
set_option linter.unusedVariables false
theorem nodesP_some : ∀ (k : Nat) (b : ByteArray) (e deep at_ many : Int), 0 ≤ at_ → many ≤ 500 → (e - at_).toNat < k → ∃ o, nodesP k b e deep at_ many = some o
  | 0, _, _, _, _, _, _, _, h => absurd h (by omega)
  | k + 1, b, e, deep, at_, many, h0, hm, hk => by
    by_cases g1 : at_ < e
    · by_cases g2 : many = 500
      · exact ⟨_, nodesP_many g1 g2⟩
      by_cases g3 : 8 < deep
      · exact ⟨_, nodesP_deep g1 g2 g3⟩
      rcases ht : tagP b at_ e with x | ⟨t, a1⟩
      · exact ⟨_, nodesP_tag g1 g2 g3 ht⟩
      have tk := tagP_ok ht h0
      rcases hl : lenP b a1 e with x | ⟨n, a2⟩
      · exact ⟨_, nodesP_len g1 g2 g3 ht hl⟩
      have lk := lenP_ok hl (by omega)
      by_cases g4 : e - a2 < n
      · exact ⟨_, nodesP_short g1 g2 g3 ht hl g4⟩
      cases hmk : markedB t with
      | true =>
        rw [nodesP_kids g1 g2 g3 ht hl g4 hmk]
        obtain ⟨ok, hok⟩ := nodesP_some k b (a2 + n) (deep + 1) a2 (many + 1) (by omega) (by omega) (by omega)
        rw [hok]
        rcases ok with x | ⟨kids, a3, m3⟩
        · exact ⟨_, rfl⟩
        · have kk := nodesP_ok k hok (by omega) (by omega)
          have := kk.2.2.1 (by omega)
          obtain ⟨o2, ho2⟩ := nodesP_some k b e deep a3 m3 (by omega) (by omega) (by omega)
          exact ⟨_, by rw [Option.bind_some]; unfold kidsN; simp only [ho2]; rfl⟩
      | false =>
        rw [nodesP_plain g1 g2 g3 ht hl g4 hmk]
        obtain ⟨o2, ho2⟩ := nodesP_some k b e deep (a2 + n) (many + 1) (by omega) (by omega) (by omega)
        exact ⟨_, by rw [ho2]; rfl⟩
    · exact ⟨_, nodesP_end g1⟩
/-- All nodes of bytes. -/
def readP (b : ByteArray) : NOut := (nodesP (b.size + 1) b b.size 1 0 0).getD (.error (0, 0))
theorem readP_some (b : ByteArray) : nodesP (b.size + 1) b b.size 1 0 0 = some (readP b) := by
  obtain ⟨o, ho⟩ := nodesP_some (b.size + 1) b b.size 1 0 0 (by omega) (by omega) (by omega)
  unfold readP
  rw [ho]
  rfl
/-- What Parse answers. -/
def parseP (b : ByteArray) : List S43 × Int × Int := if 9999 < b.size then ([], 91, 0) else match readP b with
  | .ok (l, _, _) => (l, 0, 0)
  | .error (c, p) => ([], c, p)
set_option maxRecDepth 100000 in
set_option maxHeartbeats 1000000 in
theorem parse_calls (w : World) (b : ByteArray) (hs : b.size ≤ 140737488355328) :
    Calls Try.prog 14 #[.string b] w fun e w' => ∃ v0_ : Value, e = .returned (.tuple #[v0_, .int .i64 (parseP b).2.1, .int .i64 (parseP b).2.2]) ∧ Kd.R k43 43 w' w.heap.size (fun _ => True) v0_ (parseP b).1 ∧ Below w.heap.size w w' := by
  by_cases g : (9999 : Int) < b.size
  · have hp : parseP b = ([], 91, 0) := by unfold parseP; rw [if_pos (by omega)]
    rw [hp]
    have d : decide ((9999 : Int) < (b.size : Int)) = true := decide_eq_true g
    go_enter_defers Try.func14, Try.ntmps14
    go_wp2
    have hb : Below w.heap.size w ((w.alloc (.cells #[.int .i64 91] 24)).alloc (.cells #[.int .i64 0] 3)) := below_alloc (below_alloc (Below.refl _ _) _) _
    simp [bodyPostD, Leaves, settle, results, Try.results14, go_sem]
    exact ⟨Kd.R_nil _ _ _ _ _, hb⟩
  · have hr := readP_some b
    have hp : parseP b = match readP b with
      | .ok (l, _, _) => (l, 0, 0)
      | .error (c, p) => ([], c, p) := by unfold parseP; rw [if_neg (by omega)]
    have d : decide ((9999 : Int) < (b.size : Int)) = false := decide_eq_false g
    generalize readP b = o at hr hp
    have HP := Aside0.mk hp
    have HN := Aside0.mk hr
    clear hp hr
    go_enter_defers Try.func14, Try.ntmps14
    go_upto_region 4 with (fail)
    obtain ⟨w1, hw1⟩ : ∃ w1, w1 = (w.alloc (.cells #[.int .i64 0] 24)).alloc (.cells #[.int .i64 0] 3) := ⟨_, rfl⟩
    obtain ⟨c, hc⟩ : ∃ c, c = w.heap.size := ⟨_, rfl⟩
    obtain ⟨a, ha⟩ : ∃ a, a = w.heap.size + 1 := ⟨_, rfl⟩
    have hb1 : Below w.heap.size w w1 := by rw [hw1]; exact below_alloc (below_alloc (Below.refl _ _) _) _
    have hB : Below w.heap.size w w := Below.refl _ _
    have hsz : w1.heap.size = w.heap.size + 2 := by rw [hw1]; simp
    have hc1 : w1.heap[c]? = some (.cells #[.int .i64 0] 24 (0, 0)) := by rw [hw1, hc]; exact blk_alloc (heap_alloc_new _ _) _
    have ha1 : w1.heap[a]? = some (.cells #[.int .i64 0] 3 (0, 0)) := by
      rw [hw1, ha]
      have := heap_alloc_new (w.alloc (.cells #[.int .i64 0] 24)) (.cells #[.int .i64 0] 3)
      rwa [show (w.alloc (.cells #[.int .i64 0] 24)).heap.size = w.heap.size + 1 by simp] at this
    rw [← hw1, ← ha, ← hc]
    obtain ⟨w2, hw2⟩ : ∃ w2, w2 = w1.alloc (.cells #[.string b, .int .i64 0, .int .i64 0] 72) := ⟨_, rfl⟩
    obtain ⟨r, hr⟩ : ∃ r, r = w1.heap.size := ⟨_, rfl⟩
    have hb2 : Below w1.heap.size w1 w2 := by rw [hw2]; exact below_alloc (Below.refl _ _) _
    have hR2 : Reads w2 r b 0 0 := by rw [hw2, hr]; exact heap_alloc_new _ _
    have hn := nodes_calls (b.size + 1) w2 r b 0 0 b.size 1 o HN.out hR2 (by omega) (by omega) (by omega) (by omega) (by omega) (by omega) (by omega)
    have hc2 := blk_below hc1 hb2
    have ha2 := blk_below ha1 hb2
    have hrc : r ≠ c := by omega
    have hra : r ≠ a := by omega
    have hca : c ≠ a := by omega
    have hge : w.heap.size ≤ r := by omega
    have hgc : w.heap.size ≤ c := by omega
    have hga : w.heap.size ≤ a := by omega
    have hsz2 : w.heap.size ≤ w2.heap.size := by have := hb2.size; omega
    have HB2 := Aside0.mk (below_step hb1 hb2)
    have HB1 := Aside0.mk hb1
    have hn' : Calls Try.prog 42 #[.pointer (some ⟨w1.heap.size, 0, none⟩), .int .i64 b.size, .int .i64 1] (w1.alloc (.cells #[.string b, .int .i64 0, .int .i64 0] 72)) fun z w' => NEnds r b o w2 z w' := by rw [← hr, ← hw2]; exact hn
    clear hsz hb1 hB hw1 hw2 hr hc ha hn hb2 hc1 ha1
    rcases o with ⟨code, at_⟩ | ⟨l, pa, pm⟩
    · go_wp2_with (go_at_call 42; (with_reducible refine hn'.mono ?_); rintro z w3 ⟨hC3, rfl⟩)
      have hc3 := (hC3.block c (blk_lt hc2) (fun h => hrc h.symm)).trans hc2
      have ha3 := (hC3.block a (blk_lt ha2) (fun h => hra h.symm)).trans ha2
      refine leaves_cons (f := 41) (args := #[.pointer (some ⟨c, 0, none⟩), .pointer (some ⟨a, 0, none⟩)]) (by simp) (by simp [go_sem]) ?_
      refine (face_panicking c a 0 0 code at_ w3 hca hc3 ha3 []).mono ?_
      rintro e u' w4 ⟨rfl, rfl, hc4, ha4, hC4⟩
      have x0 : w4.cell? ⟨c, 0, none⟩ = some (.int .i64 code) := (blk_cell hc4 0).trans rfl
      have x1 : w4.cell? ⟨a, 0, none⟩ = some (.int .i64 at_) := (blk_cell ha4 0).trans rfl
      have hB4 : Below w.heap.size w w4 := hC4.below (hC3.below HB2.out (fun i hi => by omega) hsz2) (fun i hi => by omega) (Nat.le_trans hsz2 hC3.size)
      rw [HP.out]
      simp [Leaves, settle, results, Try.results14, go_sem, x0, x1]
      exact ⟨Kd.R_nil _ _ _ _ _, hB4⟩
    · go_wp2_with (go_at_call 42; (with_reducible refine hn'.mono ?_); rintro z w3 ⟨hC3, ⟨v, rfl, hO3⟩, hR3⟩; have hc3 := (hC3.block c (blk_lt hc2) (fun h => hrc h.symm)).trans hc2; have ha3 := (hC3.block a (blk_lt ha2) (fun h => hra h.symm)).trans ha2; have x0 : w3.cell? ⟨c, 0, none⟩ = some (.int .i64 0) := (blk_cell hc3 0).trans rfl; have x1 : w3.cell? ⟨a, 0, none⟩ = some (.int .i64 0) := (blk_cell ha3 0).trans rfl; have f0 := blk_frozen hc3 0; have f1 := blk_frozen ha3 0; have HC3 := Aside0.mk hC3; have HO3 := Aside0.mk hO3; clear hC3 hO3)
      obtain ⟨w4, hw4⟩ : ∃ w4, w4 = (w3.setCell ⟨c, 0, none⟩ (.int .i64 0)).setCell ⟨a, 0, none⟩ (.int .i64 0) := ⟨_, rfl⟩
      rw [← hw4]
      have hc4 : w4.heap[c]? = some (.cells #[.int .i64 0] 24 (0, 0)) := by rw [hw4]; exact blk_far (blk_put hc3 0 _ rfl) (p := ⟨a, 0, none⟩) hca _
      have ha4 : w4.heap[a]? = some (.cells #[.int .i64 0] 3 (0, 0)) := by rw [hw4]; exact blk_put (blk_far ha3 (p := ⟨c, 0, none⟩) (fun h => hca h.symm) _) 0 _ rfl
      have hC4 : Chg (fun i => i = c ∨ i = a) w3 w4 := by
        rw [hw4]
        exact ((Chg.refl _ _).set ⟨c, 0, none⟩ _ (.inl rfl)).set ⟨a, 0, none⟩ _ (.inr rfl)
      have y0 : w4.cell? ⟨c, 0, none⟩ = some (.int .i64 0) := (blk_cell hc4 0).trans rfl
      have y1 : w4.cell? ⟨a, 0, none⟩ = some (.int .i64 0) := (blk_cell ha4 0).trans rfl
      have hB4 : Below w.heap.size w w4 := hC4.below (HC3.out.below HB2.out (fun i hi => by omega) hsz2) (fun i hi => by omega) (Nat.le_trans hsz2 HC3.out.size)
      have hcl := blk_lt hc2
      have hal := blk_lt ha2
      have hO4 : Kd.R k43 43 w4 w.heap.size (fun _ => True) v l := Kd.R_lower (R_chg HO3.out hC4 (fun k _ hb hf => by omega)) hsz2
      clear hw4
      refine leaves_cons (f := 41) (args := #[.pointer (some ⟨c, 0, none⟩), .pointer (some ⟨a, 0, none⟩)]) (by simp) (by simp [go_sem]) ?_
      refine (face_idle (.pointer (some ⟨c, 0, none⟩)) (.pointer (some ⟨a, 0, none⟩)) w4).mono ?_
      rintro e u' w5 ⟨rfl, rfl, rfl⟩
      rw [HP.out]
      simp [Leaves, settle, results, Try.results14, go_sem, y0, y1]
      exact ⟨hO4, hB4⟩
end Go.Proofs.Ytjbhhgecdcgpeaa.Tb
