/- Sub-elements read: the contract of subs. -/
import Derived.Test.YtjbhhgecdcgpeaaTbA
namespace Go.Proofs.Ytjbhhgecdcgpeaa.Tb
open Go Go.RowKit Go.Proofs.YtjbhhgecdcgpeaaW.PrintWords Go.Proofs.YtjbhhgecdcgpeaaW.PrintLast Go.Proofs.YtjbhhgecdcgpeaaW.PrintMore Go.Proofs.Ytjbhhgecdcgpeaa.TA
set_option linter.unusedSimpArgs false
set_option linter.unusedVariables false
abbrev SOut := Except (Int × Int) (List S43)
def consS (x : S43) : SOut → SOut
  | .error z => .error z
  | .ok l => .ok (x :: l)
def preS (l0 : List S43) : SOut → SOut
  | .error z => .error z
  | .ok l => .ok (l0 ++ l)
theorem preS_nil (o : SOut) : preS [] o = o := by rcases o with z | l <;> rfl
theorem preS_cons (l : List S43) (x : S43) (o : SOut) : preS l (consS x o) = preS (l ++ [x]) o := by
  rcases o with z | l'
  · rfl
  · simp [preS, consS]
/-- The first byte that is no sign, from a place on. -/
def badV (v : ByteArray) : Nat → Int → Option Int
  | 0, _ => none
  | k + 1, i => if bt v i < 32 then some i else if 126 < bt v i then some i else badV v k (i + 1)
/-- Two digits. -/
def twoP (b : ByteArray) (at_ code : Int) : Outc := match digitP b at_ code with
  | .error x => .error x
  | .ok (d, a) => match digitP b a code with
    | .error x => .error x
    | .ok (d2, a2) => .ok (10 * d + d2, a2)
theorem twoP_err1 {b : ByteArray} {at_ code : Int} {x : Int × Int} (h : digitP b at_ code = .error x) : twoP b at_ code = .error x := by simp [twoP, h]
theorem twoP_err2 {b : ByteArray} {at_ code d a : Int} {x : Int × Int} (h : digitP b at_ code = .ok (d, a)) (h1 : digitP b a code = .error x) : twoP b at_ code = .error x := by simp [twoP, h, h1]
theorem twoP_mk {b : ByteArray} {at_ code d a d2 a2 : Int} (h : digitP b at_ code = .ok (d, a)) (h1 : digitP b a code = .ok (d2, a2)) : twoP b at_ code = .ok (10 * d + d2, a2) := by simp [twoP, h, h1]
theorem twoP_ok {b : ByteArray} {at_ code n a : Int} (h : twoP b at_ code = .ok (n, a)) : at_ + 1 < b.size ∧ a = at_ + 2 ∧ 0 ≤ n ∧ n ≤ 99 := by
  unfold twoP at h
  split at h
  · cases h
  rename_i d a1 h1
  split at h
  · cases h
  rename_i d2 a2 h2
  have k1 := digitP_ok h1
  have k2 := digitP_ok h2
  injection h with h
  injection h with h3 h4
  omega
def subsP : Nat → ByteArray → Int → Nat → Option SOut
  | 0, _, _, _ => none
  | k + 1, b, at_, m =>
    if at_ < b.size then
      if m = 500 then some (.error (93, at_)) else
      match twoP b at_ 90 with
      | .error x => some (.error x)
      | .ok (t, a2) => match twoP b a2 91 with
        | .error x => some (.error x)
        | .ok (n, a4) =>
          if b.size - a4 < n then some (.error (10, b.size)) else
          match badV (b.extract a4.toNat (a4 + n).toNat) (b.extract a4.toNat (a4 + n).toNat).size 0 with
          | some i => some (.error (11, a4 + i))
          | none => (subsP k b (a4 + n) (m + 1)).map (consS ⟨t, b.extract a4.toNat (a4 + n).toNat, []⟩)
    else some (.ok [])
section
variable {k : Nat} {b : ByteArray} {at_ : Int} {m : Nat}
theorem subsP_end (h : ¬ at_ < b.size) : subsP (k + 1) b at_ m = some (.ok []) := by simp [subsP, h]
theorem subsP_many (h : at_ < b.size) (h1 : m = 500) : subsP (k + 1) b at_ m = some (.error (93, at_)) := by simp [subsP, h, h1]
theorem subsP_tag (h : at_ < b.size) (h1 : ¬ m = 500) {x : Int × Int} (h2 : twoP b at_ 90 = .error x) : subsP (k + 1) b at_ m = some (.error x) := by simp [subsP, h, h1, h2]
variable {t a2 : Int}
theorem subsP_len (h : at_ < b.size) (h1 : ¬ m = 500) (h2 : twoP b at_ 90 = .ok (t, a2)) {x : Int × Int} (h3 : twoP b a2 91 = .error x) : subsP (k + 1) b at_ m = some (.error x) := by simp [subsP, h, h1, h2, h3]
variable {n a4 : Int}
theorem subsP_short (h : at_ < b.size) (h1 : ¬ m = 500) (h2 : twoP b at_ 90 = .ok (t, a2)) (h3 : twoP b a2 91 = .ok (n, a4)) (h4 : b.size - a4 < n) : subsP (k + 1) b at_ m = some (.error (10, b.size)) := by simp [subsP, h, h1, h2, h3, h4]
variable {v : ByteArray}
theorem subsP_char (h : at_ < b.size) (h1 : ¬ m = 500) (h2 : twoP b at_ 90 = .ok (t, a2)) (h3 : twoP b a2 91 = .ok (n, a4)) (h4 : ¬ b.size - a4 < n) (hv : v = b.extract a4.toNat (a4 + n).toNat) {i : Int} (h5 : badV v v.size 0 = some i) : subsP (k + 1) b at_ m = some (.error (11, a4 + i)) := by
  subst hv
  simp only [subsP, h, h1, h2, h3, h4, h5, if_true, if_false]
theorem subsP_next (h : at_ < b.size) (h1 : ¬ m = 500) (h2 : twoP b at_ 90 = .ok (t, a2)) (h3 : twoP b a2 91 = .ok (n, a4)) (h4 : ¬ b.size - a4 < n) (hv : v = b.extract a4.toNat (a4 + n).toNat) (h5 : badV v v.size 0 = none) : subsP (k + 1) b at_ m = (subsP k b (a4 + n) (m + 1)).map (consS ⟨t, v, []⟩) := by
  subst hv
  simp only [subsP, h, h1, h2, h3, h4, h5, if_true, if_false]
end
theorem Chg.drew {F : Nat → Prop} {w w' : World} (h : Chg F w w') : Chg F w w'.drew := ⟨h.os, h.tape, h.output, h.size, h.block⟩
/-- How a reading of sub-elements ends. -/
def SEnds (r : Nat) (b : ByteArray) (o : SOut) (w : World) (z : Ending) (w' : World) : Prop := Chg (fun i => i = r) w w' ∧ match o with
  | .ok l => ∃ v, z = .returned v ∧ Kd.R k43 43 w' w.heap.size (fun _ => True) v l
  | .error (c, p) => z = gaveUp c p
def SbRel (w : World) (r : Nat) (b : ByteArray) (o : SOut) (K kq : Nat) (v3 : Value) (W : World) : Prop :=
  ∃ (acc : List S43) (at_ : Int) (o' : SOut), Kd.R k43 43 W w.heap.size (fun _ => True) v3 acc ∧ Reads W r b at_ 0 ∧ Chg (fun i => i = r) w W ∧ subsP kq b at_ acc.length = some o' ∧ o = preS acc o' ∧ 0 ≤ at_ ∧ acc.length ≤ 500 ∧ kq ≤ K
def IvRel (v : ByteArray) (bv : Option Int) (kq : Nat) (v75 : Value) (w W : World) : Prop := ∃ i : Int, v75 = .int .i64 i ∧ badV v kq i = bv ∧ i + kq = v.size ∧ 0 ≤ i ∧ W = w
set_option maxRecDepth 100000 in
set_option maxHeartbeats 1000000 in
theorem subs_calls (k : Nat) (w : World) (r : Nat) (b : ByteArray) (o : SOut) (hP : subsP k b 0 0 = some o) (hb : Reads w r b 0 0) (hs : b.size ≤ 1000000) :
    Calls Try.prog 43 #[.pointer (some ⟨r, 0, none⟩)] w fun z w' => SEnds r b o w z w' := by
  have hrw : r < w.heap.size := (Array.getElem?_eq_some_iff.mp hb).1
  have HR0 : SbRel w r b o k k (.slice none 0 0) w := ⟨[], 0, o, Kd.R_nil _ _ _ _ _, hb, Chg.refl _ _, hP, (preS_nil o).symm, Int.le_refl _, by simp, Nat.le_refl _⟩
  clear hP hb
  go_enter Try.func43, Try.ntmps43
  go_wp2
  go_loopg [3] k (fun kq v3 W => SbRel w r b o k kq v3 W)
  case atStart => exact HR0
  case round =>
    clear HR0
    obtain ⟨acc, at_, o', hO, hb, hC, hP, hpre, h0, hal, hkq⟩ := hrel
    have HO := Aside0.mk hO
    have HC := Aside0.mk hC
    have HPre := Aside0.mk hpre
    have HP := Aside0.mk hP
    clear hO hC hpre
    obtain ⟨z0, z1, _⟩ := hb.cell
    cases gk with
    | zero => exact absurd hP (by simp [subsP])
    | succ kf =>
    clear hP
    by_cases g1 : at_ < (b.size : Int)
    · have d1 : decide (at_ < (b.size : Int)) = true := decide_eq_true g1
      go_upto_region 2 with (fail)
      refine start_ (n := 10) (S := fun w' => w'.cell? ⟨r, 0, none⟩ = some (.string b) ∧ w'.cell? ⟨r, 1, none⟩ = some (.int .i64 at_)) (ds := []) #[false, false, false, false, false, false, false, false, false, false] (by kernel_rfl) rfl rfl ⟨z0, z1⟩ (fun hHeld => ?_)
      refine pure_ (i := 0) (N := some 8) (v := ?_) (a' := ?_) #[true, false, false, false, false, false, false, false, false, false] rfl rfl (by kernel_rfl) (fun _ _ _ h => h) (Or.inl ⟨by rfl, ?_⟩) ?_ ?_
      rotate_left
      · intro w'
        go_simp
        with_reducible rfl
      rotate_left
      · simp only [Act.put, List.setIfInBounds_toArray, List.set_cons_zero, List.set_cons_succ, i64_w, i32_w]
        rfl
      refine pure_ (i := 1) (N := some 9) (v := ?_) (a' := ?_) #[true, true, false, false, false, false, false, false, false, false] rfl rfl (by kernel_rfl) (fun _ _ _ h => h) (Or.inl ⟨by rfl, ?_⟩) ?_ ?_
      rotate_left
      · intro w'
        go_simp
        with_reducible rfl
      rotate_left
      · simp only [Act.put, List.setIfInBounds_toArray, List.set_cons_zero, List.set_cons_succ, i64_w, i32_w]
        rfl
      refine pure_ (i := 2) (N := some 10) (v := ?_) (a' := ?_) #[true, true, true, false, false, false, false, false, false, false] rfl rfl (by kernel_rfl) (fun _ _ _ h => h) (Or.inl ⟨by rfl, ?_⟩) ?_ ?_
      rotate_left
      · intro w'
        go_simp
        with_reducible rfl
      rotate_left
      · simp only [Act.put, List.setIfInBounds_toArray, List.set_cons_zero, List.set_cons_succ, i64_w, i32_w]
        rfl
      refine pure_ (i := 4) (N := some 12) (v := ?_) (a' := ?_) #[true, true, true, false, true, false, false, false, false, false] rfl rfl (by kernel_rfl) (fun _ _ _ h => h) (Or.inl ⟨by rfl, ?_⟩) ?_ ?_
      rotate_left
      · intro w'
        go_simp
        with_reducible rfl
      rotate_left
      · simp only [Act.put, List.setIfInBounds_toArray, List.set_cons_zero, List.set_cons_succ, i64_w, i32_w]
        rfl
      refine pure_ (i := 5) (N := some 13) (v := ?_) (a' := ?_) #[true, true, true, false, true, true, false, false, false, false] rfl rfl (by kernel_rfl) (fun _ _ _ h => h) (Or.inl ⟨by rfl, ?_⟩) ?_ ?_
      rotate_left
      · intro w'
        go_simp
        with_reducible rfl
      rotate_left
      · simp only [Act.put, List.setIfInBounds_toArray, List.set_cons_zero, List.set_cons_succ, i64_w, i32_w]
        rfl
      refine pure_ (i := 6) (N := some 14) (v := ?_) (a' := ?_) #[true, true, true, false, true, true, true, false, false, false] rfl rfl (by kernel_rfl) (fun _ _ _ h => h) (Or.inl ⟨by rfl, ?_⟩) ?_ ?_
      rotate_left
      · intro w'
        go_simp
        with_reducible rfl
      rotate_left
      · simp only [Act.put, List.setIfInBounds_toArray, List.set_cons_zero, List.set_cons_succ, i64_w, i32_w]
        rfl
      refine take_ (i := 3) (N := some 11) (v := ?_) (a' := ?_) #[true, true, true, true, true, true, true, false, false, false] rfl rfl (by kernel_rfl) (fun _ _ _ h => h) (Or.inl ⟨by rfl, ?_⟩) hHeld ?_ ?_
      rotate_left
      · rintro w' ⟨s0, s1⟩
        go_simp
        with_reducible rfl
      rotate_left
      · simp only [Act.put, List.setIfInBounds_toArray, List.set_cons_zero, List.set_cons_succ, i64_w, i32_w]
        rfl
      refine take_ (i := 7) (N := some 15) (v := ?_) (a' := ?_) #[true, true, true, true, true, true, true, true, false, false] rfl rfl (by kernel_rfl) (fun _ _ _ h => h) (Or.inl ⟨by rfl, ?_⟩) hHeld ?_ ?_
      rotate_left
      · rintro w' ⟨s0, s1⟩
        go_simp
        with_reducible rfl
      rotate_left
      · simp only [Act.put, List.setIfInBounds_toArray, List.set_cons_zero, List.set_cons_succ, i64_w, i32_w]
        rfl
      refine pure_ (i := 8) (N := some 16) (v := ?_) (a' := ?_) #[true, true, true, true, true, true, true, true, true, false] rfl rfl (by kernel_rfl) (fun _ _ _ h => h) (Or.inl ⟨by rfl, ?_⟩) ?_ ?_
      rotate_left
      · intro w'
        go_simp
        with_reducible rfl
      rotate_left
      · simp only [Act.put, List.setIfInBounds_toArray, List.set_cons_zero, List.set_cons_succ, i64_w, i32_w]
        rfl
      refine pure_ (i := 9) (N := some 17) (v := ?_) (a' := ?_) #[true, true, true, true, true, true, true, true, true, true] rfl rfl (by kernel_rfl) (fun _ _ _ h => h) (Or.inl ⟨by rfl, ?_⟩) ?_ ?_
      rotate_left
      · intro w'
        go_simp
        with_reducible rfl
      rotate_left
      · simp only [Act.put, List.setIfInBounds_toArray, List.set_cons_zero, List.set_cons_succ, i64_w, i32_w]
        rfl
      refine done_ (by kernel_rfl) ?_
      obtain ⟨w1, hw1⟩ : ∃ w1, w1 = wr.drew := ⟨_, rfl⟩
      rw [← hw1]
      have hR1 : Reads w1 r b at_ 0 := by rw [hw1]; exact hb
      have HC1 := Aside0.mk (show Chg (fun i => i = r) w w1 by rw [hw1]; exact HC.out.drew)
      have HO1 := Aside0.mk (show Kd.R k43 43 w1 w.heap.size (fun _ => True) u3 acc by rw [hw1]; exact Kd.R_drew HO.out)
      obtain ⟨A3, c3, e3⟩ := Kd.R_slice HO1.out
      subst e3
      clear hw1 z0 z1 d1 HC HO hb
      by_cases g2 : acc.length = 500
      · have hP := HP.out
        rw [subsP_many g1 g2] at hP
        obtain rfl := Option.some.inj hP
        have d2 : ((acc.length : Int) == 500) = true := beq_iff_eq.mpr (by omega)
        have d3 : (acc.length == 500) = true := beq_iff_eq.mpr g2
        obtain ⟨x0, x1, _⟩ := hR1.cell
        clear hP
        go_wp2
        refine ⟨rfl, HC1.out, ?_⟩
        rw [HPre.out]
        rfl
      have d2 : ((acc.length : Int) == 500) = false := beq_eq_false_iff_ne.mpr (by omega)
      have d3 : (acc.length == 500) = false := beq_eq_false_iff_ne.mpr g2
      go_upto_region 5 with (fail)
      clear d2 d3
      obtain ⟨o1, ho1⟩ : ∃ o, digitP b at_ 90 = o := ⟨_, rfl⟩
      have hd1 := digit_calls w1 r b at_ 0 90 hR1 (by omega) hs
      rw [ho1] at hd1
      have HD1 := Aside0.mk ho1
      clear ho1
      rcases o1 with ⟨c, p⟩ | ⟨e1, f1⟩
      · have hP := HP.out
        rw [subsP_tag g1 g2 (twoP_err1 HD1.out)] at hP
        obtain rfl := Option.some.inj hP
        clear hP
        go_wp2_with (go_at_call 76; (with_reducible refine hd1.mono ?_); rintro z wz ⟨hCz, rfl⟩)
        refine ⟨rfl, HC1.out.trans hCz (fun _ _ h => h), ?_⟩
        rw [HPre.out]
        rfl
      have k1 := digitP_ok HD1.out
      have hf1 := k1.2.1
      subst hf1
      obtain ⟨o2, ho2⟩ : ∃ o, digitP b (at_ + 1) 90 = o := ⟨_, rfl⟩
      have hd2 := fun wx (hR : Reads wx r b (at_ + 1) 0) => digit_calls wx r b (at_ + 1) 0 90 hR (by omega) hs
      rw [ho2] at hd2
      have HD2 := Aside0.mk ho2
      clear ho2
      have A11 := Aside0.mk hd2
      clear hd2
      rcases o2 with ⟨c, p⟩ | ⟨e2, f2⟩
      · have hP := HP.out
        rw [subsP_tag g1 g2 (twoP_err2 HD1.out HD2.out)] at hP
        obtain rfl := Option.some.inj hP
        clear hP
        go_wp2_with (first
          | (go_at_call 76; (with_reducible refine hd1.mono ?_); rintro z wy ⟨hCy, rfl, hRy⟩)
          | (go_at_call 76; (with_reducible refine (A11.out _ hRy).mono ?_); rintro z wz ⟨hCz, rfl⟩))
        refine ⟨rfl, (HC1.out.trans hCy (fun _ _ h => h)).trans hCz (fun _ _ h => h), ?_⟩
        rw [HPre.out]
        rfl
      have k2 := digitP_ok HD2.out
      have hf2 := k2.2.1
      subst hf2
      have T1 := Aside0.mk (show twoP b at_ 90 = .ok (10 * e1 + e2, at_ + 1 + 1) from twoP_mk HD1.out HD2.out)
      go_upto_region 6 with (first
        | (go_at_call 76; (with_reducible refine hd1.mono ?_); rintro z wy ⟨hCy, rfl, hRy⟩; have HCy := Aside0.mk hCy; clear hCy)
        | (go_at_call 76; (with_reducible refine (A11.out _ hRy).mono ?_); rintro z w3 ⟨hCz, rfl, hR3⟩; have HCz := Aside0.mk hCz; clear hCz))
      have HC3 := Aside0.mk ((HC1.out.trans HCy.out (fun _ _ h => h)).trans HCz.out (fun _ _ h => h))
      have HO3 := Aside0.mk (R_chg (R_chg HO1.out HCy.out (fun k _ hb hf => hC_lt hf hb hrw)) HCz.out (fun k _ hb hf => hC_lt hf hb hrw))
      clear hd1 A11 HCy HCz hRy HC1 HO1 hR1 HD1 HD2
      obtain ⟨t, ht⟩ : ∃ t, t = 10 * e1 + e2 := ⟨_, rfl⟩
      obtain ⟨a2, ha2⟩ : ∃ a2, a2 = at_ + 1 + 1 := ⟨_, rfl⟩
      rw [← ht, ← ha2] at T1
      rw [← ha2] at hR3
      rw [← ht]
      have hT1 : at_ + 1 < b.size ∧ at_ + 2 ≤ a2 ∧ a2 ≤ at_ + 2 ∧ 0 ≤ t ∧ t ≤ 99 := by have := twoP_ok T1.out; omega
      clear ht ha2
      obtain ⟨o3, ho3⟩ : ∃ o, digitP b a2 91 = o := ⟨_, rfl⟩
      have hd3 := digit_calls w3 r b a2 0 91 hR3 (by omega) hs
      rw [ho3] at hd3
      have HD3 := Aside0.mk ho3
      clear ho3
      rcases o3 with ⟨c, p⟩ | ⟨e3, f3⟩
      · have hP := HP.out
        rw [subsP_len g1 g2 T1.out (twoP_err1 HD3.out)] at hP
        obtain rfl := Option.some.inj hP
        clear hP
        go_wp2_with (go_at_call 76; (with_reducible refine hd3.mono ?_); rintro z wz ⟨hCz, rfl⟩)
        refine ⟨rfl, HC3.out.trans hCz (fun _ _ h => h), ?_⟩
        rw [HPre.out]
        rfl
      have k3 := digitP_ok HD3.out
      have hf3 := k3.2.1
      subst hf3
      obtain ⟨o4, ho4⟩ : ∃ o, digitP b (a2 + 1) 91 = o := ⟨_, rfl⟩
      have hd4 := fun wx (hR : Reads wx r b (a2 + 1) 0) => digit_calls wx r b (a2 + 1) 0 91 hR (by omega) hs
      rw [ho4] at hd4
      have HD4 := Aside0.mk ho4
      clear ho4
      have A13 := Aside0.mk hd4
      clear hd4
      rcases o4 with ⟨c, p⟩ | ⟨e4, f4⟩
      · have hP := HP.out
        rw [subsP_len g1 g2 T1.out (twoP_err2 HD3.out HD4.out)] at hP
        obtain rfl := Option.some.inj hP
        clear hP
        go_wp2_with (first
          | (go_at_call 76; (with_reducible refine hd3.mono ?_); rintro z wy ⟨hCy, rfl, hRy⟩)
          | (go_at_call 76; (with_reducible refine (A13.out _ hRy).mono ?_); rintro z wz ⟨hCz, rfl⟩))
        refine ⟨rfl, (HC3.out.trans hCy (fun _ _ h => h)).trans hCz (fun _ _ h => h), ?_⟩
        rw [HPre.out]
        rfl
      have k4 := digitP_ok HD4.out
      have hf4 := k4.2.1
      subst hf4
      have T3 := Aside0.mk (show twoP b a2 91 = .ok (10 * e3 + e4, a2 + 1 + 1) from twoP_mk HD3.out HD4.out)
      go_upto_region 7 with (first
        | (go_at_call 76; (with_reducible refine hd3.mono ?_); rintro z wy ⟨hCy, rfl, hRy⟩; have HCy := Aside0.mk hCy; clear hCy)
        | (go_at_call 76; (with_reducible refine (A13.out _ hRy).mono ?_); rintro z w5 ⟨hCz, rfl, hR5⟩; have HCz := Aside0.mk hCz; clear hCz))
      have HC5 := Aside0.mk ((HC3.out.trans HCy.out (fun _ _ h => h)).trans HCz.out (fun _ _ h => h))
      have HO5 := Aside0.mk (R_chg (R_chg HO3.out HCy.out (fun k _ hb hf => hC_lt hf hb hrw)) HCz.out (fun k _ hb hf => hC_lt hf hb hrw))
      clear hd3 A13 HCy HCz hRy HC3 HO3 hR3 HD3 HD4
      obtain ⟨n, hn⟩ : ∃ n, n = 10 * e3 + e4 := ⟨_, rfl⟩
      obtain ⟨a4, ha4⟩ : ∃ a4, a4 = a2 + 1 + 1 := ⟨_, rfl⟩
      rw [← hn, ← ha4] at T3
      rw [← ha4] at hR5
      rw [← hn]
      have hT3 : a2 + 1 < b.size ∧ a2 + 2 ≤ a4 ∧ a4 ≤ a2 + 2 ∧ 0 ≤ n ∧ n ≤ 99 := by have := twoP_ok T3.out; omega
      clear hn ha4
      obtain ⟨z0, z1, _⟩ := hR5.cell
      by_cases g4 : (b.size : Int) - a4 < n
      · have hP := HP.out
        rw [subsP_short g1 g2 T1.out T3.out g4] at hP
        obtain rfl := Option.some.inj hP
        have ew : wrap64 ((b.size : Int) - a4) = (b.size : Int) - a4 := by unfold wrap64; omega
        have d4 : decide ((b.size : Int) - a4 < n) = true := decide_eq_true g4
        clear hP
        refine start_ (n := 12) (S := fun w' => w'.cell? ⟨r, 0, none⟩ = some (.string b) ∧ w'.cell? ⟨r, 1, none⟩ = some (.int .i64 a4)) (ds := []) #[false, false, false, false, false, false, false, false, false, false, false, false] (by kernel_rfl) rfl rfl ⟨z0, z1⟩ (fun hHeld => ?_)
        refine pure_ (i := 0) (N := some 39) (v := ?_) (a' := ?_) #[true, false, false, false, false, false, false, false, false, false, false, false] rfl rfl (by kernel_rfl) (fun _ _ _ h => h) (Or.inl ⟨by rfl, ?_⟩) ?_ ?_
        rotate_left
        · intro w'
          go_simp
          with_reducible rfl
        rotate_left
        · simp only [Act.put, List.setIfInBounds_toArray, List.set_cons_zero, List.set_cons_succ, i64_w, i32_w]
          rfl
        refine pure_ (i := 1) (N := some 40) (v := ?_) (a' := ?_) #[true, true, false, false, false, false, false, false, false, false, false, false] rfl rfl (by kernel_rfl) (fun _ _ _ h => h) (Or.inl ⟨by rfl, ?_⟩) ?_ ?_
        rotate_left
        · intro w'
          go_simp
          with_reducible rfl
        rotate_left
        · simp only [Act.put, List.setIfInBounds_toArray, List.set_cons_zero, List.set_cons_succ, i64_w, i32_w]
          rfl
        refine pure_ (i := 2) (N := some 41) (v := ?_) (a' := ?_) #[true, true, true, false, false, false, false, false, false, false, false, false] rfl rfl (by kernel_rfl) (fun _ _ _ h => h) (Or.inl ⟨by rfl, ?_⟩) ?_ ?_
        rotate_left
        · intro w'
          go_simp
          with_reducible rfl
        rotate_left
        · simp only [Act.put, List.setIfInBounds_toArray, List.set_cons_zero, List.set_cons_succ, i64_w, i32_w]
          rfl
        refine pure_ (i := 3) (N := some 42) (v := ?_) (a' := ?_) #[true, true, true, true, false, false, false, false, false, false, false, false] rfl rfl (by kernel_rfl) (fun _ _ _ h => h) (Or.inl ⟨by rfl, ?_⟩) ?_ ?_
        rotate_left
        · intro w'
          go_simp
          with_reducible rfl
        rotate_left
        · simp only [Act.put, List.setIfInBounds_toArray, List.set_cons_zero, List.set_cons_succ, i64_w, i32_w]
          rfl
        refine pure_ (i := 6) (N := some 45) (v := ?_) (a' := ?_) #[true, true, true, true, false, false, true, false, false, false, false, false] rfl rfl (by kernel_rfl) (fun _ _ _ h => h) (Or.inl ⟨by rfl, ?_⟩) ?_ ?_
        rotate_left
        · intro w'
          go_simp
          with_reducible rfl
        rotate_left
        · simp only [Act.put, List.setIfInBounds_toArray, List.set_cons_zero, List.set_cons_succ, i64_w, i32_w]
          rfl
        refine pure_ (i := 7) (N := some 46) (v := ?_) (a' := ?_) #[true, true, true, true, false, false, true, true, false, false, false, false] rfl rfl (by kernel_rfl) (fun _ _ _ h => h) (Or.inl ⟨by rfl, ?_⟩) ?_ ?_
        rotate_left
        · intro w'
          go_simp
          with_reducible rfl
        rotate_left
        · simp only [Act.put, List.setIfInBounds_toArray, List.set_cons_zero, List.set_cons_succ, i64_w, i32_w]
          rfl
        refine pure_ (i := 8) (N := some 47) (v := ?_) (a' := ?_) #[true, true, true, true, false, false, true, true, true, false, false, false] rfl rfl (by kernel_rfl) (fun _ _ _ h => h) (Or.inl ⟨by rfl, ?_⟩) ?_ ?_
        rotate_left
        · intro w'
          go_simp
          with_reducible rfl
        rotate_left
        · simp only [Act.put, List.setIfInBounds_toArray, List.set_cons_zero, List.set_cons_succ, i64_w, i32_w]
          rfl
        refine take_ (i := 4) (N := some 43) (v := ?_) (a' := ?_) #[true, true, true, true, true, false, true, true, true, false, false, false] rfl rfl (by kernel_rfl) (fun _ _ _ h => h) (Or.inl ⟨by rfl, ?_⟩) hHeld ?_ ?_
        rotate_left
        · rintro w' ⟨s0, s1⟩
          go_simp
          with_reducible rfl
        rotate_left
        · simp only [Act.put, List.setIfInBounds_toArray, List.set_cons_zero, List.set_cons_succ, i64_w, i32_w]
          rfl
        refine pure_ (i := 5) (N := some 44) (v := ?_) (a' := ?_) #[true, true, true, true, true, true, true, true, true, false, false, false] rfl rfl (by kernel_rfl) (fun _ _ _ h => h) (Or.inl ⟨by rfl, ?_⟩) ?_ ?_
        rotate_left
        · intro w'
          go_simp
          with_reducible rfl
        rotate_left
        · simp only [Act.put, List.setIfInBounds_toArray, List.set_cons_zero, List.set_cons_succ, i64_w, i32_w]
          rfl
        refine take_ (i := 9) (N := some 48) (v := ?_) (a' := ?_) #[true, true, true, true, true, true, true, true, true, true, false, false] rfl rfl (by kernel_rfl) (fun _ _ _ h => h) (Or.inl ⟨by rfl, ?_⟩) hHeld ?_ ?_
        rotate_left
        · rintro w' ⟨s0, s1⟩
          go_simp
          with_reducible rfl
        rotate_left
        · simp only [Act.put, List.setIfInBounds_toArray, List.set_cons_zero, List.set_cons_succ, i64_w, i32_w]
          rfl
        refine pure_ (i := 10) (N := some 49) (v := ?_) (a' := ?_) #[true, true, true, true, true, true, true, true, true, true, true, false] rfl rfl (by kernel_rfl) (fun _ _ _ h => h) (Or.inl ⟨by rfl, ?_⟩) ?_ ?_
        rotate_left
        · intro w'
          go_simp
          with_reducible rfl
        rotate_left
        · simp only [Act.put, List.setIfInBounds_toArray, List.set_cons_zero, List.set_cons_succ, i64_w, i32_w]
          rfl
        refine pure_ (i := 11) (N := some 50) (v := ?_) (a' := ?_) #[true, true, true, true, true, true, true, true, true, true, true, true] rfl rfl (by kernel_rfl) (fun _ _ _ h => h) (Or.inl ⟨by rfl, ?_⟩) ?_ ?_
        rotate_left
        · intro w'
          go_simp
          with_reducible rfl
        rotate_left
        · simp only [Act.put, List.setIfInBounds_toArray, List.set_cons_zero, List.set_cons_succ, i64_w, i32_w]
          rfl
        refine done_ (by kernel_rfl) ?_
        clear ew
        obtain ⟨w6, hw6⟩ : ∃ w6, w6 = w5.drew := ⟨_, rfl⟩
        rw [← hw6]
        have hR6 : Reads w6 r b a4 0 := by rw [hw6]; exact hR5
        have hC6 : Chg (fun i => i = r) w w6 := by rw [hw6]; exact HC5.out.drew
        obtain ⟨x0, x1, _⟩ := hR6.cell
        clear hw6 z0 z1
        go_wp2
        refine ⟨rfl, hC6, ?_⟩
        rw [HPre.out]
        rfl
      have ew : wrap64 ((b.size : Int) - a4) = (b.size : Int) - a4 := by unfold wrap64; omega
      have d4 : decide ((b.size : Int) - a4 < n) = false := decide_eq_false g4
      refine start_ (n := 12) (S := fun w' => w'.cell? ⟨r, 0, none⟩ = some (.string b) ∧ w'.cell? ⟨r, 1, none⟩ = some (.int .i64 a4)) (ds := []) #[false, false, false, false, false, false, false, false, false, false, false, false] (by kernel_rfl) rfl rfl ⟨z0, z1⟩ (fun hHeld => ?_)
      refine pure_ (i := 0) (N := some 39) (v := ?_) (a' := ?_) #[true, false, false, false, false, false, false, false, false, false, false, false] rfl rfl (by kernel_rfl) (fun _ _ _ h => h) (Or.inl ⟨by rfl, ?_⟩) ?_ ?_
      rotate_left
      · intro w'
        go_simp
        with_reducible rfl
      rotate_left
      · simp only [Act.put, List.setIfInBounds_toArray, List.set_cons_zero, List.set_cons_succ, i64_w, i32_w]
        rfl
      refine pure_ (i := 1) (N := some 40) (v := ?_) (a' := ?_) #[true, true, false, false, false, false, false, false, false, false, false, false] rfl rfl (by kernel_rfl) (fun _ _ _ h => h) (Or.inl ⟨by rfl, ?_⟩) ?_ ?_
      rotate_left
      · intro w'
        go_simp
        with_reducible rfl
      rotate_left
      · simp only [Act.put, List.setIfInBounds_toArray, List.set_cons_zero, List.set_cons_succ, i64_w, i32_w]
        rfl
      refine pure_ (i := 2) (N := some 41) (v := ?_) (a' := ?_) #[true, true, true, false, false, false, false, false, false, false, false, false] rfl rfl (by kernel_rfl) (fun _ _ _ h => h) (Or.inl ⟨by rfl, ?_⟩) ?_ ?_
      rotate_left
      · intro w'
        go_simp
        with_reducible rfl
      rotate_left
      · simp only [Act.put, List.setIfInBounds_toArray, List.set_cons_zero, List.set_cons_succ, i64_w, i32_w]
        rfl
      refine pure_ (i := 3) (N := some 42) (v := ?_) (a' := ?_) #[true, true, true, true, false, false, false, false, false, false, false, false] rfl rfl (by kernel_rfl) (fun _ _ _ h => h) (Or.inl ⟨by rfl, ?_⟩) ?_ ?_
      rotate_left
      · intro w'
        go_simp
        with_reducible rfl
      rotate_left
      · simp only [Act.put, List.setIfInBounds_toArray, List.set_cons_zero, List.set_cons_succ, i64_w, i32_w]
        rfl
      refine pure_ (i := 6) (N := some 45) (v := ?_) (a' := ?_) #[true, true, true, true, false, false, true, false, false, false, false, false] rfl rfl (by kernel_rfl) (fun _ _ _ h => h) (Or.inl ⟨by rfl, ?_⟩) ?_ ?_
      rotate_left
      · intro w'
        go_simp
        with_reducible rfl
      rotate_left
      · simp only [Act.put, List.setIfInBounds_toArray, List.set_cons_zero, List.set_cons_succ, i64_w, i32_w]
        rfl
      refine pure_ (i := 7) (N := some 46) (v := ?_) (a' := ?_) #[true, true, true, true, false, false, true, true, false, false, false, false] rfl rfl (by kernel_rfl) (fun _ _ _ h => h) (Or.inl ⟨by rfl, ?_⟩) ?_ ?_
      rotate_left
      · intro w'
        go_simp
        with_reducible rfl
      rotate_left
      · simp only [Act.put, List.setIfInBounds_toArray, List.set_cons_zero, List.set_cons_succ, i64_w, i32_w]
        rfl
      refine pure_ (i := 8) (N := some 47) (v := ?_) (a' := ?_) #[true, true, true, true, false, false, true, true, true, false, false, false] rfl rfl (by kernel_rfl) (fun _ _ _ h => h) (Or.inl ⟨by rfl, ?_⟩) ?_ ?_
      rotate_left
      · intro w'
        go_simp
        with_reducible rfl
      rotate_left
      · simp only [Act.put, List.setIfInBounds_toArray, List.set_cons_zero, List.set_cons_succ, i64_w, i32_w]
        rfl
      refine take_ (i := 4) (N := some 43) (v := ?_) (a' := ?_) #[true, true, true, true, true, false, true, true, true, false, false, false] rfl rfl (by kernel_rfl) (fun _ _ _ h => h) (Or.inl ⟨by rfl, ?_⟩) hHeld ?_ ?_
      rotate_left
      · rintro w' ⟨s0, s1⟩
        go_simp
        with_reducible rfl
      rotate_left
      · simp only [Act.put, List.setIfInBounds_toArray, List.set_cons_zero, List.set_cons_succ, i64_w, i32_w]
        rfl
      refine pure_ (i := 5) (N := some 44) (v := ?_) (a' := ?_) #[true, true, true, true, true, true, true, true, true, false, false, false] rfl rfl (by kernel_rfl) (fun _ _ _ h => h) (Or.inl ⟨by rfl, ?_⟩) ?_ ?_
      rotate_left
      · intro w'
        go_simp
        with_reducible rfl
      rotate_left
      · simp only [Act.put, List.setIfInBounds_toArray, List.set_cons_zero, List.set_cons_succ, i64_w, i32_w]
        rfl
      refine take_ (i := 9) (N := some 48) (v := ?_) (a' := ?_) #[true, true, true, true, true, true, true, true, true, true, false, false] rfl rfl (by kernel_rfl) (fun _ _ _ h => h) (Or.inl ⟨by rfl, ?_⟩) hHeld ?_ ?_
      rotate_left
      · rintro w' ⟨s0, s1⟩
        go_simp
        with_reducible rfl
      rotate_left
      · simp only [Act.put, List.setIfInBounds_toArray, List.set_cons_zero, List.set_cons_succ, i64_w, i32_w]
        rfl
      refine pure_ (i := 10) (N := some 49) (v := ?_) (a' := ?_) #[true, true, true, true, true, true, true, true, true, true, true, false] rfl rfl (by kernel_rfl) (fun _ _ _ h => h) (Or.inl ⟨by rfl, ?_⟩) ?_ ?_
      rotate_left
      · intro w'
        go_simp
        with_reducible rfl
      rotate_left
      · simp only [Act.put, List.setIfInBounds_toArray, List.set_cons_zero, List.set_cons_succ, i64_w, i32_w]
        rfl
      refine pure_ (i := 11) (N := some 50) (v := ?_) (a' := ?_) #[true, true, true, true, true, true, true, true, true, true, true, true] rfl rfl (by kernel_rfl) (fun _ _ _ h => h) (Or.inl ⟨by rfl, ?_⟩) ?_ ?_
      rotate_left
      · intro w'
        go_simp
        with_reducible rfl
      rotate_left
      · simp only [Act.put, List.setIfInBounds_toArray, List.set_cons_zero, List.set_cons_succ, i64_w, i32_w]
        rfl
      refine done_ (by kernel_rfl) ?_
      clear ew
      obtain ⟨w6, hw6⟩ : ∃ w6, w6 = w5.drew := ⟨_, rfl⟩
      rw [← hw6]
      have hR6 : Reads w6 r b a4 0 := by rw [hw6]; exact hR5
      have HC6 := Aside0.mk (show Chg (fun i => i = r) w w6 by rw [hw6]; exact HC5.out.drew)
      have HO6 := Aside0.mk (show Kd.R k43 43 w6 w.heap.size (fun _ => True) _ acc by rw [hw6]; exact Kd.R_drew HO5.out)
      clear hw6 z0 z1 HC5 HO5 hR5
      obtain ⟨z0, z1, _⟩ := hR6.cell
      go_upto_region 9 with (fail)
      clear d4
      have ew : wrap64 (a4 + n) = a4 + n := by unfold wrap64; omega
      have s1 : (0 ≤ a4) = True := eq_true (by omega)
      have s2 : (a4 ≤ a4 + n) = True := eq_true (by omega)
      have s3 : (a4 + n ≤ (b.size : Int)) = True := eq_true (by omega)
      have s4 : (0 ≤ a4 + n) = True := eq_true (by omega)
      refine start_ (n := 16) (S := fun w' => w'.cell? ⟨r, 0, none⟩ = some (.string b) ∧ w'.cell? ⟨r, 1, none⟩ = some (.int .i64 a4)) (ds := []) #[false, false, false, false, false, false, false, false, false, false, false, false, false, false, false, false] (by kernel_rfl) rfl rfl ⟨z0, z1⟩ (fun hHeld => ?_)
      refine pure_ (i := 0) (N := some 58) (v := ?_) (a' := ?_) #[true, false, false, false, false, false, false, false, false, false, false, false, false, false, false, false] rfl rfl (by kernel_rfl) (fun _ _ _ h => h) (Or.inl ⟨by rfl, ?_⟩) ?_ ?_
      rotate_left
      · intro w'
        go_simp
        with_reducible rfl
      rotate_left
      · simp only [Act.put, List.setIfInBounds_toArray, List.set_cons_zero, List.set_cons_succ, i64_w, i32_w]
        rfl
      refine pure_ (i := 1) (N := some 59) (v := ?_) (a' := ?_) #[true, true, false, false, false, false, false, false, false, false, false, false, false, false, false, false] rfl rfl (by kernel_rfl) (fun _ _ _ h => h) (Or.inl ⟨by rfl, ?_⟩) ?_ ?_
      rotate_left
      · intro w'
        go_simp
        with_reducible rfl
      rotate_left
      · simp only [Act.put, List.setIfInBounds_toArray, List.set_cons_zero, List.set_cons_succ, i64_w, i32_w]
        rfl
      refine pure_ (i := 2) (N := some 60) (v := ?_) (a' := ?_) #[true, true, true, false, false, false, false, false, false, false, false, false, false, false, false, false] rfl rfl (by kernel_rfl) (fun _ _ _ h => h) (Or.inl ⟨by rfl, ?_⟩) ?_ ?_
      rotate_left
      · intro w'
        go_simp
        with_reducible rfl
      rotate_left
      · simp only [Act.put, List.setIfInBounds_toArray, List.set_cons_zero, List.set_cons_succ, i64_w, i32_w]
        rfl
      refine pure_ (i := 4) (N := some 62) (v := ?_) (a' := ?_) #[true, true, true, false, true, false, false, false, false, false, false, false, false, false, false, false] rfl rfl (by kernel_rfl) (fun _ _ _ h => h) (Or.inl ⟨by rfl, ?_⟩) ?_ ?_
      rotate_left
      · intro w'
        go_simp
        with_reducible rfl
      rotate_left
      · simp only [Act.put, List.setIfInBounds_toArray, List.set_cons_zero, List.set_cons_succ, i64_w, i32_w]
        rfl
      refine pure_ (i := 5) (N := some 63) (v := ?_) (a' := ?_) #[true, true, true, false, true, true, false, false, false, false, false, false, false, false, false, false] rfl rfl (by kernel_rfl) (fun _ _ _ h => h) (Or.inl ⟨by rfl, ?_⟩) ?_ ?_
      rotate_left
      · intro w'
        go_simp
        with_reducible rfl
      rotate_left
      · simp only [Act.put, List.setIfInBounds_toArray, List.set_cons_zero, List.set_cons_succ, i64_w, i32_w]
        rfl
      refine pure_ (i := 6) (N := some 64) (v := ?_) (a' := ?_) #[true, true, true, false, true, true, true, false, false, false, false, false, false, false, false, false] rfl rfl (by kernel_rfl) (fun _ _ _ h => h) (Or.inl ⟨by rfl, ?_⟩) ?_ ?_
      rotate_left
      · intro w'
        go_simp
        with_reducible rfl
      rotate_left
      · simp only [Act.put, List.setIfInBounds_toArray, List.set_cons_zero, List.set_cons_succ, i64_w, i32_w]
        rfl
      refine pure_ (i := 8) (N := some 66) (v := ?_) (a' := ?_) #[true, true, true, false, true, true, true, false, true, false, false, false, false, false, false, false] rfl rfl (by kernel_rfl) (fun _ _ _ h => h) (Or.inl ⟨by rfl, ?_⟩) ?_ ?_
      rotate_left
      · intro w'
        go_simp
        with_reducible rfl
      rotate_left
      · simp only [Act.put, List.setIfInBounds_toArray, List.set_cons_zero, List.set_cons_succ, i64_w, i32_w]
        rfl
      refine pure_ (i := 9) (N := some 67) (v := ?_) (a' := ?_) #[true, true, true, false, true, true, true, false, true, true, false, false, false, false, false, false] rfl rfl (by kernel_rfl) (fun _ _ _ h => h) (Or.inl ⟨by rfl, ?_⟩) ?_ ?_
      rotate_left
      · intro w'
        go_simp
        with_reducible rfl
      rotate_left
      · simp only [Act.put, List.setIfInBounds_toArray, List.set_cons_zero, List.set_cons_succ, i64_w, i32_w]
        rfl
      refine pure_ (i := 10) (N := some 68) (v := ?_) (a' := ?_) #[true, true, true, false, true, true, true, false, true, true, true, false, false, false, false, false] rfl rfl (by kernel_rfl) (fun _ _ _ h => h) (Or.inl ⟨by rfl, ?_⟩) ?_ ?_
      rotate_left
      · intro w'
        go_simp
        with_reducible rfl
      rotate_left
      · simp only [Act.put, List.setIfInBounds_toArray, List.set_cons_zero, List.set_cons_succ, i64_w, i32_w]
        rfl
      refine pure_ (i := 12) (N := some 70) (v := ?_) (a' := ?_) #[true, true, true, false, true, true, true, false, true, true, true, false, true, false, false, false] rfl rfl (by kernel_rfl) (fun _ _ _ h => h) (Or.inl ⟨by rfl, ?_⟩) ?_ ?_
      rotate_left
      · intro w'
        go_simp
        with_reducible rfl
      rotate_left
      · simp only [Act.put, List.setIfInBounds_toArray, List.set_cons_zero, List.set_cons_succ, i64_w, i32_w]
        rfl
      refine take_ (i := 3) (N := some 61) (v := ?_) (a' := ?_) #[true, true, true, true, true, true, true, false, true, true, true, false, true, false, false, false] rfl rfl (by kernel_rfl) (fun _ _ _ h => h) (Or.inl ⟨by rfl, ?_⟩) hHeld ?_ ?_
      rotate_left
      · rintro w' ⟨s0, s1⟩
        go_simp
        with_reducible rfl
      rotate_left
      · simp only [Act.put, List.setIfInBounds_toArray, List.set_cons_zero, List.set_cons_succ, i64_w, i32_w]
        rfl
      refine take_ (i := 7) (N := some 65) (v := ?_) (a' := ?_) #[true, true, true, true, true, true, true, true, true, true, true, false, true, false, false, false] rfl rfl (by kernel_rfl) (fun _ _ _ h => h) (Or.inl ⟨by rfl, ?_⟩) hHeld ?_ ?_
      rotate_left
      · rintro w' ⟨s0, s1⟩
        go_simp
        with_reducible rfl
      rotate_left
      · simp only [Act.put, List.setIfInBounds_toArray, List.set_cons_zero, List.set_cons_succ, i64_w, i32_w]
        rfl
      refine take_ (i := 11) (N := some 69) (v := ?_) (a' := ?_) #[true, true, true, true, true, true, true, true, true, true, true, true, true, false, false, false] rfl rfl (by kernel_rfl) (fun _ _ _ h => h) (Or.inl ⟨by rfl, ?_⟩) hHeld ?_ ?_
      rotate_left
      · rintro w' ⟨s0, s1⟩
        go_simp
        with_reducible rfl
      rotate_left
      · simp only [Act.put, List.setIfInBounds_toArray, List.set_cons_zero, List.set_cons_succ, i64_w, i32_w]
        rfl
      refine pure_ (i := 13) (N := some 71) (v := ?_) (a' := ?_) #[true, true, true, true, true, true, true, true, true, true, true, true, true, true, false, false] rfl rfl (by kernel_rfl) (fun _ _ _ h => h) (Or.inl ⟨by rfl, ?_⟩) ?_ ?_
      rotate_left
      · intro w'
        go_simp
        with_reducible rfl
      rotate_left
      · simp only [Act.put, List.setIfInBounds_toArray, List.set_cons_zero, List.set_cons_succ, i64_w, i32_w]
        rfl
      refine pure_ (i := 14) (N := some 72) (v := ?_) (a' := ?_) #[true, true, true, true, true, true, true, true, true, true, true, true, true, true, true, false] rfl rfl (by kernel_rfl) (fun _ _ _ h => h) (Or.inl ⟨by rfl, ?_⟩) ?_ ?_
      rotate_left
      · intro w'
        go_simp
        with_reducible rfl
      rotate_left
      · simp only [Act.put, List.setIfInBounds_toArray, List.set_cons_zero, List.set_cons_succ, i64_w, i32_w]
        rfl
      refine pure_ (i := 15) (N := some 6) (v := ?_) (a' := ?_) #[true, true, true, true, true, true, true, true, true, true, true, true, true, true, true, true] rfl rfl (by kernel_rfl) (fun _ _ _ h => h) (Or.inl ⟨by rfl, ?_⟩) ?_ ?_
      rotate_left
      · intro w'
        go_simp
        with_reducible rfl
      rotate_left
      · simp only [Act.put, List.setIfInBounds_toArray, List.set_cons_zero, List.set_cons_succ, i64_w, i32_w]
        rfl
      refine done_ (by kernel_rfl) ?_
      clear ew s1 s2 s3 s4
      obtain ⟨v, hv⟩ : ∃ v, v = b.extract a4.toNat (a4 + n).toNat := ⟨_, rfl⟩
      rw [← hv]
      obtain ⟨w7, hw7⟩ : ∃ w7, w7 = w6.drew := ⟨_, rfl⟩
      rw [← hw7]
      have hR7 : Reads w7 r b a4 0 := by rw [hw7]; exact hR6
      have HC7 := Aside0.mk (show Chg (fun i => i = r) w w7 by rw [hw7]; exact HC6.out.drew)
      have HO7 := Aside0.mk (show Kd.R k43 43 w7 w.heap.size (fun _ => True) _ acc by rw [hw7]; exact Kd.R_drew HO6.out)
      have hvs : (v.size : Int) = n := by rw [hv]; simp [ByteArray.size_extract]; omega
      have HV := Aside0.mk hv
      have HVS := Aside0.mk hvs
      have hvm : v.size ≤ 1000000 := by omega
      clear hw7 z0 z1 HC6 HO6 hR6 hv hvs
      obtain ⟨bv, hbv⟩ : ∃ bv, badV v v.size 0 = bv := ⟨_, rfl⟩
      have HI0 : IvRel v bv v.size (.int .i64 0) w7 w7 := ⟨0, rfl, hbv, by omega, Int.le_refl _, rfl⟩
      have HBV := Aside0.mk hbv
      clear hbv
      obtain ⟨x0, x1, _⟩ := hR7.cell
      go_wp2
      go_loopg [75] v.size (fun kq v75 W => IvRel v bv kq v75 w7 W)
      case atStart => exact HI0
      case round =>
        clear HI0
        obtain ⟨i, rfl, hI, hik, hi0, rfl⟩ := hrel
        have HI := Aside0.mk hI
        clear hI
        cases gk with
        | succ k2 =>
          have d5 : decide (i < (v.size : Int)) = true := decide_eq_true (by omega)
          have c1 : (0 ≤ i) = True := eq_true hi0
          have c2 : (i < (v.size : Int)) = True := eq_true (by omega)
          have c3 : i.toNat < v.size := by omega
          have hbt := bt_at v i c3
          have hrg := bt_range v i
          by_cases g5 : bt v i < 32
          · have hP := HP.out
            have HBi : badV v v.size 0 = some i := by rw [HBV.out, ← HI.out]; unfold badV; rw [if_pos g5]
            rw [subsP_char g1 g2 T1.out T3.out (by omega) HV.out HBi] at hP
            obtain rfl := Option.some.inj hP
            have HBj := Aside0.mk HBi
            have d6 : decide (bt v i < 32) = true := decide_eq_true g5
            clear hP HBi
            go_wp2
            refine ⟨rfl, HC7.out, ?_⟩
            rw [HPre.out]
            rfl
          have d6 : decide (bt v i < 32) = false := decide_eq_false g5
          by_cases g6 : 126 < bt v i
          · have hP := HP.out
            have HBi : badV v v.size 0 = some i := by rw [HBV.out, ← HI.out]; unfold badV; rw [if_neg g5, if_pos g6]
            rw [subsP_char g1 g2 T1.out T3.out (by omega) HV.out HBi] at hP
            obtain rfl := Option.some.inj hP
            have HBj := Aside0.mk HBi
            have d7 : decide (126 < bt v i) = true := decide_eq_true g6
            clear hP HBi
            go_wp2
            refine ⟨rfl, HC7.out, ?_⟩
            rw [HPre.out]
            rfl
          have d7 : decide (126 < bt v i) = false := decide_eq_false g6
          have hn2 : badV v k2 (i + 1) = bv := by rw [← HI.out]; conv => rhs; unfold badV; rw [if_neg g5, if_neg g6]
          have HN2 := Aside0.mk hn2
          have hik2 : i + 1 + k2 = v.size := by omega
          have HIK := Aside0.mk hik2
          clear hn2 hik2 hik
          go_wp2
          go_roundg k2
          case measure => exact Nat.lt_succ_self _
          case rel => exact ⟨i + 1, by first | rfl | go_num, HN2.out, HIK.out, by omega, rfl⟩
        | zero =>
          have hiv : i = v.size := by omega
          subst hiv
          have hbn : badV v v.size 0 = none := by rw [HBV.out, ← HI.out]; rfl
          have hP := HP.out
          rw [subsP_next g1 g2 T1.out T3.out (by omega) HV.out hbn] at hP
          obtain ⟨o2, ho2, he2⟩ := Option.map_eq_some_iff.mp hP
          have HK2 := Aside0.mk ho2
          have HE2 := Aside0.mk he2
          have d5 : decide ((v.size : Int) < (v.size : Int)) = false := decide_eq_false (by omega)
          have f1 := hR7.frozen 1
          clear hP ho2 he2 hbn hik hi0
          go_upto_region 17 with (fail)
          obtain ⟨w8, hw8⟩ : ∃ w8, w8 = wr.setCell ⟨r, 1, none⟩ (.int .i64 (a4 + n)) := ⟨_, rfl⟩
          rw [← hw8]
          have hR8 : Reads w8 r b (a4 + n) 0 := by rw [hw8]; exact hR7.set1 _
          have hS8 : Chg (fun i => i = r) wr w8 := by rw [hw8]; exact (Chg.refl _ _).set ⟨r, 1, none⟩ _ rfl
          have HC8 := Aside0.mk (HC7.out.trans hS8 (fun _ _ h => h))
          have HO8 := Aside0.mk (R_chg HO7.out hS8 (fun k _ hb hf => hC_lt hf hb hrw))
          have HM8 := Aside0.mk (k43_mkM w8 w.heap.size (fun _ => False) (⟨t, v, []⟩ : S43) (Kd.R_nil k43 43 w8 w.heap.size (fun _ => False)))
          have hws8 := HC8.out.size
          clear hw8 hS8 f1 x0 x1
          go_wp2_with ((with_reducible refine gate_builtin (b := .append) (xs := #[.tmp 105, .tmp 109]) rfl ?_); at_builtin; refine Kd.R_append k43 (w0 := w8) w.heap.size rfl (.tmp 105) (.tmp 109) 23 43 (.agg #[(.int .i64 0), (.string ⟨#[]⟩), (.slice none 0 0)]) 48 rfl Try.underlying23 info43 rfl (by decide) (by decide) (.slice A3 acc.length c3) acc (⟨t, v, []⟩ : S43) [.int .i64 t, .string v, .slice none 0 0] (fun _ => True) (fun _ => False) rfl rfl HM8.out (fun _ h => h.elim) (fun _ _ => trivial) HO8.out (Below.refl _ _) hws8 (by omega) ?_; intro v9 w9 hO9 hB9 hG9 hat9; have HO9 := Aside0.mk hO9; have HG9 := Aside0.mk hG9; clear hO9 hB9 hG9 hat9)
          have hC9 : Chg (fun i => w.heap.size ≤ i) w8 w9 := Chg.of_grown HG9.out (fun k hk => Kd.R_base HO8.out k hk)
          go_roundg kf
          case measure => exact Nat.lt_succ_self _
          case rel => exact ⟨acc ++ [⟨t, v, []⟩], a4 + n, o2, HO9.out, hR8.kept hC9 (by omega), HC8.out.trans hC9 (fun i hi hg => by omega), by rw [List.length_append]; exact HK2.out, by rw [HPre.out, ← HE2.out, preS_cons], by omega, by simp; omega, by omega⟩
    · have hP := HP.out
      rw [subsP_end g1] at hP
      obtain rfl := Option.some.inj hP
      have d1 : decide (at_ < (b.size : Int)) = false := decide_eq_false g1
      clear hP
      go_upto_region 2 with (fail)
      refine start_ (n := 10) (S := fun w' => w'.cell? ⟨r, 0, none⟩ = some (.string b) ∧ w'.cell? ⟨r, 1, none⟩ = some (.int .i64 at_)) (ds := []) #[false, false, false, false, false, false, false, false, false, false] (by kernel_rfl) rfl rfl ⟨z0, z1⟩ (fun hHeld => ?_)
      refine pure_ (i := 0) (N := some 8) (v := ?_) (a' := ?_) #[true, false, false, false, false, false, false, false, false, false] rfl rfl (by kernel_rfl) (fun _ _ _ h => h) (Or.inl ⟨by rfl, ?_⟩) ?_ ?_
      rotate_left
      · intro w'
        go_simp
        with_reducible rfl
      rotate_left
      · simp only [Act.put, List.setIfInBounds_toArray, List.set_cons_zero, List.set_cons_succ, i64_w, i32_w]
        rfl
      refine pure_ (i := 1) (N := some 9) (v := ?_) (a' := ?_) #[true, true, false, false, false, false, false, false, false, false] rfl rfl (by kernel_rfl) (fun _ _ _ h => h) (Or.inl ⟨by rfl, ?_⟩) ?_ ?_
      rotate_left
      · intro w'
        go_simp
        with_reducible rfl
      rotate_left
      · simp only [Act.put, List.setIfInBounds_toArray, List.set_cons_zero, List.set_cons_succ, i64_w, i32_w]
        rfl
      refine pure_ (i := 2) (N := some 10) (v := ?_) (a' := ?_) #[true, true, true, false, false, false, false, false, false, false] rfl rfl (by kernel_rfl) (fun _ _ _ h => h) (Or.inl ⟨by rfl, ?_⟩) ?_ ?_
      rotate_left
      · intro w'
        go_simp
        with_reducible rfl
      rotate_left
      · simp only [Act.put, List.setIfInBounds_toArray, List.set_cons_zero, List.set_cons_succ, i64_w, i32_w]
        rfl
      refine pure_ (i := 4) (N := some 12) (v := ?_) (a' := ?_) #[true, true, true, false, true, false, false, false, false, false] rfl rfl (by kernel_rfl) (fun _ _ _ h => h) (Or.inl ⟨by rfl, ?_⟩) ?_ ?_
      rotate_left
      · intro w'
        go_simp
        with_reducible rfl
      rotate_left
      · simp only [Act.put, List.setIfInBounds_toArray, List.set_cons_zero, List.set_cons_succ, i64_w, i32_w]
        rfl
      refine pure_ (i := 5) (N := some 13) (v := ?_) (a' := ?_) #[true, true, true, false, true, true, false, false, false, false] rfl rfl (by kernel_rfl) (fun _ _ _ h => h) (Or.inl ⟨by rfl, ?_⟩) ?_ ?_
      rotate_left
      · intro w'
        go_simp
        with_reducible rfl
      rotate_left
      · simp only [Act.put, List.setIfInBounds_toArray, List.set_cons_zero, List.set_cons_succ, i64_w, i32_w]
        rfl
      refine pure_ (i := 6) (N := some 14) (v := ?_) (a' := ?_) #[true, true, true, false, true, true, true, false, false, false] rfl rfl (by kernel_rfl) (fun _ _ _ h => h) (Or.inl ⟨by rfl, ?_⟩) ?_ ?_
      rotate_left
      · intro w'
        go_simp
        with_reducible rfl
      rotate_left
      · simp only [Act.put, List.setIfInBounds_toArray, List.set_cons_zero, List.set_cons_succ, i64_w, i32_w]
        rfl
      refine take_ (i := 3) (N := some 11) (v := ?_) (a' := ?_) #[true, true, true, true, true, true, true, false, false, false] rfl rfl (by kernel_rfl) (fun _ _ _ h => h) (Or.inl ⟨by rfl, ?_⟩) hHeld ?_ ?_
      rotate_left
      · rintro w' ⟨s0, s1⟩
        go_simp
        with_reducible rfl
      rotate_left
      · simp only [Act.put, List.setIfInBounds_toArray, List.set_cons_zero, List.set_cons_succ, i64_w, i32_w]
        rfl
      refine take_ (i := 7) (N := some 15) (v := ?_) (a' := ?_) #[true, true, true, true, true, true, true, true, false, false] rfl rfl (by kernel_rfl) (fun _ _ _ h => h) (Or.inl ⟨by rfl, ?_⟩) hHeld ?_ ?_
      rotate_left
      · rintro w' ⟨s0, s1⟩
        go_simp
        with_reducible rfl
      rotate_left
      · simp only [Act.put, List.setIfInBounds_toArray, List.set_cons_zero, List.set_cons_succ, i64_w, i32_w]
        rfl
      refine pure_ (i := 8) (N := some 16) (v := ?_) (a' := ?_) #[true, true, true, true, true, true, true, true, true, false] rfl rfl (by kernel_rfl) (fun _ _ _ h => h) (Or.inl ⟨by rfl, ?_⟩) ?_ ?_
      rotate_left
      · intro w'
        go_simp
        with_reducible rfl
      rotate_left
      · simp only [Act.put, List.setIfInBounds_toArray, List.set_cons_zero, List.set_cons_succ, i64_w, i32_w]
        rfl
      refine pure_ (i := 9) (N := some 17) (v := ?_) (a' := ?_) #[true, true, true, true, true, true, true, true, true, true] rfl rfl (by kernel_rfl) (fun _ _ _ h => h) (Or.inl ⟨by rfl, ?_⟩) ?_ ?_
      rotate_left
      · intro w'
        go_simp
        with_reducible rfl
      rotate_left
      · simp only [Act.put, List.setIfInBounds_toArray, List.set_cons_zero, List.set_cons_succ, i64_w, i32_w]
        rfl
      refine done_ (by kernel_rfl) ?_
      go_wp2
      go_ret
      refine ⟨HC.out.drew, ?_⟩
      rw [HPre.out]
      exact ⟨_, rfl, by rw [List.append_nil]; exact Kd.R_drew HO.out⟩
end Go.Proofs.Ytjbhhgecdcgpeaa.Tb
