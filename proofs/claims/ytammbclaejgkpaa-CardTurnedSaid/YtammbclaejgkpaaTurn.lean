/- What turnstilelaw5.CardTurned answers: the walk of its code. -/
import Derived.Test.YtammbclaejgkpaaTur
namespace Go.Proofs.Ytammbclaejgkpaa.CardTurnedWalk
open Go Go.RowKit Go.Proofs.YtammbclaejgkpaaW.PrintWords Go.Proofs.YtammbclaejgkpaaW.PrintLast Go.Proofs.YtammbclaejgkpaaW.PrintMore
theorem beqd (a b : Int) : (a == b) = decide (a = b) := by
  by_cases h : a = b
  · subst h; simp
  · rw [decide_eq_false h]; exact beq_eq_false_iff_ne.mpr h
set_option maxRecDepth 100000 in
set_option maxHeartbeats 3000000 in
theorem turned_calls (k : Nat) (A0 : Option Addr) (c0 : Nat) (l0 : List Int) (many at_ by_ : Int) (w : World) (hr0 : Kd.C (Kd.int .i64) w A0 l0.length l0) (hc0 : l0.length ≤ c0)
    (p1 : Int) (hp1 : PC.turnstilelaw5_pick.f many 18 = some p1) (w1 : IntKind.i64.wrap (1 + p1) = 1 + p1) (D : ByteArray) (hD : PC.turnstilelaw5_digits.f k l0 (1 + p1) = some D) (hDs : D.size ≤ 18)
    (hx : PD.turnstilelaw5_examples.f k = some true) (g : ByteArray) (hg : PD.card_Digit.f k D = some (g, 0)) (hgs : g.size = 1) (S : ByteArray) (hS : D ++ g = S) (n : Nat) (hn : S.size = n) (hn2 : 2 ≤ n) (hnm : n ≤ 19)
    (p2 : Nat) (hp2 : PC.turnstilelaw5_pick.f at_ (n : Int) = some (p2 : Int)) (hl2 : p2 < n)
    (p3 : Int) (hp3 : PC.turnstilelaw5_pick.f by_ 9 = some p3)
    (p4 : Nat) (hp4 : PC.turnstilelaw5_pick.f at_ ((n : Int) - 1) = some (p4 : Int)) (hl4 : p4 + 1 < n)
    (y q q1 q2 q3 q4 q5 : Int) (hy : (bytesOf S).getD p2 0 = y) (e1 : IntKind.u8.wrap (y - 48) = q) (e2 : IntKind.i64.wrap q = q) (e3 : IntKind.i64.wrap (q + 1) = q1) (e4 : IntKind.i64.wrap (q1 + p3) = q2) (e5 : Int.tmod q2 10 = q3) (e6 : IntKind.i64.wrap (48 + q3) = q4) (e7 : IntKind.u8.wrap q4 = q5)
    (T1 T2 : ByteArray) (hT1 : strOfNums ((bytesOf S).set p2 q5) = T1) (hL1 : PD.card_Luhn.f k T1 = some false) (en : IntKind.i64.wrap ((n : Int) - 1) = (n : Int) - 1)
    (p5 : Nat) (hl5 : p5 < n) (hne : ¬ p4 = p5) (ep5 : IntKind.i64.wrap ((p4 : Int) + 1) = (p5 : Int)) (x1 x2 : Int) (hx1 : (bytesOf S).getD p4 0 = x1) (hx2 : (bytesOf S).getD p5 0 = x2)
    (hT2 : strOfNums (((bytesOf S).set p4 x2).set p5 x1) = T2) (b2 : Bool) (hL2 : PD.card_Luhn.f k T2 = some b2) (hL3 : PD.card_Luhn.f k S = some true) (R : Int) (hR : PD.card_Right.f k S = some R)
    (hb2_0 : Aside0 (b2 = (x1 == x2 || x1 == 48 && x2 == 57 || x1 == 57 && x2 == 48))) (hRR_0 : Aside0 (R = 0 ↔ 12 ≤ n)) :
    Calls Try.prog 7 #[.slice A0 l0.length c0, .int .i64 many, .int .i64 at_, .int .i64 by_] w fun e w' => e = .returned (.bool true) ∧ Below w.heap.size w w' := by
  have hsz : (9223372036854775807 < D.size + g.size) = False := eq_false (by omega)
  have hg1 : ((g.size : Int) == 1) = true := by rw [hgs]; rfl
  go_enter Try.func7, Try.ntmps7
  go_wp2_with (first
    | (go_at_call 12; with_reducible refine (PD.turnstilelaw5_examples.calls k true _ hx).mono ?_; rintro e w3 ⟨rfl, hb1⟩)
    | (go_at_call 17; with_reducible refine (PC.turnstilelaw5_digits.calls k _ _ l0 (1 + p1) D _ (Kd.C_below hr0 (by first | exact hb1 | exact below_step hb1 (by first | exact Below.refl _ _ | exact pw_below_drewN (Below.refl _ _) _ | exact below_drew1 (Below.refl _ _)))) hc0 hD).mono ?_; rintro e w4 ⟨rfl, hb2_⟩)
    | (go_at_call 18; with_reducible refine (PC.turnstilelaw5_pick.calls many 18 p1 _ hp1).mono ?_; rintro e w' ⟨rfl, nd1, rfl⟩)
    | (go_at_call 19; with_reducible refine (PD.card_Digit.calls k D g 0 _ hg).mono ?_; rintro e w' ⟨rfl, nd2, rfl⟩)
    | ((with_reducible refine gate_dst (N := 47) rfl ?_); refine bytes_event (w0 := w) rfl 9 37 5 _ rfl S rfl Try.underlying9 Try.underlying37 Try.underlying5 (by omega) n hn (below_step (below_step hb1 (pw_below_drewN (Below.refl _ _) nd1 |> fun h => below_step h hb2_)) (pw_below_drewN (Below.refl _ _) nd2)) ?_; intro g1 c1 w5 R1 B1 G1 _)
    | (go_at_call 18; with_reducible refine (PC.turnstilelaw5_pick.calls at_ n p2 _ hp2).mono ?_; rintro e w' ⟨rfl, nd3, rfl⟩))
  have hlen : (bytesOf S).length = n := by rw [bytesOf_length, hn]
  have hc1 : w5.cell? ⟨g1, p2, none⟩ = some (.int .u8 y) := by rw [R1.cell p2 (by omega), hy]
  have hf1 : w5.frozen? ⟨g1, p2, none⟩ = false := R1.2.2 p2 (by omega)
  have hp2a : (0 ≤ (p2 : Int)) = True := eq_true (by omega)
  have hp2b : ((p2 : Int) < (n : Int)) = True := eq_true (by omega)
  have hp2c : (p2 : Int).toNat = p2 := rfl
  have hp2d : (p2 < n) = True := eq_true (by omega)
  have hgetS : ∀ j, j < n → j < (bytesOf S).length := fun j h => by omega
  have hp4a : (0 ≤ (p4 : Int)) = True := eq_true (by omega)
  have hp4b : ((p4 : Int) < (n : Int)) = True := eq_true (by omega)
  have hp4c : (p4 : Int).toNat = p4 := rfl
  have hp5a : (0 ≤ (p5 : Int)) = True := eq_true (by omega)
  have hp5b : ((p5 : Int) < (n : Int)) = True := eq_true (by omega)
  have hp5c : (p5 : Int).toNat = p5 := rfl
  go_region_with (first
    | (go_at_call 18; with_reducible refine (PC.turnstilelaw5_pick.calls by_ 9 p3 _ hp3).mono ?_; rintro e w' ⟨rfl, nd4, rfl⟩))
  all_goals
    generalize hw6 : World.setCell (World.drewN w5 _) _ _ = w6
    have R2 : Row w6 g1 ((bytesOf S).set p2 q5) := by rw [← hw6]; exact (R1.drewN _).set p2 (by omega) q5
    have B2 : Below w.heap.size w w6 := by rw [← hw6]; exact below_set (pw_below_drewN B1 _) G1
    clear hw6
    go_wp2_with (first
      | ((with_reducible refine gate_dst (N := 69) rfl ?_); refine string_event rfl 37 9 5 _ rfl g1 c1 n _ rfl Try.underlying37 Try.underlying5 Try.underlying9 (by first | exact R2 | exact R2.drewN _) (by rw [List.length_set]; exact hlen) ?_; rw [hT1])
      | (go_at_call 20; with_reducible refine (PD.card_Luhn.calls k T1 false _ hL1).mono ?_; rintro e w' ⟨rfl, nd5, rfl⟩)
      | ((with_reducible refine gate_dst (N := 72) rfl ?_); refine bytes_event (w0 := w) rfl 9 37 5 _ rfl S rfl Try.underlying9 Try.underlying37 Try.underlying5 (by omega) n hn (pw_below_drewN B2 _) ?_; intro g2 c2 w7 R3 B3 G3 _;
          have hc2 : w7.cell? ⟨g2, p4, none⟩ = some (.int .u8 x1) := R3.at_ p4 (by omega) _ hx1;
          have hc3 : w7.cell? ⟨g2, p5, none⟩ = some (.int .u8 x2) := R3.at_ p5 (by omega) _ hx2;
          have hf2 : w7.frozen? ⟨g2, p4, none⟩ = false := R3.2.2 p4 (by omega);
          have hf3 : w7.frozen? ⟨g2, p5, none⟩ = false := R3.2.2 p5 (by omega))
      | (go_at_call 18; with_reducible refine (PC.turnstilelaw5_pick.calls at_ (n - 1) p4 _ hp4).mono ?_; rintro e w' ⟨rfl, nd6, rfl⟩)
      | ((with_reducible refine gate_dst (N := 97) rfl ?_); generalize hw9 : World.setCell (World.setCell (World.drewN w7 _) _ _) _ _ = w9;
          have R5 : Row w9 g2 (((bytesOf S).set p4 x2).set p5 x1) := (by rw [← hw9]; exact ((R3.drewN _).set p4 (by omega) _).set p5 (by rw [List.length_set]; omega) _);
          have B5 : Below w.heap.size w w9 := (by rw [← hw9]; exact below_set (below_set (pw_below_drewN B3 _) G3) G3);
          clear hw9; refine string_event rfl 37 9 5 _ rfl g2 c2 n _ rfl Try.underlying37 Try.underlying5 Try.underlying9 R5 (by rw [List.length_set, List.length_set]; exact hlen) ?_; rw [hT2])
      | (go_at_call 20; with_reducible refine (PD.card_Luhn.calls k T2 b2 _ hL2).mono ?_; rintro e w' ⟨rfl, nd7, rfl⟩)
      | (go_at_call 21; with_reducible refine (PD.card_Right.calls k S R _ hR).mono ?_; rintro e w' ⟨rfl, nd8, rfl⟩)
      | (go_at_call 20; with_reducible refine (PD.card_Luhn.calls k S true _ hL3).mono ?_; rintro e w' ⟨rfl, nd9, rfl⟩))
    all_goals
      go_ret
      have hb2 := hb2_0.out
      have hRR := hRR_0.out
      clear hb2_0 hRR_0
      refine ⟨?_, pw_below_drewN B5 _⟩
      have hRd : ((R == 0) == decide (12 ≤ (n : Int))) = true := by
        by_cases h : 12 ≤ n
        · have : R = 0 := hRR.mpr h
          have h' : (12 : Int) ≤ (n : Int) := by omega
          simp [this, h']
        · have : ¬ R = 0 := fun h2 => h (hRR.mp h2)
          have h' : ¬ (12 : Int) ≤ (n : Int) := by omega
          simp [this, h']
      clear hr0 hp1 hD hx hg hp2 hp3 hp4 hL1 hL2 hL3 hR R5 B5 R3 B3 R2 B2 R1 B1 hb1 hb2_ hT1 hT2 hS
      first
        | exact congrArg (fun b => Ending.returned (Value.bool b)) hRd
        | (exfalso
           clear hRd hRR hp2a hp2b hp2c hp2d hp4a hp4b hp4c hp5a hp5b hp5c hsz hg1 e5 hx1 hx2 hy hgetS hlen
           simp only [beqd] at *
           simp_all)
end Go.Proofs.Ytammbclaejgkpaa.CardTurnedWalk
