/- A plain law: what ReadTrack takes is written again byte by byte; what it does not take tells a place within the text. For every text; no condition. -/
import Derived.Test.YtammbclaejgkpaaTrk
import Derived.Test.YtammbclaejgkpaaWri
import Derived.Test.YtammbclaejgkpaaPCx9
namespace Go.Proofs.Ytammbclaejgkpaa.Pure
open Go.RowKit Go.Proofs.Ytammbclaejgkpaa.PC Go.Proofs.YtammbclaejgkpaaW.PrintWords Go.Proofs.YtammbclaejgkpaaW.PrintLast CardRead

theorem CardAgain : turnstilelaw5_CardAgain.Pure := by
  intro s hs
  refine Ev.rounds (Ev.bind examples_ev ?_)
  refine Ev.bind (g := fun _ => card_ReadTrack.f s) (a := CardRead.read s) (Ev.now _) ?_
  rcases read_ends s with h0 | ⟨n, hn, hle⟩
  · obtain ⟨p, m, v, r, ht, rfl⟩ := read_bwd h0
    have hr := read_fwd ht
    have ha := ht.all
    have hw := write_f (B p) (B m) (B v) (B r) (by
      have h1 := part_len m
      have h2 := part_len v
      have h3 : m.length ≤ (part m).length := by unfold part; split <;> simp [*]
      have h4 : v.length ≤ (part v).length := by unfold part; split <;> simp [*]
      simp only [List.length_append, List.length_cons] at ha
      rw [size_B, size_B, size_B, size_B]
      omega)
    have hj : jn (B p) (B m) (B v) (B r) = B (join p m v r) := by unfold jn; rw [L_B, L_B, L_B, L_B]
    rw [hj, hr, if_pos ⟨rfl, rfl, rfl, rfl, rfl⟩] at hw
    rw [hr]
    simp only [if_true, hw, Option.bind_some]
    simp
    exact Ev.now _
  · rw [hn]
    simp only [bad]
    rw [if_neg (by decide)]
    simp
    simp only [hle, decide_true]
    exact Ev.now _
end Go.Proofs.Ytammbclaejgkpaa.Pure
