/- A plain law: the program's ReadTrack and the document's answer the same, with their places, for every text. No condition. -/
import Derived.Test.YtammbclaejgkpaaTrk
namespace Go.Proofs.Ytammbclaejgkpaa.Pure
open Go.RowKit Go.Proofs.Ytammbclaejgkpaa.PC Go.Proofs.YtammbclaejgkpaaW.PrintWords Go.Proofs.YtammbclaejgkpaaW.PrintLast CardRead

theorem CardTracks : turnstilelaw5_CardTracks.Pure := by
  intro s hs
  refine Ev.rounds (Ev.bind examples_ev ?_)
  refine Ev.bind (g := fun _ => card_ReadTrack.f s) (a := CardRead.read s) (Ev.now _) ?_
  refine Ev.bind (ref_read s) ?_
  simp
  exact Ev.now _
end Go.Proofs.Ytammbclaejgkpaa.Pure
