/- A plain law: the program's WriteTrack and the document's answer the same, for every track. No condition beyond what the statement's arguments are. -/
import Derived.Test.YtammbclaejgkpaaTrk
import Derived.Test.YtammbclaejgkpaaRwt
namespace Go.Proofs.Ytammbclaejgkpaa.Pure
open Go.RowKit Go.Proofs.Ytammbclaejgkpaa.PC Go.Proofs.YtammbclaejgkpaaW.PrintWords Go.Proofs.YtammbclaejgkpaaW.PrintLast CardRead

theorem CardWrites (a b c d : ByteArray) (ha : a.size ≤ 140737488351232) (hb : b.size ≤ 140737488351232) (hc : c.size ≤ 140737488351232) (hd : d.size ≤ 140737488351232) : ∃ k, turnstilelaw5_CardWrites.f k a b c d = some true := by
  refine Ev.rounds (Ev.bind examples_ev ?_)
  refine Ev.bind (g := fun _ => card_WriteTrack.f a b c d) (by rw [write_f a b c d (by omega)]; exact Ev.now _) ?_
  refine Ev.bind (ref_write_ev a b c d (by omega)) ?_
  simp
  exact Ev.now _
end Go.Proofs.Ytammbclaejgkpaa.Pure
