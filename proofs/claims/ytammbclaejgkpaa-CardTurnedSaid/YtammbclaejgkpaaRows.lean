/-
  NARROWER THAN 'FOR EVERY INPUT', by the rows' own cells (each row's printed sentence says how): CardOf: loops.
  DERIVED. THE GIVEN ROWS OF THIS SEAT. 9 by the template 'for every input the law returns true; each argument reads behind the call as it read before'; 0 by the template 'total and deterministic' (their statements: YtammbclaejgkpaaTotals.lean).
  GIVEN WITH THE SEED: the statements are not yours to turn. If you find one false, say at which input.
  Laid BY PROGRAM, IN A SANDBOX (cutbox-rows.mjs): the forced cells as the released guide's own fill.sh prints them over the translation d98e96bb0d78163b… (all of the seat's roots in one cut). By AI agents, Wed Nov 11 2026. No macro, syntax, notation, axiom, sorry.
-/
import Derived.Test.YtammbclaejgkpaaChecked
import GoSem.Claim
import GoSem.ClaimJoined
import GoSem.ClaimMapViews
import Derived.JoinedTies
import Derived.KernelRfl
namespace Go.Proofs.Ytammbclaejgkpaa
/- THE CELL 'sum', in the pinned program and in every row, IS THE sha256 OF THE DUMP (.gsa) THAT YtammbclaejgkpaaProg.lean LOADS. Nothing in Lean hashes anything: it is a label: what it is worth is what the hold of that sum in a sandbox is worth. -/
noncomputable def Try.pinned : Pinned := { name := "ytammbclaejgkpaa", sum := "d98e96bb0d78163b779184a2a2bc4a6ca6173f00149099591f6673a2ecf18701", checked := Try.checked }
namespace Rows
def none {H : Type} : Left H := { results := [], args := [] }

/-- 'turnstilelaw5.CardTracks': WHATEVER THE INPUT: true; the input reads as it did. -/
def cardTracksSpec : ChangeSpec := { name := "cardTracks", fn := fun _ => fun
  | [d] => { results := [.lit (.bool true)], args := [d] }
  | _ => none }
def cardTracksRow : OpenClaim := { program := "ytammbclaejgkpaa", sum := "d98e96bb0d78163b779184a2a2bc4a6ca6173f00149099591f6673a2ecf18701", func := "turnstile/turnstilelaw5.CardTracks", spec := "cardTracks", unfollowed := true, recurses := true, apart := false }
def CardTracksSaid : Prop := cardTracksRow.holds Try.pinned (OpenSpec.ofChange cardTracksSpec)

/-- ITS FALSE NEIGHBOUR: 'it returns false'. Refute it at one input. -/
def cardTracksWrong : ChangeSpec := { name := "cardTracks", fn := fun _ => fun
  | [d] => { results := [.lit (.bool false)], args := [d] }
  | _ => none }
def CardTracksWrongFalsely : Prop := cardTracksRow.holds Try.pinned (OpenSpec.ofChange cardTracksWrong)

/-- 'turnstilelaw5.CardWrites': WHATEVER THE INPUT: true; the input reads as it did. -/
def cardWritesSpec : ChangeSpec := { name := "cardWrites", fn := fun _ => fun
  | [d] => { results := [.lit (.bool true)], args := [d] }
  | _ => none }
def cardWritesRow : OpenClaim := { program := "ytammbclaejgkpaa", sum := "d98e96bb0d78163b779184a2a2bc4a6ca6173f00149099591f6673a2ecf18701", func := "turnstile/turnstilelaw5.CardWrites", spec := "cardWrites", unfollowed := true, recurses := true, apart := false }
def CardWritesSaid : Prop := cardWritesRow.holds Try.pinned (OpenSpec.ofChange cardWritesSpec)

/-- ITS FALSE NEIGHBOUR: 'it returns false'. Refute it at one input. -/
def cardWritesWrong : ChangeSpec := { name := "cardWrites", fn := fun _ => fun
  | [d] => { results := [.lit (.bool false)], args := [d] }
  | _ => none }
def CardWritesWrongFalsely : Prop := cardWritesRow.holds Try.pinned (OpenSpec.ofChange cardWritesWrong)

/-- 'turnstilelaw5.CardBack': WHATEVER THE INPUT: true; the input reads as it did. -/
def cardBackSpec : ChangeSpec := { name := "cardBack", fn := fun _ => fun
  | [d1, d2, d3, d4, d5, d6] => { results := [.lit (.bool true)], args := [d1, d2, d3, d4, d5, d6] }
  | _ => none }
def cardBackRow : OpenClaim := { program := "ytammbclaejgkpaa", sum := "d98e96bb0d78163b779184a2a2bc4a6ca6173f00149099591f6673a2ecf18701", func := "turnstile/turnstilelaw5.CardBack", spec := "cardBack", unfollowed := true, recurses := true, apart := false }
def CardBackSaid : Prop := cardBackRow.holds Try.pinned (OpenSpec.ofChange cardBackSpec)

/-- ITS FALSE NEIGHBOUR: 'it returns false'. Refute it at one input. -/
def cardBackWrong : ChangeSpec := { name := "cardBack", fn := fun _ => fun
  | [d1, d2, d3, d4, d5, d6] => { results := [.lit (.bool false)], args := [d1, d2, d3, d4, d5, d6] }
  | _ => none }
def CardBackWrongFalsely : Prop := cardBackRow.holds Try.pinned (OpenSpec.ofChange cardBackWrong)

/-- 'turnstilelaw5.CardAgain': WHATEVER THE INPUT: true; the input reads as it did. -/
def cardAgainSpec : ChangeSpec := { name := "cardAgain", fn := fun _ => fun
  | [d] => { results := [.lit (.bool true)], args := [d] }
  | _ => none }
def cardAgainRow : OpenClaim := { program := "ytammbclaejgkpaa", sum := "d98e96bb0d78163b779184a2a2bc4a6ca6173f00149099591f6673a2ecf18701", func := "turnstile/turnstilelaw5.CardAgain", spec := "cardAgain", unfollowed := true, recurses := true, apart := false }
def CardAgainSaid : Prop := cardAgainRow.holds Try.pinned (OpenSpec.ofChange cardAgainSpec)

/-- ITS FALSE NEIGHBOUR: 'it returns false'. Refute it at one input. -/
def cardAgainWrong : ChangeSpec := { name := "cardAgain", fn := fun _ => fun
  | [d] => { results := [.lit (.bool false)], args := [d] }
  | _ => none }
def CardAgainWrongFalsely : Prop := cardAgainRow.holds Try.pinned (OpenSpec.ofChange cardAgainWrong)

/-- 'turnstilelaw5.CardTurned': WHATEVER THE INPUT: true; the input reads as it did. -/
def cardTurnedSpec : ChangeSpec := { name := "cardTurned", fn := fun _ => fun
  | [d1, d2, d3, d4] => { results := [.lit (.bool true)], args := [d1, d2, d3, d4] }
  | _ => none }
def cardTurnedRow : OpenClaim := { program := "ytammbclaejgkpaa", sum := "d98e96bb0d78163b779184a2a2bc4a6ca6173f00149099591f6673a2ecf18701", func := "turnstile/turnstilelaw5.CardTurned", spec := "cardTurned", unfollowed := true, recurses := true, apart := false }
def CardTurnedSaid : Prop := cardTurnedRow.holds Try.pinned (OpenSpec.ofChange cardTurnedSpec)

/-- ITS FALSE NEIGHBOUR: 'it returns false'. Refute it at one input. -/
def cardTurnedWrong : ChangeSpec := { name := "cardTurned", fn := fun _ => fun
  | [d1, d2, d3, d4] => { results := [.lit (.bool false)], args := [d1, d2, d3, d4] }
  | _ => none }
def CardTurnedWrongFalsely : Prop := cardTurnedRow.holds Try.pinned (OpenSpec.ofChange cardTurnedWrong)

/-- 'turnstilelaw5.CardExpires': WHATEVER THE INPUT: true; the input reads as it did. -/
def cardExpiresSpec : ChangeSpec := { name := "cardExpires", fn := fun _ => fun
  | [d1, d2, d3] => { results := [.lit (.bool true)], args := [d1, d2, d3] }
  | _ => none }
def cardExpiresRow : OpenClaim := { program := "ytammbclaejgkpaa", sum := "d98e96bb0d78163b779184a2a2bc4a6ca6173f00149099591f6673a2ecf18701", func := "turnstile/turnstilelaw5.CardExpires", spec := "cardExpires", unfollowed := true, recurses := true, apart := false }
def CardExpiresSaid : Prop := cardExpiresRow.holds Try.pinned (OpenSpec.ofChange cardExpiresSpec)

/-- ITS FALSE NEIGHBOUR: 'it returns false'. Refute it at one input. -/
def cardExpiresWrong : ChangeSpec := { name := "cardExpires", fn := fun _ => fun
  | [d1, d2, d3] => { results := [.lit (.bool false)], args := [d1, d2, d3] }
  | _ => none }
def CardExpiresWrongFalsely : Prop := cardExpiresRow.holds Try.pinned (OpenSpec.ofChange cardExpiresWrong)

/-- 'turnstilelaw5.CardOf': WHATEVER THE INPUT: true; the input reads as it did. -/
def cardOfSpec : ChangeSpec := { name := "cardOf", fn := fun _ => fun
  | [d1, d2] => { results := [.lit (.bool true)], args := [d1, d2] }
  | _ => none }
def cardOfRow : OpenClaim := { program := "ytammbclaejgkpaa", sum := "d98e96bb0d78163b779184a2a2bc4a6ca6173f00149099591f6673a2ecf18701", func := "turnstile/turnstilelaw5.CardOf", spec := "cardOf", unfollowed := true, recurses := true, loops := true, apart := false }
def CardOfSaid : Prop := cardOfRow.holds Try.pinned (OpenSpec.ofChange cardOfSpec)

/-- ITS FALSE NEIGHBOUR: 'it returns false'. Refute it at one input. -/
def cardOfWrong : ChangeSpec := { name := "cardOf", fn := fun _ => fun
  | [d1, d2] => { results := [.lit (.bool false)], args := [d1, d2] }
  | _ => none }
def CardOfWrongFalsely : Prop := cardOfRow.holds Try.pinned (OpenSpec.ofChange cardOfWrong)

/-- 'turnstilelaw5.CardDigits': WHATEVER THE INPUT: true; the input reads as it did. -/
def cardDigitsSpec : ChangeSpec := { name := "cardDigits", fn := fun _ => fun
  | [d] => { results := [.lit (.bool true)], args := [d] }
  | _ => none }
def cardDigitsRow : OpenClaim := { program := "ytammbclaejgkpaa", sum := "d98e96bb0d78163b779184a2a2bc4a6ca6173f00149099591f6673a2ecf18701", func := "turnstile/turnstilelaw5.CardDigits", spec := "cardDigits", inPlace := ["internal/abi.NoEscape", "internal/bytealg.MakeNoZero"], unfollowed := true, recurses := true, apart := false }
def CardDigitsSaid : Prop := cardDigitsRow.holds Try.pinned (OpenSpec.ofChange cardDigitsSpec)

/-- ITS FALSE NEIGHBOUR: 'it returns false'. Refute it at one input. -/
def cardDigitsWrong : ChangeSpec := { name := "cardDigits", fn := fun _ => fun
  | [d] => { results := [.lit (.bool false)], args := [d] }
  | _ => none }
def CardDigitsWrongFalsely : Prop := cardDigitsRow.holds Try.pinned (OpenSpec.ofChange cardDigitsWrong)

/-- 'turnstilelaw5.CardMasks': WHATEVER THE INPUT: true; the input reads as it did. -/
def cardMasksSpec : ChangeSpec := { name := "cardMasks", fn := fun _ => fun
  | [d] => { results := [.lit (.bool true)], args := [d] }
  | _ => none }
def cardMasksRow : OpenClaim := { program := "ytammbclaejgkpaa", sum := "d98e96bb0d78163b779184a2a2bc4a6ca6173f00149099591f6673a2ecf18701", func := "turnstile/turnstilelaw5.CardMasks", spec := "cardMasks", inPlace := ["internal/abi.NoEscape", "internal/bytealg.MakeNoZero"], unfollowed := true, recurses := true, apart := false }
def CardMasksSaid : Prop := cardMasksRow.holds Try.pinned (OpenSpec.ofChange cardMasksSpec)

/-- ITS FALSE NEIGHBOUR: 'it returns false'. Refute it at one input. -/
def cardMasksWrong : ChangeSpec := { name := "cardMasks", fn := fun _ => fun
  | [d] => { results := [.lit (.bool false)], args := [d] }
  | _ => none }
def CardMasksWrongFalsely : Prop := cardMasksRow.holds Try.pinned (OpenSpec.ofChange cardMasksWrong)

/- THE SECOND FORM. 'bulk': how many values and letters a reading holds, each counted each time it is reached (what is shared counts as often as it is met; a slice's spare places count too). A statement '..UptoSaid' is the law's where the arguments, and the package variables that the reading takes, are together of bulk at most 1048576: NARROWER than '..Said'. Prove '..Said' where nothing that the law and all that it calls make is longer than what came in: it says more and counts as full. Else prove '..UptoSaid'. A law counts once. -/
mutual
def uptoBulk {H : Type} : DataW H → Nat
  | .lit (.string bytes) => bytes.length + 1
  | .lit _ => 1
  | .nil => 1
  | .ptr d => uptoBulk d + 1
  | .slice elems spare => uptoBulkAll elems + uptoBulkAll spare + 1
  | .agg parts => uptoBulkAll parts + 1
  | .iface _ d => uptoBulk d + 1
  | .map entries => uptoBulkEntries entries + 1
  | .held _ => 1
def uptoBulkAll {H : Type} : List (DataW H) → Nat
  | [] => 0
  | d :: r => uptoBulk d + uptoBulkAll r
def uptoBulkEntries {H : Type} : List (Lit × DataW H) → Nat
  | [] => 0
  | x :: r => uptoBulkEntry x + uptoBulkEntries r
def uptoBulkEntry {H : Type} : Lit × DataW H → Nat
  | (.string bytes, d) => bytes.length + uptoBulk d + 1
  | (_, d) => uptoBulk d + 1
 end
def uptoSmall : (H : Type) → List (DataW H) → Bool := fun _ ds => decide (uptoBulkAll ds ≤ 1048576)
def OpenSpec.upto (s : _root_.Go.ChangeSpec) : _root_.Go.OpenSpec := { _root_.Go.OpenSpec.ofChange s with cond := some uptoSmall }

/-- 'turnstilelaw5.CardTracks', WHERE WHAT IT READS IS OF BULK AT MOST 1048576: true; the input reads as it did. -/
def cardTracksUptoRow : OpenClaim := { program := "ytammbclaejgkpaa", sum := "d98e96bb0d78163b779184a2a2bc4a6ca6173f00149099591f6673a2ecf18701", func := "turnstile/turnstilelaw5.CardTracks", spec := "cardTracks", unfollowed := true, recurses := true, apart := false, narrowed := true }
def CardTracksUptoSaid : Prop := cardTracksUptoRow.holds Try.pinned (OpenSpec.upto cardTracksSpec)

/-- 'turnstilelaw5.CardWrites', WHERE WHAT IT READS IS OF BULK AT MOST 1048576: true; the input reads as it did. -/
def cardWritesUptoRow : OpenClaim := { program := "ytammbclaejgkpaa", sum := "d98e96bb0d78163b779184a2a2bc4a6ca6173f00149099591f6673a2ecf18701", func := "turnstile/turnstilelaw5.CardWrites", spec := "cardWrites", unfollowed := true, recurses := true, apart := false, narrowed := true }
def CardWritesUptoSaid : Prop := cardWritesUptoRow.holds Try.pinned (OpenSpec.upto cardWritesSpec)

/-- 'turnstilelaw5.CardBack', WHERE WHAT IT READS IS OF BULK AT MOST 1048576: true; the input reads as it did. -/
def cardBackUptoRow : OpenClaim := { program := "ytammbclaejgkpaa", sum := "d98e96bb0d78163b779184a2a2bc4a6ca6173f00149099591f6673a2ecf18701", func := "turnstile/turnstilelaw5.CardBack", spec := "cardBack", unfollowed := true, recurses := true, apart := false, narrowed := true }
def CardBackUptoSaid : Prop := cardBackUptoRow.holds Try.pinned (OpenSpec.upto cardBackSpec)

/-- 'turnstilelaw5.CardAgain', WHERE WHAT IT READS IS OF BULK AT MOST 1048576: true; the input reads as it did. -/
def cardAgainUptoRow : OpenClaim := { program := "ytammbclaejgkpaa", sum := "d98e96bb0d78163b779184a2a2bc4a6ca6173f00149099591f6673a2ecf18701", func := "turnstile/turnstilelaw5.CardAgain", spec := "cardAgain", unfollowed := true, recurses := true, apart := false, narrowed := true }
def CardAgainUptoSaid : Prop := cardAgainUptoRow.holds Try.pinned (OpenSpec.upto cardAgainSpec)

/-- 'turnstilelaw5.CardTurned', WHERE WHAT IT READS IS OF BULK AT MOST 1048576: true; the input reads as it did. -/
def cardTurnedUptoRow : OpenClaim := { program := "ytammbclaejgkpaa", sum := "d98e96bb0d78163b779184a2a2bc4a6ca6173f00149099591f6673a2ecf18701", func := "turnstile/turnstilelaw5.CardTurned", spec := "cardTurned", unfollowed := true, recurses := true, apart := false, narrowed := true }
def CardTurnedUptoSaid : Prop := cardTurnedUptoRow.holds Try.pinned (OpenSpec.upto cardTurnedSpec)

/-- 'turnstilelaw5.CardExpires', WHERE WHAT IT READS IS OF BULK AT MOST 1048576: true; the input reads as it did. -/
def cardExpiresUptoRow : OpenClaim := { program := "ytammbclaejgkpaa", sum := "d98e96bb0d78163b779184a2a2bc4a6ca6173f00149099591f6673a2ecf18701", func := "turnstile/turnstilelaw5.CardExpires", spec := "cardExpires", unfollowed := true, recurses := true, apart := false, narrowed := true }
def CardExpiresUptoSaid : Prop := cardExpiresUptoRow.holds Try.pinned (OpenSpec.upto cardExpiresSpec)

/-- 'turnstilelaw5.CardOf', WHERE WHAT IT READS IS OF BULK AT MOST 1048576: true; the input reads as it did. -/
def cardOfUptoRow : OpenClaim := { program := "ytammbclaejgkpaa", sum := "d98e96bb0d78163b779184a2a2bc4a6ca6173f00149099591f6673a2ecf18701", func := "turnstile/turnstilelaw5.CardOf", spec := "cardOf", unfollowed := true, recurses := true, loops := true, apart := false, narrowed := true }
def CardOfUptoSaid : Prop := cardOfUptoRow.holds Try.pinned (OpenSpec.upto cardOfSpec)

/-- 'turnstilelaw5.CardDigits', WHERE WHAT IT READS IS OF BULK AT MOST 1048576: true; the input reads as it did. -/
def cardDigitsUptoRow : OpenClaim := { program := "ytammbclaejgkpaa", sum := "d98e96bb0d78163b779184a2a2bc4a6ca6173f00149099591f6673a2ecf18701", func := "turnstile/turnstilelaw5.CardDigits", spec := "cardDigits", inPlace := ["internal/abi.NoEscape", "internal/bytealg.MakeNoZero"], unfollowed := true, recurses := true, apart := false, narrowed := true }
def CardDigitsUptoSaid : Prop := cardDigitsUptoRow.holds Try.pinned (OpenSpec.upto cardDigitsSpec)

/-- 'turnstilelaw5.CardMasks', WHERE WHAT IT READS IS OF BULK AT MOST 1048576: true; the input reads as it did. -/
def cardMasksUptoRow : OpenClaim := { program := "ytammbclaejgkpaa", sum := "d98e96bb0d78163b779184a2a2bc4a6ca6173f00149099591f6673a2ecf18701", func := "turnstile/turnstilelaw5.CardMasks", spec := "cardMasks", inPlace := ["internal/abi.NoEscape", "internal/bytealg.MakeNoZero"], unfollowed := true, recurses := true, apart := false, narrowed := true }
def CardMasksUptoSaid : Prop := cardMasksUptoRow.holds Try.pinned (OpenSpec.upto cardMasksSpec)

end Rows
end Go.Proofs.Ytammbclaejgkpaa
