/-
  No cell of these rows narrows 'for every input' (looked for: loops, veiled, ifaces, maps, wideKeys, modest, calm, conditions, laid).
  DERIVED. THE GIVEN ROWS OF THIS SEAT. 4 by the template 'for every input the law returns true; each argument reads behind the call as it read before'; 0 by the template 'total and deterministic' (their statements: YtgndgjjejgbmoaaTotals.lean).
  GIVEN WITH THE SEED: the statements are not yours to turn. If you find one false, say at which input.
  Laid BY PROGRAM, IN A SANDBOX (cutbox-rows.mjs): the forced cells as the released guide's own fill.sh prints them over the translation 1c17cf83f8a88216… (all of the seat's roots in one cut). By AI agents, Wed Nov 11 2026. No macro, syntax, notation, axiom, sorry.
-/
import Derived.Test.YtgndgjjejgbmoaaChecked
import GoSem.Claim
import GoSem.ClaimJoined
import GoSem.ClaimMapViews
import Derived.JoinedTies
import Derived.KernelRfl
namespace Go.Proofs.Ytgndgjjejgbmoaa
/- THE CELL 'sum', in the pinned program and in every row, IS THE sha256 OF THE DUMP (.gsa) THAT YtgndgjjejgbmoaaProg.lean LOADS. Nothing in Lean hashes anything: it is a label: what it is worth is what the hold of that sum in a sandbox is worth. -/
noncomputable def Try.pinned : Pinned := { name := "ytgndgjjejgbmoaa", sum := "1c17cf83f8a88216dec01108fb3b00f9dc5590421effd6c2f05eed5917f3b502", checked := Try.checked }
namespace Rows
def none {H : Type} : Left H := { results := [], args := [] }

/-- 'turnstilelaw21.StandinHolds': WHATEVER THE INPUT: true; the input reads as it did. -/
def standinHoldsSpec : ChangeSpec := { name := "standinHolds", fn := fun _ => fun
  | [d1, d2] => { results := [.lit (.bool true)], args := [d1, d2] }
  | _ => none }
def standinHoldsRow : OpenClaim := { program := "ytgndgjjejgbmoaa", sum := "1c17cf83f8a88216dec01108fb3b00f9dc5590421effd6c2f05eed5917f3b502", func := "turnstile/turnstilelaw21.StandinHolds", spec := "standinHolds", unfollowed := true, recurses := true, apart := false }
def StandinHoldsSaid : Prop := standinHoldsRow.holds Try.pinned (OpenSpec.ofChange standinHoldsSpec)

/-- ITS FALSE NEIGHBOUR: 'it returns false'. Refute it at one input. -/
def standinHoldsWrong : ChangeSpec := { name := "standinHolds", fn := fun _ => fun
  | [d1, d2] => { results := [.lit (.bool false)], args := [d1, d2] }
  | _ => none }
def StandinHoldsWrongFalsely : Prop := standinHoldsRow.holds Try.pinned (OpenSpec.ofChange standinHoldsWrong)

/-- 'turnstilelaw21.StandinPlays': WHATEVER THE INPUT: true; the input reads as it did. -/
def standinPlaysSpec : ChangeSpec := { name := "standinPlays", fn := fun _ => fun
  | [d1, d2, d3] => { results := [.lit (.bool true)], args := [d1, d2, d3] }
  | _ => none }
def standinPlaysRow : OpenClaim := { program := "ytgndgjjejgbmoaa", sum := "1c17cf83f8a88216dec01108fb3b00f9dc5590421effd6c2f05eed5917f3b502", func := "turnstile/turnstilelaw21.StandinPlays", spec := "standinPlays", unfollowed := true, recurses := true, apart := false }
def StandinPlaysSaid : Prop := standinPlaysRow.holds Try.pinned (OpenSpec.ofChange standinPlaysSpec)

/-- ITS FALSE NEIGHBOUR: 'it returns false'. Refute it at one input. -/
def standinPlaysWrong : ChangeSpec := { name := "standinPlays", fn := fun _ => fun
  | [d1, d2, d3] => { results := [.lit (.bool false)], args := [d1, d2, d3] }
  | _ => none }
def StandinPlaysWrongFalsely : Prop := standinPlaysRow.holds Try.pinned (OpenSpec.ofChange standinPlaysWrong)

/-- 'turnstilelaw21.StandinUndoes': WHATEVER THE INPUT: true; the input reads as it did. -/
def standinUndoesSpec : ChangeSpec := { name := "standinUndoes", fn := fun _ => fun
  | [d1, d2, d3, d4] => { results := [.lit (.bool true)], args := [d1, d2, d3, d4] }
  | _ => none }
def standinUndoesRow : OpenClaim := { program := "ytgndgjjejgbmoaa", sum := "1c17cf83f8a88216dec01108fb3b00f9dc5590421effd6c2f05eed5917f3b502", func := "turnstile/turnstilelaw21.StandinUndoes", spec := "standinUndoes", unfollowed := true, recurses := true, apart := false }
def StandinUndoesSaid : Prop := standinUndoesRow.holds Try.pinned (OpenSpec.ofChange standinUndoesSpec)

/-- ITS FALSE NEIGHBOUR: 'it returns false'. Refute it at one input. -/
def standinUndoesWrong : ChangeSpec := { name := "standinUndoes", fn := fun _ => fun
  | [d1, d2, d3, d4] => { results := [.lit (.bool false)], args := [d1, d2, d3, d4] }
  | _ => none }
def StandinUndoesWrongFalsely : Prop := standinUndoesRow.holds Try.pinned (OpenSpec.ofChange standinUndoesWrong)

/-- 'turnstilelaw21.StandinForgets': WHATEVER THE INPUT: true; the input reads as it did. -/
def standinForgetsSpec : ChangeSpec := { name := "standinForgets", fn := fun _ => fun
  | [d1, d2] => { results := [.lit (.bool true)], args := [d1, d2] }
  | _ => none }
def standinForgetsRow : OpenClaim := { program := "ytgndgjjejgbmoaa", sum := "1c17cf83f8a88216dec01108fb3b00f9dc5590421effd6c2f05eed5917f3b502", func := "turnstile/turnstilelaw21.StandinForgets", spec := "standinForgets", unfollowed := true, recurses := true, apart := false }
def StandinForgetsSaid : Prop := standinForgetsRow.holds Try.pinned (OpenSpec.ofChange standinForgetsSpec)

/-- ITS FALSE NEIGHBOUR: 'it returns false'. Refute it at one input. -/
def standinForgetsWrong : ChangeSpec := { name := "standinForgets", fn := fun _ => fun
  | [d1, d2] => { results := [.lit (.bool false)], args := [d1, d2] }
  | _ => none }
def StandinForgetsWrongFalsely : Prop := standinForgetsRow.holds Try.pinned (OpenSpec.ofChange standinForgetsWrong)

/- THE SECOND FORM. 'bulk': how many values and letters a reading holds, each counted each time it is reached (what is shared counts as often as it is met; a slice's spare places count too). A statement '..UptoSaid' is the law's where the arguments, and the package variables that the reading takes, are together of bulk at most 1048576: NARROWER than '..Said'. Prove '..Said' where nothing that the law and all that it calls make is longer than what came in: it says more and counts as full. Else prove '..UptoSaid'. A law counts once. -/
mutual
def uptoBulk {H : Type} : DataW H → Nat
  | .lit (.string bytes) => bytes.length + 1
  | .lit _ => 1
  | .nil => 1
  | .ptr d => uptoBulk d + 1
  | .slice elems spare => uptoBulkAll elems + uptoBulkAll spare + 1
  | .agg parts => uptoBulkAll parts + 1
  | .iface _ d => uptoBulk d + 1
  | .map entries => uptoBulkEntries entries + 1
  | .held _ => 1
def uptoBulkAll {H : Type} : List (DataW H) → Nat
  | [] => 0
  | d :: r => uptoBulk d + uptoBulkAll r
def uptoBulkEntries {H : Type} : List (Lit × DataW H) → Nat
  | [] => 0
  | x :: r => uptoBulkEntry x + uptoBulkEntries r
def uptoBulkEntry {H : Type} : Lit × DataW H → Nat
  | (.string bytes, d) => bytes.length + uptoBulk d + 1
  | (_, d) => uptoBulk d + 1
 end
def uptoSmall : (H : Type) → List (DataW H) → Bool := fun _ ds => decide (uptoBulkAll ds ≤ 1048576)
def OpenSpec.upto (s : _root_.Go.ChangeSpec) : _root_.Go.OpenSpec := { _root_.Go.OpenSpec.ofChange s with cond := some uptoSmall }

/-- 'turnstilelaw21.StandinHolds', WHERE WHAT IT READS IS OF BULK AT MOST 1048576: true; the input reads as it did. -/
def standinHoldsUptoRow : OpenClaim := { program := "ytgndgjjejgbmoaa", sum := "1c17cf83f8a88216dec01108fb3b00f9dc5590421effd6c2f05eed5917f3b502", func := "turnstile/turnstilelaw21.StandinHolds", spec := "standinHolds", unfollowed := true, recurses := true, apart := false, narrowed := true }
def StandinHoldsUptoSaid : Prop := standinHoldsUptoRow.holds Try.pinned (OpenSpec.upto standinHoldsSpec)

/-- 'turnstilelaw21.StandinPlays', WHERE WHAT IT READS IS OF BULK AT MOST 1048576: true; the input reads as it did. -/
def standinPlaysUptoRow : OpenClaim := { program := "ytgndgjjejgbmoaa", sum := "1c17cf83f8a88216dec01108fb3b00f9dc5590421effd6c2f05eed5917f3b502", func := "turnstile/turnstilelaw21.StandinPlays", spec := "standinPlays", unfollowed := true, recurses := true, apart := false, narrowed := true }
def StandinPlaysUptoSaid : Prop := standinPlaysUptoRow.holds Try.pinned (OpenSpec.upto standinPlaysSpec)

/-- 'turnstilelaw21.StandinUndoes', WHERE WHAT IT READS IS OF BULK AT MOST 1048576: true; the input reads as it did. -/
def standinUndoesUptoRow : OpenClaim := { program := "ytgndgjjejgbmoaa", sum := "1c17cf83f8a88216dec01108fb3b00f9dc5590421effd6c2f05eed5917f3b502", func := "turnstile/turnstilelaw21.StandinUndoes", spec := "standinUndoes", unfollowed := true, recurses := true, apart := false, narrowed := true }
def StandinUndoesUptoSaid : Prop := standinUndoesUptoRow.holds Try.pinned (OpenSpec.upto standinUndoesSpec)

/-- 'turnstilelaw21.StandinForgets', WHERE WHAT IT READS IS OF BULK AT MOST 1048576: true; the input reads as it did. -/
def standinForgetsUptoRow : OpenClaim := { program := "ytgndgjjejgbmoaa", sum := "1c17cf83f8a88216dec01108fb3b00f9dc5590421effd6c2f05eed5917f3b502", func := "turnstile/turnstilelaw21.StandinForgets", spec := "standinForgets", unfollowed := true, recurses := true, apart := false, narrowed := true }
def StandinForgetsUptoSaid : Prop := standinForgetsUptoRow.holds Try.pinned (OpenSpec.upto standinForgetsSpec)

end Rows
end Go.Proofs.Ytgndgjjejgbmoaa
