/-
  NARROWER THAN 'FOR EVERY INPUT', by the rows' own cells (each row's printed sentence says how): TlvBuilds: loops · TlvWalks: loops · TlvFinds: loops · TlvSubs: loops.
  DERIVED. THE GIVEN ROWS OF THIS SEAT. 10 by the template 'for every input the law returns true; each argument reads behind the call as it read before'; 0 by the template 'total and deterministic' (their statements: YtjbhhgecdcgpeaaTotals.lean).
  GIVEN WITH THE SEED: the statements are not yours to turn. If you find one false, say at which input.
  Laid BY PROGRAM, IN A SANDBOX (cutbox-rows.mjs): the forced cells as the released guide's own fill.sh prints them over the translation 941043a9f96f7ae7… (all of the seat's roots in one cut). By AI agents, Wed Nov 11 2026. No macro, syntax, notation, axiom, sorry.
-/
import Derived.Test.YtjbhhgecdcgpeaaChecked
import GoSem.Claim
import GoSem.ClaimJoined
import GoSem.ClaimMapViews
import Derived.JoinedTies
import Derived.KernelRfl
namespace Go.Proofs.Ytjbhhgecdcgpeaa
/- THE CELL 'sum', in the pinned program and in every row, IS THE sha256 OF THE DUMP (.gsa) THAT YtjbhhgecdcgpeaaProg.lean LOADS. Nothing in Lean hashes anything: it is a label: what it is worth is what the hold of that sum in a sandbox is worth. -/
noncomputable def Try.pinned : Pinned := { name := "ytjbhhgecdcgpeaa", sum := "941043a9f96f7ae7a3caddcf12ff2ddedd832f7ef0034fcc72e89b6d01bceb44", checked := Try.checked }
namespace Rows
def none {H : Type} : Left H := { results := [], args := [] }

/-- 'turnstilelaw9.TlvAgain': WHATEVER THE INPUT: true; the input reads as it did. -/
def tlvAgainSpec : ChangeSpec := { name := "tlvAgain", fn := fun _ => fun
  | [d] => { results := [.lit (.bool true)], args := [d] }
  | _ => none }
def tlvAgainRow : OpenClaim := { program := "ytjbhhgecdcgpeaa", sum := "941043a9f96f7ae7a3caddcf12ff2ddedd832f7ef0034fcc72e89b6d01bceb44", func := "turnstile/turnstilelaw9.TlvAgain", spec := "tlvAgain", inPlace := ["internal/abi.NoEscape", "internal/bytealg.MakeNoZero"], unfollowed := true, recurses := true, apart := false }
def TlvAgainSaid : Prop := tlvAgainRow.holds Try.pinned (OpenSpec.ofChange tlvAgainSpec)

/-- ITS FALSE NEIGHBOUR: 'it returns false'. Refute it at one input. -/
def tlvAgainWrong : ChangeSpec := { name := "tlvAgain", fn := fun _ => fun
  | [d] => { results := [.lit (.bool false)], args := [d] }
  | _ => none }
def TlvAgainWrongFalsely : Prop := tlvAgainRow.holds Try.pinned (OpenSpec.ofChange tlvAgainWrong)

/-- 'turnstilelaw9.TlvCut': WHATEVER THE INPUT: true; the input reads as it did. -/
def tlvCutSpec : ChangeSpec := { name := "tlvCut", fn := fun _ => fun
  | [d1, d2] => { results := [.lit (.bool true)], args := [d1, d2] }
  | _ => none }
def tlvCutRow : OpenClaim := { program := "ytjbhhgecdcgpeaa", sum := "941043a9f96f7ae7a3caddcf12ff2ddedd832f7ef0034fcc72e89b6d01bceb44", func := "turnstile/turnstilelaw9.TlvCut", spec := "tlvCut", inPlace := ["internal/abi.NoEscape", "internal/bytealg.MakeNoZero"], unfollowed := true, recurses := true, apart := false }
def TlvCutSaid : Prop := tlvCutRow.holds Try.pinned (OpenSpec.ofChange tlvCutSpec)

/-- ITS FALSE NEIGHBOUR: 'it returns false'. Refute it at one input. -/
def tlvCutWrong : ChangeSpec := { name := "tlvCut", fn := fun _ => fun
  | [d1, d2] => { results := [.lit (.bool false)], args := [d1, d2] }
  | _ => none }
def TlvCutWrongFalsely : Prop := tlvCutRow.holds Try.pinned (OpenSpec.ofChange tlvCutWrong)

/-- 'turnstilelaw9.TlvParses': WHATEVER THE INPUT: true; the input reads as it did. -/
def tlvParsesSpec : ChangeSpec := { name := "tlvParses", fn := fun _ => fun
  | [d] => { results := [.lit (.bool true)], args := [d] }
  | _ => none }
def tlvParsesRow : OpenClaim := { program := "ytjbhhgecdcgpeaa", sum := "941043a9f96f7ae7a3caddcf12ff2ddedd832f7ef0034fcc72e89b6d01bceb44", func := "turnstile/turnstilelaw9.TlvParses", spec := "tlvParses", inPlace := ["internal/abi.NoEscape", "internal/bytealg.MakeNoZero"], unfollowed := true, recurses := true, apart := false }
def TlvParsesSaid : Prop := tlvParsesRow.holds Try.pinned (OpenSpec.ofChange tlvParsesSpec)

/-- ITS FALSE NEIGHBOUR: 'it returns false'. Refute it at one input. -/
def tlvParsesWrong : ChangeSpec := { name := "tlvParses", fn := fun _ => fun
  | [d] => { results := [.lit (.bool false)], args := [d] }
  | _ => none }
def TlvParsesWrongFalsely : Prop := tlvParsesRow.holds Try.pinned (OpenSpec.ofChange tlvParsesWrong)

/-- 'turnstilelaw9.TlvBuilds': WHATEVER THE INPUT: true; the input reads as it did. -/
def tlvBuildsSpec : ChangeSpec := { name := "tlvBuilds", fn := fun _ => fun
  | [d1, d2, d3] => { results := [.lit (.bool true)], args := [d1, d2, d3] }
  | _ => none }
def tlvBuildsRow : OpenClaim := { program := "ytjbhhgecdcgpeaa", sum := "941043a9f96f7ae7a3caddcf12ff2ddedd832f7ef0034fcc72e89b6d01bceb44", func := "turnstile/turnstilelaw9.TlvBuilds", spec := "tlvBuilds", inPlace := ["internal/abi.NoEscape", "internal/bytealg.MakeNoZero"], unfollowed := true, recurses := true, loops := true, apart := false }
def TlvBuildsSaid : Prop := tlvBuildsRow.holds Try.pinned (OpenSpec.ofChange tlvBuildsSpec)

/-- ITS FALSE NEIGHBOUR: 'it returns false'. Refute it at one input. -/
def tlvBuildsWrong : ChangeSpec := { name := "tlvBuilds", fn := fun _ => fun
  | [d1, d2, d3] => { results := [.lit (.bool false)], args := [d1, d2, d3] }
  | _ => none }
def TlvBuildsWrongFalsely : Prop := tlvBuildsRow.holds Try.pinned (OpenSpec.ofChange tlvBuildsWrong)

/-- 'turnstilelaw9.TlvWalks': WHATEVER THE INPUT: true; the input reads as it did. -/
def tlvWalksSpec : ChangeSpec := { name := "tlvWalks", fn := fun _ => fun
  | [d1, d2] => { results := [.lit (.bool true)], args := [d1, d2] }
  | _ => none }
def tlvWalksRow : OpenClaim := { program := "ytjbhhgecdcgpeaa", sum := "941043a9f96f7ae7a3caddcf12ff2ddedd832f7ef0034fcc72e89b6d01bceb44", func := "turnstile/turnstilelaw9.TlvWalks", spec := "tlvWalks", inPlace := ["internal/abi.NoEscape", "internal/bytealg.MakeNoZero"], unfollowed := true, recurses := true, loops := true, apart := false }
def TlvWalksSaid : Prop := tlvWalksRow.holds Try.pinned (OpenSpec.ofChange tlvWalksSpec)

/-- ITS FALSE NEIGHBOUR: 'it returns false'. Refute it at one input. -/
def tlvWalksWrong : ChangeSpec := { name := "tlvWalks", fn := fun _ => fun
  | [d1, d2] => { results := [.lit (.bool false)], args := [d1, d2] }
  | _ => none }
def TlvWalksWrongFalsely : Prop := tlvWalksRow.holds Try.pinned (OpenSpec.ofChange tlvWalksWrong)

/-- 'turnstilelaw9.TlvOne': WHATEVER THE INPUT: true; the input reads as it did. -/
def tlvOneSpec : ChangeSpec := { name := "tlvOne", fn := fun _ => fun
  | [d1, d2] => { results := [.lit (.bool true)], args := [d1, d2] }
  | _ => none }
def tlvOneRow : OpenClaim := { program := "ytjbhhgecdcgpeaa", sum := "941043a9f96f7ae7a3caddcf12ff2ddedd832f7ef0034fcc72e89b6d01bceb44", func := "turnstile/turnstilelaw9.TlvOne", spec := "tlvOne", inPlace := ["internal/abi.NoEscape", "internal/bytealg.MakeNoZero"], unfollowed := true, recurses := true, apart := false }
def TlvOneSaid : Prop := tlvOneRow.holds Try.pinned (OpenSpec.ofChange tlvOneSpec)

/-- ITS FALSE NEIGHBOUR: 'it returns false'. Refute it at one input. -/
def tlvOneWrong : ChangeSpec := { name := "tlvOne", fn := fun _ => fun
  | [d1, d2] => { results := [.lit (.bool false)], args := [d1, d2] }
  | _ => none }
def TlvOneWrongFalsely : Prop := tlvOneRow.holds Try.pinned (OpenSpec.ofChange tlvOneWrong)

/-- 'turnstilelaw9.TlvFinds': WHATEVER THE INPUT: true; the input reads as it did. -/
def tlvFindsSpec : ChangeSpec := { name := "tlvFinds", fn := fun _ => fun
  | [d1, d2, d3] => { results := [.lit (.bool true)], args := [d1, d2, d3] }
  | _ => none }
def tlvFindsRow : OpenClaim := { program := "ytjbhhgecdcgpeaa", sum := "941043a9f96f7ae7a3caddcf12ff2ddedd832f7ef0034fcc72e89b6d01bceb44", func := "turnstile/turnstilelaw9.TlvFinds", spec := "tlvFinds", inPlace := ["internal/abi.NoEscape", "internal/bytealg.MakeNoZero"], unfollowed := true, recurses := true, loops := true, apart := false }
def TlvFindsSaid : Prop := tlvFindsRow.holds Try.pinned (OpenSpec.ofChange tlvFindsSpec)

/-- ITS FALSE NEIGHBOUR: 'it returns false'. Refute it at one input. -/
def tlvFindsWrong : ChangeSpec := { name := "tlvFinds", fn := fun _ => fun
  | [d1, d2, d3] => { results := [.lit (.bool false)], args := [d1, d2, d3] }
  | _ => none }
def TlvFindsWrongFalsely : Prop := tlvFindsRow.holds Try.pinned (OpenSpec.ofChange tlvFindsWrong)

/-- 'turnstilelaw9.TlvSet': WHATEVER THE INPUT: true; the input reads as it did. -/
def tlvSetSpec : ChangeSpec := { name := "tlvSet", fn := fun _ => fun
  | [d1, d2, d3] => { results := [.lit (.bool true)], args := [d1, d2, d3] }
  | _ => none }
def tlvSetRow : OpenClaim := { program := "ytjbhhgecdcgpeaa", sum := "941043a9f96f7ae7a3caddcf12ff2ddedd832f7ef0034fcc72e89b6d01bceb44", func := "turnstile/turnstilelaw9.TlvSet", spec := "tlvSet", inPlace := ["internal/abi.NoEscape", "internal/bytealg.MakeNoZero"], unfollowed := true, recurses := true, apart := false }
def TlvSetSaid : Prop := tlvSetRow.holds Try.pinned (OpenSpec.ofChange tlvSetSpec)

/-- ITS FALSE NEIGHBOUR: 'it returns false'. Refute it at one input. -/
def tlvSetWrong : ChangeSpec := { name := "tlvSet", fn := fun _ => fun
  | [d1, d2, d3] => { results := [.lit (.bool false)], args := [d1, d2, d3] }
  | _ => none }
def TlvSetWrongFalsely : Prop := tlvSetRow.holds Try.pinned (OpenSpec.ofChange tlvSetWrong)

/-- 'turnstilelaw9.TlvSubs': WHATEVER THE INPUT: true; the input reads as it did. -/
def tlvSubsSpec : ChangeSpec := { name := "tlvSubs", fn := fun _ => fun
  | [d1, d2] => { results := [.lit (.bool true)], args := [d1, d2] }
  | _ => none }
def tlvSubsRow : OpenClaim := { program := "ytjbhhgecdcgpeaa", sum := "941043a9f96f7ae7a3caddcf12ff2ddedd832f7ef0034fcc72e89b6d01bceb44", func := "turnstile/turnstilelaw9.TlvSubs", spec := "tlvSubs", inPlace := ["internal/abi.NoEscape", "internal/bytealg.MakeNoZero"], unfollowed := true, recurses := true, loops := true, apart := false }
def TlvSubsSaid : Prop := tlvSubsRow.holds Try.pinned (OpenSpec.ofChange tlvSubsSpec)

/-- ITS FALSE NEIGHBOUR: 'it returns false'. Refute it at one input. -/
def tlvSubsWrong : ChangeSpec := { name := "tlvSubs", fn := fun _ => fun
  | [d1, d2] => { results := [.lit (.bool false)], args := [d1, d2] }
  | _ => none }
def TlvSubsWrongFalsely : Prop := tlvSubsRow.holds Try.pinned (OpenSpec.ofChange tlvSubsWrong)

/-- 'turnstilelaw9.TlvBack': WHATEVER THE INPUT: true; the input reads as it did. -/
def tlvBackSpec : ChangeSpec := { name := "tlvBack", fn := fun _ => fun
  | [d] => { results := [.lit (.bool true)], args := [d] }
  | _ => none }
def tlvBackRow : OpenClaim := { program := "ytjbhhgecdcgpeaa", sum := "941043a9f96f7ae7a3caddcf12ff2ddedd832f7ef0034fcc72e89b6d01bceb44", func := "turnstile/turnstilelaw9.TlvBack", spec := "tlvBack", inPlace := ["internal/abi.NoEscape", "internal/bytealg.MakeNoZero"], unfollowed := true, recurses := true, apart := false }
def TlvBackSaid : Prop := tlvBackRow.holds Try.pinned (OpenSpec.ofChange tlvBackSpec)

/-- ITS FALSE NEIGHBOUR: 'it returns false'. Refute it at one input. -/
def tlvBackWrong : ChangeSpec := { name := "tlvBack", fn := fun _ => fun
  | [d] => { results := [.lit (.bool false)], args := [d] }
  | _ => none }
def TlvBackWrongFalsely : Prop := tlvBackRow.holds Try.pinned (OpenSpec.ofChange tlvBackWrong)

/- THE SECOND FORM. 'bulk': how many values and letters a reading holds, each counted each time it is reached (what is shared counts as often as it is met; a slice's spare places count too). A statement '..UptoSaid' is the law's where the arguments, and the package variables that the reading takes, are together of bulk at most 1048576: NARROWER than '..Said'. Prove '..Said' where nothing that the law and all that it calls make is longer than what came in: it says more and counts as full. Else prove '..UptoSaid'. A law counts once. -/
mutual
def uptoBulk {H : Type} : DataW H → Nat
  | .lit (.string bytes) => bytes.length + 1
  | .lit _ => 1
  | .nil => 1
  | .ptr d => uptoBulk d + 1
  | .slice elems spare => uptoBulkAll elems + uptoBulkAll spare + 1
  | .agg parts => uptoBulkAll parts + 1
  | .iface _ d => uptoBulk d + 1
  | .map entries => uptoBulkEntries entries + 1
  | .held _ => 1
def uptoBulkAll {H : Type} : List (DataW H) → Nat
  | [] => 0
  | d :: r => uptoBulk d + uptoBulkAll r
def uptoBulkEntries {H : Type} : List (Lit × DataW H) → Nat
  | [] => 0
  | x :: r => uptoBulkEntry x + uptoBulkEntries r
def uptoBulkEntry {H : Type} : Lit × DataW H → Nat
  | (.string bytes, d) => bytes.length + uptoBulk d + 1
  | (_, d) => uptoBulk d + 1
 end
def uptoSmall : (H : Type) → List (DataW H) → Bool := fun _ ds => decide (uptoBulkAll ds ≤ 1048576)
def OpenSpec.upto (s : _root_.Go.ChangeSpec) : _root_.Go.OpenSpec := { _root_.Go.OpenSpec.ofChange s with cond := some uptoSmall }

/-- 'turnstilelaw9.TlvAgain', WHERE WHAT IT READS IS OF BULK AT MOST 1048576: true; the input reads as it did. -/
def tlvAgainUptoRow : OpenClaim := { program := "ytjbhhgecdcgpeaa", sum := "941043a9f96f7ae7a3caddcf12ff2ddedd832f7ef0034fcc72e89b6d01bceb44", func := "turnstile/turnstilelaw9.TlvAgain", spec := "tlvAgain", inPlace := ["internal/abi.NoEscape", "internal/bytealg.MakeNoZero"], unfollowed := true, recurses := true, apart := false, narrowed := true }
def TlvAgainUptoSaid : Prop := tlvAgainUptoRow.holds Try.pinned (OpenSpec.upto tlvAgainSpec)

/-- 'turnstilelaw9.TlvCut', WHERE WHAT IT READS IS OF BULK AT MOST 1048576: true; the input reads as it did. -/
def tlvCutUptoRow : OpenClaim := { program := "ytjbhhgecdcgpeaa", sum := "941043a9f96f7ae7a3caddcf12ff2ddedd832f7ef0034fcc72e89b6d01bceb44", func := "turnstile/turnstilelaw9.TlvCut", spec := "tlvCut", inPlace := ["internal/abi.NoEscape", "internal/bytealg.MakeNoZero"], unfollowed := true, recurses := true, apart := false, narrowed := true }
def TlvCutUptoSaid : Prop := tlvCutUptoRow.holds Try.pinned (OpenSpec.upto tlvCutSpec)

/-- 'turnstilelaw9.TlvParses', WHERE WHAT IT READS IS OF BULK AT MOST 1048576: true; the input reads as it did. -/
def tlvParsesUptoRow : OpenClaim := { program := "ytjbhhgecdcgpeaa", sum := "941043a9f96f7ae7a3caddcf12ff2ddedd832f7ef0034fcc72e89b6d01bceb44", func := "turnstile/turnstilelaw9.TlvParses", spec := "tlvParses", inPlace := ["internal/abi.NoEscape", "internal/bytealg.MakeNoZero"], unfollowed := true, recurses := true, apart := false, narrowed := true }
def TlvParsesUptoSaid : Prop := tlvParsesUptoRow.holds Try.pinned (OpenSpec.upto tlvParsesSpec)

/-- 'turnstilelaw9.TlvBuilds', WHERE WHAT IT READS IS OF BULK AT MOST 1048576: true; the input reads as it did. -/
def tlvBuildsUptoRow : OpenClaim := { program := "ytjbhhgecdcgpeaa", sum := "941043a9f96f7ae7a3caddcf12ff2ddedd832f7ef0034fcc72e89b6d01bceb44", func := "turnstile/turnstilelaw9.TlvBuilds", spec := "tlvBuilds", inPlace := ["internal/abi.NoEscape", "internal/bytealg.MakeNoZero"], unfollowed := true, recurses := true, loops := true, apart := false, narrowed := true }
def TlvBuildsUptoSaid : Prop := tlvBuildsUptoRow.holds Try.pinned (OpenSpec.upto tlvBuildsSpec)

/-- 'turnstilelaw9.TlvWalks', WHERE WHAT IT READS IS OF BULK AT MOST 1048576: true; the input reads as it did. -/
def tlvWalksUptoRow : OpenClaim := { program := "ytjbhhgecdcgpeaa", sum := "941043a9f96f7ae7a3caddcf12ff2ddedd832f7ef0034fcc72e89b6d01bceb44", func := "turnstile/turnstilelaw9.TlvWalks", spec := "tlvWalks", inPlace := ["internal/abi.NoEscape", "internal/bytealg.MakeNoZero"], unfollowed := true, recurses := true, loops := true, apart := false, narrowed := true }
def TlvWalksUptoSaid : Prop := tlvWalksUptoRow.holds Try.pinned (OpenSpec.upto tlvWalksSpec)

/-- 'turnstilelaw9.TlvOne', WHERE WHAT IT READS IS OF BULK AT MOST 1048576: true; the input reads as it did. -/
def tlvOneUptoRow : OpenClaim := { program := "ytjbhhgecdcgpeaa", sum := "941043a9f96f7ae7a3caddcf12ff2ddedd832f7ef0034fcc72e89b6d01bceb44", func := "turnstile/turnstilelaw9.TlvOne", spec := "tlvOne", inPlace := ["internal/abi.NoEscape", "internal/bytealg.MakeNoZero"], unfollowed := true, recurses := true, apart := false, narrowed := true }
def TlvOneUptoSaid : Prop := tlvOneUptoRow.holds Try.pinned (OpenSpec.upto tlvOneSpec)

/-- 'turnstilelaw9.TlvFinds', WHERE WHAT IT READS IS OF BULK AT MOST 1048576: true; the input reads as it did. -/
def tlvFindsUptoRow : OpenClaim := { program := "ytjbhhgecdcgpeaa", sum := "941043a9f96f7ae7a3caddcf12ff2ddedd832f7ef0034fcc72e89b6d01bceb44", func := "turnstile/turnstilelaw9.TlvFinds", spec := "tlvFinds", inPlace := ["internal/abi.NoEscape", "internal/bytealg.MakeNoZero"], unfollowed := true, recurses := true, loops := true, apart := false, narrowed := true }
def TlvFindsUptoSaid : Prop := tlvFindsUptoRow.holds Try.pinned (OpenSpec.upto tlvFindsSpec)

/-- 'turnstilelaw9.TlvSet', WHERE WHAT IT READS IS OF BULK AT MOST 1048576: true; the input reads as it did. -/
def tlvSetUptoRow : OpenClaim := { program := "ytjbhhgecdcgpeaa", sum := "941043a9f96f7ae7a3caddcf12ff2ddedd832f7ef0034fcc72e89b6d01bceb44", func := "turnstile/turnstilelaw9.TlvSet", spec := "tlvSet", inPlace := ["internal/abi.NoEscape", "internal/bytealg.MakeNoZero"], unfollowed := true, recurses := true, apart := false, narrowed := true }
def TlvSetUptoSaid : Prop := tlvSetUptoRow.holds Try.pinned (OpenSpec.upto tlvSetSpec)

/-- 'turnstilelaw9.TlvSubs', WHERE WHAT IT READS IS OF BULK AT MOST 1048576: true; the input reads as it did. -/
def tlvSubsUptoRow : OpenClaim := { program := "ytjbhhgecdcgpeaa", sum := "941043a9f96f7ae7a3caddcf12ff2ddedd832f7ef0034fcc72e89b6d01bceb44", func := "turnstile/turnstilelaw9.TlvSubs", spec := "tlvSubs", inPlace := ["internal/abi.NoEscape", "internal/bytealg.MakeNoZero"], unfollowed := true, recurses := true, loops := true, apart := false, narrowed := true }
def TlvSubsUptoSaid : Prop := tlvSubsUptoRow.holds Try.pinned (OpenSpec.upto tlvSubsSpec)

/-- 'turnstilelaw9.TlvBack', WHERE WHAT IT READS IS OF BULK AT MOST 1048576: true; the input reads as it did. -/
def tlvBackUptoRow : OpenClaim := { program := "ytjbhhgecdcgpeaa", sum := "941043a9f96f7ae7a3caddcf12ff2ddedd832f7ef0034fcc72e89b6d01bceb44", func := "turnstile/turnstilelaw9.TlvBack", spec := "tlvBack", inPlace := ["internal/abi.NoEscape", "internal/bytealg.MakeNoZero"], unfollowed := true, recurses := true, apart := false, narrowed := true }
def TlvBackUptoSaid : Prop := tlvBackUptoRow.holds Try.pinned (OpenSpec.upto tlvBackSpec)

end Rows
end Go.Proofs.Ytjbhhgecdcgpeaa
