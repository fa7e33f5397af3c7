/- The chapter's first example: what is computed there. -/
import Derived.Test.YtjbhhgecdcgpeaaTb6
import Derived.Test.YtjbhhgecdcgpeaaTb9
import Derived.Test.YtjbhhgecdcgpeaaTbC
import Derived.Test.YtjbhhgecdcgpeaaTbE
import Derived.Test.YtjbhhgecdcgpeaaTbI
namespace Go.Proofs.Ytjbhhgecdcgpeaa.Tb
open Go Go.RowKit Go.Shelf Go.Proofs.YtjbhhgecdcgpeaaW.PrintWords Go.Proofs.YtjbhhgecdcgpeaaW.PrintLast Go.Proofs.YtjbhhgecdcgpeaaW.PrintMore Go.Proofs.Ytjbhhgecdcgpeaa.TA
set_option linter.unusedSimpArgs false
set_option linter.unusedVariables false
def K1 : S43 := ⟨90, ⟨#[65, 17, 17]⟩, []⟩
def K0 : S43 := ⟨112, ⟨#[]⟩, [K1]⟩
def KM : List S43 := [⟨1, ⟨#[65, 66]⟩, []⟩, ⟨3, ⟨#[]⟩, []⟩]
def KR : List S51 := [⟨1, K0⟩, ⟨2, K1⟩]
theorem known_rows : rowsP 10 [K0] 1 = some KR := by rfl
theorem known_find : findF 10 [K0] [112, 90] = some (90, ⟨#[65, 17, 17]⟩, [], true) := by rfl
theorem known_parse : parseP ⟨#[112, 5, 90, 3, 65, 17, 17]⟩ = ([K0], 0, 0) := by kernel_rfl
theorem known_sub : parseSubP ⟨#[48, 49, 48, 50, 65, 66, 48, 51, 48, 48]⟩ = (KM, 0, 0) := by kernel_rfl
theorem known_build : buildP 10 [K0] = some (⟨#[112, 5, 90, 3, 65, 17, 17]⟩, 0) := by kernel_rfl
theorem known_print : KR.flatMap lineL = [55, 48, 10, 32, 32, 53, 65, 32, 52, 49, 49, 49, 49, 49, 10] := by kernel_rfl
end Go.Proofs.Ytjbhhgecdcgpeaa.Tb
