/- Nodes of raw numbers: the contract of made. -/
import Derived.Test.YtjbhhgecdcgpeaaTb1
import Derived.Test.YtjbhhgecdcgpeaaTAx2
namespace Go.Proofs.Ytjbhhgecdcgpeaa.Tb
open Go Go.RowKit Go.Proofs.YtjbhhgecdcgpeaaW.PrintWords Go.Proofs.YtjbhhgecdcgpeaaW.PrintLast Go.Proofs.YtjbhhgecdcgpeaaW.PrintMore Go.Proofs.Ytjbhhgecdcgpeaa.TA
set_option linter.unusedSimpArgs false
set_option linter.unusedVariables false
def madeP (k : Nat) (raw : List Int) : Option (List S43) := (turnstilelaw9_Maker_list.f k raw 0 0 1).map fun r => r.1
set_option maxRecDepth 100000 in
theorem made_calls (k : Nat) (raw : List Int) (r : List S43) (A : Option Addr) (c : Nat) (w : World) (h : madeP k raw = some r) (hC : Kd.C (Kd.int .i64) w A raw.length raw) (hc : raw.length ≤ c) :
    Calls Try.prog 18 #[.slice A raw.length c] w fun e w' => ∃ v, e = .returned v ∧ Kd.R k43 43 w' w.heap.size (fun _ => True) v r ∧ Below w.heap.size w w' := by
  obtain ⟨⟨r1, r2, r3⟩, hf, e⟩ := Option.map_eq_some_iff.mp h
  cases e
  have hI : IsS92 w (w.alloc (.cells #[.slice A raw.length c, .int .i64 0, .int .i64 0] 92)) w.heap.size raw 0 0 := ⟨A, c, heap_alloc_new _ _, Nat.le_refl _, hC⟩
  have hL := turnstilelaw9_Maker_list.calls k w.heap.size raw 0 0 1 r1 r2 r3 w _ hI (below_alloc (Below.refl _ _) _) hf
  have HL := Aside0.mk hL
  clear hL hI hC h hf
  go_enter Try.func18, Try.ntmps18
  go_wp2_with (go_at_call 52; (with_reducible refine HL.out.mono ?_); rintro e w2 ⟨v, rfl, hR, hI2, hB2, hK2⟩)
  refine bodyPost_ret (results_tmp rfl _ _ _) rfl ?_
  refine ⟨_, rfl, ?_, hB2⟩
  exact Kd.R_lower hR (by simp)
end Go.Proofs.Ytjbhhgecdcgpeaa.Tb
