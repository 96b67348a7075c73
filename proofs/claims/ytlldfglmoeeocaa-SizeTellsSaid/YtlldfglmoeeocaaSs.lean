/- The document's examples at the head of chapter 2's statements come out true. -/
import Derived.Test.YtlldfglmoeeocaaSw
namespace Go.Proofs.Ytlldfglmoeeocaa.Ss
open Go.RowKit Go.Proofs.Ytlldfglmoeeocaa

theorem shown_any (w : World) : Calls Try.prog 10 #[] w fun e w' => e = .returned (.bool true) ∧ w = w' := by
  have e1 : Sz.objS 3 = 5 := by decide
  have e2 : Sz.objE 3 = 0 := by decide
  have e3 : Sz.addr 0 5 = 4294967301 := by decide
  go_enter Try.func10, Try.ntmps10
  go_wp2_with (first | (go_at_call 12; refine (Sw.object_any _ _).mono ?_; rintro e w' ⟨rfl, rfl⟩) | (go_at_call 11; refine (Sw.addr_any _ _ _).mono ?_; rintro e w' ⟨rfl, rfl⟩))
  go_ret
  exact ⟨rfl, rfl⟩
end Go.Proofs.Ytlldfglmoeeocaa.Ss
