/- The document's example at the head of chapter 1's statements comes out true. -/
import Derived.Test.YtijjaekjphenaaaNw
namespace Go.Proofs.Ytijjaekjphenaaa.Sh
open Go.RowKit Go.Proofs.Ytijjaekjphenaaa

theorem shown_any (w : World) : Calls Try.prog 11 #[] w fun e w' => e = .returned (.bool true) ∧ w = w' := by
  have e1 : Nm.reW (Nm.mulW (Nm.packW 0 1) (Nm.packW 0 1)) = -1 := by decide
  have e2 : Nm.imW (Nm.mulW (Nm.packW 0 1) (Nm.packW 0 1)) = 0 := by decide
  go_enter Try.func11, Try.ntmps11
  go_wp2_with (first | (go_at_call 16; refine (Nw.pack_any _ _ _).mono ?_; rintro e w' ⟨rfl, rfl⟩) | (go_at_call 13; refine (Nw.mul_any _ _ _).mono ?_; rintro e w' ⟨rfl, rfl⟩) | (go_at_call 14; refine (Nw.parts_any _ _).mono ?_; rintro e w' ⟨rfl, rfl⟩))
  go_ret
  exact ⟨rfl, rfl⟩
end Go.Proofs.Ytijjaekjphenaaa.Sh
