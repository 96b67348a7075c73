/- The document's example at the head of chapter 9's statements comes out true. -/
import Derived.Test.YtmkpbdibhjjmpaaSk
namespace Go.Proofs.Ytmkpbdibhjjmpaa.Sh
open Go.RowKit Go.Proofs.Ytmkpbdibhjjmpaa

theorem shown_any (w : World) : Calls Try.prog 11 #[] w fun e w' => e = .returned (.bool true) ∧ Ext w w' := by
  have e1 : Sk.pushE [] = 0 := by decide
  have e2 : Sk.getV [7] 0 = 7 := by decide
  have e3 : Sk.getE [7] 0 = 0 := by decide
  have e4 : Sk.getE [7] 1 = 5 := by decide
  go_enter Try.func11, Try.ntmps11
  go_wp2_with fail
  refine (Sk.push_any _ [] 7 _ (Sl.nil _ _)).mono ?_; rintro e w1 ⟨u, rfl, hu, hx1⟩
  have hu' : Sl .u64 w1 u [7] := hu
  clear hu
  go_wp2_with fail
  refine (Sk.get_any u [7] 0 _ hu').mono ?_; rintro e w' ⟨rfl, rfl⟩
  go_wp2_with fail
  refine (Sk.get_any u [7] 1 _ hu').mono ?_; rintro e w' ⟨rfl, rfl⟩
  go_wp2_with fail
  go_ret
  exact ⟨rfl, hx1⟩
end Go.Proofs.Ytmkpbdibhjjmpaa.Sh
