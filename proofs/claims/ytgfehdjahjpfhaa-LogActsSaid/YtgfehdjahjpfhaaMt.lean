/- Sets that are maps, beside rows and boxes of the call's own, in the body of a loop over an iterator. No function of the program in sight. -/
import Derived.RangeFuncBox
import Derived.RangeFuncNested
import Derived.RangeFuncWrites
import Derived.Test.YtgfehdjahjpfhaaMs
import Derived.Test.YtgfehdjahjpfhaaOw
namespace Go.Proofs.Ytgfehdjahjpfhaa
open Go.RowKit
open Go.Maps (Keyed)
set_option linter.unusedVariables false

section
variable {P : Program} {k e : TypeId} {w w' : World} {b n : Nat} {S : Lit → Bool}
theorem MSet.block (h : MSet P k e w b n S) : ∃ es ck, w.heap[b]? = some (.map es ck) := by
  obtain ⟨D, ⟨es, ck, h1, _⟩, _⟩ := h
  exact ⟨es, ck, h1⟩
theorem MSet.keeps (h : MSet P k e w b n S) (hk : KeepsOthers w w') : MSet P k e w' b n S := by
  obtain ⟨es, ck, hb⟩ := h.block
  exact h.of_block ((hk.same b _ hb rfl).trans hb.symm)
theorem MSet.not_row {base size m : Nat} {E : TypeId} {v : Value} {xs : List Value} (h : MSet P k e w b n S) (hr : w.ownsRow base E size v m xs) : v.ownBlock = none ∨ v.ownBlock ≠ some b := by
  rcases hr.2 with ⟨rfl, _⟩ | ⟨g, cap, cur, rfl, _, hg, _⟩
  · exact .inl rfl
  · refine .inr fun e' => ?_
    obtain rfl : g = b := by simpa [Value.ownBlock] using e'
    obtain ⟨es, ck, hb⟩ := h.block
    rw [hg] at hb
    cases hb
theorem MSet.not_box {B : Nat} {T : TypeId} {v : Value} (h : MSet P k e w b n S) (hv : Boxed w B T v) : some B ≠ some b := by
  intro e'
  obtain rfl : B = b := by simpa using e'
  obtain ⟨es, ck, hb⟩ := h.block
  rw [show w.heap[B]? = _ from hv] at hb
  cases hb
end
end Go.Proofs.Ytgfehdjahjpfhaa
