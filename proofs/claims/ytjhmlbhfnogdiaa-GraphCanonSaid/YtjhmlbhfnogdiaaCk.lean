/- What the law of what is reached wants of plain lists. -/
import Derived.Test.YtjhmlbhfnogdiaaCj
namespace Go.Proofs.Ytjhmlbhfnogdiaa.Ck
open Go.Proofs.Ytjhmlbhfnogdiaa Go.Proofs.Ytjhmlbhfnogdiaa.Hd Go.Proofs.Ytjhmlbhfnogdiaa.Gr Go.Proofs.Ytjhmlbhfnogdiaa.Hg Go.Proofs.Ytjhmlbhfnogdiaa.Ps Go.Proofs.Ytjhmlbhfnogdiaa.Rr Go.Proofs.Ytjhmlbhfnogdiaa.Wk Go.Proofs.Ytjhmlbhfnogdiaa.Wp Go.Proofs.Ytjhmlbhfnogdiaa.Wa Go.Proofs.Ytjhmlbhfnogdiaa.Wc Go.Proofs.Ytjhmlbhfnogdiaa.Wf Go.Proofs.Ytjhmlbhfnogdiaa.Pl Go.Proofs.Ytjhmlbhfnogdiaa.Vs Go.Proofs.Ytjhmlbhfnogdiaa.Co Go.Proofs.Ytjhmlbhfnogdiaa.Ci Go.Proofs.Ytjhmlbhfnogdiaa.Cj
set_option linter.unusedVariables false

/-- A graph that Canon may be asked of. -/
structure Fit (m : Nat) (x : Gph) : Prop where
  right : rightG x = true
  pos : posG x
  nodes : x.1.length ≤ 60 + m
  many : x.2.length ≤ 200
theorem Fit.do_ {m : Nat} {g : Gph} (h : Fit m g) (th : Int) (o : Opn) (hv : 0 ≤ o.v) (hm : 0 ≤ o.new.2.2) : Fit (m + 1) (doG g th o) := by
  obtain ⟨d1, d2, d3, d4, d5⟩ := do_good (th := th) (o := o) h.right h.pos hv hm
  exact ⟨d1, d2, by have := h.nodes; omega, by rw [d3]; exact h.many⟩
theorem Fit.canon {m : Nat} {g : Gph} (h : Fit m g) : Fit m (canonG g) := by
  obtain ⟨c1, c2⟩ := canon_right h.right h.pos
  obtain ⟨l1, l2⟩ := canon_len g
  refine ⟨c1, c2, ?_, by rw [l2]; exact h.many⟩
  have := in_len _ _ (Cn.ord_in h.right h.pos)
  have := h.nodes
  omega
theorem pack {g : Gph} (h : Fit 0 g) (th : Int) (o : Opn) (hv : 0 ≤ o.v) (hm : 0 ≤ o.new.2.2) :
    ∃ c d d2 k e1 e2 e3, canonG g = c ∧ doG g th o = d ∧ doA g th o = (e1, e2, e3) ∧ doG c th o = d2 ∧ doA c th o = (e1, e2, e3) ∧ canonG d = k ∧ canonG d2 = k ∧ canonG c = c ∧ Fit 0 c ∧ Fit 1 d ∧ Fit 1 d2 := by
  obtain ⟨h1, h2⟩ := canon_do h.right h.pos th o hv hm
  exact ⟨canonG g, doG g th o, doG (canonG g) th o, canonG (doG g th o), (doA g th o).1, (doA g th o).2.1, (doA g th o).2.2, rfl, rfl, rfl, rfl, h1, rfl, h2, canon_canon h.right h.pos, h.canon, h.do_ th o hv hm, h.canon.do_ th o hv hm⟩
theorem canon_fit {m : Nat} (hm : m ≤ 9) {a b : Value} {g : Gph} {w : World} (h : Gr w a b g) (hf : Fit m g) :
    Calls Try.prog 16 #[.agg #[a, b]] w fun e w' => ∃ a' b', e = .returned (.agg #[a', b']) ∧ Gr w' a' b' (canonG g) ∧ Ext w w' :=
  Cn.canon_any a b g w h hf.right hf.pos (by have := hf.nodes; omega) (by have := hf.many; omega)
end Go.Proofs.Ytjhmlbhfnogdiaa.Ck
