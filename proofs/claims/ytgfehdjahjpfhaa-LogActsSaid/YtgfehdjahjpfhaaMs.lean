/- Maps of the call's own whose elements are bools, asked and written: sets. No function of the program in sight. -/
import Derived.Test.YtgfehdjahjpfhaaEx
import Derived.Maps.Own
import Derived.Maps.Views
namespace Go.Proofs.Ytgfehdjahjpfhaa
open Go.RowKit
open Go.Maps (Keyed)
set_option linter.unusedVariables false

theorem plainElem_bool_inv {H : Type} {P : Program} {e : TypeId} (he : P.underlying e = some .bool) {v : Value} {z : DataW H × List MemPlace} (h : plainElem P e v = some z) : ∃ a, v = .bool a ∧ z = (.lit (.bool a), []) := by
  unfold plainElem at h
  rw [he] at h
  cases v <;> simp at h
  subst h
  exact ⟨_, rfl, rfl⟩

/-- Block b is a map of at most n entries; S tells what it answers at each key. -/
def MSet (P : Program) (k e : TypeId) (w : World) (b n : Nat) (S : Lit → Bool) : Prop :=
  ∃ D : DataW Unit, w.ownsMap P k (plainElem P e) b n D ∧ Maps.IsMap D ∧ ∀ kl, WideAt.IsKeyLit kl → D.atKey kl (.lit (.bool false)) = .lit (.bool (S kl))

section
variable {P : Program} {k e t : TypeId} {w : World} {b n : Nat} {S : Lit → Bool}

theorem MSet.made (w : World) (P : Program) (k e : TypeId) : MSet P k e (w.alloc (.map #[] 0)) w.heap.size 0 (fun _ => false) :=
  ⟨.map [], World.ownsMap_made w P k _, Maps.isMap_empty, fun kl _ => rfl⟩
theorem MSet.lt (h : MSet P k e w b n S) : b < w.heap.size := by
  obtain ⟨D, h, _⟩ := h
  exact h.lt
theorem MSet.kept {w' : World} {row : Option Nat} (h : MSet P k e w b n S) (hg : w.grownBy w' row) (hne : some b ≠ row) : MSet P k e w' b n S := by
  obtain ⟨D, h, r⟩ := h
  exact ⟨D, h.kept hg hne, r⟩
theorem MSet.of_block {w' : World} (h : MSet P k e w b n S) (hb : w'.heap[b]? = w.heap[b]?) : MSet P k e w' b n S := by
  obtain ⟨D, ⟨es, ck, h1, r⟩, r2⟩ := h
  exact ⟨D, ⟨es, ck, hb.trans h1, r⟩, r2⟩
theorem MSet.ext {w' : World} (h : MSet P k e w b n S) (he : Ext w w') : MSet P k e w' b n S := h.of_block (Below.block he b h.lt)
theorem MSet.alloc (h : MSet P k e w b n S) (o : Obj) : MSet P k e (w.alloc o) b n S := h.ext ((Ext.refl w).alloc o)
theorem MSet.mono {n' : Nat} (h : MSet P k e w b n S) (hn : n ≤ n') : MSet P k e w b n' S := by
  obtain ⟨D, h, r⟩ := h
  exact ⟨D, h.mono hn, r⟩

/-- 'm[x]'. -/
theorem MSet.look (h : MSet P k e w b n S) (K : Keyed P k) (ht : P.underlying t = some (.map k e)) (he : P.underlying e = some .bool) (hz : (zeroValue e).run P w = .ok (.bool false) w) {key : Value} {kl : Lit} (hkey : keyOf P k key = some kl) :
    (Instr.lookup t (.map (some b)) key false).run P w = .ok (.bool (S kl)) w := by
  obtain ⟨D, h, _, hS⟩ := h
  obtain ⟨v, ps, hrun, hv⟩ := h.lookup K ht hz (plainElem_bool he false) hkey
  obtain ⟨a, rfl, hz2⟩ := plainElem_bool_inv he hv
  rw [hS kl (K.key hkey)] at hz2
  simp only [Prod.mk.injEq, DataW.lit.injEq, Lit.bool.injEq] at hz2
  rw [hrun, hz2.1]

/-- 'm[x] = a'. -/
theorem MSet.put (h : MSet P k e w b n S) (K : Keyed P k) (ht : P.underlying t = some (.map k e)) (he : P.underlying e = some .bool) (hn : n < maxLen) {key : Value} {kl : Lit} (hkey : keyOf P k key = some kl) (a : Bool)
    {S' : Lit → Bool} (h1 : S' kl = a) (h2 : ∀ z, z ≠ kl → S' z = S z) :
    ∃ w', (Instr.mapUpdate t (.map (some b)) key (.bool a)).run P w = .ok () w' ∧ MSet P k e w' b (n + 1) S' ∧ w.grownBy w' (some b) := by
  obtain ⟨D, h, hM, hS⟩ := h
  obtain ⟨w', hrun, h3, h4⟩ := h.update K ht hn hkey (plainElem_bool he a)
  refine ⟨w', hrun, ⟨_, h3, hM.put _ _, fun z hzk => ?_⟩, h4⟩
  by_cases hz : z = kl
  · subst hz
    rw [Maps.atKey_put_same hM hzk, h1]
  · rw [Maps.atKey_put_other hz, hS z hzk, h2 z hz]
end
end Go.Proofs.Ytgfehdjahjpfhaa
