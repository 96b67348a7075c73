/- What a thread does changes no other one's handles, as plain lists. -/
import Derived.Test.YtjhmlbhfnogdiaaPr
namespace Go.Proofs.Ytjhmlbhfnogdiaa.Pt
open Go.Proofs.Ytjhmlbhfnogdiaa Go.Proofs.Ytjhmlbhfnogdiaa.Hd Go.Proofs.Ytjhmlbhfnogdiaa.Gr Go.Proofs.Ytjhmlbhfnogdiaa.Hg Go.Proofs.Ytjhmlbhfnogdiaa.Ps Go.Proofs.Ytjhmlbhfnogdiaa.Rr Go.Proofs.Ytjhmlbhfnogdiaa.Wk Go.Proofs.Ytjhmlbhfnogdiaa.Wp Go.Proofs.Ytjhmlbhfnogdiaa.Wa Go.Proofs.Ytjhmlbhfnogdiaa.Wc Go.Proofs.Ytjhmlbhfnogdiaa.Wf Go.Proofs.Ytjhmlbhfnogdiaa.Pl Go.Proofs.Ytjhmlbhfnogdiaa.Pq
set_option linter.unusedVariables false

def Wr (k : Int) : Prop := k = 4 ∨ k = 5 ∨ k = 6 ∨ k = 7 ∨ k = 2 ∨ k = 8
/-- The rows behind it. -/
def Sh (g : Gph) (t : Nat) (k : Int) (x : Gph) : Prop := x.2 = g.2 ∨ (¬ Wr k ∧ ∃ r, x.2 = g.2.set t r ∧ r.length ≤ (rowOf g t).length + 1 ∧ (rowOf g t).length ≤ r.length + 1)
theorem sh_pushed {g : Gph} {t : Nat} {k v : Int} {y : Gph × Int × Bool} (hk : ¬ Wr k) (h : pushed g t v = .ok y) : Sh g t k y.1 := by
  rw [(pushed_ok h).2]
  exact .inr ⟨hk, _, rfl, by simp, by simp; omega⟩
theorem act_shape {g : Gph} {t : Nat} {o : Opn} {y : Gph × Int × Bool} (h : act g t o = .ok y) : Sh g t o.kind y.1 := by
  unfold act at h
  split at h
  · rename_i hk
    unfold actAlloc at h
    split at h
    · cases h
    · split at h
      · cases h
      · cases h
        exact .inr ⟨by unfold Wr; omega, _, rfl, by simp [row_add], by simp [row_add]; omega⟩
  split at h
  · unfold actGet at h
    split at h
    · cases h
    · cases h; exact .inl rfl
  split at h
  · rename_i hk
    unfold actFollow at h
    split at h
    · cases h
    · exact sh_pushed (by unfold Wr; omega) h
  split at h
  · unfold actWrite at h
    split at h
    · cases h
    · cases h; exact .inl rfl
  split at h
  · unfold actLink at h
    split at h
    · cases h
    · split at h
      · cases h
      · cases h; exact .inl rfl
  split at h
  · unfold actSame at h
    split at h
    · cases h
    · split at h
      · cases h
      · cases h; exact .inl rfl
  split at h
  · rename_i hk
    unfold actPush at h
    split at h
    · cases h
    · exact sh_pushed (by unfold Wr; omega) h
  split at h
  · rename_i hk
    unfold actPop at h
    split at h
    · cases h
    · cases h
      exact .inr ⟨by unfold Wr; omega, _, rfl, by simp; omega, by simp; omega⟩
  split at h
  · cases h; exact .inl rfl
  · cases h

theorem threads {g : Gph} {th other : Int} {o : Opn} (h0 : 0 ≤ other) (h1 : other < g.2.length) :
    ((other ≠ th ∨ Wr o.kind) → rowOf (doG g th o) other.toNat = rowOf g other.toNat) ∧ (rowOf (doG g th o) other.toNat).length ≤ (rowOf g other.toNat).length + 1 ∧ (rowOf g other.toNat).length ≤ (rowOf (doG g th o) other.toNat).length + 1 := by
  have same : ∀ x : Gph, x.2 = g.2 → rowOf x other.toNat = rowOf g other.toNat := fun x hx => by unfold rowOf; rw [hx]
  unfold doG
  cases hres : res g th o with
  | error e => exact ⟨fun _ => rfl, Nat.le_succ _, Nat.le_succ _⟩
  | ok x =>
    show (_ → rowOf x.1 _ = _) ∧ (rowOf x.1 _).length ≤ _ ∧ _ ≤ (rowOf x.1 _).length + 1
    unfold res at hres
    split at hres
    · rename_i ht
      rcases act_shape hres with hs | ⟨hk, r, hr, hl1, hl2⟩
      · rw [same _ hs]; exact ⟨fun _ => rfl, Nat.le_succ _, Nat.le_succ _⟩
      · by_cases he : other = th
        · subst he
          have e : rowOf x.1 other.toNat = r := by
            unfold rowOf
            rw [hr]
            have : other.toNat < g.2.length := by omega
            simp [List.getD_eq_getElem?_getD, this]
          rw [e]
          exact ⟨fun h => absurd h (by rintro (h | h); exact h rfl; exact hk h), hl1, hl2⟩
        · have e : rowOf x.1 other.toNat = rowOf g other.toNat := by
            unfold rowOf
            rw [hr]
            have : th.toNat ≠ other.toNat := by omega
            simp [List.getD_eq_getElem?_getD, List.getElem?_set_ne this]
          rw [e]; exact ⟨fun _ => rfl, Nat.le_succ _, Nat.le_succ _⟩
    · cases hres
end Go.Proofs.Ytjhmlbhfnogdiaa.Pt
