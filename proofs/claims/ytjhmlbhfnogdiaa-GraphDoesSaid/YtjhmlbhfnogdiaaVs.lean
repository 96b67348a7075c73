/- What is reached, in order, as plain lists: a depth-first walk, with fuel. -/
import Derived.Test.YtjhmlbhfnogdiaaPl
namespace Go.Proofs.Ytjhmlbhfnogdiaa.Vs
open Go.Proofs.Ytjhmlbhfnogdiaa Go.Proofs.Ytjhmlbhfnogdiaa.Hd Go.Proofs.Ytjhmlbhfnogdiaa.Gr Go.Proofs.Ytjhmlbhfnogdiaa.Hg Go.Proofs.Ytjhmlbhfnogdiaa.Ps Go.Proofs.Ytjhmlbhfnogdiaa.Rr Go.Proofs.Ytjhmlbhfnogdiaa.Wk Go.Proofs.Ytjhmlbhfnogdiaa.Pl
set_option linter.unusedVariables false

/-- Where a node's pointers lead. -/
def kids (g : Gph) (h : Int) : List Int := (ptrs (node g (h - 1).toNat).1.2.1.toNat (node g (h - 1).toNat).1.2.2).map fun p => (node g (h - 1).toNat).2.getD p.toNat 0
def dfs (g : Gph) : Nat → List Int → Int → List Int
  | 0, out, _ => out
  | k + 1, out, h => if h = 0 ∨ h ∈ out then out else (kids g h).foldl (dfs g k) (out ++ [h])

def In (N : Nat) (out : List Int) : Prop := out.Nodup ∧ ∀ x ∈ out, 1 ≤ x ∧ x ≤ (N : Int)
theorem in_nil (N : Nat) : In N [] := ⟨List.nodup_nil, fun x hx => by cases hx⟩
theorem in_len : ∀ (N : Nat) (l : List Int), In N l → l.length ≤ N
  | 0, l, ⟨_, h⟩ => by
    cases l with
    | nil => simp
    | cons x r => have := h x (by simp); omega
  | N + 1, l, ⟨hd, h⟩ => by
    by_cases hm : ((N : Int) + 1) ∈ l
    · have h1 := in_len N (l.erase ((N : Int) + 1)) ⟨hd.erase _, fun x hx => by
        obtain ⟨h1, h2⟩ := (hd.mem_erase_iff).1 hx
        have := h x h2
        omega⟩
      rw [List.length_erase_of_mem hm] at h1
      omega
    · have := in_len N l ⟨hd, fun x hx => by
        have h1 := h x hx
        have : x ≠ (N : Int) + 1 := fun e => hm (e ▸ hx)
        omega⟩
      omega
theorem in_snoc {N : Nat} {out : List Int} {h : Int} (hi : In N out) (h1 : 1 ≤ h) (h2 : h ≤ N) (hn : h ∉ out) : In N (out ++ [h]) := by
  refine ⟨List.nodup_append.2 ⟨hi.1, by simp, fun a ha b hb => ?_⟩, fun x hx => ?_⟩
  · obtain rfl : b = h := by simpa using hb
    exact fun e => hn (e ▸ ha)
  · rcases List.mem_append.1 hx with hx | hx
    · exact hi.2 x hx
    · obtain rfl : x = h := by simpa using hx
      exact ⟨h1, h2⟩

theorem kids_in {g : Gph} (hr : rightG g = true) (hp : posG g) {h : Int} (h1 : 1 ≤ h) (h2 : h ≤ g.1.length) : ∀ x ∈ kids g h, 0 ≤ x ∧ x ≤ (g.1.length : Int) := by
  intro x hx
  have hn : (h - 1).toNat < g.1.length := by omega
  obtain ⟨_, _, h3, h4⟩ := right_node hr hn
  unfold kids at hx
  obtain ⟨p, hpm, rfl⟩ := List.mem_map.1 hx
  have hnd := hp _ (node_mem hn)
  generalize node g (h - 1).toNat = nd at *
  unfold okP at h4
  refine ⟨?_, of_decide_eq_true (List.all_eq_true.1 h4 p hpm)⟩
  by_cases hl : p.toNat < nd.2.length
  · exact hnd.2 _ (by simp [List.getD_eq_getElem?_getD, hl])
  · simp [List.getD_eq_getElem?_getD, List.getElem?_eq_none (by omega : nd.2.length ≤ p.toNat)]

/-- What is told stays; what comes besides is in range, and told once. -/
theorem dfs_in {g : Gph} (hr : rightG g = true) (hp : posG g) : ∀ (k : Nat) (out : List Int) (h : Int), In g.1.length out → 0 ≤ h → h ≤ g.1.length → In g.1.length (dfs g k out h) ∧ out <+: dfs g k out h
  | 0, out, h, hi, _, _ => ⟨hi, List.prefix_refl _⟩
  | k + 1, out, h, hi, h0, h1 => by
    unfold dfs
    split
    · exact ⟨hi, List.prefix_refl _⟩
    · rename_i hc
      have hc' : h ≠ 0 ∧ h ∉ out := ⟨fun e => hc (.inl e), fun e => hc (.inr e)⟩
      have hs := in_snoc (h := h) hi (by omega) h1 hc'.2
      have hk := kids_in hr hp (h := h) (by omega) h1
      have fold : ∀ (l : List Int) (o : List Int), (∀ x ∈ l, 0 ≤ x ∧ x ≤ (g.1.length : Int)) → In g.1.length o → In g.1.length (l.foldl (dfs g k) o) ∧ o <+: l.foldl (dfs g k) o := by
        intro l
        induction l with
        | nil => intro o _ ho; exact ⟨ho, List.prefix_refl _⟩
        | cons x r ih =>
          intro o hl ho
          have hx := hl x (by simp)
          obtain ⟨a1, a2⟩ := dfs_in hr hp k o x ho hx.1 hx.2
          obtain ⟨b1, b2⟩ := ih (dfs g k o x) (fun y hy => hl y (by simp [hy])) a1
          exact ⟨b1, a2.trans b2⟩
      obtain ⟨f1, f2⟩ := fold _ _ hk hs
      exact ⟨f1, (List.prefix_append _ _).trans f2⟩
end Go.Proofs.Ytjhmlbhfnogdiaa.Vs
