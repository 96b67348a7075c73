/- Graphs that are alike but for their handles: what is reached in order is the same; and each is alike to what is reached of it. Plain lists, no program in sight. -/
import Derived.Test.YtjhmlbhfnogdiaaCn
namespace Go.Proofs.Ytjhmlbhfnogdiaa.Ci
open Go.Proofs.Ytjhmlbhfnogdiaa Go.Proofs.Ytjhmlbhfnogdiaa.Hd Go.Proofs.Ytjhmlbhfnogdiaa.Gr Go.Proofs.Ytjhmlbhfnogdiaa.Hg Go.Proofs.Ytjhmlbhfnogdiaa.Ps Go.Proofs.Ytjhmlbhfnogdiaa.Rr Go.Proofs.Ytjhmlbhfnogdiaa.Wk Go.Proofs.Ytjhmlbhfnogdiaa.Wp Go.Proofs.Ytjhmlbhfnogdiaa.Wa Go.Proofs.Ytjhmlbhfnogdiaa.Wc Go.Proofs.Ytjhmlbhfnogdiaa.Wf Go.Proofs.Ytjhmlbhfnogdiaa.Pl Go.Proofs.Ytjhmlbhfnogdiaa.Vs Go.Proofs.Ytjhmlbhfnogdiaa.Cp Go.Proofs.Ytjhmlbhfnogdiaa.Vf Go.Proofs.Ytjhmlbhfnogdiaa.Co Go.Proofs.Ytjhmlbhfnogdiaa.Cn
set_option linter.unusedVariables false

def nodeAt (g : Gph) (x : Int) : Nd := node g (x - 1).toNat
/-- Two nodes, alike but for their handles. -/
structure SameN (R : Int → Prop) (ρ : Int → Int) (n m : Nd) : Prop where
  hd : m.1 = n.1
  len : m.2.length = n.2.length
  ptr : ∀ i : Nat, i < n.1.2.1.toNat → bit n.1.2.2 (i : Int) = true → R (n.2.getD i 0) ∧ m.2.getD i 0 = ρ (n.2.getD i 0)
  sca : ∀ i : Nat, bit n.1.2.2 (i : Int) = false → m.2.getD i 0 = n.2.getD i 0
structure Iso (R : Int → Prop) (ρ : Int → Int) (g h : Gph) : Prop where
  z : R 0 ∧ ρ 0 = 0
  rng : ∀ x, R x → 0 ≤ x ∧ x ≤ g.1.length
  rng' : ∀ x, R x → 0 ≤ ρ x ∧ ρ x ≤ h.1.length
  inj : ∀ x y, R x → R y → ρ x = ρ y → x = y
  rows : h.2 = g.2.map fun r => r.map ρ
  rin : ∀ r ∈ g.2, ∀ x ∈ r, R x
  nd : ∀ x, R x → x ≠ 0 → SameN R ρ (nodeAt g x) (nodeAt h (ρ x))

theorem mem_ptrs_iff {l : Nat} {m : Int} {i : Nat} : (i : Int) ∈ ptrs l m ↔ i < l ∧ bit m (i : Int) = true :=
  ⟨fun h => by obtain ⟨j, e, h1, h2⟩ := ptrs_mem h; obtain rfl : i = j := by omega
               exact ⟨h1, h2⟩, fun h => mem_ptrs h.1 h.2⟩
theorem ptrs_nodup (l : Nat) (m : Int) : (ptrs l m).Nodup := by
  unfold ptrs
  exact List.Pairwise.map _ (fun a b (h : a ≠ b) e => h (by have e : (a : Int) = b := e; omega)) (List.Pairwise.filter _ List.nodup_range)
theorem ptrs_nat {l : Nat} {m p : Int} (h : p ∈ ptrs l m) : p = (p.toNat : Int) := by
  obtain ⟨j, rfl, _⟩ := ptrs_mem h; simp

theorem renF_get (O : List Int) (i : Nat) : ∀ (ps f : List Int), ps.Nodup → (∀ p ∈ ps, p = (p.toNat : Int)) → (renF O ps f).getD i 0 = if (i : Int) ∈ ps ∧ i < f.length then num O (f.getD i 0) else f.getD i 0
  | [], f, _, _ => by rw [if_neg (by simp)]; rfl
  | p :: r, f, hd, hn => by
    obtain ⟨h1, h2⟩ := List.nodup_cons.1 hd
    show (renF O r (f.set p.toNat (num O (f.getD p.toNat 0)))).getD i 0 = _
    rw [renF_get O i r _ h2 (fun q hq => hn q (by simp [hq])), List.length_set]
    have hp := hn p (by simp)
    by_cases e : (i : Int) = p
    · have ei : p.toNat = i := by omega
      rw [if_neg (fun h => h1 (e ▸ h.1)), ei]
      by_cases hl : i < f.length
      · rw [getD_set _ _ _ _ hl, if_pos rfl, if_pos ⟨by simp [e], hl⟩]
      · rw [List.set_eq_of_length_le (by omega), if_neg (fun h => hl h.2)]
    · have hne : i ≠ p.toNat := fun h => e (by omega)
      have e2 : (f.set p.toNat (num O (f.getD p.toNat 0))).getD i 0 = f.getD i 0 := by
        rw [List.getD_eq_getElem?_getD, List.getElem?_set_ne (fun h => hne h.symm), ← List.getD_eq_getElem?_getD]
      rw [e2]
      by_cases hm : (i : Int) ∈ r ∧ i < f.length
      · rw [if_pos hm, if_pos ⟨by simp [hm.1], hm.2⟩]
      · rw [if_neg hm, if_neg (fun h => hm ⟨by simpa [e] using h.1, h.2⟩)]

theorem ext_getD {f f' : List Int} (hl : f.length = f'.length) (h : ∀ i, i < f.length → f.getD i 0 = f'.getD i 0) : f = f' := by
  refine List.ext_getElem hl fun i h1 h2 => ?_
  have := h i h1
  simpa [List.getD_eq_getElem?_getD, h1, h2] using this

theorem right_len {g : Gph} (hr : rightG g = true) {x : Int} (h1 : 1 ≤ x) (h2 : x ≤ g.1.length) : ((nodeAt g x).2.length : Int) = (nodeAt g x).1.2.1 := (right_node hr (n := (x - 1).toNat) (by omega)).2.2.1

/-! Fuel -/
theorem fold_fuel {g : Gph} (hr : rightG g = true) (hp : posG g) (k k' : Nat) (ih : ∀ (o : List Int) (x : Int), In g.1.length o → g.1.length < o.length + k → g.1.length < o.length + k' → 0 ≤ x → x ≤ g.1.length → dfs g k o x = dfs g k' o x) : ∀ (l o : List Int), (∀ x ∈ l, 0 ≤ x ∧ x ≤ (g.1.length : Int)) → In g.1.length o → g.1.length < o.length + k → g.1.length < o.length + k' → l.foldl (dfs g k) o = l.foldl (dfs g k') o
  | [], o, _, _, _, _ => rfl
  | x :: r, o, hl, ho, hk, hk' => by
    have hx := hl x (by simp)
    have e := ih o x ho hk hk' hx.1 hx.2
    obtain ⟨a1, a2⟩ := dfs_in hr hp k' o x ho hx.1 hx.2
    have := a2.length_le
    show r.foldl (dfs g k) (dfs g k o x) = r.foldl (dfs g k') (dfs g k' o x)
    rw [e]
    exact fold_fuel hr hp k k' ih r _ (fun y hy => hl y (by simp [hy])) a1 (by omega) (by omega)
theorem dfs_fuel {g : Gph} (hr : rightG g = true) (hp : posG g) : ∀ (k k' : Nat) (out : List Int) (x : Int), In g.1.length out → g.1.length < out.length + k → g.1.length < out.length + k' → 0 ≤ x → x ≤ g.1.length → dfs g k out x = dfs g k' out x
  | 0, k', out, x, hi, hk, _, _, _ => by have := in_len _ _ hi; omega
  | k + 1, 0, out, x, hi, _, hk, _, _ => by have := in_len _ _ hi; omega
  | k + 1, k' + 1, out, x, hi, hk, hk', h0, h1 => by
    unfold dfs
    split
    · rfl
    · rename_i hc
      have hc' : x ≠ 0 ∧ x ∉ out := ⟨fun e => hc (.inl e), fun e => hc (.inr e)⟩
      exact fold_fuel hr hp k k' (fun o y ho a b c d => dfs_fuel hr hp k k' o y ho a b c d) _ _ (kids_in hr hp (h := x) (by omega) h1) (in_snoc (h := x) hi (by omega) h1 hc'.2) (by rw [List.length_append]; simp; omega) (by rw [List.length_append]; simp; omega)
theorem od_fuel {g : Gph} (hr : rightG g = true) (hp : posG g) (K : Nat) (hK : g.1.length < K) {l : List Int} (hl : ∀ x ∈ l, 0 ≤ x ∧ x ≤ (g.1.length : Int)) : l.foldl (dfs g K) [] = od g l :=
  fold_fuel hr hp K (g.1.length + 1) (fun o x ho a b c d => dfs_fuel hr hp _ _ o x ho a b c d) l [] hl (in_nil _) (by simpa using hK) (by simp)

/-! What is told leads to what is told. -/
def Cl (g : Gph) (out S : List Int) : Prop := ∀ x ∈ out, x ∉ S → ∀ y ∈ kids g x, y = 0 ∨ y ∈ out
theorem fold_cl {g : Gph} (hr : rightG g = true) (hp : posG g) (k : Nat) (S : List Int) (ih : ∀ (o : List Int) (x : Int), In g.1.length o → g.1.length < o.length + k → 0 ≤ x → x ≤ g.1.length → Cl g o S → Cl g (dfs g k o x) S) : ∀ (l o : List Int), (∀ x ∈ l, 0 ≤ x ∧ x ≤ (g.1.length : Int)) → In g.1.length o → g.1.length < o.length + k → Cl g o S → Cl g (l.foldl (dfs g k) o) S ∧ ∀ x ∈ l, x = 0 ∨ x ∈ l.foldl (dfs g k) o
  | [], o, _, _, _, hc => ⟨hc, fun x hx => by cases hx⟩
  | x :: r, o, hl, ho, hk, hc => by
    have hx := hl x (by simp)
    obtain ⟨a1, a2⟩ := dfs_in hr hp k o x ho hx.1 hx.2
    have hle := a2.length_le
    have hr' : ∀ y ∈ r, 0 ≤ y ∧ y ≤ (g.1.length : Int) := fun y hy => hl y (by simp [hy])
    obtain ⟨b1, b2⟩ := fold_cl hr hp k S ih r (dfs g k o x) hr' a1 (by omega) (ih o x ho hk hx.1 hx.2 hc)
    refine ⟨b1, fun y hy => ?_⟩
    rcases List.mem_cons.1 hy with rfl | hy
    · obtain ⟨k, rfl⟩ : ∃ j, k = j + 1 := ⟨k - 1, by have := in_len _ _ ho; omega⟩
      rcases dfs_told hr hp k ho hx.1 hx.2 with e | e
      · exact .inl e
      · exact .inr ((fold_in hr hp (k + 1) r _ hr' a1).2.subset e)
    · exact b2 y hy
theorem dfs_cl {g : Gph} (hr : rightG g = true) (hp : posG g) : ∀ (k : Nat) (S out : List Int) (x : Int), In g.1.length out → g.1.length < out.length + k → 0 ≤ x → x ≤ g.1.length → Cl g out S → Cl g (dfs g k out x) S
  | 0, S, out, x, hi, hk, _, _, _ => by have := in_len _ _ hi; omega
  | k + 1, S, out, x, hi, hk, h0, h1, hc => by
    unfold dfs
    split
    · exact hc
    · rename_i hn
      have hc' : x ≠ 0 ∧ x ∉ out := ⟨fun e => hn (.inl e), fun e => hn (.inr e)⟩
      have hkb := kids_in hr hp (h := x) (by omega) h1
      have hs := in_snoc (h := x) hi (by omega) h1 hc'.2
      obtain ⟨b1, b2⟩ := fold_cl hr hp k (x :: S) (fun o y ho a b c d => dfs_cl hr hp k (x :: S) o y ho a b c d) (kids g x) (out ++ [x]) hkb hs (by rw [List.length_append]; simp; omega) (fun y hy hns z hz => by
        rcases List.mem_append.1 hy with hy | hy
        · rcases hc y hy (fun h => hns (by simp [h])) z hz with e | e
          · exact .inl e
          · exact .inr (by simp [e])
        · obtain rfl : y = x := by simpa using hy
          exact absurd (by simp) hns)
      intro y hy hns z hz
      by_cases e : y = x
      · subst e; exact b2 z hz
      · exact b1 y hy (by simp [e, hns]) z hz
theorem ord_cl {g : Gph} (hr : rightG g = true) (hp : posG g) : (∀ x ∈ ordG g, ∀ y ∈ kids g x, y = 0 ∨ y ∈ ordG g) ∧ ∀ x ∈ g.2.flatten, x = 0 ∨ x ∈ ordG g := by
  obtain ⟨h1, h2⟩ := fold_cl hr hp (g.1.length + 1) [] (fun o y ho a b c d => dfs_cl hr hp _ [] o y ho a b c d) g.2.flatten [] (row_in hr) (in_nil _) (by simp) (fun x hx => by cases hx)
  exact ⟨fun x hx y hy => h1 x hx (by simp) y hy, h2⟩

/-! Alike graphs come to the same. -/
section
variable {R : Int → Prop} {ρ : Int → Int} {g h : Gph}
theorem Iso.pos (hI : Iso R ρ g h) {x : Int} (hx : R x) (h0 : x ≠ 0) : 1 ≤ x ∧ 1 ≤ ρ x := by
  have h1 := hI.rng x hx
  have h2 := hI.rng' x hx
  have h3 : ρ x ≠ 0 := fun e => h0 (hI.inj x 0 hx hI.z.1 (e.trans hI.z.2.symm))
  omega
theorem Iso.kids (hI : Iso R ρ g h) {x : Int} (hx : R x) (h0 : x ≠ 0) : kids h (ρ x) = (kids g x).map ρ ∧ ∀ y ∈ kids g x, R y := by
  have hn := hI.nd x hx h0
  have hd : (node h (ρ x - 1).toNat).1 = (node g (x - 1).toNat).1 := hn.hd
  have hp : ∀ p ∈ ptrs (node g (x - 1).toNat).1.2.1.toNat (node g (x - 1).toNat).1.2.2, R ((node g (x - 1).toNat).2.getD p.toNat 0) ∧ (node h (ρ x - 1).toNat).2.getD p.toNat 0 = ρ ((node g (x - 1).toNat).2.getD p.toNat 0) := fun p hp => by
    obtain ⟨i, rfl, h1, h2⟩ := ptrs_mem hp
    exact hn.ptr i h1 h2
  unfold Vs.kids
  rw [hd, List.map_map]
  refine ⟨List.map_congr_left fun p hp' => (hp p hp').2, fun y hy => ?_⟩
  obtain ⟨p, hpm, rfl⟩ := List.mem_map.1 hy
  exact (hp p hpm).1
theorem Iso.dfs (hI : Iso R ρ g h) : ∀ (k : Nat) (out : List Int) (x : Int), (∀ y ∈ out, R y) → R x → dfs h k (out.map ρ) (ρ x) = (dfs g k out x).map ρ ∧ ∀ y ∈ dfs g k out x, R y
  | 0, out, x, ho, _ => ⟨rfl, ho⟩
  | k + 1, out, x, ho, hx => by
    unfold Vs.dfs
    have hiff : (ρ x = 0 ∨ ρ x ∈ out.map ρ) ↔ (x = 0 ∨ x ∈ out) := by
      constructor
      · rintro (e | e)
        · exact .inl (hI.inj x 0 hx hI.z.1 (e.trans hI.z.2.symm))
        · obtain ⟨y, hy, e⟩ := List.mem_map.1 e
          exact .inr (hI.inj y x (ho y hy) hx e ▸ hy)
      · rintro (e | e)
        · exact .inl (by rw [e, hI.z.2])
        · exact .inr (List.mem_map.2 ⟨x, e, rfl⟩)
    by_cases hc : x = 0 ∨ x ∈ out
    · rw [if_pos hc, if_pos (hiff.2 hc)]
      exact ⟨rfl, ho⟩
    · rw [if_neg hc, if_neg (fun e => hc (hiff.1 e))]
      obtain ⟨hk, hkR⟩ := hI.kids hx (fun e => hc (.inl e))
      rw [hk]
      have fold : ∀ (l o : List Int), (∀ y ∈ l, R y) → (∀ y ∈ o, R y) → (l.map ρ).foldl (Vs.dfs h k) (o.map ρ) = (l.foldl (Vs.dfs g k) o).map ρ ∧ ∀ y ∈ l.foldl (Vs.dfs g k) o, R y := by
        intro l
        induction l with
        | nil => intro o _ ho; exact ⟨rfl, ho⟩
        | cons y r ih =>
          intro o hl ho
          obtain ⟨a1, a2⟩ := hI.dfs k o y ho (hl y (by simp))
          simp only [List.map_cons, List.foldl_cons]
          rw [a1]
          exact ih _ (fun z hz => hl z (by simp [hz])) a2
      have := fold (Vs.kids g x) (out ++ [x]) hkR (fun y hy => by
        rcases List.mem_append.1 hy with hy | hy
        · exact ho y hy
        · obtain rfl : y = x := by simpa using hy
          exact hx)
      simpa using this
theorem Iso.flat (hI : Iso R ρ g h) : h.2.flatten = g.2.flatten.map ρ := by rw [hI.rows, List.map_flatten]
theorem Iso.ord (hI : Iso R ρ g h) (hr : rightG g = true) (hp : posG g) (hr' : rightG h = true) (hp' : posG h) : ordG h = (ordG g).map ρ ∧ ∀ y ∈ ordG g, R y := by
  have e1 := od_fuel hr hp (g.1.length + h.1.length + 1) (by omega) (row_in hr)
  have e2 := od_fuel hr' hp' (g.1.length + h.1.length + 1) (by omega) (row_in hr')
  have hR : ∀ x ∈ g.2.flatten, R x := fun x hx => by
    obtain ⟨r, h1, h2⟩ := List.mem_flatten.1 hx
    exact hI.rin r h1 x h2
  have fold : ∀ (K : Nat) (l o : List Int), (∀ y ∈ l, R y) → (∀ y ∈ o, R y) → (l.map ρ).foldl (Vs.dfs h K) (o.map ρ) = (l.foldl (Vs.dfs g K) o).map ρ ∧ ∀ y ∈ l.foldl (Vs.dfs g K) o, R y := by
    intro K l
    induction l with
    | nil => intro o _ ho; exact ⟨rfl, ho⟩
    | cons y r ih =>
      intro o hl ho
      obtain ⟨a1, a2⟩ := hI.dfs K o y ho (hl y (by simp))
      simp only [List.map_cons, List.foldl_cons]
      rw [a1]
      exact ih _ (fun z hz => hl z (by simp [hz])) a2
  obtain ⟨f1, f2⟩ := fold (g.1.length + h.1.length + 1) g.2.flatten [] hR (fun y hy => by cases hy)
  unfold ordG
  rw [← e1, ← e2, hI.flat]
  exact ⟨f1, f2⟩
theorem idx_map {l : List Int} {x : Int} (hl : ∀ y ∈ l, ρ y = ρ x → y = x) : (l.map ρ).idxOf (ρ x) = l.idxOf x := by
  induction l with
  | nil => rfl
  | cons y r ih =>
    rw [List.map_cons, List.idxOf_cons, List.idxOf_cons, ih fun z hz => hl z (by simp [hz])]
    by_cases e : y = x
    · subst e; simp
    · have e1 : (y == x) = false := by simpa using e
      have e2 : (ρ y == ρ x) = false := by simpa using fun h => e (hl y (by simp) h)
      rw [e1, e2]
theorem Iso.num (hI : Iso R ρ g h) {O : List Int} (hO : ∀ y ∈ O, R y) {x : Int} (hx : R x) : num (O.map ρ) (ρ x) = num O x := by
  have hinj : ∀ y ∈ O, ρ y = ρ x → y = x := fun y hy e => hI.inj y x (hO y hy) hx e
  by_cases hm : x ∈ O
  · rw [num_in hm, num_in (List.mem_map.2 ⟨x, hm, rfl⟩), idx_map hinj]
  · rw [num_no hm, num_no fun h => by
      obtain ⟨y, hy, e⟩ := List.mem_map.1 h
      exact hm (hinj y hy e ▸ hy)]
theorem Iso.canon (hI : Iso R ρ g h) (hr : rightG g = true) (hp : posG g) (hr' : rightG h = true) (hp' : posG h) : canonG h = canonG g := by
  obtain ⟨ho, hR⟩ := hI.ord hr hp hr' hp'
  have hO := ord_in hr hp
  unfold canonG
  rw [ho, hI.rows, List.map_map, List.map_map]
  refine Prod.ext (List.map_congr_left fun x hx => ?_) (List.map_congr_left fun r hr => ?_)
  · have hxR := hR x hx
    have hx1 := hO.2 x hx
    have hn := hI.nd x hxR (by omega)
    have hlen : ((nodeAt g x).2.length : Int) = (nodeAt g x).1.2.1 := right_len hr hx1.1 hx1.2
    show renN ((ordG g).map ρ) (nodeAt h (ρ x)) = renN (ordG g) (nodeAt g x)
    unfold renN
    rw [hn.hd]
    refine Prod.ext rfl (ext_getD (by rw [renF_len, renF_len]; exact hn.len) fun i hi => ?_)
    rw [renF_len] at hi
    show (renF _ _ _).getD i 0 = (renF _ _ _).getD i 0
    rw [renF_get _ _ _ _ (ptrs_nodup _ _) (fun p hp => ptrs_nat hp), renF_get _ _ _ _ (ptrs_nodup _ _) (fun p hp => ptrs_nat hp), hn.len]
    have hil : i < (nodeAt g x).1.2.1.toNat := by rw [hn.len] at hi; omega
    by_cases hb : bit (nodeAt g x).1.2.2 (i : Int) = true
    · have hm := mem_ptrs hil hb
      have hil2 : i < (nodeAt g x).2.length := by rw [hn.len] at hi; exact hi
      rw [if_pos ⟨hm, hil2⟩, if_pos ⟨hm, hil2⟩, (hn.ptr i hil hb).2]
      exact hI.num hR (hn.ptr i hil hb).1
    · have hm : ¬ (i : Int) ∈ ptrs (nodeAt g x).1.2.1.toNat (nodeAt g x).1.2.2 := fun h => hb (mem_ptrs_iff.1 h).2
      rw [if_neg (fun h => hm h.1), if_neg (fun h => hm h.1)]
      exact hn.sca i (by simpa using hb)
  · show (r.map ρ).map _ = r.map _
    rw [List.map_map]
    exact List.map_congr_left fun x hx => hI.num hR (hI.rin r hr x hx)
end

/-! What is reached of a graph is alike to it. -/
theorem num_le (O : List Int) (h : Int) : 0 ≤ num O h ∧ num O h ≤ O.length := by
  by_cases hm : h ∈ O
  · rw [num_in hm]
    have h1 := List.idxOf_lt_length_of_mem hm
    omega
  · rw [num_no hm]; omega
theorem num_inj {O : List Int} {x y : Int} (hx : x ∈ O) (hy : y ∈ O) (e : num O x = num O y) : x = y := by
  rw [num_in hx, num_in hy] at e
  have h1 := List.getElem_idxOf (List.idxOf_lt_length_of_mem hx)
  have h2 := List.getElem_idxOf (List.idxOf_lt_length_of_mem hy)
  have e' : O.idxOf x = O.idxOf y := by omega
  rw [← h1, ← h2]
  simp only [e']
theorem canon_len (g : Gph) : (canonG g).1.length = (ordG g).length ∧ (canonG g).2.length = g.2.length := by simp [canonG]
theorem canon_node {g : Gph} {x : Int} (hx : x ∈ ordG g) : nodeAt (canonG g) (num (ordG g) x) = renN (ordG g) (nodeAt g x) := by
  have hl := List.idxOf_lt_length_of_mem hx
  have h1 := List.getElem_idxOf hl
  unfold nodeAt node
  rw [num_in hx, show ((((ordG g).idxOf x : Nat) : Int) + 1 - 1).toNat = (ordG g).idxOf x by omega]
  simp only [canonG, List.getD_eq_getElem?_getD, List.getElem?_map, List.getElem?_eq_getElem hl, Option.map_some, Option.getD_some, h1]
  rfl
theorem canon_iso {g : Gph} (hr : rightG g = true) (hp : posG g) : Iso (fun x => x = 0 ∨ x ∈ ordG g) (num (ordG g)) g (canonG g) := by
  have hO := ord_in hr hp
  obtain ⟨hc1, hc2⟩ := ord_cl hr hp
  refine ⟨⟨.inl rfl, num_zero hO⟩, fun x hx => ?_, fun x hx => ?_, fun x y hx hy e => ?_, rfl, fun r hr' x hx => hc2 x (List.mem_flatten.2 ⟨r, hr', hx⟩), fun x hx h0 => ?_⟩
  · rcases hx with rfl | hx
    · omega
    · have := hO.2 x hx; omega
  · rw [(canon_len g).1]; exact num_le _ _
  · have pos : ∀ z, z ∈ ordG g → num (ordG g) z ≠ 0 := fun z hz h => by rw [num_in hz] at h; omega
    rcases hx with rfl | hx
    · rcases hy with rfl | hy
      · rfl
      · rw [num_zero hO] at e; exact absurd e.symm (pos y hy)
    · rcases hy with rfl | hy
      · rw [num_zero hO] at e; exact absurd e (pos x hx)
      · exact num_inj hx hy e
  · have hx := hx.resolve_left h0
    have hx1 := hO.2 x hx
    have hlen : ((nodeAt g x).2.length : Int) = (nodeAt g x).1.2.1 := right_len hr hx1.1 hx1.2
    rw [canon_node hx]
    have hg := fun i => renF_get (ordG g) i _ (nodeAt g x).2 (ptrs_nodup (nodeAt g x).1.2.1.toNat (nodeAt g x).1.2.2) (fun p hp => ptrs_nat hp)
    refine ⟨rfl, renF_len _ _ _, fun i hi hb => ⟨?_, ?_⟩, fun i hb => ?_⟩
    · refine hc1 x hx _ ?_
      unfold kids
      exact List.mem_map.2 ⟨(i : Int), mem_ptrs hi hb, by rw [Int.toNat_natCast]; rfl⟩
    · show (renF _ _ _).getD i 0 = _
      rw [hg i, if_pos ⟨mem_ptrs hi hb, by omega⟩]
    · show (renF _ _ _).getD i 0 = _
      rw [hg i, if_neg]
      rintro ⟨h1, _⟩
      rw [(mem_ptrs_iff.1 h1).2] at hb; cases hb
theorem canon_right {g : Gph} (hr : rightG g = true) (hp : posG g) : rightG (canonG g) = true ∧ posG (canonG g) := by
  have hO := ord_in hr hp
  have hg := fun (x : Int) (i : Nat) => renF_get (ordG g) i _ (nodeAt g x).2 (ptrs_nodup (nodeAt g x).1.2.1.toNat (nodeAt g x).1.2.2) (fun p hp => ptrs_nat hp)
  refine ⟨right_iff.2 ⟨fun n hn => ?_, fun r hr' y hy => ?_⟩, fun n hn => ?_⟩
  · obtain ⟨x, hx, rfl⟩ := List.mem_map.1 hn
    have hx1 := hO.2 x hx
    obtain ⟨a1, a2, a3, a4⟩ := right_node hr (n := (x - 1).toNat) (by omega)
    rw [(canon_len g).1]
    show okN _ (renN (ordG g) (nodeAt g x)) = true
    unfold okN okP
    simp only [Bool.and_eq_true, beq_iff_eq, bne_iff_ne, List.all_eq_true, decide_eq_true_eq]
    refine ⟨⟨⟨a1, a2⟩, by rw [show (renN (ordG g) (nodeAt g x)).2.length = (nodeAt g x).2.length from renF_len _ _ _]; exact a3⟩, fun p hpm => ?_⟩
    show (renF _ _ _).getD p.toNat 0 ≤ _
    rw [hg x p.toNat]
    split
    · exact (num_le _ _).2
    · rename_i hno
      have hpm' : p ∈ ptrs (nodeAt g x).1.2.1.toNat (nodeAt g x).1.2.2 := hpm
      have : ¬ p.toNat < (nodeAt g x).2.length := fun h => hno ⟨by rw [← ptrs_nat hpm']; exact hpm', h⟩
      rw [List.getD_eq_getElem?_getD, List.getElem?_eq_none (by omega)]
      simp
  · obtain ⟨r0, _, rfl⟩ := List.mem_map.1 hr'
    obtain ⟨x, _, rfl⟩ := List.mem_map.1 hy
    rw [(canon_len g).1]; exact num_le _ _
  · obtain ⟨x, hx, rfl⟩ := List.mem_map.1 hn
    have hx1 := hO.2 x hx
    obtain ⟨a1, a2⟩ := pos_node hp (n := (x - 1).toNat) (by omega)
    refine ⟨a1, fun y hy => ?_⟩
    obtain ⟨i, hi, rfl⟩ := List.mem_iff_getElem.1 hy
    have e : (renF (ordG g) (ptrs (nodeAt g x).1.2.1.toNat (nodeAt g x).1.2.2) (nodeAt g x).2).getD i 0 = (newN g (ordG g) x).2[i] := by
      have hi' : i < (renF (ordG g) (ptrs (nodeAt g x).1.2.1.toNat (nodeAt g x).1.2.2) (nodeAt g x).2).length := hi
      rw [List.getD_eq_getElem?_getD, List.getElem?_eq_getElem hi']
      rfl
    rw [← e, hg x i]
    split
    · exact (num_le _ _).1
    · by_cases hl : i < (nodeAt g x).2.length
      · exact a2 _ (by
          show (nodeAt g x).2.getD i 0 ∈ (nodeAt g x).2
          simp [List.getD_eq_getElem?_getD, hl])
      · rw [List.getD_eq_getElem?_getD, List.getElem?_eq_none (by omega)]; simp
/-- What is reached of what is reached. -/
theorem canon_canon {g : Gph} (hr : rightG g = true) (hp : posG g) : canonG (canonG g) = canonG g := (canon_iso hr hp).canon hr hp (canon_right hr hp).1 (canon_right hr hp).2
end Go.Proofs.Ytjhmlbhfnogdiaa.Ci
