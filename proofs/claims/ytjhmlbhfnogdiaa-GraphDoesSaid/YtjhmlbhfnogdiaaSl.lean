/- Slices of whole numbers, and slices of such slices, as lists; how they come in as arguments. No function of the program in sight. -/
import Derived.Test.YtjhmlbhfnogdiaaEx
import Derived.Test.YtjhmlbhfnogdiaaRd
namespace Go.Proofs.Ytjhmlbhfnogdiaa
open Go.RowKit Go.ChangeShapes
set_option linter.unusedVariables false

/-- v is a slice of numbers of kind k (of 8 bytes each) that reads as xs. -/
def Sl (k : IntKind) (w : World) (v : Value) (xs : List Int) : Prop := Row w 1 8 v xs.length (xs.map (Value.int k))

theorem Sl.ext {k : IntKind} {w w' : World} {v : Value} {xs : List Int} (h : Sl k w v xs) (he : Ext w w') : Sl k w' v xs := Row.ext h he
theorem Sl.nil (k : IntKind) (w : World) : Sl k w (.slice none 0 0) [] := Row.nil w 1 8
theorem Sl.of_row {k : IntKind} {w : World} {v : Value} {n : Nat} {cs : List Value} {xs : List Int} (h : Row w 1 8 v n cs) (hc : cs = xs.map (Value.int k)) : Sl k w v xs := by
  subst hc
  obtain rfl : n = xs.length := by have := h.1; simpa using this.symm
  exact h
theorem oneCells (k : IntKind) (xs : List Int) : ∀ x ∈ xs.map (Value.int k), x.oneCell' = true := fun x hx => by
  obtain ⟨_, _, rfl⟩ := List.mem_map.1 hx; rfl

section
variable {P : Program} {T E : TypeId} {w : World} {k : IntKind} {v : Value} {xs : List Int}
theorem Sl.len (ht : P.underlying T = some (.slice E)) (h : Sl k w v xs) (ty : TypeId) (w' : World) : (Builtin.len_ #[T] ty #[v]).run P w' = .ok (.int .i64 xs.length) w' := Row.len ht h ty w'
theorem Sl.small (h : Sl k w v xs) : (xs.length : Int) ≤ 140737488355328 := Row.small h
theorem Sl.at_ (ht : P.underlying T = some (.slice E)) (hsz : ∀ w, (sizeOf E).run P w = .ok 1 w) (h : Sl k w v xs) {i : Int} (h0 : 0 ≤ i) (h1 : i < xs.length) :
    ∃ p : Addr, (∀ w', (Instr.indexAt T v (.int .i64 i)).run P w' = .ok (.pointer (some p)) w') ∧ w.cell? p = some (.int k (xs.getD i.toNat 0)) := by
  obtain ⟨p, hp, hc⟩ := Row.at1 ht hsz h h0 h1
  refine ⟨p, hp, hc _ ?_⟩
  have hi : i.toNat < xs.length := by omega
  simp [hi]
end

theorem get_map1 {α : Type} {f : Nat → α} {len j : Nat} {c : α} (h : ((List.range len).map f)[j]? = some c) : j < len ∧ f j = c := by
  rw [List.getElem?_map] at h
  by_cases hj : j < len
  · rw [List.getElem?_range hj] at h
    exact ⟨hj, by simpa using h⟩
  · rw [List.getElem?_eq_none (by simp; omega)] at h
    simp at h
theorem get_map2 {f : Nat → Int} {g : Int → Value} {len j : Nat} {c : Value} (h : (((List.range len).map f).map g)[j]? = some c) : j < len ∧ g (f j) = c := by
  rw [List.map_map] at h
  exact get_map1 h

/-- An argument that is a slice of numbers. -/
theorem Sl.of_R {P : Program} {T E : TypeId} {w : World} {k : IntKind} {v : Value} (ht : P.underlying T = some (.slice E)) (he : P.underlying E = some (.int k)) (hc : P.cellsOf E = 1) (hb : P.bytesOf E = 8) (h : Rd.R P w T [v]) :
    ∃ xs, Sl k w v xs ∧ ∀ x ∈ xs, (Lit.int k x).wf = true := by
  rcases h.slice ht with h | ⟨a, len, cap, hv, hl, hm, hz, hel⟩
  · obtain rfl : v = .slice none 0 0 := by simpa using h
    exact ⟨[], Sl.nil k w, by simp⟩
  · obtain rfl : v = .slice (some a) len cap := by simpa using hv
    have each : ∀ i, i < cap → ∃ x, w.cell? (a.add i) = some (.int k x) ∧ (Lit.int k x).wf = true := by
      intro i hi
      obtain ⟨el, h1, h2⟩ := hel i hi
      obtain ⟨x, rfl, hw⟩ := h2.int he
      rw [hc, Nat.mul_one] at h1
      exact ⟨x, cell_of_cells?_one h1, hw⟩
    have : ∃ f : Nat → Int, ∀ i, i < cap → w.cell? (a.add i) = some (.int k (f i)) ∧ (Lit.int k (f i)).wf = true :=
      ⟨fun i => if hi : i < cap then (each i hi).choose else 0, fun i hi => by simp only [hi, dif_pos]; exact (each i hi).choose_spec⟩
    obtain ⟨f, hf⟩ := this
    have hr : reachBytes = 140737488351232 := by decide
    refine ⟨(List.range len).map f, ⟨by simp, ?_, ?_, .inr ⟨a, cap, by simp, by simpa using hl, hm, ?_⟩⟩, ?_⟩
    · rw [hb] at hz; simp; omega
    · rw [hb] at hz; simp; omega
    · intro j c hj
      obtain ⟨hlt, rfl⟩ := get_map2 hj
      exact (hf j (by omega)).1
    · intro x hx
      simp at hx
      obtain ⟨j, hj, rfl⟩ := hx
      exact (hf j (by omega)).2

/-- v is a slice of slices of numbers that reads as rows. -/
def Ma (k : IntKind) (w : World) (v : Value) (rows : List (List Int)) : Prop :=
  ∃ vs : List Value, vs.length = rows.length ∧ Row w 1 24 v vs.length vs ∧ (∀ u ∈ vs, u.oneCell' = true) ∧ ∀ (i : Nat) (u : Value) (r : List Int), vs[i]? = some u → rows[i]? = some r → Sl k w u r

theorem Ma.ext {k : IntKind} {w w' : World} {v : Value} {rows : List (List Int)} (h : Ma k w v rows) (he : Ext w w') : Ma k w' v rows := by
  obtain ⟨vs, hl, hr, h1, hs⟩ := h
  exact ⟨vs, hl, hr.ext he, h1, fun i u r hu hr' => (hs i u r hu hr').ext he⟩
theorem Ma.nil (k : IntKind) (w : World) : Ma k w (.slice none 0 0) [] := ⟨[], rfl, Row.nil w 1 24, by simp, by simp⟩
section
variable {P : Program} {T E : TypeId} {w : World} {k : IntKind} {v : Value} {rows : List (List Int)}
theorem Ma.len (ht : P.underlying T = some (.slice E)) (h : Ma k w v rows) (ty : TypeId) (w' : World) : (Builtin.len_ #[T] ty #[v]).run P w' = .ok (.int .i64 rows.length) w' := by
  obtain ⟨vs, hl, hr, _⟩ := h
  rw [← hl]; exact hr.len ht ty w'
theorem Ma.small (h : Ma k w v rows) : (rows.length : Int) ≤ 140737488355328 := by
  obtain ⟨vs, hl, hr, _⟩ := h
  rw [← hl]; exact hr.small
theorem Ma.at_ (ht : P.underlying T = some (.slice E)) (hsz : ∀ w, (sizeOf E).run P w = .ok 1 w) (h : Ma k w v rows) {i : Int} (h0 : 0 ≤ i) (h1 : i < rows.length) :
    ∃ (p : Addr) (u : Value), (∀ w', (Instr.indexAt T v (.int .i64 i)).run P w' = .ok (.pointer (some p)) w') ∧ w.cell? p = some u ∧ Sl k w u (rows.getD i.toNat []) := by
  obtain ⟨vs, hl, hr, _, hs⟩ := h
  obtain ⟨p, hp, hc⟩ := hr.at1 ht hsz h0 (by omega)
  have hi : i.toNat < vs.length := by omega
  have hi2 : i.toNat < rows.length := by omega
  refine ⟨p, vs[i.toNat], hp, hc _ (by simp [hi]), hs i.toNat _ _ (by simp [hi]) (by simp [hi2])⟩
end

/-- An argument that is a slice of slices of numbers. -/
theorem Ma.of_R {P : Program} {T T1 E : TypeId} {w : World} {k : IntKind} {v : Value} (hT : P.underlying T = some (.slice T1)) (ht : P.underlying T1 = some (.slice E)) (he : P.underlying E = some (.int k)) (hc1 : P.cellsOf T1 = 1) (hb1 : P.bytesOf T1 = 24) (hc : P.cellsOf E = 1) (hb : P.bytesOf E = 8) (h : Rd.R P w T [v]) :
    ∃ rows, Ma k w v rows ∧ ∀ r ∈ rows, ∀ x ∈ r, (Lit.int k x).wf = true := by
  rcases h.slice hT with h | ⟨a, len, cap, hv, hl, hm, hz, hel⟩
  · obtain rfl : v = .slice none 0 0 := by simpa using h
    exact ⟨[], Ma.nil k w, by simp⟩
  · obtain rfl : v = .slice (some a) len cap := by simpa using hv
    have each : ∀ i, i < cap → ∃ y : Value × List Int, w.cell? (a.add i) = some y.1 ∧ y.1.oneCell' = true ∧ Sl k w y.1 y.2 ∧ ∀ x ∈ y.2, (Lit.int k x).wf = true := by
      intro i hi
      obtain ⟨el, h1, h2⟩ := hel i hi
      rw [hc1, Nat.mul_one] at h1
      have hel1 : ∃ u, el = [u] ∧ u.oneCell' = true := by
        rcases h2.slice ht with h | ⟨a', l', c', hv, _⟩
        · exact ⟨_, h, rfl⟩
        · exact ⟨_, hv, rfl⟩
      obtain ⟨u, rfl, hu⟩ := hel1
      obtain ⟨xs, h3, h4⟩ := Sl.of_R ht he hc hb h2
      exact ⟨(u, xs), cell_of_cells?_one h1, hu, h3, h4⟩
    have : ∃ f : Nat → Value × List Int, ∀ i, i < cap → w.cell? (a.add i) = some (f i).1 ∧ (f i).1.oneCell' = true ∧ Sl k w (f i).1 (f i).2 ∧ ∀ x ∈ (f i).2, (Lit.int k x).wf = true :=
      ⟨fun i => if hi : i < cap then (each i hi).choose else (.slice none 0 0, []), fun i hi => by simp only [hi, dif_pos]; exact (each i hi).choose_spec⟩
    obtain ⟨f, hf⟩ := this
    have hr : reachBytes = 140737488351232 := by decide
    refine ⟨(List.range len).map fun i => (f i).2, ⟨(List.range len).map fun i => (f i).1, by simp, ⟨by simp, ?_, ?_, .inr ⟨a, cap, by simp, by simpa using hl, hm, ?_⟩⟩, ?_, ?_⟩, ?_⟩
    · rw [hb1] at hz; simp; omega
    · rw [hb1] at hz; simp; omega
    · intro j c hj
      obtain ⟨hlt, rfl⟩ := get_map1 hj
      exact (hf j (by omega)).1
    · intro u hu
      simp at hu
      obtain ⟨j, hj, rfl⟩ := hu
      exact (hf j (by omega)).2.1
    · intro i u r hu hr'
      obtain ⟨h1, rfl⟩ := get_map1 hu
      obtain ⟨h2, rfl⟩ := get_map1 hr'
      exact (hf i (by omega)).2.2.1
    · intro r hr' x hx
      simp at hr'
      obtain ⟨j, hj, rfl⟩ := hr'
      exact (hf j (by omega)).2.2.2 x hx
end Go.Proofs.Ytjhmlbhfnogdiaa
