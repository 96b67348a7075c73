/- Rows of the call's own: an element's place, a store, a row of rows to which a row is appended. No function of the program in sight. -/
import Derived.Test.YtjhmlbhfnogdiaaSl
namespace Go.Proofs.Ytjhmlbhfnogdiaa
open Go.RowKit
set_option linter.unusedVariables false

theorem own_keep {w w' : World} {base s n : Nat} {e : TypeId} {v : Value} {xs : List Value} (h : w.ownsRow base e s v n xs) (hk : ∀ g, v.ownBlock = some g → w'.heap[g]? = w.heap[g]?) : w'.ownsRow base e s v n xs := by
  obtain ⟨hl, h⟩ := h
  refine ⟨hl, ?_⟩
  rcases h with h | ⟨g, cap, cur, rfl, hb, hg, r⟩
  · exact .inl h
  · exact .inr ⟨g, cap, cur, rfl, hb, by rw [hk g rfl]; exact hg, r⟩

theorem own_ext {w w' : World} {base s n : Nat} {e : TypeId} {v : Value} {xs : List Value} (h : w.ownsRow base e s v n xs) (he : Ext w w') : w'.ownsRow base e s v n xs :=
  own_keep h fun g hg => Below.block he g (h.lt g hg).2

theorem own_le {w : World} {base base' s n : Nat} {e : TypeId} {v : Value} {xs : List Value} (h : w.ownsRow base e s v n xs) (hb : base' ≤ base) : w.ownsRow base' e s v n xs :=
  ⟨h.1, h.2.elim Or.inl (fun ⟨g, cap, cur, hv, hg, r⟩ => Or.inr ⟨g, cap, cur, hv, Nat.le_trans hb hg, r⟩)⟩

/-- An element of a row of the call's own: its place, what is there, that it may be written, and the row behind a store. -/
theorem own_at {P : Program} {T E : TypeId} {w : World} {base n : Nat} {v : Value} {xs : List Value} (ht : P.underlying T = some (.slice E)) (hsz : ∀ w, (sizeOf E).run P w = .ok 1 w) (h : w.ownsRow base E 1 v n xs) {k : Nat} (hk : k < n) :
    ∃ g, v.ownBlock = some g ∧ base ≤ g ∧ g < w.heap.size ∧ (∀ w', (Instr.indexAt T v (.int .i64 k)).run P w' = .ok (.pointer (some ⟨g, k, none⟩)) w') ∧
      (∀ c, xs[k]? = some c → w.cell? ⟨g, k, none⟩ = some c) ∧ w.frozen? ⟨g, k, none⟩ = false ∧ ∀ x, (w.setCell ⟨g, k, none⟩ x).ownsRow base E 1 v n (xs.set k x) := by
  have hlt := h.lt
  obtain ⟨hl, ⟨rfl, rfl⟩ | ⟨g, cap, cur, rfl, hb, hg, hn, hc, hcs, htake⟩⟩ := h
  · omega
  · have hadd : (⟨g, 0, none⟩ : Addr).add k = ⟨g, k, none⟩ := by unfold Addr.add; split <;> simp_all
    refine ⟨g, rfl, hb, (hlt g rfl).2, fun w' => ?_, fun c hx => ?_, ?_, fun x => ?_⟩
    · simp [Instr.indexAt, run_underlying ht, asIntOf, hsz, hk, hadd]
    · rw [cell_of_row w g k cur E (0, 0) hg]
      rw [← htake, List.getElem?_take] at hx
      split at hx
      · simpa using hx
      · cases hx
    · simp [World.frozen?, hg]
    · refine ⟨by simpa using hl, .inr ⟨g, cap, cur.setIfInBounds k x, rfl, hb, ?_, hn, hc, by simpa using hcs, ?_⟩⟩
      · simp [World.setCell, Array.getElem?_modify, hg]
      · rw [← htake]
        simp [Array.toList_setIfInBounds, List.take_set]

theorem setCell_heap_other {w : World} {p : Addr} {x : Value} {g : Nat} (h : g ≠ p.block) : (w.setCell p x).heap[g]? = w.heap[g]? := Below.heap_setCell _ _ _ _ h

/-- What the call owns, as a list of numbers. -/
theorem Sl.of_own {w : World} {base : Nat} {e : TypeId} {k : IntKind} {v : Value} {xs : List Int} (h : w.ownsRow base e 1 v xs.length (xs.map (Value.int k))) (hb : xs.length * 8 ≤ 140737488355328) : Sl k w v xs :=
  Row.of_own h hb (by omega)

/-- o is a row of rows of numbers, all of the call's own, each in a block of its own. -/
def Rows (k : IntKind) (T1 E : TypeId) (w : World) (base : Nat) (o : Value) (rows : List (List Int)) : Prop :=
  ∃ vs : List Value, vs.length = rows.length ∧ w.ownsRow base T1 1 o vs.length vs ∧ (∀ u ∈ vs, u.oneCell' = true) ∧
    ∀ (i : Nat) (u : Value) (r : List Int), vs[i]? = some u → rows[i]? = some r → w.ownsRow base E 1 u r.length (r.map (Value.int k)) ∧ r.length * 8 ≤ 140737488355328 ∧ (u.ownBlock = none ∨ u.ownBlock ≠ o.ownBlock)

theorem Rows.nil (k : IntKind) (T1 E : TypeId) (w : World) (base : Nat) : Rows k T1 E w base (.slice none 0 0) [] := ⟨[], rfl, World.ownsRow_nil _ _ _ _, by simp, by simp⟩

theorem Rows.ext {k : IntKind} {T1 E : TypeId} {w w' : World} {base : Nat} {o : Value} {rows : List (List Int)} (h : Rows k T1 E w base o rows) (he : Ext w w') : Rows k T1 E w' base o rows := by
  obtain ⟨vs, hl, ho, h1, hs⟩ := h
  exact ⟨vs, hl, own_ext ho he, h1, fun i u r hu hr => ⟨own_ext (hs i u r hu hr).1 he, (hs i u r hu hr).2⟩⟩

theorem Rows.lt {k : IntKind} {T1 E : TypeId} {w : World} {base : Nat} {o : Value} {rows : List (List Int)} (h : Rows k T1 E w base o rows) : ∀ g, o.ownBlock = some g → base ≤ g ∧ g < w.heap.size := by
  obtain ⟨vs, hl, ho, _⟩ := h
  exact ho.lt

theorem Rows.ma {k : IntKind} {T1 E : TypeId} {w : World} {base : Nat} {o : Value} {rows : List (List Int)} (h : Rows k T1 E w base o rows) (hb : rows.length * 24 ≤ 140737488355328) : Ma k w o rows := by
  obtain ⟨vs, hl, ho, h1, hs⟩ := h
  exact ⟨vs, hl, Row.of_own ho (by rw [hl]; exact hb) (by rw [hl]; omega), h1, fun i u r hu hr => Sl.of_own (hs i u r hu hr).1 (hs i u r hu hr).2.1⟩

/-- 'out = append(out, row)', behind the block that holds the row. -/
theorem Rows.append {P : Program} {T T1 E : TypeId} {k : IntKind} {w : World} {base : Nat} {o : Value} {rows : List (List Int)} {ty : TypeId} {i : TypeInfo} {z : Value} (hT : P.underlying T = some (.slice T1)) (hi : P.info? T1 = some i) (hz : i.zero = some z) (hs1 : i.size = 1) (hby : i.bytes = 24) (hzs : z.cells.size = 1)
    (h : Rows k T1 E w base o rows) {u : Value} {r : List Int} (hu : w.ownsRow base E 1 u r.length (r.map (Value.int k))) (hr : r.length * 8 ≤ 140737488355328) (hne : u.ownBlock = none ∨ u.ownBlock ≠ o.ownBlock) (hbase : base ≤ w.heap.size) (hb : (rows.length + 1) * 24 ≤ 140737488355328) :
    ∃ o' w2, (Builtin.append_ #[T, T] ty #[o, .slice (some ⟨w.heap.size, 0, none⟩) 1 1]).run P (w.alloc (.cells #[u] T1)) = .ok o' w2 ∧ Rows k T1 E w2 base o' (rows ++ [r]) ∧ (w.alloc (.cells #[u] T1)).grownBy w2 o.ownBlock := by
  obtain ⟨vs, hl, ho, h1, hsl⟩ := h
  have hE : Ext w (w.alloc (.cells #[u] T1)) := (Ext.refl w).alloc _
  have hone : u.oneCell' = true := by
    rcases hu.2 with ⟨rfl, _⟩ | ⟨g, cap, cur, rfl, _⟩ <;> rfl
  have hrow : Row (w.alloc (.cells #[u] T1)) 1 24 (.slice (some ⟨w.heap.size, 0, none⟩) 1 1) 1 [u] :=
    ⟨rfl, by omega, by omega, .inr ⟨_, 1, rfl, Nat.le_refl _, by unfold maxLen; omega, cell_one_new _ _ _⟩⟩
  obtain ⟨o', w2, hrun, hown, hg, hat⟩ := append_own (ty := ty) hT hi hz hs1 hby hzs (by decide) (own_ext ho hE) (Nat.le_trans hbase hE.size) hrow (by simpa using hone) (by rw [hl]; exact hb) (by decide)
  refine ⟨o', w2, hrun, ⟨vs ++ [u], by simp [hl], by simpa using hown, ?_, ?_⟩, hg⟩
  · intro x hx
    rcases List.mem_append.1 hx with hx | hx
    · exact h1 x hx
    · simp at hx; subst hx; exact hone
  · intro j x y hx hy
    have hcase : (j < vs.length ∧ vs[j]? = some x ∧ rows[j]? = some y) ∨ (x = u ∧ y = r) := by
      by_cases hj : j < vs.length
      · rw [List.getElem?_append_left hj] at hx
        rw [List.getElem?_append_left (by omega)] at hy
        exact .inl ⟨hj, hx, hy⟩
      · right
        rw [List.getElem?_append_right (by omega)] at hx
        rw [List.getElem?_append_right (by omega)] at hy
        have : j - vs.length = 0 := by
          rcases Nat.eq_zero_or_pos (j - vs.length) with h | h
          · exact h
          · rw [List.getElem?_eq_none (by simp; omega)] at hx; cases hx
        rw [this] at hx
        rw [← hl, this] at hy
        simp at hx hy
        exact ⟨hx.symm, hy.symm⟩
    have hfact : w.ownsRow base E 1 x y.length (y.map (Value.int k)) ∧ y.length * 8 ≤ 140737488355328 ∧ (x.ownBlock = none ∨ x.ownBlock ≠ o.ownBlock) := by
      rcases hcase with ⟨_, hx, hy⟩ | ⟨rfl, rfl⟩
      · exact hsl j x y hx hy
      · exact ⟨hu, hr, hne⟩
    obtain ⟨f1, f2, f3⟩ := hfact
    refine ⟨(own_ext f1 hE).kept hg f3, f2, ?_⟩
    rcases f3 with f3 | f3
    · exact .inl f3
    · rcases hat with hat | hat
      · right; rw [hat]; exact f3
      · cases hxb : x.ownBlock with
        | none => exact .inl rfl
        | some g =>
          right
          rw [hat]
          have := (f1.lt g hxb).2
          simp
          omega
end Go.Proofs.Ytjhmlbhfnogdiaa
