/- Blocks of the call's own, known whole: their cells, that they may be written, a store; a copy into a row of the call's own. No function of the program in sight. -/
import Derived.Test.YtjhmlbhfnogdiaaOw
import Derived.Laws.CopyOwn
import Derived.Maps.Own
namespace Go.Proofs.Ytjhmlbhfnogdiaa
open Go.RowKit
set_option linter.unusedVariables false

/-- Block b holds just these cells. -/
def Blk (w : World) (b : Nat) (cs : Array Value) (T : TypeId) : Prop := w.heap[b]? = some (.cells cs T (0, 0))
section
variable {w : World} {b : Nat} {cs : Array Value} {T : TypeId}
theorem Blk.lt (h : Blk w b cs T) : b < w.heap.size := (Array.getElem?_eq_some_iff.1 h).1
theorem Blk.new (w : World) (cs : Array Value) (T : TypeId) : Blk (w.alloc (.cells cs T)) w.heap.size cs T := (MapKept.heap_alloc w _).1
theorem Blk.ext {w' : World} (h : Blk w b cs T) (he : Ext w w') : Blk w' b cs T := (Below.block he b h.lt).trans h
theorem Blk.alloc (h : Blk w b cs T) (o : Obj) : Blk (w.alloc o) b cs T := h.ext ((Ext.refl w).alloc o)
theorem Blk.drewN (h : Blk w b cs T) (n : Nat) : Blk (w.drewN n) b cs T := h.ext ((Ext.refl w).drewN n)
theorem Blk.kept {w' : World} {row : Option Nat} (h : Blk w b cs T) (hg : w.grownBy w' row) (hne : some b ≠ row) : Blk w' b cs T := (hg.block b h.lt hne).trans h
theorem Blk.cell (h : Blk w b cs T) {i : Nat} {v : Value} (hv : cs[i]? = some v) : w.cell? ⟨b, i, none⟩ = some v := by
  rw [cell_of_row w b i cs T (0, 0) h]; exact hv
theorem Blk.free (h : Blk w b cs T) (i : Nat) : w.frozen? ⟨b, i, none⟩ = false := by
  simp [World.frozen?, show w.heap[b]? = _ from h]
theorem Blk.set (h : Blk w b cs T) (i : Nat) (v : Value) : Blk (w.setCell ⟨b, i, none⟩ v) b (cs.setIfInBounds i v) T := by
  unfold Blk
  simp [World.setCell, Array.getElem?_modify, show w.heap[b]? = _ from h]
theorem Blk.other (h : Blk w b cs T) {p : Addr} (hne : b ≠ p.block) (v : Value) : Blk (w.setCell p v) b cs T := (Below.heap_setCell _ _ _ _ hne).trans h
end

theorem Blk.three {w : World} {b : Nat} {x y z : Value} {T : TypeId} (h : Blk w b #[x, y, z] T) :
    w.cell? ⟨b, 0, none⟩ = some x ∧ w.cell? ⟨b, 1, none⟩ = some y ∧ w.cell? ⟨b, 2, none⟩ = some z ∧ w.frozen? ⟨b, 0, none⟩ = false ∧ w.frozen? ⟨b, 1, none⟩ = false ∧ w.frozen? ⟨b, 2, none⟩ = false :=
  ⟨h.cell rfl, h.cell rfl, h.cell rfl, h.free 0, h.free 1, h.free 2⟩
theorem Blk.fill {w : World} {b : Nat} {x y z : Value} {T : TypeId} (h : Blk w b #[x, y, z] T) (x' y' z' : Value) :
    Blk (((w.setCell ⟨b, 0, none⟩ x').setCell ⟨b, 1, none⟩ y').setCell ⟨b, 2, none⟩ z') b #[x', y', z'] T := ((h.set 0 x').set 1 y').set 2 z'
theorem Ext.fill {w w' : World} (h : Ext w w') {b : Nat} (hb : w.heap.size ≤ b) (x y z : Value) : Ext w (((w'.setCell ⟨b, 0, none⟩ x).setCell ⟨b, 1, none⟩ y).setCell ⟨b, 2, none⟩ z) :=
  ((h.setCell (p := ⟨b, 0, none⟩) hb x).setCell (p := ⟨b, 1, none⟩) hb y).setCell (p := ⟨b, 2, none⟩) hb z

/-- 'copy(u[o:], l)', u a row of the call's own with room for l from place o on. -/
theorem own_copy {P : Program} {T E : TypeId} {i : TypeInfo} {w : World} {base n : Nat} {u : Value} {xs : List Value} (ht : P.underlying T = some (.slice E)) (hi : P.info? E = some i) (hi1 : i.size = 1)
    (h : w.ownsRow base E 1 u n xs) {l : Value} {m b : Nat} {ds : List Value} (k : Row w 1 b l m ds) (h1 : ∀ x ∈ ds, x.oneCell' = true) {o : Nat} (ho : o + m ≤ n) (ty : TypeId) :
    ∃ u2 w', (∀ w', (Instr.sliceAt T u (some (.int .i64 o)) none none).run P w' = .ok u2 w') ∧ (Builtin.copy_ #[T, T] ty #[u2, l]).run P w = .ok (.int .i64 m) w' ∧ w'.ownsRow base E 1 u n (splice xs o ds) ∧ w.grownBy w' u.ownBlock := by
  have hsz : ∀ w, (sizeOf E).run P w = .ok 1 w := fun w => by simp [sizeOf, typeInfo, hi, hi1]
  have hsz2 : (P.info? E).map (·.size) = some 1 := by simp [hi, hi1]
  have hdl : ds.length = m := by have := k.1; omega
  have hxl : xs.length = n := by have := h.1; omega
  have hlt := h.lt
  by_cases hm : m = 0
  · obtain rfl : ds = [] := List.eq_nil_of_length_eq_zero (by omega)
    subst hm
    have hsp : splice xs o ([] : List Value) = xs := by simp [splice]
    rw [hsp]
    have hfin : ∀ (a : Option Addr) (x y : Nat), (Builtin.copy_ #[T, T] ty #[.slice a x y, l]).run P w = .ok (.int .i64 0) w := fun a x y => by
      obtain ⟨la, lc, rfl⟩ := k.form
      exact run_copy_none w T T ty E a la x y 0 lc ht hsz2 (by simp)
    obtain ⟨hl, ⟨rfl, rfl⟩ | ⟨g, cap, cur, rfl, hb, hg, hn, hc, hcs, htake⟩⟩ := h
    · obtain rfl : o = 0 := by omega
      refine ⟨.slice none 0 0, w, fun w' => ?_, hfin _ _ _, ⟨hl, .inl ⟨rfl, rfl⟩⟩, ⟨rfl, rfl, rfl, Nat.le_refl _, fun _ _ _ => rfl⟩⟩
      simp [Instr.sliceAt, Instr.slice, Instr.sliceBounds, Instr.sliceBound, run_underlying ht, asIntOf, hsz]
    · have hoc : o ≤ cap := by omega
      have hon : o ≤ n := by omega
      refine ⟨.slice (some ((⟨g, 0, none⟩ : Addr).add (if cap = o then 0 else o))) (n - o) (cap - o), w, fun w' => ?_, hfin _ _ _, ⟨hl, .inr ⟨g, cap, cur, rfl, hb, hg, hn, hc, hcs, htake⟩⟩, ⟨rfl, rfl, rfl, Nat.le_refl _, fun _ _ _ => rfl⟩⟩
      by_cases hco : cap = o
      · subst hco
        obtain rfl : n = cap := by omega
        simp [Instr.sliceAt, Instr.slice, Instr.sliceBounds, Instr.sliceBound, run_underlying ht, asIntOf, hsz, Addr.add]
      · simp [Instr.sliceAt, Instr.slice, Instr.sliceBounds, Instr.sliceBound, run_underlying ht, asIntOf, hsz, hon, hco]
  · obtain ⟨hl, ⟨rfl, rfl⟩ | ⟨g, cap, cur, rfl, hb, hg, hn, hc, hcs, htake⟩⟩ := h
    · omega
    · have hoc : o ≤ cap := by omega
      have hon : o ≤ n := by omega
      have hco : ¬ cap - o = 0 := by omega
      obtain ⟨kl, kb, kn, ⟨rfl, rfl⟩ | ⟨a1, c1, rfl, _, _, hc1⟩⟩ := k
      · omega
      · have hadd : (⟨g, 0, none⟩ : Addr).add o = ⟨g, o, none⟩ := by unfold Addr.add; split <;> simp_all
        have hrun := run_copy_row (P := P) w T T ty E g o (n - o) (cap - o) a1 m c1 cur E ds ht hsz2 hg (by rw [hdl]; exact (Nat.min_eq_left (by omega)).symm) hc1 (by omega) h1
        rw [hdl] at hrun
        refine ⟨.slice (some ⟨g, o, none⟩) (n - o) (cap - o), _, fun w' => ?_, hrun, ⟨by simp [splice]; omega, .inr ⟨g, cap, _, rfl, hb, setRow_heap w g cur _ E _ hg, hn, hc, ?_, ?_⟩⟩, ?_⟩
        · have hco2 : ¬ cap = o := by omega
          simp [Instr.sliceAt, Instr.slice, Instr.sliceBounds, Instr.sliceBound, run_underlying ht, asIntOf, hsz, hon, hco2, hadd]
        · simp; omega
        · rw [List.toList_toArray, ← htake]
          have hcl : n ≤ cur.toList.length := by simp; omega
          have e1 : (cur.toList.take o).length = o := by rw [List.length_take]; omega
          unfold splice
          rw [hdl, Nat.mul_one, List.append_assoc, List.take_append, e1, List.take_append, hdl, List.take_of_length_le (by rw [e1]; omega), List.take_of_length_le (l := ds) (by omega), List.take_take, Nat.min_eq_left hon, List.drop_take, Nat.sub_sub]
        · exact ⟨rfl, rfl, rfl, by simp [World.setRow], fun j hj hne => setRow_other w g j _ (fun e => hne (by rw [e]; rfl))⟩
end Go.Proofs.Ytjhmlbhfnogdiaa
