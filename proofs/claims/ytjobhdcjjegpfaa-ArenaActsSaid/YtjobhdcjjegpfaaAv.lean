/- Memory with other words from a place on. -/
import Derived.Test.YtjobhdcjjegpfaaAr
namespace Go.Proofs.Ytjobhdcjjegpfaa.Ar
open Go.RowKit
open Go.Proofs.Ytjobhdcjjegpfaa
set_option linter.unusedVariables false

theorem blk_at {w : World} {b : Nat} {cs : Array Value} {T : TypeId} (h : b = w.heap.size) : Blk (w.alloc (.cells cs T)) b cs T := h ▸ Blk.new w cs T
/-- What comes back is what went in, or the call owns it from block base on. -/
def Nw (w : World) (base : Nat) (v : Value) (xs : List Int) (u : Value) (ys : List Int) : Prop :=
  (u = v ∧ ys = xs) ∨ (w.ownsRow base 26 1 u ys.length (ys.map (Value.int .u64)) ∧ ys.length * 8 ≤ 140737488355328)
theorem Nw.refl (w : World) (base : Nat) (v : Value) (xs : List Int) : Nw w base v xs v xs := .inl ⟨rfl, rfl⟩
theorem Nw.sl {w : World} {base : Nat} {u v : Value} {xs ys : List Int} (h : Nw w base v xs u ys) (k : Sl .u64 w v xs) : Sl .u64 w u ys :=
  h.elim (fun ⟨a, b⟩ => by subst a; subst b; exact k) (fun h => Sl.of_own h.1 h.2)
theorem Nw.ext {w w' : World} {base : Nat} {u v : Value} {xs ys : List Int} (h : Nw w base v xs u ys) (hx : Ext w w') : Nw w' base v xs u ys :=
  h.elim .inl (fun h => .inr ⟨own_ext h.1 hx, h.2⟩)
theorem Nw.le {w : World} {base base' : Nat} {u v : Value} {xs ys : List Int} (h : Nw w base v xs u ys) (hb : base' ≤ base) : Nw w base' v xs u ys :=
  h.elim .inl (fun h => .inr ⟨own_le h.1 hb, h.2⟩)
theorem Nw.other {w : World} {base : Nat} {u v : Value} {xs ys : List Int} (h : Nw w base v xs u ys) {p : Addr} (hp : p.block < base) (x : Value) : Nw (w.setCell p x) base v xs u ys :=
  h.elim .inl (fun h => .inr ⟨own_keep h.1 fun g hg => setCell_heap_other (fun e => by have := (h.1.lt g hg).1; omega), h.2⟩)
theorem Nw.fill {w : World} {base : Nat} {u v : Value} {xs ys : List Int} (h : Nw w base v xs u ys) {b : Nat} (hb : b < base) (x y z : Value) :
    Nw (((w.setCell ⟨b, 0, none⟩ x).setCell ⟨b, 1, none⟩ y).setCell ⟨b, 2, none⟩ z) base v xs u ys := ((h.other (p := ⟨b, 0, none⟩) hb x).other (p := ⟨b, 1, none⟩) hb y).other (p := ⟨b, 2, none⟩) hb z
theorem Nw.of_own {w : World} {base : Nat} {u : Value} {ys : List Int} {n : Nat} (h : w.ownsRow base 26 1 u n (ys.map (Value.int .u64))) (hn : ys.length = n) (hb : n * 8 ≤ 140737488355328) (v : Value) (xs : List Int) : Nw w base v xs u ys := by
  subst hn; exact .inr ⟨h, hb⟩
theorem Nw.trans {w : World} {base : Nat} {u v x : Value} {xs ys zs : List Int} (h : Nw w base v xs u ys) (k : Nw w base u ys x zs) : Nw w base v xs x zs := by
  rcases k with ⟨rfl, rfl⟩ | k
  · exact h
  · exact .inr k

theorem lay_map (xs ds : List Int) (o : Nat) : splice (xs.map (Value.int .u64)) o (ds.map (Value.int .u64)) = (Ap.lay xs o ds).map (Value.int .u64) := by
  simp [splice, Ap.lay, List.map_take, List.map_drop]
theorem own_other {w : World} {base n : Nat} {E : TypeId} {u : Value} {cs : List Value} (h : w.ownsRow base E 1 u n cs) {p : Addr} (hp : p.block < base) (x : Value) : (w.setCell p x).ownsRow base E 1 u n cs :=
  own_keep h fun g hg => setCell_heap_other (fun e => by have := (h.lt g hg).1; omega)
theorem copied {w : World} {base : Nat} {u l : Value} {xs ds : List Int} {o : Nat} (h : w.ownsRow base 26 1 u xs.length (xs.map (Value.int .u64))) (hb : xs.length * 8 ≤ 140737488355328) (k : Sl .u64 w l ds) (ho : o + ds.length ≤ xs.length) :
    ∃ u2 w', (∀ w', (Instr.sliceAt 22 u (some (.int .i64 o)) none none).run Try.prog w' = .ok u2 w') ∧ (Builtin.copy_ #[22, 22] 3 #[u2, l]).run Try.prog w = .ok (.int .i64 ds.length) w' ∧ Sl .u64 w' u (Ap.lay xs o ds) ∧ w'.ownsRow base 26 1 u xs.length ((Ap.lay xs o ds).map (Value.int .u64)) ∧ w.grownBy w' u.ownBlock := by
  obtain ⟨i0, hi, _, hi1, _⟩ := Aw.info_u64
  obtain ⟨u2, w', e1, e2, e3, e4⟩ := own_copy Aw.uT hi hi1 h k (oneCells _ _) ho 3
  rw [lay_map] at e3
  have hl : (Ap.lay xs o ds).length = xs.length := Ap.lay_len ho
  exact ⟨u2, w', e1, e2, Sl.of_own (by rw [hl]; exact e3) (by rw [hl]; exact hb), e3, e4⟩

theorem with0 (n : Int) (v0 v1 l : Value) (xs ys ds : List Int) (o : Nat) (w : World) (h0 : Sl .u64 w v0 xs) (h1 : Sl .u64 w v1 ys) (hl : Sl .u64 w l ds) (ho : o + ds.length ≤ xs.length) :
    Calls Try.prog 32 #[.agg #[.int .i64 n, v0, v1], .int .i64 0, .int .i64 o, l] w fun e w' => ∃ u, e = .returned (.agg #[.int .i64 n, u, v1]) ∧ w'.ownsRow w.heap.size 26 1 u xs.length ((Ap.lay xs o ds).map (Value.int .u64)) ∧ Ext w w' := by
  have hsm := h0.small
  have hb8 : xs.length * 8 ≤ 140737488355328 := h0.2.1
  have kb8 : ys.length * 8 ≤ 140737488355328 := h1.2.1
  obtain ⟨a0, c0, rfl⟩ := Row.form h0
  obtain ⟨a1, c1, rfl⟩ := Row.form h1
  have H0 := Lib.hid h0
  have H1 := Lib.hid h1
  have HL := Lib.hid hl
  have HO := Lib.hid ho
  clear h0 h1 hl ho
  go_enter Try.func32, Try.ntmps32
  go_wp2_with fail
  refine (Aw.clone_any _ xs _ (H0.out.ext (by repeat (first | exact Ext.refl _ | refine Ext.alloc ?_ _)))).mono ?_; rintro e w1 ⟨u, rfl, hu, hx1⟩
  have bm : Blk w1 (w.heap.size + 1 + 1) #[.int .i64 n, .slice a0 xs.length c0, .slice a1 ys.length c1] 25 := (blk_at (by simp)).ext hx1
  have br : Blk w1 (w.heap.size + 1) #[.int .i64 0, .slice none 0 0, .slice none 0 0] 25 := ((blk_at (by simp)).alloc _).ext hx1
  have hE : Ext w w1 := Ext.trans (by repeat (first | exact Ext.refl _ | refine Ext.alloc ?_ _)) hx1
  simp only [World.size_alloc] at hu
  obtain ⟨ua, uc, rfl⟩ := Row.form (Row.of_own (b := 8) hu hb8 (by omega))
  have bm2 := bm.set 1 (.slice ua xs.length uc)
  have br2 := br.other (p := ⟨w.heap.size + 1 + 1, 1, none⟩) (by simp) (.slice ua xs.length uc)
  have hu2 := own_other hu (p := ⟨w.heap.size + 1 + 1, 1, none⟩) (by simp) (.slice ua xs.length uc)
  have hE2 := hE.setCell (p := ⟨w.heap.size + 1 + 1, 1, none⟩) (by simp; omega) (.slice ua xs.length uc)
  obtain ⟨u2, w3, hsl, hcp, hs3, ho3, hg3⟩ := copied (o := o) hu2 hb8 (HL.out.ext hE2) HO.out
  have hne : ∀ b : Nat, b ≤ w.heap.size + 1 + 1 → some b ≠ (Value.slice ua xs.length uc).ownBlock := fun b hb e => by have := (hu2.lt b e.symm).1; omega
  have bm3 := bm2.kept hg3 (hne _ (by omega))
  have br3 := br2.kept hg3 (hne _ (by omega))
  have hE3 : Ext w w3 := hE2.grown hg3 (fun k hk => by have := (hu2.lt k hk).1; omega)
  have f1 := bm.cell (i := 1) rfl
  have f2 := bm.free 1
  have f3 := bm2.cell (i := 1) rfl
  have g0 := bm3.cell (i := 0) rfl
  have g1 := bm3.cell (i := 1) rfl
  have g2 := bm3.cell (i := 2) rfl
  have r0 := br3.cell (i := 0) rfl
  have r1 := br3.cell (i := 1) rfl
  have r2 := br3.cell (i := 2) rfl
  have q0 := br3.free 0
  have q1 := br3.free 1
  have q2 := br3.free 2
  have HE3 := Lib.hid hE3
  have HBR := Lib.hid br3
  have HO3 := Lib.hid ho3
  clear bm bm2 bm3 br br2 br3 hu hu2 hE hE2 hE3 hx1 hne hs3 ho3 hg3
  go_wp2_with fail
  have bf := ((HBR.out.set 0 (.int .i64 n)).set 1 (.slice ua xs.length uc)).set 2 (.slice a1 ys.length c1)
  have k0 := bf.cell (i := 0) (v := .int .i64 n) rfl
  have k1 := bf.cell (i := 1) (v := .slice ua xs.length uc) rfl
  have k2 := bf.cell (i := 2) (v := .slice a1 ys.length c1) rfl
  refine bodyPost_ret (v := .agg #[.int .i64 n, .slice ua xs.length uc, .slice a1 ys.length c1]) (by simp [results, Try.results32, go_sem, k0, k1, k2]) rfl ⟨_, rfl, ?_, ((HE3.out.setCell (by simp) _).setCell (by simp) _).setCell (by simp) _⟩
  exact own_le (own_other (own_other (own_other HO3.out (by simp) _) (by simp) _) (by simp) _) (by omega)
theorem with1 (n : Int) (v0 v1 l : Value) (xs ys ds : List Int) (o : Nat) (w : World) (h0 : Sl .u64 w v0 xs) (h1 : Sl .u64 w v1 ys) (hl : Sl .u64 w l ds) (ho : o + ds.length ≤ ys.length) :
    Calls Try.prog 32 #[.agg #[.int .i64 n, v0, v1], .int .i64 1, .int .i64 o, l] w fun e w' => ∃ u, e = .returned (.agg #[.int .i64 n, v0, u]) ∧ w'.ownsRow w.heap.size 26 1 u ys.length ((Ap.lay ys o ds).map (Value.int .u64)) ∧ Ext w w' := by
  have hsm := h0.small
  have hb8 : xs.length * 8 ≤ 140737488355328 := h0.2.1
  have kb8 : ys.length * 8 ≤ 140737488355328 := h1.2.1
  obtain ⟨a0, c0, rfl⟩ := Row.form h0
  obtain ⟨a1, c1, rfl⟩ := Row.form h1
  have H0 := Lib.hid h0
  have H1 := Lib.hid h1
  have HL := Lib.hid hl
  have HO := Lib.hid ho
  clear h0 h1 hl ho
  go_enter Try.func32, Try.ntmps32
  go_wp2_with fail
  refine (Aw.clone_any _ ys _ (H1.out.ext (by repeat (first | exact Ext.refl _ | refine Ext.alloc ?_ _)))).mono ?_; rintro e w1 ⟨u, rfl, hu, hx1⟩
  have bm : Blk w1 (w.heap.size + 1 + 1) #[.int .i64 n, .slice a0 xs.length c0, .slice a1 ys.length c1] 25 := (blk_at (by simp)).ext hx1
  have br : Blk w1 (w.heap.size + 1) #[.int .i64 0, .slice none 0 0, .slice none 0 0] 25 := ((blk_at (by simp)).alloc _).ext hx1
  have hE : Ext w w1 := Ext.trans (by repeat (first | exact Ext.refl _ | refine Ext.alloc ?_ _)) hx1
  simp only [World.size_alloc] at hu
  obtain ⟨ua, uc, rfl⟩ := Row.form (Row.of_own (b := 8) hu kb8 (by omega))
  have bm2 := bm.set 2 (.slice ua ys.length uc)
  have br2 := br.other (p := ⟨w.heap.size + 1 + 1, 2, none⟩) (by simp) (.slice ua ys.length uc)
  have hu2 := own_other hu (p := ⟨w.heap.size + 1 + 1, 2, none⟩) (by simp) (.slice ua ys.length uc)
  have hE2 := hE.setCell (p := ⟨w.heap.size + 1 + 1, 2, none⟩) (by simp; omega) (.slice ua ys.length uc)
  obtain ⟨u2, w3, hsl, hcp, hs3, ho3, hg3⟩ := copied (o := o) hu2 kb8 (HL.out.ext hE2) HO.out
  have hne : ∀ b : Nat, b ≤ w.heap.size + 1 + 1 → some b ≠ (Value.slice ua ys.length uc).ownBlock := fun b hb e => by have := (hu2.lt b e.symm).1; omega
  have bm3 := bm2.kept hg3 (hne _ (by omega))
  have br3 := br2.kept hg3 (hne _ (by omega))
  have hE3 : Ext w w3 := hE2.grown hg3 (fun k hk => by have := (hu2.lt k hk).1; omega)
  have f1 := bm.cell (i := 2) rfl
  have f2 := bm.free 2
  have f3 := bm2.cell (i := 2) rfl
  have g0 := bm3.cell (i := 0) rfl
  have g1 := bm3.cell (i := 1) rfl
  have g2 := bm3.cell (i := 2) rfl
  have r0 := br3.cell (i := 0) rfl
  have r1 := br3.cell (i := 1) rfl
  have r2 := br3.cell (i := 2) rfl
  have q0 := br3.free 0
  have q1 := br3.free 1
  have q2 := br3.free 2
  have HE3 := Lib.hid hE3
  have HBR := Lib.hid br3
  have HO3 := Lib.hid ho3
  clear bm bm2 bm3 br br2 br3 hu hu2 hE hE2 hE3 hx1 hne hs3 ho3 hg3
  go_wp2_with fail
  have bf := ((HBR.out.set 0 (.int .i64 n)).set 1 (.slice a0 xs.length c0)).set 2 (.slice ua ys.length uc)
  have k0 := bf.cell (i := 0) (v := .int .i64 n) rfl
  have k1 := bf.cell (i := 1) (v := .slice a0 xs.length c0) rfl
  have k2 := bf.cell (i := 2) (v := .slice ua ys.length uc) rfl
  refine bodyPost_ret (v := .agg #[.int .i64 n, .slice a0 xs.length c0, .slice ua ys.length uc]) (by simp [results, Try.results32, go_sem, k0, k1, k2]) rfl ⟨_, rfl, ?_, ((HE3.out.setCell (by simp) _).setCell (by simp) _).setCell (by simp) _⟩
  exact own_le (own_other (own_other (own_other HO3.out (by simp) _) (by simp) _) (by simp) _) (by omega)
end Go.Proofs.Ytjobhdcjjegpfaa.Ar
