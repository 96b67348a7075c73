/- Do of package graph: what is done on a graph. -/
import Derived.Test.YtjhmlbhfnogdiaaWe
namespace Go.Proofs.Ytjhmlbhfnogdiaa.Wf
open Go.RowKit
open Go.Proofs.Ytjhmlbhfnogdiaa Go.Proofs.Ytjhmlbhfnogdiaa.Hd Go.Proofs.Ytjhmlbhfnogdiaa.Gr Go.Proofs.Ytjhmlbhfnogdiaa.Hg Go.Proofs.Ytjhmlbhfnogdiaa.Rr Go.Proofs.Ytjhmlbhfnogdiaa.Wk Go.Proofs.Ytjhmlbhfnogdiaa.Wp Go.Proofs.Ytjhmlbhfnogdiaa.Ws Go.Proofs.Ytjhmlbhfnogdiaa.Wa Go.Proofs.Ytjhmlbhfnogdiaa.Wc Go.Proofs.Ytjhmlbhfnogdiaa.Wd Go.Proofs.Ytjhmlbhfnogdiaa.We
set_option linter.unusedVariables false

def actAlloc (g : Gph) (th : Nat) (o : Opn) : Res :=
  if isObj o.new = false then .error 1 else if 16 ≤ (rowOf g th).length then .error 4 else .ok (pushG (addG g o.new) th ((g.1.length : Int) + 1), 0, false)
/-- What is done, by its kind. -/
def act (g : Gph) (th : Nat) (o : Opn) : Res :=
  if o.kind = 1 then actAlloc g th o else if o.kind = 2 then actGet g th o else if o.kind = 3 then actFollow g th o else if o.kind = 4 ∨ o.kind = 6 ∨ o.kind = 7 then actWrite g th o
  else if o.kind = 5 then actLink g th o else if o.kind = 8 then actSame g th o else if o.kind = 9 then actPush g th o else if o.kind = 10 then actPop g th else if o.kind = 11 then .ok (g, 0, false) else .error 1
def resG (g : Gph) : Res → Gph
  | .ok x => x.1
  | .error _ => g
def resA : Res → Ans
  | .ok x => (0, x.2.1, x.2.2)
  | .error e => (e, 0, false)
def res (g : Gph) (th : Int) (o : Opn) : Res := if 0 ≤ th ∧ th < g.2.length then act g th.toNat o else .error 1
def doG (g : Gph) (th : Int) (o : Opn) : Gph := resG g (res g th o)
def doA (g : Gph) (th : Int) (o : Opn) : Ans := resA (res g th o)

theorem done_out {B : Nat} {g : Gph} {th : Int} {o : Opn} {w w' : World} {r : Res} (h : Done B w g th o r w') : Pw B w (resG g r) th o (resA r) w' := by
  cases r with
  | ok x => exact h
  | error e => exact h

def opv (o : Opn) : Value := .agg #[.int .i64 o.kind, .int .i64 o.h, .int .i64 o.i, .int .i64 o.k, .int .u64 o.v, .int .i64 o.new.1, .int .i64 o.new.2.1, .int .u64 o.new.2.2]
def anv (a : Ans) : Value := .agg #[.int .i64 a.1, .int .u64 a.2.1, .bool a.2.2]

/-- The boxes that Do makes, and what is done is asked. -/
def five (w : World) (a b : Value) (th : Int) (o : Opn) : World :=
  ((((w.alloc (.cells #[a, b] 25)).alloc (.cells #[.int .i64 o.kind, .int .i64 o.h, .int .i64 o.i, .int .i64 o.k, .int .u64 o.v, .int .i64 o.new.1, .int .i64 o.new.2.1, .int .u64 o.new.2.2] 30)).alloc (.cells #[.slice none 0 0, .slice none 0 0] 25)).alloc (.cells #[.int .i64 0, .int .u64 0, .bool false] 35)).alloc (.cells (wcells a b th o a0) 61)
theorem five_size (w : World) (a b : Value) (th : Int) (o : Opn) : (five w a b th o).heap.size = w.heap.size + 5 := by simp [five]
theorem blk_at {w : World} {b : Nat} {cs : Array Value} {T : TypeId} (h : b = w.heap.size) : Blk (w.alloc (.cells cs T)) b cs T := h ▸ Blk.new w cs T
theorem five_blks (w : World) (a b : Value) (th : Int) (o : Opn) :
    Ext w (five w a b th o) ∧ Blk (five w a b th o) w.heap.size #[a, b] 25 ∧ Blk (five w a b th o) (w.heap.size + 1) #[.int .i64 o.kind, .int .i64 o.h, .int .i64 o.i, .int .i64 o.k, .int .u64 o.v, .int .i64 o.new.1, .int .i64 o.new.2.1, .int .u64 o.new.2.2] 30 ∧
    Blk (five w a b th o) (w.heap.size + 2) #[.slice none 0 0, .slice none 0 0] 25 ∧ Blk (five w a b th o) (w.heap.size + 3) #[.int .i64 0, .int .u64 0, .bool false] 35 ∧ Blk (five w a b th o) (w.heap.size + 4) (wcells a b th o a0) 61 := by
  unfold five
  refine ⟨(((((Ext.refl w).alloc _).alloc _).alloc _).alloc _).alloc _, ((((Blk.new w _ _).alloc _).alloc _).alloc _).alloc _, (((blk_at (by simp)).alloc _).alloc _).alloc _, ((blk_at (by simp)).alloc _).alloc _, (blk_at (by simp)).alloc _, blk_at (by simp)⟩

theorem far_set {W : World} {p q : Addr} {v : Value} (h : W.cell? q = some v) (hne : q.block ≠ p.block) (x : Value) : (W.setCell p x).cell? q = some v := by
  have e : (W.setCell p x).heap[q.block]? = W.heap[q.block]? := Below.heap_setCell _ _ _ _ hne
  unfold World.cell? at *
  rw [e]; exact h
/-- What is in the five boxes when Do ends. -/
theorem ends (w w6 w7 : World) (a b : Value) (g gr : Gph) (th : Int) (o : Opn) (ar : Ans) (hx : Ext (five w a b th o) w6) (hP : Pw (w.heap.size + 4) w6 gr th o ar w7) :
    ∃ na nc sa sc, w7.cell? ⟨w.heap.size + 4, 0, none⟩ = some (.slice na gr.1.length nc) ∧ w7.cell? ⟨w.heap.size + 4, 1, none⟩ = some (.slice sa gr.2.length sc) ∧ w7.cell? ⟨w.heap.size + 4, 11, none⟩ = some (.int .i64 ar.1) ∧ w7.cell? ⟨w.heap.size + 4, 12, none⟩ = some (.int .u64 ar.2.1) ∧ w7.cell? ⟨w.heap.size + 4, 13, none⟩ = some (.bool ar.2.2) ∧
      Blk w7 (w.heap.size + 2) #[.slice none 0 0, .slice none 0 0] 25 ∧ Blk w7 (w.heap.size + 3) #[.int .i64 0, .int .u64 0, .bool false] 35 ∧ Ext w w7 ∧ GrS (w.heap.size + 4) w7 (.slice na gr.1.length nc) (.slice sa gr.2.length sc) gr := by
  obtain ⟨⟨na, nc, sa, sc, hb, hs⟩, hg⟩ := hP
  obtain ⟨hE, _, _, h2, h3, _⟩ := five_blks w a b th o
  exact ⟨na, nc, sa, sc, hb.cell (i := 0) rfl, hb.cell (i := 1) rfl, hb.cell (i := 11) rfl, hb.cell (i := 12) rfl, hb.cell (i := 13) rfl, (h2.ext hx).kept hg (by simp), (h3.ext hx).kept hg (by simp), (hE.trans hx).grown hg (fun k hk => by cases hk; omega), hs⟩


/-- The world in which Do ends. -/
theorem final0 (w w7 : World) (nv sv : Value) (gr : Gph) (ar : Ans) (hR2 : Blk w7 (w.heap.size + 2) #[.slice none 0 0, .slice none 0 0] 25) (hR3 : Blk w7 (w.heap.size + 3) #[.int .i64 0, .int .u64 0, .bool false] 35) (hE : Ext w w7) (hG : GrS (w.heap.size + 4) w7 nv sv gr) (W8 : World) (hW8 : W8 = (((((w7.setCell ⟨w.heap.size + 1 + 1, 0, none⟩ nv).setCell ⟨w.heap.size + 1 + 1, 1, none⟩ sv).setCell ⟨w.heap.size + 1 + 1 + 1, 0, none⟩ (.int .i64 ar.1)).setCell ⟨w.heap.size + 1 + 1 + 1, 1, none⟩ (.int .u64 ar.2.1)).setCell ⟨w.heap.size + 1 + 1 + 1, 2, none⟩ (.bool ar.2.2))) :
    W8.cell? ⟨w.heap.size + 1 + 1, 0, none⟩ = some nv ∧ W8.cell? ⟨w.heap.size + 1 + 1, 1, none⟩ = some sv ∧ W8.cell? ⟨w.heap.size + 1 + 1 + 1, 0, none⟩ = some (.int .i64 ar.1) ∧ W8.cell? ⟨w.heap.size + 1 + 1 + 1, 1, none⟩ = some (.int .u64 ar.2.1) ∧ W8.cell? ⟨w.heap.size + 1 + 1 + 1, 2, none⟩ = some (.bool ar.2.2) ∧ Gr W8 nv sv gr ∧ Ext w W8 := by
  subst hW8
  have e2 : Blk (((((w7.setCell ⟨w.heap.size + 1 + 1, 0, none⟩ nv).setCell ⟨w.heap.size + 1 + 1, 1, none⟩ sv).setCell ⟨w.heap.size + 1 + 1 + 1, 0, none⟩ (.int .i64 ar.1)).setCell ⟨w.heap.size + 1 + 1 + 1, 1, none⟩ (.int .u64 ar.2.1)).setCell ⟨w.heap.size + 1 + 1 + 1, 2, none⟩ (.bool ar.2.2)) (w.heap.size + 1 + 1) #[nv, sv] 25 := (((((hR2.set 0 nv).set 1 sv).other (p := ⟨w.heap.size + 1 + 1 + 1, 0, none⟩) (by simp) _).other (p := ⟨w.heap.size + 1 + 1 + 1, 1, none⟩) (by simp) _).other (p := ⟨w.heap.size + 1 + 1 + 1, 2, none⟩) (by simp) _)
  have e3 : Blk (((((w7.setCell ⟨w.heap.size + 1 + 1, 0, none⟩ nv).setCell ⟨w.heap.size + 1 + 1, 1, none⟩ sv).setCell ⟨w.heap.size + 1 + 1 + 1, 0, none⟩ (.int .i64 ar.1)).setCell ⟨w.heap.size + 1 + 1 + 1, 1, none⟩ (.int .u64 ar.2.1)).setCell ⟨w.heap.size + 1 + 1 + 1, 2, none⟩ (.bool ar.2.2)) (w.heap.size + 1 + 1 + 1) #[.int .i64 ar.1, .int .u64 ar.2.1, .bool ar.2.2] 35 := (((((hR3.other (p := ⟨w.heap.size + 1 + 1, 0, none⟩) (by simp) _).other (p := ⟨w.heap.size + 1 + 1, 1, none⟩) (by simp) _).set 0 _).set 1 _).set 2 _)
  have ei : Iv (w.heap.size + 4) w7 (((((w7.setCell ⟨w.heap.size + 1 + 1, 0, none⟩ nv).setCell ⟨w.heap.size + 1 + 1, 1, none⟩ sv).setCell ⟨w.heap.size + 1 + 1 + 1, 0, none⟩ (.int .i64 ar.1)).setCell ⟨w.heap.size + 1 + 1 + 1, 1, none⟩ (.int .u64 ar.2.1)).setCell ⟨w.heap.size + 1 + 1 + 1, 2, none⟩ (.bool ar.2.2)) := ((((Iv.of_set w7 0 nv (b := w.heap.size + 1 + 1) (by omega) (by omega)).trans (Iv.of_set _ 1 sv (b := w.heap.size + 1 + 1) (by omega) (by omega))).trans (Iv.of_set _ 0 _ (b := w.heap.size + 1 + 1 + 1) (by omega) (by omega))).trans (Iv.of_set _ 1 _ (b := w.heap.size + 1 + 1 + 1) (by omega) (by omega))).trans (Iv.of_set _ 2 _ (b := w.heap.size + 1 + 1 + 1) (by omega) (by omega))
  have ex : Ext w (((((w7.setCell ⟨w.heap.size + 1 + 1, 0, none⟩ nv).setCell ⟨w.heap.size + 1 + 1, 1, none⟩ sv).setCell ⟨w.heap.size + 1 + 1 + 1, 0, none⟩ (.int .i64 ar.1)).setCell ⟨w.heap.size + 1 + 1 + 1, 1, none⟩ (.int .u64 ar.2.1)).setCell ⟨w.heap.size + 1 + 1 + 1, 2, none⟩ (.bool ar.2.2)) := (((((hE.setCell (p := ⟨w.heap.size + 1 + 1, 0, none⟩) (by simp; omega) _).setCell (p := ⟨w.heap.size + 1 + 1, 1, none⟩) (by simp; omega) _).setCell (p := ⟨w.heap.size + 1 + 1 + 1, 0, none⟩) (by simp; omega) _).setCell (p := ⟨w.heap.size + 1 + 1 + 1, 1, none⟩) (by simp; omega) _).setCell (p := ⟨w.heap.size + 1 + 1 + 1, 2, none⟩) (by simp; omega) _)
  generalize (((((w7.setCell ⟨w.heap.size + 1 + 1, 0, none⟩ nv).setCell ⟨w.heap.size + 1 + 1, 1, none⟩ sv).setCell ⟨w.heap.size + 1 + 1 + 1, 0, none⟩ (.int .i64 ar.1)).setCell ⟨w.heap.size + 1 + 1 + 1, 1, none⟩ (.int .u64 ar.2.1)).setCell ⟨w.heap.size + 1 + 1 + 1, 2, none⟩ (.bool ar.2.2)) = V at e2 e3 ei ex ⊢
  have hV : Ext V V := by first | exact Ext.refl V | exact (Ext.refl V).drew
  have b2 := e2.ext hV
  have b3 := e3.ext hV
  exact ⟨b2.cell (i := 0) rfl, b2.cell (i := 1) rfl, b3.cell (i := 0) rfl, b3.cell (i := 1) rfl, b3.cell (i := 2) rfl, (hG.iv ei).here.ext hV, ex.trans hV⟩

/-- The same, behind a draw. -/
theorem final (w w7 : World) (nv sv : Value) (gr : Gph) (ar : Ans) (hR2 : Blk w7 (w.heap.size + 2) #[.slice none 0 0, .slice none 0 0] 25) (hR3 : Blk w7 (w.heap.size + 3) #[.int .i64 0, .int .u64 0, .bool false] 35) (hE : Ext w w7) (hG : GrS (w.heap.size + 4) w7 nv sv gr) (W8 : World) (hW8 : W8 = (((((w7.setCell ⟨w.heap.size + 1 + 1, 0, none⟩ nv).setCell ⟨w.heap.size + 1 + 1, 1, none⟩ sv).setCell ⟨w.heap.size + 1 + 1 + 1, 0, none⟩ (.int .i64 ar.1)).setCell ⟨w.heap.size + 1 + 1 + 1, 1, none⟩ (.int .u64 ar.2.1)).setCell ⟨w.heap.size + 1 + 1 + 1, 2, none⟩ (.bool ar.2.2)).drew) :
    W8.cell? ⟨w.heap.size + 1 + 1, 0, none⟩ = some nv ∧ W8.cell? ⟨w.heap.size + 1 + 1, 1, none⟩ = some sv ∧ W8.cell? ⟨w.heap.size + 1 + 1 + 1, 0, none⟩ = some (.int .i64 ar.1) ∧ W8.cell? ⟨w.heap.size + 1 + 1 + 1, 1, none⟩ = some (.int .u64 ar.2.1) ∧ W8.cell? ⟨w.heap.size + 1 + 1 + 1, 2, none⟩ = some (.bool ar.2.2) ∧ Gr W8 nv sv gr ∧ Ext w W8 := by
  subst hW8
  have e2 : Blk (((((w7.setCell ⟨w.heap.size + 1 + 1, 0, none⟩ nv).setCell ⟨w.heap.size + 1 + 1, 1, none⟩ sv).setCell ⟨w.heap.size + 1 + 1 + 1, 0, none⟩ (.int .i64 ar.1)).setCell ⟨w.heap.size + 1 + 1 + 1, 1, none⟩ (.int .u64 ar.2.1)).setCell ⟨w.heap.size + 1 + 1 + 1, 2, none⟩ (.bool ar.2.2)) (w.heap.size + 1 + 1) #[nv, sv] 25 := (((((hR2.set 0 nv).set 1 sv).other (p := ⟨w.heap.size + 1 + 1 + 1, 0, none⟩) (by simp) _).other (p := ⟨w.heap.size + 1 + 1 + 1, 1, none⟩) (by simp) _).other (p := ⟨w.heap.size + 1 + 1 + 1, 2, none⟩) (by simp) _)
  have e3 : Blk (((((w7.setCell ⟨w.heap.size + 1 + 1, 0, none⟩ nv).setCell ⟨w.heap.size + 1 + 1, 1, none⟩ sv).setCell ⟨w.heap.size + 1 + 1 + 1, 0, none⟩ (.int .i64 ar.1)).setCell ⟨w.heap.size + 1 + 1 + 1, 1, none⟩ (.int .u64 ar.2.1)).setCell ⟨w.heap.size + 1 + 1 + 1, 2, none⟩ (.bool ar.2.2)) (w.heap.size + 1 + 1 + 1) #[.int .i64 ar.1, .int .u64 ar.2.1, .bool ar.2.2] 35 := (((((hR3.other (p := ⟨w.heap.size + 1 + 1, 0, none⟩) (by simp) _).other (p := ⟨w.heap.size + 1 + 1, 1, none⟩) (by simp) _).set 0 _).set 1 _).set 2 _)
  have ei : Iv (w.heap.size + 4) w7 (((((w7.setCell ⟨w.heap.size + 1 + 1, 0, none⟩ nv).setCell ⟨w.heap.size + 1 + 1, 1, none⟩ sv).setCell ⟨w.heap.size + 1 + 1 + 1, 0, none⟩ (.int .i64 ar.1)).setCell ⟨w.heap.size + 1 + 1 + 1, 1, none⟩ (.int .u64 ar.2.1)).setCell ⟨w.heap.size + 1 + 1 + 1, 2, none⟩ (.bool ar.2.2)) := ((((Iv.of_set w7 0 nv (b := w.heap.size + 1 + 1) (by omega) (by omega)).trans (Iv.of_set _ 1 sv (b := w.heap.size + 1 + 1) (by omega) (by omega))).trans (Iv.of_set _ 0 _ (b := w.heap.size + 1 + 1 + 1) (by omega) (by omega))).trans (Iv.of_set _ 1 _ (b := w.heap.size + 1 + 1 + 1) (by omega) (by omega))).trans (Iv.of_set _ 2 _ (b := w.heap.size + 1 + 1 + 1) (by omega) (by omega))
  have ex : Ext w (((((w7.setCell ⟨w.heap.size + 1 + 1, 0, none⟩ nv).setCell ⟨w.heap.size + 1 + 1, 1, none⟩ sv).setCell ⟨w.heap.size + 1 + 1 + 1, 0, none⟩ (.int .i64 ar.1)).setCell ⟨w.heap.size + 1 + 1 + 1, 1, none⟩ (.int .u64 ar.2.1)).setCell ⟨w.heap.size + 1 + 1 + 1, 2, none⟩ (.bool ar.2.2)) := (((((hE.setCell (p := ⟨w.heap.size + 1 + 1, 0, none⟩) (by simp; omega) _).setCell (p := ⟨w.heap.size + 1 + 1, 1, none⟩) (by simp; omega) _).setCell (p := ⟨w.heap.size + 1 + 1 + 1, 0, none⟩) (by simp; omega) _).setCell (p := ⟨w.heap.size + 1 + 1 + 1, 1, none⟩) (by simp; omega) _).setCell (p := ⟨w.heap.size + 1 + 1 + 1, 2, none⟩) (by simp; omega) _)
  generalize (((((w7.setCell ⟨w.heap.size + 1 + 1, 0, none⟩ nv).setCell ⟨w.heap.size + 1 + 1, 1, none⟩ sv).setCell ⟨w.heap.size + 1 + 1 + 1, 0, none⟩ (.int .i64 ar.1)).setCell ⟨w.heap.size + 1 + 1 + 1, 1, none⟩ (.int .u64 ar.2.1)).setCell ⟨w.heap.size + 1 + 1 + 1, 2, none⟩ (.bool ar.2.2)) = V at e2 e3 ei ex ⊢
  have hV : Ext V V.drew := by first | exact Ext.refl V | exact (Ext.refl V).drew
  have b2 := e2.ext hV
  have b3 := e3.ext hV
  exact ⟨b2.cell (i := 0) rfl, b2.cell (i := 1) rfl, b3.cell (i := 0) rfl, b3.cell (i := 1) rfl, b3.cell (i := 2) rfl, (hG.iv ei).here.ext hV, ex.trans hV⟩

end Go.Proofs.Ytjhmlbhfnogdiaa.Wf
