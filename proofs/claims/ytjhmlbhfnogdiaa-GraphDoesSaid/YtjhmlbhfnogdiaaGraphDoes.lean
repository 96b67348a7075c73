/- GraphDoes holds for every input: what is done, what is reached in order, which graphs are right, and the same, is as the document says. No condition. -/
import Derived.Test.YtjhmlbhfnogdiaaRows
import Derived.Test.YtjhmlbhfnogdiaaOp
import Derived.Test.YtjhmlbhfnogdiaaEc
import Derived.Test.YtjhmlbhfnogdiaaQs
import Derived.Test.YtjhmlbhfnogdiaaQn
import Derived.Test.YtjhmlbhfnogdiaaQt
namespace Go.Proofs.Ytjhmlbhfnogdiaa.graphDoes
open Go.RowKit Go.Proofs.Ytjhmlbhfnogdiaa Go.Proofs.Ytjhmlbhfnogdiaa.Hd Go.Proofs.Ytjhmlbhfnogdiaa.Gr Go.Proofs.Ytjhmlbhfnogdiaa.Hg Go.Proofs.Ytjhmlbhfnogdiaa.Rr Go.Proofs.Ytjhmlbhfnogdiaa.Wk Go.Proofs.Ytjhmlbhfnogdiaa.Wp Go.Proofs.Ytjhmlbhfnogdiaa.Wa Go.Proofs.Ytjhmlbhfnogdiaa.Wc Go.Proofs.Ytjhmlbhfnogdiaa.Wf Go.Proofs.Ytjhmlbhfnogdiaa.Pl Go.Proofs.Ytjhmlbhfnogdiaa.Op
set_option linter.unusedVariables false

theorem many_of {α : Type} {l : List α} (h : l.length = 14) : ∃ x0 x1 x2 x3 x4 x5 x6 x7 x8 x9 x10 x11 x12 x13, l = [x0, x1, x2, x3, x4, x5, x6, x7, x8, x9, x10, x11, x12, x13] := by
  obtain ⟨x0, l, rfl⟩ := List.exists_cons_of_length_pos (show 0 < l.length by omega)
  replace h : l.length = 13 := by simpa using h
  obtain ⟨x1, l, rfl⟩ := List.exists_cons_of_length_pos (show 0 < l.length by omega)
  replace h : l.length = 12 := by simpa using h
  obtain ⟨x2, l, rfl⟩ := List.exists_cons_of_length_pos (show 0 < l.length by omega)
  replace h : l.length = 11 := by simpa using h
  obtain ⟨x3, l, rfl⟩ := List.exists_cons_of_length_pos (show 0 < l.length by omega)
  replace h : l.length = 10 := by simpa using h
  obtain ⟨x4, l, rfl⟩ := List.exists_cons_of_length_pos (show 0 < l.length by omega)
  replace h : l.length = 9 := by simpa using h
  obtain ⟨x5, l, rfl⟩ := List.exists_cons_of_length_pos (show 0 < l.length by omega)
  replace h : l.length = 8 := by simpa using h
  obtain ⟨x6, l, rfl⟩ := List.exists_cons_of_length_pos (show 0 < l.length by omega)
  replace h : l.length = 7 := by simpa using h
  obtain ⟨x7, l, rfl⟩ := List.exists_cons_of_length_pos (show 0 < l.length by omega)
  replace h : l.length = 6 := by simpa using h
  obtain ⟨x8, l, rfl⟩ := List.exists_cons_of_length_pos (show 0 < l.length by omega)
  replace h : l.length = 5 := by simpa using h
  obtain ⟨x9, l, rfl⟩ := List.exists_cons_of_length_pos (show 0 < l.length by omega)
  replace h : l.length = 4 := by simpa using h
  obtain ⟨x10, l, rfl⟩ := List.exists_cons_of_length_pos (show 0 < l.length by omega)
  replace h : l.length = 3 := by simpa using h
  obtain ⟨x11, l, rfl⟩ := List.exists_cons_of_length_pos (show 0 < l.length by omega)
  replace h : l.length = 2 := by simpa using h
  obtain ⟨x12, l, rfl⟩ := List.exists_cons_of_length_pos (show 0 < l.length by omega)
  replace h : l.length = 1 := by simpa using h
  obtain ⟨x13, l, rfl⟩ := List.exists_cons_of_length_pos (show 0 < l.length by omega)
  replace h : l.length = 0 := by simpa using h
  obtain rfl : l = [] := List.length_eq_zero_iff.1 h
  exact ⟨x0, x1, x2, x3, x4, x5, x6, x7, x8, x9, x10, x11, x12, x13, rfl⟩

set_option maxHeartbeats 8000000 in
theorem go (a b a2 b2 : Value) (g g2 : Gph) (th threads : Int) (o : Opn) (hp : posG g) (hwr : ∀ r ∈ g.2, ∀ i, r.getD i 0 ≤ 9223372036854775807) (hu : ∀ n ∈ g.1, ∀ y ∈ n.2, y ≤ 18446744073709551615) (hv : 0 ≤ o.v) (hv1 : o.v ≤ 18446744073709551615) (hm : 0 ≤ o.new.2.2) (w : World) (h : Gr w a b g) (h2 : Gr w a2 b2 g2) :
    Calls Try.prog 10 #[.agg #[a, b, .int .i64 th, .int .i64 o.kind, .int .i64 o.h, .int .i64 o.i, .int .i64 o.k, .int .u64 o.v, .int .i64 o.new.1, .int .i64 o.new.2.1, .int .u64 o.new.2.2, a2, b2, .int .i64 threads]] w fun e w' => e = .returned (.bool true) ∧ Ext w w' := by
  obtain ⟨a0, c0, rfl⟩ := h.1.form
  obtain ⟨b0, d0, rfl⟩ := Gr.Ma.form h.2
  have hl1 := h.1.len
  have hl2 := Ma.len uS h.2
  have hsm := h.1.small
  have HG := Lib.hid h
  have HF := Lib.hid (fun (w : World) (h : Gr w (.slice a0 g.1.length c0) (.slice b0 g.2.length d0) g) => few_any _ _ g hp w h)
  clear h
  obtain ⟨a1, c1, rfl⟩ := h2.1.form
  obtain ⟨b1, d1, rfl⟩ := Gr.Ma.form h2.2
  have HOT := Lib.hid (fun W (hx : Ext w W) => h2.ext hx)
  clear h2
  go_enter Try.func10, Try.ntmps10
  have HX := Lib.hid (Ext.refl w)
  obtain ⟨wB1, hwB1⟩ : ∃ wX, wX = ((((w.alloc (.cells #[.slice a0 g.1.length c0, .slice b0 g.2.length d0, .int .i64 th, .int .i64 o.kind, .int .i64 o.h, .int .i64 o.i, .int .i64 o.k, .int .u64 o.v, .int .i64 o.new.1, .int .i64 o.new.2.1, .int .u64 o.new.2.2, .slice a1 g2.1.length c1, .slice b1 g2.2.length d1, .int .i64 threads] 56)).alloc (.cells #[.slice a0 g.1.length c0, .slice b0 g.2.length d0] 25)).alloc (.cells #[.int .i64 o.kind, .int .i64 o.h, .int .i64 o.i, .int .i64 o.k, .int .u64 o.v, .int .i64 o.new.1, .int .i64 o.new.2.1, .int .u64 o.new.2.2] 30)).alloc (.cells #[.slice a1 g2.1.length c1, .slice b1 g2.2.length d1] 25)) := ⟨_, rfl⟩
  have hxn : Ext w wB1 := hwB1 ▸ (((((Ext.refl w).alloc _).alloc _).alloc _).alloc _)
  replace HX := Lib.hid (HX.out.trans hxn)
  replace HG := Lib.hid (HG.out.ext hxn)
  have HW0 := Lib.hid (show Blk wB1 (w.heap.size) #[.slice a0 g.1.length c0, .slice b0 g.2.length d0, .int .i64 th, .int .i64 o.kind, .int .i64 o.h, .int .i64 o.i, .int .i64 o.k, .int .u64 o.v, .int .i64 o.new.1, .int .i64 o.new.2.1, .int .u64 o.new.2.2, .slice a1 g2.1.length c1, .slice b1 g2.2.length d1, .int .i64 threads] 56 from hwB1 ▸ ((((blk_at (by simp)).alloc _).alloc _).alloc _))
  have HG0 := Lib.hid (show Blk wB1 (w.heap.size + 1) #[.slice a0 g.1.length c0, .slice b0 g.2.length d0] 25 from hwB1 ▸ (((blk_at (by simp)).alloc _).alloc _))
  have HO0 := Lib.hid (show Blk wB1 (w.heap.size + 2) #[.int .i64 o.kind, .int .i64 o.h, .int .i64 o.i, .int .i64 o.k, .int .u64 o.v, .int .i64 o.new.1, .int .i64 o.new.2.1, .int .u64 o.new.2.2] 30 from hwB1 ▸ ((blk_at (by simp)).alloc _))
  have HH0 := Lib.hid (show Blk wB1 (w.heap.size + 3) #[.slice a1 g2.1.length c1, .slice b1 g2.2.length d1] 25 from hwB1 ▸ (blk_at (by simp)))
  clear hxn
  go_wp2_with fail
  rw [← hwB1]
  clear hwB1
  have cW00 : (wB1).cell? ⟨w.heap.size, 0, none⟩ = some (.slice a0 g.1.length c0) := HW0.out.cell (i := 0) rfl
  have cW01 : (wB1).cell? ⟨w.heap.size, 1, none⟩ = some (.slice b0 g.2.length d0) := HW0.out.cell (i := 1) rfl
  have cW02 : (wB1).cell? ⟨w.heap.size, 2, none⟩ = some (.int .i64 th) := HW0.out.cell (i := 2) rfl
  have cW03 : (wB1).cell? ⟨w.heap.size, 3, none⟩ = some (.int .i64 o.kind) := HW0.out.cell (i := 3) rfl
  have cW04 : (wB1).cell? ⟨w.heap.size, 4, none⟩ = some (.int .i64 o.h) := HW0.out.cell (i := 4) rfl
  have cW05 : (wB1).cell? ⟨w.heap.size, 5, none⟩ = some (.int .i64 o.i) := HW0.out.cell (i := 5) rfl
  have cW06 : (wB1).cell? ⟨w.heap.size, 6, none⟩ = some (.int .i64 o.k) := HW0.out.cell (i := 6) rfl
  have cW07 : (wB1).cell? ⟨w.heap.size, 7, none⟩ = some (.int .u64 o.v) := HW0.out.cell (i := 7) rfl
  have cW08 : (wB1).cell? ⟨w.heap.size, 8, none⟩ = some (.int .i64 o.new.1) := HW0.out.cell (i := 8) rfl
  have cW09 : (wB1).cell? ⟨w.heap.size, 9, none⟩ = some (.int .i64 o.new.2.1) := HW0.out.cell (i := 9) rfl
  have cW010 : (wB1).cell? ⟨w.heap.size, 10, none⟩ = some (.int .u64 o.new.2.2) := HW0.out.cell (i := 10) rfl
  have cW011 : (wB1).cell? ⟨w.heap.size, 11, none⟩ = some (.slice a1 g2.1.length c1) := HW0.out.cell (i := 11) rfl
  have cW012 : (wB1).cell? ⟨w.heap.size, 12, none⟩ = some (.slice b1 g2.2.length d1) := HW0.out.cell (i := 12) rfl
  have cW013 : (wB1).cell? ⟨w.heap.size, 13, none⟩ = some (.int .i64 threads) := HW0.out.cell (i := 13) rfl
  have cG00 : (wB1).cell? ⟨w.heap.size + 1, 0, none⟩ = some (.slice a0 g.1.length c0) := HG0.out.cell (i := 0) rfl
  have cG01 : (wB1).cell? ⟨w.heap.size + 1, 1, none⟩ = some (.slice b0 g.2.length d0) := HG0.out.cell (i := 1) rfl
  have cO00 : (wB1).cell? ⟨w.heap.size + 2, 0, none⟩ = some (.int .i64 o.kind) := HO0.out.cell (i := 0) rfl
  have cO01 : (wB1).cell? ⟨w.heap.size + 2, 1, none⟩ = some (.int .i64 o.h) := HO0.out.cell (i := 1) rfl
  have cO02 : (wB1).cell? ⟨w.heap.size + 2, 2, none⟩ = some (.int .i64 o.i) := HO0.out.cell (i := 2) rfl
  have cO03 : (wB1).cell? ⟨w.heap.size + 2, 3, none⟩ = some (.int .i64 o.k) := HO0.out.cell (i := 3) rfl
  have cO04 : (wB1).cell? ⟨w.heap.size + 2, 4, none⟩ = some (.int .u64 o.v) := HO0.out.cell (i := 4) rfl
  have cO05 : (wB1).cell? ⟨w.heap.size + 2, 5, none⟩ = some (.int .i64 o.new.1) := HO0.out.cell (i := 5) rfl
  have cO06 : (wB1).cell? ⟨w.heap.size + 2, 6, none⟩ = some (.int .i64 o.new.2.1) := HO0.out.cell (i := 6) rfl
  have cO07 : (wB1).cell? ⟨w.heap.size + 2, 7, none⟩ = some (.int .u64 o.new.2.2) := HO0.out.cell (i := 7) rfl
  have cH00 : (wB1).cell? ⟨w.heap.size + 3, 0, none⟩ = some (.slice a1 g2.1.length c1) := HH0.out.cell (i := 0) rfl
  have cH01 : (wB1).cell? ⟨w.heap.size + 3, 1, none⟩ = some (.slice b1 g2.2.length d1) := HH0.out.cell (i := 1) rfl
  refine (Sh.shown_any _).mono ?_; rintro e w2 ⟨rfl, hx⟩
  clear cW00 cW01 cW02 cW03 cW04 cW05 cW06 cW07 cW08 cW09 cW010 cW011 cW012 cW013 cG00 cG01 cO00 cO01 cO02 cO03 cO04 cO05 cO06 cO07 cH00 cH01
  replace HX := Lib.hid (HX.out.trans hx)
  replace HW0 := Lib.hid (HW0.out.ext hx)
  replace HG0 := Lib.hid (HG0.out.ext hx)
  replace HO0 := Lib.hid (HO0.out.ext hx)
  replace HH0 := Lib.hid (HH0.out.ext hx)
  replace HG := Lib.hid (HG.out.ext hx)
  clear hx
  have cW00 : (w2).cell? ⟨w.heap.size, 0, none⟩ = some (.slice a0 g.1.length c0) := HW0.out.cell (i := 0) rfl
  have cW01 : (w2).cell? ⟨w.heap.size, 1, none⟩ = some (.slice b0 g.2.length d0) := HW0.out.cell (i := 1) rfl
  have cW02 : (w2).cell? ⟨w.heap.size, 2, none⟩ = some (.int .i64 th) := HW0.out.cell (i := 2) rfl
  have cW03 : (w2).cell? ⟨w.heap.size, 3, none⟩ = some (.int .i64 o.kind) := HW0.out.cell (i := 3) rfl
  have cW04 : (w2).cell? ⟨w.heap.size, 4, none⟩ = some (.int .i64 o.h) := HW0.out.cell (i := 4) rfl
  have cW05 : (w2).cell? ⟨w.heap.size, 5, none⟩ = some (.int .i64 o.i) := HW0.out.cell (i := 5) rfl
  have cW06 : (w2).cell? ⟨w.heap.size, 6, none⟩ = some (.int .i64 o.k) := HW0.out.cell (i := 6) rfl
  have cW07 : (w2).cell? ⟨w.heap.size, 7, none⟩ = some (.int .u64 o.v) := HW0.out.cell (i := 7) rfl
  have cW08 : (w2).cell? ⟨w.heap.size, 8, none⟩ = some (.int .i64 o.new.1) := HW0.out.cell (i := 8) rfl
  have cW09 : (w2).cell? ⟨w.heap.size, 9, none⟩ = some (.int .i64 o.new.2.1) := HW0.out.cell (i := 9) rfl
  have cW010 : (w2).cell? ⟨w.heap.size, 10, none⟩ = some (.int .u64 o.new.2.2) := HW0.out.cell (i := 10) rfl
  have cW011 : (w2).cell? ⟨w.heap.size, 11, none⟩ = some (.slice a1 g2.1.length c1) := HW0.out.cell (i := 11) rfl
  have cW012 : (w2).cell? ⟨w.heap.size, 12, none⟩ = some (.slice b1 g2.2.length d1) := HW0.out.cell (i := 12) rfl
  have cW013 : (w2).cell? ⟨w.heap.size, 13, none⟩ = some (.int .i64 threads) := HW0.out.cell (i := 13) rfl
  have cG00 : (w2).cell? ⟨w.heap.size + 1, 0, none⟩ = some (.slice a0 g.1.length c0) := HG0.out.cell (i := 0) rfl
  have cG01 : (w2).cell? ⟨w.heap.size + 1, 1, none⟩ = some (.slice b0 g.2.length d0) := HG0.out.cell (i := 1) rfl
  have cO00 : (w2).cell? ⟨w.heap.size + 2, 0, none⟩ = some (.int .i64 o.kind) := HO0.out.cell (i := 0) rfl
  have cO01 : (w2).cell? ⟨w.heap.size + 2, 1, none⟩ = some (.int .i64 o.h) := HO0.out.cell (i := 1) rfl
  have cO02 : (w2).cell? ⟨w.heap.size + 2, 2, none⟩ = some (.int .i64 o.i) := HO0.out.cell (i := 2) rfl
  have cO03 : (w2).cell? ⟨w.heap.size + 2, 3, none⟩ = some (.int .i64 o.k) := HO0.out.cell (i := 3) rfl
  have cO04 : (w2).cell? ⟨w.heap.size + 2, 4, none⟩ = some (.int .u64 o.v) := HO0.out.cell (i := 4) rfl
  have cO05 : (w2).cell? ⟨w.heap.size + 2, 5, none⟩ = some (.int .i64 o.new.1) := HO0.out.cell (i := 5) rfl
  have cO06 : (w2).cell? ⟨w.heap.size + 2, 6, none⟩ = some (.int .i64 o.new.2.1) := HO0.out.cell (i := 6) rfl
  have cO07 : (w2).cell? ⟨w.heap.size + 2, 7, none⟩ = some (.int .u64 o.new.2.2) := HO0.out.cell (i := 7) rfl
  have cH00 : (w2).cell? ⟨w.heap.size + 3, 0, none⟩ = some (.slice a1 g2.1.length c1) := HH0.out.cell (i := 0) rfl
  have cH01 : (w2).cell? ⟨w.heap.size + 3, 1, none⟩ = some (.slice b1 g2.2.length d1) := HH0.out.cell (i := 1) rfl
  go_wp2_with fail
  clear cW00 cW01 cW02 cW03 cW04 cW05 cW06 cW07 cW08 cW09 cW010 cW011 cW012 cW013 cG00 cG01 cO00 cO01 cO02 cO03 cO04 cO05 cO06 cO07 cH00 cH01
  have fG00 : ∀ W : World, Ext w2 W → W.cell? ⟨w.heap.size + 1, 0, none⟩ = some (.slice a0 g.1.length c0) := fun W h => (HG0.out.ext h).cell (i := 0) rfl
  have fG01 : ∀ W : World, Ext w2 W → W.cell? ⟨w.heap.size + 1, 1, none⟩ = some (.slice b0 g.2.length d0) := fun W h => (HG0.out.ext h).cell (i := 1) rfl
  have FX : Hid (∀ W, Ext w2 W → Gr W (.slice a0 g.1.length c0) (.slice b0 g.2.length d0) g) := fun W h => HG.out.ext h
  obtain ⟨rr, hrr⟩ : ∃ rr, rightG g = rr := ⟨_, rfl⟩
  have HQR : Hid (∀ (a b : Value) (W : World), Gr W a b g → Calls Try.prog 17 #[.agg #[a, b]] W fun e w' => e = .returned (.bool rr) ∧ Ext W w') := fun a b W h => by
    have := Qt.right_any a b g hp hwr W h
    rw [hrr] at this; exact this
  have HRR : Hid (∀ (a b : Value) (W : World), Gr W a b g → Calls Try.prog 14 #[.agg #[a, b]] W fun e w' => e = .returned (.bool rr) ∧ Ext W w') := fun a b W h => by
    have := right_any a b g hp W h
    rw [hrr] at this; exact this
  have HN1 : Hid (∀ (W : World), Calls Try.prog 18 #[.int .i64 threads] W fun e w' => ∃ u v, e = .returned (.agg #[u, v]) ∧ Hid (∀ W2, Ext w' W2 → Gr W2 u v (Sh.newG threads)) ∧ Ext W w') := fun W => (Sh.new_any threads W).mono fun e w' ⟨x, y, he, hg, hx⟩ => ⟨_, _, he, fun W2 hW => hg.ext hW, hx⟩
  have HN2 : Hid (∀ (W : World), Calls Try.prog 19 #[.int .i64 threads] W fun e w' => ∃ u v, e = .returned (.agg #[u, v]) ∧ Hid (∀ W2, Ext w' W2 → Gr W2 u v (Sh.newG threads)) ∧ Ext W w') := fun W => (Qn.rnew_any threads W).mono fun e w' ⟨x, y, he, hg, hx⟩ => ⟨_, _, he, fun W2 hW => hg.ext hW, hx⟩
  have HSS : Hid (∀ (G : Gph) (a b a' b' : Value) (w : World), Gr w a b G → Gr w a' b' G → Calls Try.prog 15 #[.agg #[a, b], .agg #[a', b']] w fun e w' => e = .returned (.bool true) ∧ Ext w w') := fun G a b a' b' w h h' => (Sm.same_any a b a' b' G G w h h').mono fun e w' ⟨he, hx⟩ => ⟨by rw [he]; simp, hx⟩
  clear hrr
  cases rr
  all_goals
    go_region_held3 (fun W : World => Ext w2 W) (first | exact (Ext.refl w2).drew | exact Ext.trans (by assumption) hxq) (first
      | (go_at_call 17; (with_reducible refine (HQR.out _ _ _ (FX.out _ (by assumption))).mono ?_); rintro e wq ⟨rfl, hxq⟩)
      | (go_at_call 14; (with_reducible refine (HRR.out _ _ _ (FX.out _ (by assumption))).mono ?_); rintro e wq ⟨rfl, hxq⟩)
      | (go_at_call 18; (with_reducible refine (HN1.out _).mono ?_); rintro e wq ⟨ua, va, rfl, hUa, hxq⟩)
      | (go_at_call 19; (with_reducible refine (HN2.out _).mono ?_); rintro e wq ⟨ub, vb, rfl, hUb, hxq⟩)
      | (go_at_call 15; (with_reducible refine (HSS.out (Sh.newG threads) _ _ _ _ _ (hUa.out _ (by first | exact Ext.refl _ | assumption)) (hUb.out _ (by first | exact Ext.refl _ | assumption))).mono ?_); rintro e wq ⟨rfl, hxq⟩))
    all_goals
      have hq : Ext w2 wq := by assumption
      clear fG00 fG01 HQR HRR HN1 HN2 FX
      replace HX := Lib.hid (HX.out.trans hq)
      replace HW0 := Lib.hid (HW0.out.ext hq)
      replace HG0 := Lib.hid (HG0.out.ext hq)
      replace HO0 := Lib.hid (HO0.out.ext hq)
      replace HH0 := Lib.hid (HH0.out.ext hq)
      replace HG := Lib.hid (HG.out.ext hq)
      have cG00 : (wq).cell? ⟨w.heap.size + 1, 0, none⟩ = some (.slice a0 g.1.length c0) := HG0.out.cell (i := 0) rfl
      have cG01 : (wq).cell? ⟨w.heap.size + 1, 1, none⟩ = some (.slice b0 g.2.length d0) := HG0.out.cell (i := 1) rfl
      have cO00 : (wq).cell? ⟨w.heap.size + 2, 0, none⟩ = some (.int .i64 o.kind) := HO0.out.cell (i := 0) rfl
      have cO01 : (wq).cell? ⟨w.heap.size + 2, 1, none⟩ = some (.int .i64 o.h) := HO0.out.cell (i := 1) rfl
      have cO02 : (wq).cell? ⟨w.heap.size + 2, 2, none⟩ = some (.int .i64 o.i) := HO0.out.cell (i := 2) rfl
      have cO03 : (wq).cell? ⟨w.heap.size + 2, 3, none⟩ = some (.int .i64 o.k) := HO0.out.cell (i := 3) rfl
      have cO04 : (wq).cell? ⟨w.heap.size + 2, 4, none⟩ = some (.int .u64 o.v) := HO0.out.cell (i := 4) rfl
      have cO05 : (wq).cell? ⟨w.heap.size + 2, 5, none⟩ = some (.int .i64 o.new.1) := HO0.out.cell (i := 5) rfl
      have cO06 : (wq).cell? ⟨w.heap.size + 2, 6, none⟩ = some (.int .i64 o.new.2.1) := HO0.out.cell (i := 6) rfl
      have cO07 : (wq).cell? ⟨w.heap.size + 2, 7, none⟩ = some (.int .u64 o.new.2.2) := HO0.out.cell (i := 7) rfl
      have cH00 : (wq).cell? ⟨w.heap.size + 3, 0, none⟩ = some (.slice a1 g2.1.length c1) := HH0.out.cell (i := 0) rfl
      have cH01 : (wq).cell? ⟨w.heap.size + 3, 1, none⟩ = some (.slice b1 g2.2.length d1) := HH0.out.cell (i := 1) rfl
      go_wp2_with fail
      refine (HF.out _ HG.out).mono ?_; rintro e w3 ⟨rfl, hx⟩
      clear cG00 cG01 cO00 cO01 cO02 cO03 cO04 cO05 cO06 cO07 cH00 cH01
      replace HX := Lib.hid (HX.out.trans hx)
      replace HG0 := Lib.hid (HG0.out.ext hx)
      replace HO0 := Lib.hid (HO0.out.ext hx)
      replace HH0 := Lib.hid (HH0.out.ext hx)
      replace HG := Lib.hid (HG.out.ext hx)
      clear hx
      have cG00 : (w3).cell? ⟨w.heap.size + 1, 0, none⟩ = some (.slice a0 g.1.length c0) := HG0.out.cell (i := 0) rfl
      have cG01 : (w3).cell? ⟨w.heap.size + 1, 1, none⟩ = some (.slice b0 g.2.length d0) := HG0.out.cell (i := 1) rfl
      have cO00 : (w3).cell? ⟨w.heap.size + 2, 0, none⟩ = some (.int .i64 o.kind) := HO0.out.cell (i := 0) rfl
      have cO01 : (w3).cell? ⟨w.heap.size + 2, 1, none⟩ = some (.int .i64 o.h) := HO0.out.cell (i := 1) rfl
      have cO02 : (w3).cell? ⟨w.heap.size + 2, 2, none⟩ = some (.int .i64 o.i) := HO0.out.cell (i := 2) rfl
      have cO03 : (w3).cell? ⟨w.heap.size + 2, 3, none⟩ = some (.int .i64 o.k) := HO0.out.cell (i := 3) rfl
      have cO04 : (w3).cell? ⟨w.heap.size + 2, 4, none⟩ = some (.int .u64 o.v) := HO0.out.cell (i := 4) rfl
      have cO05 : (w3).cell? ⟨w.heap.size + 2, 5, none⟩ = some (.int .i64 o.new.1) := HO0.out.cell (i := 5) rfl
      have cO06 : (w3).cell? ⟨w.heap.size + 2, 6, none⟩ = some (.int .i64 o.new.2.1) := HO0.out.cell (i := 6) rfl
      have cO07 : (w3).cell? ⟨w.heap.size + 2, 7, none⟩ = some (.int .u64 o.new.2.2) := HO0.out.cell (i := 7) rfl
      have cH00 : (w3).cell? ⟨w.heap.size + 3, 0, none⟩ = some (.slice a1 g2.1.length c1) := HH0.out.cell (i := 0) rfl
      have cH01 : (w3).cell? ⟨w.heap.size + 3, 1, none⟩ = some (.slice b1 g2.2.length d1) := HH0.out.cell (i := 1) rfl
      cases hf : fewG g with
      | false =>
        go_wp2_with fail
        go_ret
        exact ⟨rfl, HX.out⟩
      | true =>
        obtain ⟨hr, hn60, h200⟩ := few_of hf
        clear hf HF
        have HCg : Hid (∀ (a b : Value) (w : World), Gr w a b g → Calls Try.prog 16 #[.agg #[a, b]] w fun e w' => ∃ u v, e = .returned (.agg #[u, v]) ∧ Hid (∀ W, Ext w' W → Gr W u v (Co.canonG g)) ∧ Ext w w') := fun a b w h => (Cn.canon_any a b g w h hr hp (by omega) (by omega)).mono fun e w' ⟨u, v, he, hg, hx⟩ => ⟨u, v, he, fun W hW => hg.ext hW, hx⟩
        have HCr : Hid (∀ (a b : Value) (w : World), Gr w a b g → Calls Try.prog 21 #[.agg #[a, b]] w fun e w' => ∃ u v, e = .returned (.agg #[u, v]) ∧ Hid (∀ W, Ext w' W → Gr W u v (Co.canonG g)) ∧ Ext w w') := fun a b w h => (Rc.rcanon_any a b g w h hr hp (by omega) (by omega)).mono fun e w' ⟨u, v, he, hg, hx⟩ => ⟨u, v, he, fun W hW => hg.ext hW, hx⟩
        have HD := Lib.hid (fun (a b : Value) (w : World) (h : Gr w a b g) => Wg.do_any a b g th o w h hr hp hm (by omega))
        have HRD := Lib.hid (fun (a b : Value) (w : World) (h : Gr w a b g) => Dj.rdo_any a b g th o w h hr hp (by omega) (by omega) hv hv1 hm hu)
        obtain ⟨d, hd⟩ : ∃ d, doG g th o = d := ⟨_, rfl⟩
        obtain ⟨an, ha⟩ : ∃ an, doA g th o = an := ⟨_, rfl⟩
        obtain ⟨e1, e2, e3⟩ := an
        rw [hd, ha] at HD HRD
        obtain ⟨bb, hbb⟩ : ∃ bb, decide (g = g2) = bb := ⟨_, rfl⟩
        have HQS : Hid (∀ (a b a' b' : Value) (w : World), Gr w a b g → Gr w a' b' g2 → Calls Try.prog 22 #[.agg #[a, b], .agg #[a', b']] w fun e w' => e = .returned (.bool bb) ∧ Ext w w') := fun a b a' b' w h h' => by
          have := Qs.same_any a b a' b' g g2 w h h'
          rw [hbb] at this; exact this
        have HRS : Hid (∀ (a b a' b' : Value) (w : World), Gr w a b g → Gr w a' b' g2 → Calls Try.prog 15 #[.agg #[a, b], .agg #[a', b']] w fun e w' => e = .returned (.bool bb) ∧ Ext w w') := fun a b a' b' w h h' => by
          have := Sm.same_any a b a' b' g g2 w h h'
          rw [hbb] at this; exact this
        have HOX : Hid (∀ W, Ext w3 W → Gr W (.slice a1 g2.1.length c1) (.slice b1 g2.2.length d1) g2) := fun W h => HOT.out W (HX.out.trans h)
        unfold opv at HD HRD
        clear hd ha hbb hr hp hv hv1 hm hu hwr HOT
        have HOE := Lib.hid (Ext.refl w3)
        go_wp2_with fail
        refine (HD.out _ _ _ HG.out).mono ?_; rintro e w4 ⟨va, ua, rfl, hg, hx⟩
        obtain ⟨aa, xa, rfl⟩ := hg.1.form
        obtain ⟨ba, ya, rfl⟩ := Gr.Ma.form hg.2
        clear cG00 cG01 cO00 cO01 cO02 cO03 cO04 cO05 cO06 cO07 cH00 cH01
        replace HX := Lib.hid (HX.out.trans hx)
        replace HG0 := Lib.hid (HG0.out.ext hx)
        replace HO0 := Lib.hid (HO0.out.ext hx)
        replace HH0 := Lib.hid (HH0.out.ext hx)
        replace HG := Lib.hid (HG.out.ext hx)
        replace HOE := Lib.hid (HOE.out.trans hx)
        have HGa := Lib.hid hg
        clear hg hx
        unfold anv
        obtain ⟨wB5, hwB5⟩ : ∃ wX, wX = ((w4.alloc (.cells #[.slice aa d.1.length xa, .slice ba d.2.length ya] 25)).alloc (.cells #[.int .i64 e1, .int .u64 e2, .bool e3] 35)) := ⟨_, rfl⟩
        have hxn : Ext w4 wB5 := hwB5 ▸ (((Ext.refl w4).alloc _).alloc _)
        replace HX := Lib.hid (HX.out.trans hxn)
        replace HG0 := Lib.hid (HG0.out.ext hxn)
        replace HO0 := Lib.hid (HO0.out.ext hxn)
        replace HH0 := Lib.hid (HH0.out.ext hxn)
        replace HG := Lib.hid (HG.out.ext hxn)
        replace HGa := Lib.hid (HGa.out.ext hxn)
        replace HOE := Lib.hid (HOE.out.trans hxn)
        have HKa := Lib.hid (show Blk wB5 (w4.heap.size) #[.slice aa d.1.length xa, .slice ba d.2.length ya] 25 from hwB5 ▸ ((blk_at (by simp)).alloc _))
        have HAa := Lib.hid (show Blk wB5 (w4.heap.size + 1) #[.int .i64 e1, .int .u64 e2, .bool e3] 35 from hwB5 ▸ (blk_at (by simp)))
        clear hxn
        have cG00 : (((w4.alloc (.cells #[.slice aa d.1.length xa, .slice ba d.2.length ya] 25)).alloc (.cells #[.int .i64 e1, .int .u64 e2, .bool e3] 35))).cell? ⟨w.heap.size + 1, 0, none⟩ = some (.slice a0 g.1.length c0) := by rw [← hwB5]; exact HG0.out.cell (i := 0) rfl
        have cG01 : (((w4.alloc (.cells #[.slice aa d.1.length xa, .slice ba d.2.length ya] 25)).alloc (.cells #[.int .i64 e1, .int .u64 e2, .bool e3] 35))).cell? ⟨w.heap.size + 1, 1, none⟩ = some (.slice b0 g.2.length d0) := by rw [← hwB5]; exact HG0.out.cell (i := 1) rfl
        have cO00 : (((w4.alloc (.cells #[.slice aa d.1.length xa, .slice ba d.2.length ya] 25)).alloc (.cells #[.int .i64 e1, .int .u64 e2, .bool e3] 35))).cell? ⟨w.heap.size + 2, 0, none⟩ = some (.int .i64 o.kind) := by rw [← hwB5]; exact HO0.out.cell (i := 0) rfl
        have cO01 : (((w4.alloc (.cells #[.slice aa d.1.length xa, .slice ba d.2.length ya] 25)).alloc (.cells #[.int .i64 e1, .int .u64 e2, .bool e3] 35))).cell? ⟨w.heap.size + 2, 1, none⟩ = some (.int .i64 o.h) := by rw [← hwB5]; exact HO0.out.cell (i := 1) rfl
        have cO02 : (((w4.alloc (.cells #[.slice aa d.1.length xa, .slice ba d.2.length ya] 25)).alloc (.cells #[.int .i64 e1, .int .u64 e2, .bool e3] 35))).cell? ⟨w.heap.size + 2, 2, none⟩ = some (.int .i64 o.i) := by rw [← hwB5]; exact HO0.out.cell (i := 2) rfl
        have cO03 : (((w4.alloc (.cells #[.slice aa d.1.length xa, .slice ba d.2.length ya] 25)).alloc (.cells #[.int .i64 e1, .int .u64 e2, .bool e3] 35))).cell? ⟨w.heap.size + 2, 3, none⟩ = some (.int .i64 o.k) := by rw [← hwB5]; exact HO0.out.cell (i := 3) rfl
        have cO04 : (((w4.alloc (.cells #[.slice aa d.1.length xa, .slice ba d.2.length ya] 25)).alloc (.cells #[.int .i64 e1, .int .u64 e2, .bool e3] 35))).cell? ⟨w.heap.size + 2, 4, none⟩ = some (.int .u64 o.v) := by rw [← hwB5]; exact HO0.out.cell (i := 4) rfl
        have cO05 : (((w4.alloc (.cells #[.slice aa d.1.length xa, .slice ba d.2.length ya] 25)).alloc (.cells #[.int .i64 e1, .int .u64 e2, .bool e3] 35))).cell? ⟨w.heap.size + 2, 5, none⟩ = some (.int .i64 o.new.1) := by rw [← hwB5]; exact HO0.out.cell (i := 5) rfl
        have cO06 : (((w4.alloc (.cells #[.slice aa d.1.length xa, .slice ba d.2.length ya] 25)).alloc (.cells #[.int .i64 e1, .int .u64 e2, .bool e3] 35))).cell? ⟨w.heap.size + 2, 6, none⟩ = some (.int .i64 o.new.2.1) := by rw [← hwB5]; exact HO0.out.cell (i := 6) rfl
        have cO07 : (((w4.alloc (.cells #[.slice aa d.1.length xa, .slice ba d.2.length ya] 25)).alloc (.cells #[.int .i64 e1, .int .u64 e2, .bool e3] 35))).cell? ⟨w.heap.size + 2, 7, none⟩ = some (.int .u64 o.new.2.2) := by rw [← hwB5]; exact HO0.out.cell (i := 7) rfl
        have cH00 : (((w4.alloc (.cells #[.slice aa d.1.length xa, .slice ba d.2.length ya] 25)).alloc (.cells #[.int .i64 e1, .int .u64 e2, .bool e3] 35))).cell? ⟨w.heap.size + 3, 0, none⟩ = some (.slice a1 g2.1.length c1) := by rw [← hwB5]; exact HH0.out.cell (i := 0) rfl
        have cH01 : (((w4.alloc (.cells #[.slice aa d.1.length xa, .slice ba d.2.length ya] 25)).alloc (.cells #[.int .i64 e1, .int .u64 e2, .bool e3] 35))).cell? ⟨w.heap.size + 3, 1, none⟩ = some (.slice b1 g2.2.length d1) := by rw [← hwB5]; exact HH0.out.cell (i := 1) rfl
        go_wp2_with fail
        rw [← hwB5]
        clear hwB5
        clear cG00 cG01 cO00 cO01 cO02 cO03 cO04 cO05 cO06 cO07 cH00 cH01
        have cG00 : (wB5).cell? ⟨w.heap.size + 1, 0, none⟩ = some (.slice a0 g.1.length c0) := HG0.out.cell (i := 0) rfl
        have cG01 : (wB5).cell? ⟨w.heap.size + 1, 1, none⟩ = some (.slice b0 g.2.length d0) := HG0.out.cell (i := 1) rfl
        have cO00 : (wB5).cell? ⟨w.heap.size + 2, 0, none⟩ = some (.int .i64 o.kind) := HO0.out.cell (i := 0) rfl
        have cO01 : (wB5).cell? ⟨w.heap.size + 2, 1, none⟩ = some (.int .i64 o.h) := HO0.out.cell (i := 1) rfl
        have cO02 : (wB5).cell? ⟨w.heap.size + 2, 2, none⟩ = some (.int .i64 o.i) := HO0.out.cell (i := 2) rfl
        have cO03 : (wB5).cell? ⟨w.heap.size + 2, 3, none⟩ = some (.int .i64 o.k) := HO0.out.cell (i := 3) rfl
        have cO04 : (wB5).cell? ⟨w.heap.size + 2, 4, none⟩ = some (.int .u64 o.v) := HO0.out.cell (i := 4) rfl
        have cO05 : (wB5).cell? ⟨w.heap.size + 2, 5, none⟩ = some (.int .i64 o.new.1) := HO0.out.cell (i := 5) rfl
        have cO06 : (wB5).cell? ⟨w.heap.size + 2, 6, none⟩ = some (.int .i64 o.new.2.1) := HO0.out.cell (i := 6) rfl
        have cO07 : (wB5).cell? ⟨w.heap.size + 2, 7, none⟩ = some (.int .u64 o.new.2.2) := HO0.out.cell (i := 7) rfl
        have cH00 : (wB5).cell? ⟨w.heap.size + 3, 0, none⟩ = some (.slice a1 g2.1.length c1) := HH0.out.cell (i := 0) rfl
        have cH01 : (wB5).cell? ⟨w.heap.size + 3, 1, none⟩ = some (.slice b1 g2.2.length d1) := HH0.out.cell (i := 1) rfl
        have cKa0 : (wB5).cell? ⟨w4.heap.size, 0, none⟩ = some (.slice aa d.1.length xa) := HKa.out.cell (i := 0) rfl
        have cKa1 : (wB5).cell? ⟨w4.heap.size, 1, none⟩ = some (.slice ba d.2.length ya) := HKa.out.cell (i := 1) rfl
        have cAa0 : (wB5).cell? ⟨w4.heap.size + 1, 0, none⟩ = some (.int .i64 e1) := HAa.out.cell (i := 0) rfl
        have cAa1 : (wB5).cell? ⟨w4.heap.size + 1, 1, none⟩ = some (.int .u64 e2) := HAa.out.cell (i := 1) rfl
        have cAa2 : (wB5).cell? ⟨w4.heap.size + 1, 2, none⟩ = some (.bool e3) := HAa.out.cell (i := 2) rfl
        refine (HRD.out _ _ _ HG.out).mono ?_; rintro e w6 ⟨vb, ub, rfl, hg, hx⟩
        obtain ⟨ab, xb, rfl⟩ := hg.1.form
        obtain ⟨bb', yb, rfl⟩ := Gr.Ma.form hg.2
        clear cG00 cG01 cO00 cO01 cO02 cO03 cO04 cO05 cO06 cO07 cH00 cH01 cKa0 cKa1 cAa0 cAa1 cAa2
        replace HX := Lib.hid (HX.out.trans hx)
        replace HG0 := Lib.hid (HG0.out.ext hx)
        replace HO0 := Lib.hid (HO0.out.ext hx)
        replace HH0 := Lib.hid (HH0.out.ext hx)
        replace HKa := Lib.hid (HKa.out.ext hx)
        replace HAa := Lib.hid (HAa.out.ext hx)
        replace HG := Lib.hid (HG.out.ext hx)
        replace HGa := Lib.hid (HGa.out.ext hx)
        replace HOE := Lib.hid (HOE.out.trans hx)
        have HGb := Lib.hid hg
        clear hg hx
        unfold anv
        obtain ⟨wB7, hwB7⟩ : ∃ wX, wX = ((w6.alloc (.cells #[.slice ab d.1.length xb, .slice bb' d.2.length yb] 25)).alloc (.cells #[.int .i64 e1, .int .u64 e2, .bool e3] 35)) := ⟨_, rfl⟩
        have hxn : Ext w6 wB7 := hwB7 ▸ (((Ext.refl w6).alloc _).alloc _)
        replace HX := Lib.hid (HX.out.trans hxn)
        replace HG0 := Lib.hid (HG0.out.ext hxn)
        replace HO0 := Lib.hid (HO0.out.ext hxn)
        replace HH0 := Lib.hid (HH0.out.ext hxn)
        replace HKa := Lib.hid (HKa.out.ext hxn)
        replace HAa := Lib.hid (HAa.out.ext hxn)
        replace HG := Lib.hid (HG.out.ext hxn)
        replace HGa := Lib.hid (HGa.out.ext hxn)
        replace HGb := Lib.hid (HGb.out.ext hxn)
        replace HOE := Lib.hid (HOE.out.trans hxn)
        have HKb := Lib.hid (show Blk wB7 (w6.heap.size) #[.slice ab d.1.length xb, .slice bb' d.2.length yb] 25 from hwB7 ▸ ((blk_at (by simp)).alloc _))
        have HAb := Lib.hid (show Blk wB7 (w6.heap.size + 1) #[.int .i64 e1, .int .u64 e2, .bool e3] 35 from hwB7 ▸ (blk_at (by simp)))
        clear hxn
        have cG00 : (((w6.alloc (.cells #[.slice ab d.1.length xb, .slice bb' d.2.length yb] 25)).alloc (.cells #[.int .i64 e1, .int .u64 e2, .bool e3] 35))).cell? ⟨w.heap.size + 1, 0, none⟩ = some (.slice a0 g.1.length c0) := by rw [← hwB7]; exact HG0.out.cell (i := 0) rfl
        have cG01 : (((w6.alloc (.cells #[.slice ab d.1.length xb, .slice bb' d.2.length yb] 25)).alloc (.cells #[.int .i64 e1, .int .u64 e2, .bool e3] 35))).cell? ⟨w.heap.size + 1, 1, none⟩ = some (.slice b0 g.2.length d0) := by rw [← hwB7]; exact HG0.out.cell (i := 1) rfl
        have cO00 : (((w6.alloc (.cells #[.slice ab d.1.length xb, .slice bb' d.2.length yb] 25)).alloc (.cells #[.int .i64 e1, .int .u64 e2, .bool e3] 35))).cell? ⟨w.heap.size + 2, 0, none⟩ = some (.int .i64 o.kind) := by rw [← hwB7]; exact HO0.out.cell (i := 0) rfl
        have cO01 : (((w6.alloc (.cells #[.slice ab d.1.length xb, .slice bb' d.2.length yb] 25)).alloc (.cells #[.int .i64 e1, .int .u64 e2, .bool e3] 35))).cell? ⟨w.heap.size + 2, 1, none⟩ = some (.int .i64 o.h) := by rw [← hwB7]; exact HO0.out.cell (i := 1) rfl
        have cO02 : (((w6.alloc (.cells #[.slice ab d.1.length xb, .slice bb' d.2.length yb] 25)).alloc (.cells #[.int .i64 e1, .int .u64 e2, .bool e3] 35))).cell? ⟨w.heap.size + 2, 2, none⟩ = some (.int .i64 o.i) := by rw [← hwB7]; exact HO0.out.cell (i := 2) rfl
        have cO03 : (((w6.alloc (.cells #[.slice ab d.1.length xb, .slice bb' d.2.length yb] 25)).alloc (.cells #[.int .i64 e1, .int .u64 e2, .bool e3] 35))).cell? ⟨w.heap.size + 2, 3, none⟩ = some (.int .i64 o.k) := by rw [← hwB7]; exact HO0.out.cell (i := 3) rfl
        have cO04 : (((w6.alloc (.cells #[.slice ab d.1.length xb, .slice bb' d.2.length yb] 25)).alloc (.cells #[.int .i64 e1, .int .u64 e2, .bool e3] 35))).cell? ⟨w.heap.size + 2, 4, none⟩ = some (.int .u64 o.v) := by rw [← hwB7]; exact HO0.out.cell (i := 4) rfl
        have cO05 : (((w6.alloc (.cells #[.slice ab d.1.length xb, .slice bb' d.2.length yb] 25)).alloc (.cells #[.int .i64 e1, .int .u64 e2, .bool e3] 35))).cell? ⟨w.heap.size + 2, 5, none⟩ = some (.int .i64 o.new.1) := by rw [← hwB7]; exact HO0.out.cell (i := 5) rfl
        have cO06 : (((w6.alloc (.cells #[.slice ab d.1.length xb, .slice bb' d.2.length yb] 25)).alloc (.cells #[.int .i64 e1, .int .u64 e2, .bool e3] 35))).cell? ⟨w.heap.size + 2, 6, none⟩ = some (.int .i64 o.new.2.1) := by rw [← hwB7]; exact HO0.out.cell (i := 6) rfl
        have cO07 : (((w6.alloc (.cells #[.slice ab d.1.length xb, .slice bb' d.2.length yb] 25)).alloc (.cells #[.int .i64 e1, .int .u64 e2, .bool e3] 35))).cell? ⟨w.heap.size + 2, 7, none⟩ = some (.int .u64 o.new.2.2) := by rw [← hwB7]; exact HO0.out.cell (i := 7) rfl
        have cH00 : (((w6.alloc (.cells #[.slice ab d.1.length xb, .slice bb' d.2.length yb] 25)).alloc (.cells #[.int .i64 e1, .int .u64 e2, .bool e3] 35))).cell? ⟨w.heap.size + 3, 0, none⟩ = some (.slice a1 g2.1.length c1) := by rw [← hwB7]; exact HH0.out.cell (i := 0) rfl
        have cH01 : (((w6.alloc (.cells #[.slice ab d.1.length xb, .slice bb' d.2.length yb] 25)).alloc (.cells #[.int .i64 e1, .int .u64 e2, .bool e3] 35))).cell? ⟨w.heap.size + 3, 1, none⟩ = some (.slice b1 g2.2.length d1) := by rw [← hwB7]; exact HH0.out.cell (i := 1) rfl
        have cKa0 : (((w6.alloc (.cells #[.slice ab d.1.length xb, .slice bb' d.2.length yb] 25)).alloc (.cells #[.int .i64 e1, .int .u64 e2, .bool e3] 35))).cell? ⟨w4.heap.size, 0, none⟩ = some (.slice aa d.1.length xa) := by rw [← hwB7]; exact HKa.out.cell (i := 0) rfl
        have cKa1 : (((w6.alloc (.cells #[.slice ab d.1.length xb, .slice bb' d.2.length yb] 25)).alloc (.cells #[.int .i64 e1, .int .u64 e2, .bool e3] 35))).cell? ⟨w4.heap.size, 1, none⟩ = some (.slice ba d.2.length ya) := by rw [← hwB7]; exact HKa.out.cell (i := 1) rfl
        have cAa0 : (((w6.alloc (.cells #[.slice ab d.1.length xb, .slice bb' d.2.length yb] 25)).alloc (.cells #[.int .i64 e1, .int .u64 e2, .bool e3] 35))).cell? ⟨w4.heap.size + 1, 0, none⟩ = some (.int .i64 e1) := by rw [← hwB7]; exact HAa.out.cell (i := 0) rfl
        have cAa1 : (((w6.alloc (.cells #[.slice ab d.1.length xb, .slice bb' d.2.length yb] 25)).alloc (.cells #[.int .i64 e1, .int .u64 e2, .bool e3] 35))).cell? ⟨w4.heap.size + 1, 1, none⟩ = some (.int .u64 e2) := by rw [← hwB7]; exact HAa.out.cell (i := 1) rfl
        have cAa2 : (((w6.alloc (.cells #[.slice ab d.1.length xb, .slice bb' d.2.length yb] 25)).alloc (.cells #[.int .i64 e1, .int .u64 e2, .bool e3] 35))).cell? ⟨w4.heap.size + 1, 2, none⟩ = some (.bool e3) := by rw [← hwB7]; exact HAa.out.cell (i := 2) rfl
        go_wp2_with fail
        rw [← hwB7]
        clear hwB7
        clear cG00 cG01 cO00 cO01 cO02 cO03 cO04 cO05 cO06 cO07 cH00 cH01 cKa0 cKa1 cAa0 cAa1 cAa2
        have cG00 : (wB7).cell? ⟨w.heap.size + 1, 0, none⟩ = some (.slice a0 g.1.length c0) := HG0.out.cell (i := 0) rfl
        have cG01 : (wB7).cell? ⟨w.heap.size + 1, 1, none⟩ = some (.slice b0 g.2.length d0) := HG0.out.cell (i := 1) rfl
        have cO00 : (wB7).cell? ⟨w.heap.size + 2, 0, none⟩ = some (.int .i64 o.kind) := HO0.out.cell (i := 0) rfl
        have cO01 : (wB7).cell? ⟨w.heap.size + 2, 1, none⟩ = some (.int .i64 o.h) := HO0.out.cell (i := 1) rfl
        have cO02 : (wB7).cell? ⟨w.heap.size + 2, 2, none⟩ = some (.int .i64 o.i) := HO0.out.cell (i := 2) rfl
        have cO03 : (wB7).cell? ⟨w.heap.size + 2, 3, none⟩ = some (.int .i64 o.k) := HO0.out.cell (i := 3) rfl
        have cO04 : (wB7).cell? ⟨w.heap.size + 2, 4, none⟩ = some (.int .u64 o.v) := HO0.out.cell (i := 4) rfl
        have cO05 : (wB7).cell? ⟨w.heap.size + 2, 5, none⟩ = some (.int .i64 o.new.1) := HO0.out.cell (i := 5) rfl
        have cO06 : (wB7).cell? ⟨w.heap.size + 2, 6, none⟩ = some (.int .i64 o.new.2.1) := HO0.out.cell (i := 6) rfl
        have cO07 : (wB7).cell? ⟨w.heap.size + 2, 7, none⟩ = some (.int .u64 o.new.2.2) := HO0.out.cell (i := 7) rfl
        have cH00 : (wB7).cell? ⟨w.heap.size + 3, 0, none⟩ = some (.slice a1 g2.1.length c1) := HH0.out.cell (i := 0) rfl
        have cH01 : (wB7).cell? ⟨w.heap.size + 3, 1, none⟩ = some (.slice b1 g2.2.length d1) := HH0.out.cell (i := 1) rfl
        have cKa0 : (wB7).cell? ⟨w4.heap.size, 0, none⟩ = some (.slice aa d.1.length xa) := HKa.out.cell (i := 0) rfl
        have cKa1 : (wB7).cell? ⟨w4.heap.size, 1, none⟩ = some (.slice ba d.2.length ya) := HKa.out.cell (i := 1) rfl
        have cAa0 : (wB7).cell? ⟨w4.heap.size + 1, 0, none⟩ = some (.int .i64 e1) := HAa.out.cell (i := 0) rfl
        have cAa1 : (wB7).cell? ⟨w4.heap.size + 1, 1, none⟩ = some (.int .u64 e2) := HAa.out.cell (i := 1) rfl
        have cAa2 : (wB7).cell? ⟨w4.heap.size + 1, 2, none⟩ = some (.bool e3) := HAa.out.cell (i := 2) rfl
        have cKb0 : (wB7).cell? ⟨w6.heap.size, 0, none⟩ = some (.slice ab d.1.length xb) := HKb.out.cell (i := 0) rfl
        have cKb1 : (wB7).cell? ⟨w6.heap.size, 1, none⟩ = some (.slice bb' d.2.length yb) := HKb.out.cell (i := 1) rfl
        have cAb0 : (wB7).cell? ⟨w6.heap.size + 1, 0, none⟩ = some (.int .i64 e1) := HAb.out.cell (i := 0) rfl
        have cAb1 : (wB7).cell? ⟨w6.heap.size + 1, 1, none⟩ = some (.int .u64 e2) := HAb.out.cell (i := 1) rfl
        have cAb2 : (wB7).cell? ⟨w6.heap.size + 1, 2, none⟩ = some (.bool e3) := HAb.out.cell (i := 2) rfl
        clear cG00 cG01 cO00 cO01 cO02 cO03 cO04 cO05 cO06 cO07 cH00 cH01 cKa0 cKa1 cAa0 cAa1 cAa2 cKb0 cKb1 cAb0 cAb1 cAb2
        have fG00 : ∀ W : World, Ext wB7 W → W.cell? ⟨w.heap.size + 1, 0, none⟩ = some (.slice a0 g.1.length c0) := fun W h => (HG0.out.ext h).cell (i := 0) rfl
        have fG01 : ∀ W : World, Ext wB7 W → W.cell? ⟨w.heap.size + 1, 1, none⟩ = some (.slice b0 g.2.length d0) := fun W h => (HG0.out.ext h).cell (i := 1) rfl
        have fH00 : ∀ W : World, Ext wB7 W → W.cell? ⟨w.heap.size + 3, 0, none⟩ = some (.slice a1 g2.1.length c1) := fun W h => (HH0.out.ext h).cell (i := 0) rfl
        have fH01 : ∀ W : World, Ext wB7 W → W.cell? ⟨w.heap.size + 3, 1, none⟩ = some (.slice b1 g2.2.length d1) := fun W h => (HH0.out.ext h).cell (i := 1) rfl
        have fKa0 : ∀ W : World, Ext wB7 W → W.cell? ⟨w4.heap.size, 0, none⟩ = some (.slice aa d.1.length xa) := fun W h => (HKa.out.ext h).cell (i := 0) rfl
        have fKa1 : ∀ W : World, Ext wB7 W → W.cell? ⟨w4.heap.size, 1, none⟩ = some (.slice ba d.2.length ya) := fun W h => (HKa.out.ext h).cell (i := 1) rfl
        have fAa0 : ∀ W : World, Ext wB7 W → W.cell? ⟨w4.heap.size + 1, 0, none⟩ = some (.int .i64 e1) := fun W h => (HAa.out.ext h).cell (i := 0) rfl
        have fAa1 : ∀ W : World, Ext wB7 W → W.cell? ⟨w4.heap.size + 1, 1, none⟩ = some (.int .u64 e2) := fun W h => (HAa.out.ext h).cell (i := 1) rfl
        have fAa2 : ∀ W : World, Ext wB7 W → W.cell? ⟨w4.heap.size + 1, 2, none⟩ = some (.bool e3) := fun W h => (HAa.out.ext h).cell (i := 2) rfl
        have fKb0 : ∀ W : World, Ext wB7 W → W.cell? ⟨w6.heap.size, 0, none⟩ = some (.slice ab d.1.length xb) := fun W h => (HKb.out.ext h).cell (i := 0) rfl
        have fKb1 : ∀ W : World, Ext wB7 W → W.cell? ⟨w6.heap.size, 1, none⟩ = some (.slice bb' d.2.length yb) := fun W h => (HKb.out.ext h).cell (i := 1) rfl
        have fAb0 : ∀ W : World, Ext wB7 W → W.cell? ⟨w6.heap.size + 1, 0, none⟩ = some (.int .i64 e1) := fun W h => (HAb.out.ext h).cell (i := 0) rfl
        have fAb1 : ∀ W : World, Ext wB7 W → W.cell? ⟨w6.heap.size + 1, 1, none⟩ = some (.int .u64 e2) := fun W h => (HAb.out.ext h).cell (i := 1) rfl
        have fAb2 : ∀ W : World, Ext wB7 W → W.cell? ⟨w6.heap.size + 1, 2, none⟩ = some (.bool e3) := fun W h => (HAb.out.ext h).cell (i := 2) rfl
        have FA : Hid (∀ W, Ext wB7 W → Gr W (.slice aa d.1.length xa) (.slice ba d.2.length ya) d) := fun W h => HGa.out.ext h
        have FB : Hid (∀ W, Ext wB7 W → Gr W (.slice ab d.1.length xb) (.slice bb' d.2.length yb) d) := fun W h => HGb.out.ext h
        have FX : Hid (∀ W, Ext wB7 W → Gr W (.slice a0 g.1.length c0) (.slice b0 g.2.length d0) g) := fun W h => HG.out.ext h
        have FO : Hid (∀ W, Ext wB7 W → Gr W (.slice a1 g2.1.length c1) (.slice b1 g2.2.length d1) g2) := fun W h => HOX.out W (HOE.out.trans h)
        have hse : ∀ W : World, (Op.equalIn 10000 35 (.agg #[.int .i64 e1, .int .u64 e2, .bool e3]) (.agg #[.int .i64 e1, .int .u64 e2, .bool e3])).run Try.prog W = .ok true W := fun W => by rw [eqAns]; simp
        go_region_held3 (fun W : World => Ext wB7 W) (first | exact (Ext.refl wB7).drew | exact Ext.trans (by assumption) hxr) (first
          | (go_at_call 16; (with_reducible refine (HCg.out _ _ _ (FX.out _ (by assumption))).mono ?_); rintro e wr ⟨uc, vc, rfl, hUc, hxr⟩)
          | (go_at_call 21; (with_reducible refine (HCr.out _ _ _ (FX.out _ (by assumption))).mono ?_); rintro e wr ⟨ud, vd, rfl, hUd, hxr⟩)
          | (go_at_call 15; (with_reducible refine (HSS.out d _ _ _ _ _ (FA.out _ (by assumption)) (FB.out _ (by assumption))).mono ?_); rintro e wr ⟨rfl, hxr⟩)
          | (go_at_call 15; (with_reducible refine (HSS.out (Co.canonG g) _ _ _ _ _ (hUc.out _ (by first | exact Ext.refl _ | assumption)) (hUd.out _ (by first | exact Ext.refl _ | assumption))).mono ?_); rintro e wr ⟨rfl, hxr⟩))
        all_goals
          go_wp2_with fail
          go_region_held3 (fun W : World => Ext wB7 W) (first | exact Ext.drew (by assumption) | exact Ext.trans (by assumption) hxs) (first
            | (go_at_call 22; (with_reducible refine (HQS.out _ _ _ _ _ (FX.out _ (by assumption)) (FO.out _ (by assumption))).mono ?_); rintro e ws ⟨rfl, hxs⟩)
            | (go_at_call 15; (with_reducible refine (HRS.out _ _ _ _ _ (FX.out _ (by assumption)) (FO.out _ (by assumption))).mono ?_); rintro e ws ⟨rfl, hxs⟩))
          all_goals
            go_wp2_with fail
            go_ret
            exact ⟨by first | rfl | (simp; done) | (cases bb <;> rfl), HX.out.trans (by assumption)⟩

theorem walk (v0 : Value) (W : World) (r0 : Rd.V Try.prog W 56 v0) : Calls Try.prog 10 #[v0] W fun e w' => e = .returned (.bool true) ∧ Below W.heap.size W w' := by
  obtain ⟨cs, rfl, hs⟩ := r0.struct Try.underlying56
  obtain ⟨hl, _⟩ := hs.struct Try.underlying56
  rw [show Try.prog.cellsOf 56 = 14 by kernel_rfl] at hl
  obtain ⟨c0, c1, c2, c3, c4, c5, c6, c7, c8, c9, c10, c11, c12, c13, rfl⟩ := many_of hl
  have hG := (show Rd.R _ W _ [c0, c1] from Rd.R.field Try.underlying56 hs 0 rfl 0 2 25 rfl rfl (by kernel_rfl))
  obtain ⟨a, b, g, hab, hg, hwf⟩ := Gr.of_R hG
  obtain ⟨rfl, rfl⟩ : c0 = a ∧ c1 = b := by simpa using hab
  obtain ⟨th, h1, _⟩ := (show Rd.R _ W _ [c2] from Rd.R.field Try.underlying56 hs 1 rfl 2 1 3 rfl rfl (by kernel_rfl)).int Try.underlying3
  obtain rfl : c2 = .int .i64 th := by simpa using h1
  obtain ⟨o, h3, hov, hom⟩ := op_of_R (show Rd.R _ W _ [c3, c4, c5, c6, c7, c8, c9, c10] from Rd.R.field Try.underlying56 hs 2 rfl 3 8 30 rfl rfl (by kernel_rfl))
  obtain ⟨rfl, rfl, rfl, rfl, rfl, rfl, rfl, rfl⟩ : c3 = .int .i64 o.kind ∧ c4 = .int .i64 o.h ∧ c5 = .int .i64 o.i ∧ c6 = .int .i64 o.k ∧ c7 = .int .u64 o.v ∧ c8 = .int .i64 o.new.1 ∧ c9 = .int .i64 o.new.2.1 ∧ c10 = .int .u64 o.new.2.2 := by simpa [ocells] using h3
  obtain ⟨a2, b2, g2, hab2, hg2, _⟩ := Gr.of_R (show Rd.R _ W _ [c11, c12] from Rd.R.field Try.underlying56 hs 3 rfl 11 2 25 rfl rfl (by kernel_rfl))
  obtain ⟨rfl, rfl⟩ : c11 = a2 ∧ c12 = b2 := by simpa using hab2
  obtain ⟨threads, h4, _⟩ := (show Rd.R _ W _ [c13] from Rd.R.field Try.underlying56 hs 4 rfl 13 1 3 rfl rfl (by kernel_rfl)).int Try.underlying3
  obtain rfl : c13 = .int .i64 threads := by simpa using h4
  exact (go _ _ _ _ g g2 th threads o (posG_of hwf) (fun r hr i => by
    by_cases hi : i < r.length
    · exact (Rd.i64_bd (hwf.2 r hr _ (by simp [List.getD_eq_getElem?_getD, hi]))).2
    · rw [List.getD_eq_getElem?_getD, List.getElem?_eq_none (by omega)]; decide) (fun n hn y hy => (Rd.u64_bd ((hwf.1 n hn).2.2.2 y hy)).2) hov.1 hov.2 hom W hg hg2).mono fun e w' ⟨he, hw⟩ => ⟨he, hw.below⟩

open Go.ChangeShapes Go.WideShapes Go.ChangeAt Go.RowKit
theorem own : ownKnob Try.prog.godebug = none := by kernel_rfl
theorem laidOut : laidOutB Try.prog = true := by kernel_rfl

set_option maxRecDepth 100000 in
theorem lifted (os : Os) (started : os.Started) (H : Type) (enc : TypeId × Value → H) :
    ReturnsInHanded {} Try.checked os 10 .any (Rows.graphDoesSpec.pre6 enc Try.prog Try.f10 Rows.graphDoesRow.domain false) (Rows.graphDoesSpec.post enc Try.prog Try.f10 false true false false) := by
  refine returnsInHanded_of_change_sized (C := Try.checked) own started (by kernel_rfl) Try.func10
    (ChangeSpec.witness6 (enc := enc) (C := Try.checked) false ⟨#[], #[.agg #[.slice none 0 0, .slice none 0 0, .int .i64 0, .int .i64 0, .int .i64 0, .int .i64 0, .int .i64 0, .int .u64 0, .int .i64 0, .int .i64 0, .int .u64 0, .slice none 0 0, .slice none 0 0, .int .i64 0]], []⟩ 12 (by kernel_rfl) (by kernel_rfl) (by kernel_rfl) (by kernel_rfl)) ?_
  intro W base args ds gs before hval0 hW _ hsz0 _
  have hval : ∀ (j : Nat) t v, Try.f10.params[j]? = some t → args[j]? = some v → Value.okWide Try.prog W .any base t v := hval0
  have hW' := hW
  obtain ⟨p, q, hA0, hV, rfl, _, _⟩ := hW
  have hA : DataW.TrodAll enc Try.prog W 0 (fun _ => true) true Try.f10.params.toList args.toList ds p := hA0
  obtain ⟨rfl, rfl⟩ := trodVars_none hV
  have hsz : (DataW.weightsEach Try.prog (Try.f10.params.toList ++ []) (ds ++ [])).all (· ≤ reachBytes) = true := hsz0
  rw [Try.params10] at hA hval hsz
  have hA2 := hA
  obtain ⟨v0, vs0, d0, ds0, p0, q0, hargs, rfl, rfl, h0, r0⟩ := trodAll_cons hA2
  obtain ⟨rfl, rfl, rfl⟩ := trodAll_nil r0
  obtain rfl : args = #[v0] := by cases args; simp_all
  have hR := Rd.trodAll_V hA (fun n hn => by simpa using List.all_eq_true.1 hsz n (by simpa using hn)) (fun j t v hj hv => hval j t v (by simpa using hj) (by simpa using hv))
  clear hA0 hval0 hA2
  refine (walk v0 W (hR 0 56 v0 rfl rfl)).mono fun e W' ⟨he, bel⟩ => ?_
  subst he
  exact ⟨_, rfl, _, _, _, [], _, [], hW', trodAll_mk1 (shut_bool Try.underlying4 _), Rd.trodAll_below laidOut bel (List.forall_mem_cons.2 ⟨⟨by kernel_rfl, of_decide_eq_true (by kernel_rfl)⟩, fun _ h => by cases h⟩) hA, rfl, bel.frame _, fun h => by cases h⟩

theorem over : Rows.graphDoesRow.holds Try.pinned (OpenSpec.ofChange Rows.graphDoesSpec) :=
  OpenClaim.holds_of_wide 10 Try.f10 rfl rfl rfl rfl rfl rfl rfl ⟨rfl, rfl, rfl, rfl, rfl⟩ rfl rfl rfl rfl rfl (by kernel_rfl) Try.func10 (by kernel_rfl)
    (of_decide_eq_true (by kernel_rfl)) (by unfold Func.isWrapper; first | (rw [if_pos (by decide +kernel)]; kernel_rfl) | (rw [if_neg (by decide +kernel)]; exact ⟨rfl, rfl⟩))
    (fun os started H enc _ => lifted os started H enc)

theorem proved : Rows.GraphDoesSaid := over
#print axioms proved
end Go.Proofs.Ytjhmlbhfnogdiaa.graphDoes
