/- GraphWrites holds for every input: a scalar that was written is got; multiplied by one it is as it was, without its other bits. No condition. -/
import Derived.Test.YtjhmlbhfnogdiaaRows
import Derived.Test.YtjhmlbhfnogdiaaOp
import Derived.Test.YtjhmlbhfnogdiaaPr
namespace Go.Proofs.Ytjhmlbhfnogdiaa.graphWrites
open Go.RowKit Go.Proofs.Ytjhmlbhfnogdiaa Go.Proofs.Ytjhmlbhfnogdiaa.Hd Go.Proofs.Ytjhmlbhfnogdiaa.Gr Go.Proofs.Ytjhmlbhfnogdiaa.Hg Go.Proofs.Ytjhmlbhfnogdiaa.Rr Go.Proofs.Ytjhmlbhfnogdiaa.Wk Go.Proofs.Ytjhmlbhfnogdiaa.Wp Go.Proofs.Ytjhmlbhfnogdiaa.Wa Go.Proofs.Ytjhmlbhfnogdiaa.Wc Go.Proofs.Ytjhmlbhfnogdiaa.Wf Go.Proofs.Ytjhmlbhfnogdiaa.Pl Go.Proofs.Ytjhmlbhfnogdiaa.Op Go.Proofs.Ytjhmlbhfnogdiaa.Pq Go.Proofs.Ytjhmlbhfnogdiaa.Pr
set_option linter.unusedVariables false

theorem many_of {α : Type} {l : List α} (h : l.length = 6) : ∃ x0 x1 x2 x3 x4 x5, l = [x0, x1, x2, x3, x4, x5] := by
  obtain ⟨x0, l, rfl⟩ := List.exists_cons_of_length_pos (show 0 < l.length by omega)
  replace h : l.length = 5 := by simpa using h
  obtain ⟨x1, l, rfl⟩ := List.exists_cons_of_length_pos (show 0 < l.length by omega)
  replace h : l.length = 4 := by simpa using h
  obtain ⟨x2, l, rfl⟩ := List.exists_cons_of_length_pos (show 0 < l.length by omega)
  replace h : l.length = 3 := by simpa using h
  obtain ⟨x3, l, rfl⟩ := List.exists_cons_of_length_pos (show 0 < l.length by omega)
  replace h : l.length = 2 := by simpa using h
  obtain ⟨x4, l, rfl⟩ := List.exists_cons_of_length_pos (show 0 < l.length by omega)
  replace h : l.length = 1 := by simpa using h
  obtain ⟨x5, l, rfl⟩ := List.exists_cons_of_length_pos (show 0 < l.length by omega)
  replace h : l.length = 0 := by simpa using h
  obtain rfl : l = [] := List.length_eq_zero_iff.1 h
  exact ⟨x0, x1, x2, x3, x4, x5, rfl⟩

set_option maxHeartbeats 1000000 in
theorem go (a b : Value) (g : Gph) (th hh i v : Int) (hp : posG g) (hv : 0 ≤ v) (w : World) (h : Gr w a b g) :
    Calls Try.prog 5 #[.agg #[a, b, .int .i64 th, .int .i64 hh, .int .i64 i, .int .u64 v]] w fun e w' => e = .returned (.bool true) ∧ Ext w w' := by
  obtain ⟨a0, c0, rfl⟩ := h.1.form
  obtain ⟨b0, d0, rfl⟩ := Gr.Ma.form h.2
  have hl1 := h.1.len
  have hl2 := Ma.len uS h.2
  have hsm := h.1.small
  have HG := Lib.hid h
  have HF := Lib.hid (fun (w : World) (h : Gr w (.slice a0 g.1.length c0) (.slice b0 g.2.length d0) g) => few_any _ _ g hp w h)
  clear h
  go_enter Try.func5, Try.ntmps5
  have HX := Lib.hid (Ext.refl w)
  obtain ⟨wB1, hwB1⟩ : ∃ x, x = ((w.alloc (.cells #[.slice a0 g.1.length c0, .slice b0 g.2.length d0, .int .i64 th, .int .i64 hh, .int .i64 i, .int .u64 v] 45)).alloc (.cells #[.slice a0 g.1.length c0, .slice b0 g.2.length d0] 25)) := ⟨_, rfl⟩
  have hxn : Ext w wB1 := hwB1 ▸ (((Ext.refl w).alloc _).alloc _)
  replace HX := Lib.hid (HX.out.trans hxn)
  replace HG := Lib.hid (HG.out.ext hxn)
  have HW0 := Lib.hid (show Blk wB1 (w.heap.size) #[.slice a0 g.1.length c0, .slice b0 g.2.length d0, .int .i64 th, .int .i64 hh, .int .i64 i, .int .u64 v] 45 from hwB1 ▸ ((blk_at (by simp)).alloc _))
  have HG0 := Lib.hid (show Blk wB1 (w.heap.size + 1) #[.slice a0 g.1.length c0, .slice b0 g.2.length d0] 25 from hwB1 ▸ (blk_at (by simp)))
  clear hxn
  go_wp2_with fail
  rw [← hwB1]
  clear hwB1
  have cW00 : (wB1).cell? ⟨w.heap.size, 0, none⟩ = some (.slice a0 g.1.length c0) := HW0.out.cell (i := 0) rfl
  have cW01 : (wB1).cell? ⟨w.heap.size, 1, none⟩ = some (.slice b0 g.2.length d0) := HW0.out.cell (i := 1) rfl
  have cW02 : (wB1).cell? ⟨w.heap.size, 2, none⟩ = some (.int .i64 th) := HW0.out.cell (i := 2) rfl
  have cW03 : (wB1).cell? ⟨w.heap.size, 3, none⟩ = some (.int .i64 hh) := HW0.out.cell (i := 3) rfl
  have cW04 : (wB1).cell? ⟨w.heap.size, 4, none⟩ = some (.int .i64 i) := HW0.out.cell (i := 4) rfl
  have cW05 : (wB1).cell? ⟨w.heap.size, 5, none⟩ = some (.int .u64 v) := HW0.out.cell (i := 5) rfl
  have cG00 : (wB1).cell? ⟨w.heap.size + 1, 0, none⟩ = some (.slice a0 g.1.length c0) := HG0.out.cell (i := 0) rfl
  have cG01 : (wB1).cell? ⟨w.heap.size + 1, 1, none⟩ = some (.slice b0 g.2.length d0) := HG0.out.cell (i := 1) rfl
  refine (Sh.shown_any _).mono ?_; rintro e w2 ⟨rfl, hx⟩
  clear cW00 cW01 cW02 cW03 cW04 cW05 cG00 cG01
  replace HX := Lib.hid (HX.out.trans hx)
  replace HW0 := Lib.hid (HW0.out.ext hx)
  replace HG0 := Lib.hid (HG0.out.ext hx)
  replace HG := Lib.hid (HG.out.ext hx)
  clear hx
  have cW00 : (w2).cell? ⟨w.heap.size, 0, none⟩ = some (.slice a0 g.1.length c0) := HW0.out.cell (i := 0) rfl
  have cW01 : (w2).cell? ⟨w.heap.size, 1, none⟩ = some (.slice b0 g.2.length d0) := HW0.out.cell (i := 1) rfl
  have cW02 : (w2).cell? ⟨w.heap.size, 2, none⟩ = some (.int .i64 th) := HW0.out.cell (i := 2) rfl
  have cW03 : (w2).cell? ⟨w.heap.size, 3, none⟩ = some (.int .i64 hh) := HW0.out.cell (i := 3) rfl
  have cW04 : (w2).cell? ⟨w.heap.size, 4, none⟩ = some (.int .i64 i) := HW0.out.cell (i := 4) rfl
  have cW05 : (w2).cell? ⟨w.heap.size, 5, none⟩ = some (.int .u64 v) := HW0.out.cell (i := 5) rfl
  have cG00 : (w2).cell? ⟨w.heap.size + 1, 0, none⟩ = some (.slice a0 g.1.length c0) := HG0.out.cell (i := 0) rfl
  have cG01 : (w2).cell? ⟨w.heap.size + 1, 1, none⟩ = some (.slice b0 g.2.length d0) := HG0.out.cell (i := 1) rfl
  go_wp2_with fail
  refine (HF.out _ HG.out).mono ?_; rintro e w3 ⟨rfl, hx⟩
  clear cW00 cW01 cW02 cW03 cW04 cW05 cG00 cG01
  replace HX := Lib.hid (HX.out.trans hx)
  replace HW0 := Lib.hid (HW0.out.ext hx)
  replace HG0 := Lib.hid (HG0.out.ext hx)
  replace HG := Lib.hid (HG.out.ext hx)
  clear hx
  have cW00 : (w3).cell? ⟨w.heap.size, 0, none⟩ = some (.slice a0 g.1.length c0) := HW0.out.cell (i := 0) rfl
  have cW01 : (w3).cell? ⟨w.heap.size, 1, none⟩ = some (.slice b0 g.2.length d0) := HW0.out.cell (i := 1) rfl
  have cW02 : (w3).cell? ⟨w.heap.size, 2, none⟩ = some (.int .i64 th) := HW0.out.cell (i := 2) rfl
  have cW03 : (w3).cell? ⟨w.heap.size, 3, none⟩ = some (.int .i64 hh) := HW0.out.cell (i := 3) rfl
  have cW04 : (w3).cell? ⟨w.heap.size, 4, none⟩ = some (.int .i64 i) := HW0.out.cell (i := 4) rfl
  have cW05 : (w3).cell? ⟨w.heap.size, 5, none⟩ = some (.int .u64 v) := HW0.out.cell (i := 5) rfl
  have cG00 : (w3).cell? ⟨w.heap.size + 1, 0, none⟩ = some (.slice a0 g.1.length c0) := HG0.out.cell (i := 0) rfl
  have cG01 : (w3).cell? ⟨w.heap.size + 1, 1, none⟩ = some (.slice b0 g.2.length d0) := HG0.out.cell (i := 1) rfl
  cases hf : fewG g with
  | false =>
    go_wp2_with fail
    go_ret
    exact ⟨rfl, HX.out⟩
  | true =>
    obtain ⟨hr, hn60, _⟩ := few_of hf
    clear hf HF
    have HD := Lib.hid (fun (a b : Value) (w : World) (h : Gr w a b g) => Wg.do_any a b g th (o4 hh i v) w h hr hp (Int.le_refl 0) (by omega))
    have hd := do_good (th := th) (o := o4 hh i v) hr hp hv (Int.le_refl 0)
    have HP := writes (th := th) (h := hh) (i := i) hr hp hv
    generalize doG g th (o4 hh i v) = d at *
    generalize doA g th (o4 hh i v) = an at *
    obtain ⟨e1, e2, e3⟩ := an
    obtain ⟨hr', hp', hs', hn', hn''⟩ := hd
    have hdl : d.1.length ≤ 100 := by omega
    clear hs' hn' hn''
    have HD2 := Lib.hid (fun (a b : Value) (w : World) (h : Gr w a b d) => Wg.do_any a b d th (o2 hh i) w h hr' hp' (Int.le_refl 0) (by omega))
    have HD3 := Lib.hid (fun (a b : Value) (w : World) (h : Gr w a b d) => Wg.do_any a b d th (o7 hh i) w h hr' hp' (Int.le_refl 0) (by omega))
    have hd2 := do_good (th := th) (o := o7 hh i) hr' hp' (by show (0 : Int) ≤ 65536; decide) (Int.le_refl 0)
    generalize doG d th (o2 hh i) = d2 at *
    generalize doA d th (o2 hh i) = an2 at *
    obtain ⟨f1, f2, f3⟩ := an2
    generalize doG d th (o7 hh i) = m at *
    generalize doA d th (o7 hh i) = an3 at *
    obtain ⟨k1, k2, k3⟩ := an3
    obtain ⟨hr2, hp2, hs', hn', hn''⟩ := hd2
    have hml : m.1.length ≤ 1000 := by omega
    clear hs' hn' hn''
    go_wp2_with fail
    refine (HD.out _ _ _ HG.out).mono ?_; rintro e w4 ⟨vk, uk, rfl, hg, hx⟩
    obtain ⟨ak, xk, rfl⟩ := hg.1.form
    obtain ⟨bk, yk, rfl⟩ := Gr.Ma.form hg.2
    clear cW00 cW01 cW02 cW03 cW04 cW05 cG00 cG01
    replace HX := Lib.hid (HX.out.trans hx)
    replace HW0 := Lib.hid (HW0.out.ext hx)
    replace HG0 := Lib.hid (HG0.out.ext hx)
    replace HG := Lib.hid (HG.out.ext hx)
    have HGk := Lib.hid hg
    clear hg hx
    unfold anv
    obtain ⟨wB5, hwB5⟩ : ∃ x, x = ((w4.alloc (.cells #[.slice ak d.1.length xk, .slice bk d.2.length yk] 25)).alloc (.cells #[.int .i64 e1, .int .u64 e2, .bool e3] 35)) := ⟨_, rfl⟩
    have hxn : Ext w4 wB5 := hwB5 ▸ (((Ext.refl w4).alloc _).alloc _)
    replace HX := Lib.hid (HX.out.trans hxn)
    replace HW0 := Lib.hid (HW0.out.ext hxn)
    replace HG0 := Lib.hid (HG0.out.ext hxn)
    replace HG := Lib.hid (HG.out.ext hxn)
    replace HGk := Lib.hid (HGk.out.ext hxn)
    have HKk := Lib.hid (show Blk wB5 (w4.heap.size) #[.slice ak d.1.length xk, .slice bk d.2.length yk] 25 from hwB5 ▸ ((blk_at (by simp)).alloc _))
    have HAk := Lib.hid (show Blk wB5 (w4.heap.size + 1) #[.int .i64 e1, .int .u64 e2, .bool e3] 35 from hwB5 ▸ (blk_at (by simp)))
    clear hxn
    have cW00 : (((w4.alloc (.cells #[.slice ak d.1.length xk, .slice bk d.2.length yk] 25)).alloc (.cells #[.int .i64 e1, .int .u64 e2, .bool e3] 35))).cell? ⟨w.heap.size, 0, none⟩ = some (.slice a0 g.1.length c0) := by rw [← hwB5]; exact HW0.out.cell (i := 0) rfl
    have cW01 : (((w4.alloc (.cells #[.slice ak d.1.length xk, .slice bk d.2.length yk] 25)).alloc (.cells #[.int .i64 e1, .int .u64 e2, .bool e3] 35))).cell? ⟨w.heap.size, 1, none⟩ = some (.slice b0 g.2.length d0) := by rw [← hwB5]; exact HW0.out.cell (i := 1) rfl
    have cW02 : (((w4.alloc (.cells #[.slice ak d.1.length xk, .slice bk d.2.length yk] 25)).alloc (.cells #[.int .i64 e1, .int .u64 e2, .bool e3] 35))).cell? ⟨w.heap.size, 2, none⟩ = some (.int .i64 th) := by rw [← hwB5]; exact HW0.out.cell (i := 2) rfl
    have cW03 : (((w4.alloc (.cells #[.slice ak d.1.length xk, .slice bk d.2.length yk] 25)).alloc (.cells #[.int .i64 e1, .int .u64 e2, .bool e3] 35))).cell? ⟨w.heap.size, 3, none⟩ = some (.int .i64 hh) := by rw [← hwB5]; exact HW0.out.cell (i := 3) rfl
    have cW04 : (((w4.alloc (.cells #[.slice ak d.1.length xk, .slice bk d.2.length yk] 25)).alloc (.cells #[.int .i64 e1, .int .u64 e2, .bool e3] 35))).cell? ⟨w.heap.size, 4, none⟩ = some (.int .i64 i) := by rw [← hwB5]; exact HW0.out.cell (i := 4) rfl
    have cW05 : (((w4.alloc (.cells #[.slice ak d.1.length xk, .slice bk d.2.length yk] 25)).alloc (.cells #[.int .i64 e1, .int .u64 e2, .bool e3] 35))).cell? ⟨w.heap.size, 5, none⟩ = some (.int .u64 v) := by rw [← hwB5]; exact HW0.out.cell (i := 5) rfl
    have cG00 : (((w4.alloc (.cells #[.slice ak d.1.length xk, .slice bk d.2.length yk] 25)).alloc (.cells #[.int .i64 e1, .int .u64 e2, .bool e3] 35))).cell? ⟨w.heap.size + 1, 0, none⟩ = some (.slice a0 g.1.length c0) := by rw [← hwB5]; exact HG0.out.cell (i := 0) rfl
    have cG01 : (((w4.alloc (.cells #[.slice ak d.1.length xk, .slice bk d.2.length yk] 25)).alloc (.cells #[.int .i64 e1, .int .u64 e2, .bool e3] 35))).cell? ⟨w.heap.size + 1, 1, none⟩ = some (.slice b0 g.2.length d0) := by rw [← hwB5]; exact HG0.out.cell (i := 1) rfl
    go_wp2_with fail
    rw [← hwB5]
    clear hwB5
    clear cW00 cW01 cW02 cW03 cW04 cW05 cG00 cG01
    have cW00 : (wB5).cell? ⟨w.heap.size, 0, none⟩ = some (.slice a0 g.1.length c0) := HW0.out.cell (i := 0) rfl
    have cW01 : (wB5).cell? ⟨w.heap.size, 1, none⟩ = some (.slice b0 g.2.length d0) := HW0.out.cell (i := 1) rfl
    have cW02 : (wB5).cell? ⟨w.heap.size, 2, none⟩ = some (.int .i64 th) := HW0.out.cell (i := 2) rfl
    have cW03 : (wB5).cell? ⟨w.heap.size, 3, none⟩ = some (.int .i64 hh) := HW0.out.cell (i := 3) rfl
    have cW04 : (wB5).cell? ⟨w.heap.size, 4, none⟩ = some (.int .i64 i) := HW0.out.cell (i := 4) rfl
    have cW05 : (wB5).cell? ⟨w.heap.size, 5, none⟩ = some (.int .u64 v) := HW0.out.cell (i := 5) rfl
    have cG00 : (wB5).cell? ⟨w.heap.size + 1, 0, none⟩ = some (.slice a0 g.1.length c0) := HG0.out.cell (i := 0) rfl
    have cG01 : (wB5).cell? ⟨w.heap.size + 1, 1, none⟩ = some (.slice b0 g.2.length d0) := HG0.out.cell (i := 1) rfl
    have cKk0 : (wB5).cell? ⟨w4.heap.size, 0, none⟩ = some (.slice ak d.1.length xk) := HKk.out.cell (i := 0) rfl
    have cKk1 : (wB5).cell? ⟨w4.heap.size, 1, none⟩ = some (.slice bk d.2.length yk) := HKk.out.cell (i := 1) rfl
    have cAk0 : (wB5).cell? ⟨w4.heap.size + 1, 0, none⟩ = some (.int .i64 e1) := HAk.out.cell (i := 0) rfl
    have cAk1 : (wB5).cell? ⟨w4.heap.size + 1, 1, none⟩ = some (.int .u64 e2) := HAk.out.cell (i := 1) rfl
    have cAk2 : (wB5).cell? ⟨w4.heap.size + 1, 2, none⟩ = some (.bool e3) := HAk.out.cell (i := 2) rfl
    refine (HD2.out _ _ _ HGk.out).mono ?_; rintro e w6 ⟨vb, ub, rfl, hg, hx⟩
    obtain ⟨ab, xb, rfl⟩ := hg.1.form
    obtain ⟨bb, yb, rfl⟩ := Gr.Ma.form hg.2
    clear cW00 cW01 cW02 cW03 cW04 cW05 cG00 cG01 cKk0 cKk1 cAk0 cAk1 cAk2
    replace HX := Lib.hid (HX.out.trans hx)
    replace HW0 := Lib.hid (HW0.out.ext hx)
    replace HG0 := Lib.hid (HG0.out.ext hx)
    replace HKk := Lib.hid (HKk.out.ext hx)
    replace HAk := Lib.hid (HAk.out.ext hx)
    replace HG := Lib.hid (HG.out.ext hx)
    replace HGk := Lib.hid (HGk.out.ext hx)
    have HGb := Lib.hid hg
    clear hg hx
    unfold anv
    obtain ⟨wB7, hwB7⟩ : ∃ x, x = ((w6.alloc (.cells #[.slice ab d2.1.length xb, .slice bb d2.2.length yb] 25)).alloc (.cells #[.int .i64 f1, .int .u64 f2, .bool f3] 35)) := ⟨_, rfl⟩
    have hxn : Ext w6 wB7 := hwB7 ▸ (((Ext.refl w6).alloc _).alloc _)
    replace HX := Lib.hid (HX.out.trans hxn)
    replace HW0 := Lib.hid (HW0.out.ext hxn)
    replace HG0 := Lib.hid (HG0.out.ext hxn)
    replace HKk := Lib.hid (HKk.out.ext hxn)
    replace HAk := Lib.hid (HAk.out.ext hxn)
    replace HG := Lib.hid (HG.out.ext hxn)
    replace HGk := Lib.hid (HGk.out.ext hxn)
    replace HGb := Lib.hid (HGb.out.ext hxn)
    have HKb := Lib.hid (show Blk wB7 (w6.heap.size) #[.slice ab d2.1.length xb, .slice bb d2.2.length yb] 25 from hwB7 ▸ ((blk_at (by simp)).alloc _))
    have HAb := Lib.hid (show Blk wB7 (w6.heap.size + 1) #[.int .i64 f1, .int .u64 f2, .bool f3] 35 from hwB7 ▸ (blk_at (by simp)))
    clear hxn
    have cW00 : (((w6.alloc (.cells #[.slice ab d2.1.length xb, .slice bb d2.2.length yb] 25)).alloc (.cells #[.int .i64 f1, .int .u64 f2, .bool f3] 35))).cell? ⟨w.heap.size, 0, none⟩ = some (.slice a0 g.1.length c0) := by rw [← hwB7]; exact HW0.out.cell (i := 0) rfl
    have cW01 : (((w6.alloc (.cells #[.slice ab d2.1.length xb, .slice bb d2.2.length yb] 25)).alloc (.cells #[.int .i64 f1, .int .u64 f2, .bool f3] 35))).cell? ⟨w.heap.size, 1, none⟩ = some (.slice b0 g.2.length d0) := by rw [← hwB7]; exact HW0.out.cell (i := 1) rfl
    have cW02 : (((w6.alloc (.cells #[.slice ab d2.1.length xb, .slice bb d2.2.length yb] 25)).alloc (.cells #[.int .i64 f1, .int .u64 f2, .bool f3] 35))).cell? ⟨w.heap.size, 2, none⟩ = some (.int .i64 th) := by rw [← hwB7]; exact HW0.out.cell (i := 2) rfl
    have cW03 : (((w6.alloc (.cells #[.slice ab d2.1.length xb, .slice bb d2.2.length yb] 25)).alloc (.cells #[.int .i64 f1, .int .u64 f2, .bool f3] 35))).cell? ⟨w.heap.size, 3, none⟩ = some (.int .i64 hh) := by rw [← hwB7]; exact HW0.out.cell (i := 3) rfl
    have cW04 : (((w6.alloc (.cells #[.slice ab d2.1.length xb, .slice bb d2.2.length yb] 25)).alloc (.cells #[.int .i64 f1, .int .u64 f2, .bool f3] 35))).cell? ⟨w.heap.size, 4, none⟩ = some (.int .i64 i) := by rw [← hwB7]; exact HW0.out.cell (i := 4) rfl
    have cW05 : (((w6.alloc (.cells #[.slice ab d2.1.length xb, .slice bb d2.2.length yb] 25)).alloc (.cells #[.int .i64 f1, .int .u64 f2, .bool f3] 35))).cell? ⟨w.heap.size, 5, none⟩ = some (.int .u64 v) := by rw [← hwB7]; exact HW0.out.cell (i := 5) rfl
    have cG00 : (((w6.alloc (.cells #[.slice ab d2.1.length xb, .slice bb d2.2.length yb] 25)).alloc (.cells #[.int .i64 f1, .int .u64 f2, .bool f3] 35))).cell? ⟨w.heap.size + 1, 0, none⟩ = some (.slice a0 g.1.length c0) := by rw [← hwB7]; exact HG0.out.cell (i := 0) rfl
    have cG01 : (((w6.alloc (.cells #[.slice ab d2.1.length xb, .slice bb d2.2.length yb] 25)).alloc (.cells #[.int .i64 f1, .int .u64 f2, .bool f3] 35))).cell? ⟨w.heap.size + 1, 1, none⟩ = some (.slice b0 g.2.length d0) := by rw [← hwB7]; exact HG0.out.cell (i := 1) rfl
    have cKk0 : (((w6.alloc (.cells #[.slice ab d2.1.length xb, .slice bb d2.2.length yb] 25)).alloc (.cells #[.int .i64 f1, .int .u64 f2, .bool f3] 35))).cell? ⟨w4.heap.size, 0, none⟩ = some (.slice ak d.1.length xk) := by rw [← hwB7]; exact HKk.out.cell (i := 0) rfl
    have cKk1 : (((w6.alloc (.cells #[.slice ab d2.1.length xb, .slice bb d2.2.length yb] 25)).alloc (.cells #[.int .i64 f1, .int .u64 f2, .bool f3] 35))).cell? ⟨w4.heap.size, 1, none⟩ = some (.slice bk d.2.length yk) := by rw [← hwB7]; exact HKk.out.cell (i := 1) rfl
    have cAk0 : (((w6.alloc (.cells #[.slice ab d2.1.length xb, .slice bb d2.2.length yb] 25)).alloc (.cells #[.int .i64 f1, .int .u64 f2, .bool f3] 35))).cell? ⟨w4.heap.size + 1, 0, none⟩ = some (.int .i64 e1) := by rw [← hwB7]; exact HAk.out.cell (i := 0) rfl
    have cAk1 : (((w6.alloc (.cells #[.slice ab d2.1.length xb, .slice bb d2.2.length yb] 25)).alloc (.cells #[.int .i64 f1, .int .u64 f2, .bool f3] 35))).cell? ⟨w4.heap.size + 1, 1, none⟩ = some (.int .u64 e2) := by rw [← hwB7]; exact HAk.out.cell (i := 1) rfl
    have cAk2 : (((w6.alloc (.cells #[.slice ab d2.1.length xb, .slice bb d2.2.length yb] 25)).alloc (.cells #[.int .i64 f1, .int .u64 f2, .bool f3] 35))).cell? ⟨w4.heap.size + 1, 2, none⟩ = some (.bool e3) := by rw [← hwB7]; exact HAk.out.cell (i := 2) rfl
    by_cases h0 : e1 = 0
    case neg =>
      have hb0 : (e1 == 0) = false := by simpa using h0
      obtain rfl : f1 = e1 := HP.1 h0
      clear HP hdl hml
      subst hwB7
      go_wp2_with fail
      go_ret
      exact ⟨by first | rfl | (simp; done), HX.out⟩
    case pos =>
      subst h0
      obtain ⟨fb, hfv, hk, fc, hlast⟩ := HP.2 rfl
      obtain ⟨hf1, hf2, hf3⟩ : f1 = 0 ∧ f2 = v ∧ f3 = fb := by simpa using hfv
      subst f1
      subst f2
      subst f3
      obtain rfl : k1 = 0 := hk
      clear HP hfv
      have HD4 := Lib.hid (fun (a b : Value) (w : World) (h : Gr w a b m) => Wg.do_any a b m th (o2 hh i) w h hr2 hp2 (Int.le_refl 0) hml)
      rw [hlast] at HD4
      generalize doG m th (o2 hh i) = m2 at HD4
      clear hlast hr2 hp2 hml hdl
      go_wp2_with fail
      rw [← hwB7]
      clear hwB7
      clear cW00 cW01 cW02 cW03 cW04 cW05 cG00 cG01 cKk0 cKk1 cAk0 cAk1 cAk2
      have cW00 : (wB7).cell? ⟨w.heap.size, 0, none⟩ = some (.slice a0 g.1.length c0) := HW0.out.cell (i := 0) rfl
      have cW01 : (wB7).cell? ⟨w.heap.size, 1, none⟩ = some (.slice b0 g.2.length d0) := HW0.out.cell (i := 1) rfl
      have cW02 : (wB7).cell? ⟨w.heap.size, 2, none⟩ = some (.int .i64 th) := HW0.out.cell (i := 2) rfl
      have cW03 : (wB7).cell? ⟨w.heap.size, 3, none⟩ = some (.int .i64 hh) := HW0.out.cell (i := 3) rfl
      have cW04 : (wB7).cell? ⟨w.heap.size, 4, none⟩ = some (.int .i64 i) := HW0.out.cell (i := 4) rfl
      have cW05 : (wB7).cell? ⟨w.heap.size, 5, none⟩ = some (.int .u64 v) := HW0.out.cell (i := 5) rfl
      have cG00 : (wB7).cell? ⟨w.heap.size + 1, 0, none⟩ = some (.slice a0 g.1.length c0) := HG0.out.cell (i := 0) rfl
      have cG01 : (wB7).cell? ⟨w.heap.size + 1, 1, none⟩ = some (.slice b0 g.2.length d0) := HG0.out.cell (i := 1) rfl
      have cKk0 : (wB7).cell? ⟨w4.heap.size, 0, none⟩ = some (.slice ak d.1.length xk) := HKk.out.cell (i := 0) rfl
      have cKk1 : (wB7).cell? ⟨w4.heap.size, 1, none⟩ = some (.slice bk d.2.length yk) := HKk.out.cell (i := 1) rfl
      have cAk0 : (wB7).cell? ⟨w4.heap.size + 1, 0, none⟩ = some (.int .i64 0) := HAk.out.cell (i := 0) rfl
      have cAk1 : (wB7).cell? ⟨w4.heap.size + 1, 1, none⟩ = some (.int .u64 e2) := HAk.out.cell (i := 1) rfl
      have cAk2 : (wB7).cell? ⟨w4.heap.size + 1, 2, none⟩ = some (.bool e3) := HAk.out.cell (i := 2) rfl
      have cKb0 : (wB7).cell? ⟨w6.heap.size, 0, none⟩ = some (.slice ab d2.1.length xb) := HKb.out.cell (i := 0) rfl
      have cKb1 : (wB7).cell? ⟨w6.heap.size, 1, none⟩ = some (.slice bb d2.2.length yb) := HKb.out.cell (i := 1) rfl
      have cAb0 : (wB7).cell? ⟨w6.heap.size + 1, 0, none⟩ = some (.int .i64 0) := HAb.out.cell (i := 0) rfl
      have cAb1 : (wB7).cell? ⟨w6.heap.size + 1, 1, none⟩ = some (.int .u64 v) := HAb.out.cell (i := 1) rfl
      have cAb2 : (wB7).cell? ⟨w6.heap.size + 1, 2, none⟩ = some (.bool fb) := HAb.out.cell (i := 2) rfl
      refine (HD3.out _ _ _ HGk.out).mono ?_; rintro e w8 ⟨vc, uc, rfl, hg, hx⟩
      obtain ⟨ac, xc, rfl⟩ := hg.1.form
      obtain ⟨bc, yc, rfl⟩ := Gr.Ma.form hg.2
      clear cW00 cW01 cW02 cW03 cW04 cW05 cG00 cG01 cKk0 cKk1 cAk0 cAk1 cAk2 cKb0 cKb1 cAb0 cAb1 cAb2
      replace HX := Lib.hid (HX.out.trans hx)
      replace HW0 := Lib.hid (HW0.out.ext hx)
      replace HG0 := Lib.hid (HG0.out.ext hx)
      replace HKk := Lib.hid (HKk.out.ext hx)
      replace HAk := Lib.hid (HAk.out.ext hx)
      replace HKb := Lib.hid (HKb.out.ext hx)
      replace HAb := Lib.hid (HAb.out.ext hx)
      replace HG := Lib.hid (HG.out.ext hx)
      replace HGk := Lib.hid (HGk.out.ext hx)
      replace HGb := Lib.hid (HGb.out.ext hx)
      have HGc := Lib.hid hg
      clear hg hx
      unfold anv
      obtain ⟨wB9, hwB9⟩ : ∃ x, x = ((w8.alloc (.cells #[.slice ac m.1.length xc, .slice bc m.2.length yc] 25)).alloc (.cells #[.int .i64 0, .int .u64 k2, .bool k3] 35)) := ⟨_, rfl⟩
      have hxn : Ext w8 wB9 := hwB9 ▸ (((Ext.refl w8).alloc _).alloc _)
      replace HX := Lib.hid (HX.out.trans hxn)
      replace HW0 := Lib.hid (HW0.out.ext hxn)
      replace HG0 := Lib.hid (HG0.out.ext hxn)
      replace HKk := Lib.hid (HKk.out.ext hxn)
      replace HAk := Lib.hid (HAk.out.ext hxn)
      replace HKb := Lib.hid (HKb.out.ext hxn)
      replace HAb := Lib.hid (HAb.out.ext hxn)
      replace HG := Lib.hid (HG.out.ext hxn)
      replace HGk := Lib.hid (HGk.out.ext hxn)
      replace HGb := Lib.hid (HGb.out.ext hxn)
      replace HGc := Lib.hid (HGc.out.ext hxn)
      have HKc := Lib.hid (show Blk wB9 (w8.heap.size) #[.slice ac m.1.length xc, .slice bc m.2.length yc] 25 from hwB9 ▸ ((blk_at (by simp)).alloc _))
      have HAc := Lib.hid (show Blk wB9 (w8.heap.size + 1) #[.int .i64 0, .int .u64 k2, .bool k3] 35 from hwB9 ▸ (blk_at (by simp)))
      clear hxn
      have cW00 : (((w8.alloc (.cells #[.slice ac m.1.length xc, .slice bc m.2.length yc] 25)).alloc (.cells #[.int .i64 0, .int .u64 k2, .bool k3] 35))).cell? ⟨w.heap.size, 0, none⟩ = some (.slice a0 g.1.length c0) := by rw [← hwB9]; exact HW0.out.cell (i := 0) rfl
      have cW01 : (((w8.alloc (.cells #[.slice ac m.1.length xc, .slice bc m.2.length yc] 25)).alloc (.cells #[.int .i64 0, .int .u64 k2, .bool k3] 35))).cell? ⟨w.heap.size, 1, none⟩ = some (.slice b0 g.2.length d0) := by rw [← hwB9]; exact HW0.out.cell (i := 1) rfl
      have cW02 : (((w8.alloc (.cells #[.slice ac m.1.length xc, .slice bc m.2.length yc] 25)).alloc (.cells #[.int .i64 0, .int .u64 k2, .bool k3] 35))).cell? ⟨w.heap.size, 2, none⟩ = some (.int .i64 th) := by rw [← hwB9]; exact HW0.out.cell (i := 2) rfl
      have cW03 : (((w8.alloc (.cells #[.slice ac m.1.length xc, .slice bc m.2.length yc] 25)).alloc (.cells #[.int .i64 0, .int .u64 k2, .bool k3] 35))).cell? ⟨w.heap.size, 3, none⟩ = some (.int .i64 hh) := by rw [← hwB9]; exact HW0.out.cell (i := 3) rfl
      have cW04 : (((w8.alloc (.cells #[.slice ac m.1.length xc, .slice bc m.2.length yc] 25)).alloc (.cells #[.int .i64 0, .int .u64 k2, .bool k3] 35))).cell? ⟨w.heap.size, 4, none⟩ = some (.int .i64 i) := by rw [← hwB9]; exact HW0.out.cell (i := 4) rfl
      have cW05 : (((w8.alloc (.cells #[.slice ac m.1.length xc, .slice bc m.2.length yc] 25)).alloc (.cells #[.int .i64 0, .int .u64 k2, .bool k3] 35))).cell? ⟨w.heap.size, 5, none⟩ = some (.int .u64 v) := by rw [← hwB9]; exact HW0.out.cell (i := 5) rfl
      have cG00 : (((w8.alloc (.cells #[.slice ac m.1.length xc, .slice bc m.2.length yc] 25)).alloc (.cells #[.int .i64 0, .int .u64 k2, .bool k3] 35))).cell? ⟨w.heap.size + 1, 0, none⟩ = some (.slice a0 g.1.length c0) := by rw [← hwB9]; exact HG0.out.cell (i := 0) rfl
      have cG01 : (((w8.alloc (.cells #[.slice ac m.1.length xc, .slice bc m.2.length yc] 25)).alloc (.cells #[.int .i64 0, .int .u64 k2, .bool k3] 35))).cell? ⟨w.heap.size + 1, 1, none⟩ = some (.slice b0 g.2.length d0) := by rw [← hwB9]; exact HG0.out.cell (i := 1) rfl
      have cKk0 : (((w8.alloc (.cells #[.slice ac m.1.length xc, .slice bc m.2.length yc] 25)).alloc (.cells #[.int .i64 0, .int .u64 k2, .bool k3] 35))).cell? ⟨w4.heap.size, 0, none⟩ = some (.slice ak d.1.length xk) := by rw [← hwB9]; exact HKk.out.cell (i := 0) rfl
      have cKk1 : (((w8.alloc (.cells #[.slice ac m.1.length xc, .slice bc m.2.length yc] 25)).alloc (.cells #[.int .i64 0, .int .u64 k2, .bool k3] 35))).cell? ⟨w4.heap.size, 1, none⟩ = some (.slice bk d.2.length yk) := by rw [← hwB9]; exact HKk.out.cell (i := 1) rfl
      have cAk0 : (((w8.alloc (.cells #[.slice ac m.1.length xc, .slice bc m.2.length yc] 25)).alloc (.cells #[.int .i64 0, .int .u64 k2, .bool k3] 35))).cell? ⟨w4.heap.size + 1, 0, none⟩ = some (.int .i64 0) := by rw [← hwB9]; exact HAk.out.cell (i := 0) rfl
      have cAk1 : (((w8.alloc (.cells #[.slice ac m.1.length xc, .slice bc m.2.length yc] 25)).alloc (.cells #[.int .i64 0, .int .u64 k2, .bool k3] 35))).cell? ⟨w4.heap.size + 1, 1, none⟩ = some (.int .u64 e2) := by rw [← hwB9]; exact HAk.out.cell (i := 1) rfl
      have cAk2 : (((w8.alloc (.cells #[.slice ac m.1.length xc, .slice bc m.2.length yc] 25)).alloc (.cells #[.int .i64 0, .int .u64 k2, .bool k3] 35))).cell? ⟨w4.heap.size + 1, 2, none⟩ = some (.bool e3) := by rw [← hwB9]; exact HAk.out.cell (i := 2) rfl
      have cKb0 : (((w8.alloc (.cells #[.slice ac m.1.length xc, .slice bc m.2.length yc] 25)).alloc (.cells #[.int .i64 0, .int .u64 k2, .bool k3] 35))).cell? ⟨w6.heap.size, 0, none⟩ = some (.slice ab d2.1.length xb) := by rw [← hwB9]; exact HKb.out.cell (i := 0) rfl
      have cKb1 : (((w8.alloc (.cells #[.slice ac m.1.length xc, .slice bc m.2.length yc] 25)).alloc (.cells #[.int .i64 0, .int .u64 k2, .bool k3] 35))).cell? ⟨w6.heap.size, 1, none⟩ = some (.slice bb d2.2.length yb) := by rw [← hwB9]; exact HKb.out.cell (i := 1) rfl
      have cAb0 : (((w8.alloc (.cells #[.slice ac m.1.length xc, .slice bc m.2.length yc] 25)).alloc (.cells #[.int .i64 0, .int .u64 k2, .bool k3] 35))).cell? ⟨w6.heap.size + 1, 0, none⟩ = some (.int .i64 0) := by rw [← hwB9]; exact HAb.out.cell (i := 0) rfl
      have cAb1 : (((w8.alloc (.cells #[.slice ac m.1.length xc, .slice bc m.2.length yc] 25)).alloc (.cells #[.int .i64 0, .int .u64 k2, .bool k3] 35))).cell? ⟨w6.heap.size + 1, 1, none⟩ = some (.int .u64 v) := by rw [← hwB9]; exact HAb.out.cell (i := 1) rfl
      have cAb2 : (((w8.alloc (.cells #[.slice ac m.1.length xc, .slice bc m.2.length yc] 25)).alloc (.cells #[.int .i64 0, .int .u64 k2, .bool k3] 35))).cell? ⟨w6.heap.size + 1, 2, none⟩ = some (.bool fb) := by rw [← hwB9]; exact HAb.out.cell (i := 2) rfl
      go_wp2_with fail
      rw [← hwB9]
      clear hwB9
      clear cW00 cW01 cW02 cW03 cW04 cW05 cG00 cG01 cKk0 cKk1 cAk0 cAk1 cAk2 cKb0 cKb1 cAb0 cAb1 cAb2
      have cW00 : (wB9).cell? ⟨w.heap.size, 0, none⟩ = some (.slice a0 g.1.length c0) := HW0.out.cell (i := 0) rfl
      have cW01 : (wB9).cell? ⟨w.heap.size, 1, none⟩ = some (.slice b0 g.2.length d0) := HW0.out.cell (i := 1) rfl
      have cW02 : (wB9).cell? ⟨w.heap.size, 2, none⟩ = some (.int .i64 th) := HW0.out.cell (i := 2) rfl
      have cW03 : (wB9).cell? ⟨w.heap.size, 3, none⟩ = some (.int .i64 hh) := HW0.out.cell (i := 3) rfl
      have cW04 : (wB9).cell? ⟨w.heap.size, 4, none⟩ = some (.int .i64 i) := HW0.out.cell (i := 4) rfl
      have cW05 : (wB9).cell? ⟨w.heap.size, 5, none⟩ = some (.int .u64 v) := HW0.out.cell (i := 5) rfl
      have cG00 : (wB9).cell? ⟨w.heap.size + 1, 0, none⟩ = some (.slice a0 g.1.length c0) := HG0.out.cell (i := 0) rfl
      have cG01 : (wB9).cell? ⟨w.heap.size + 1, 1, none⟩ = some (.slice b0 g.2.length d0) := HG0.out.cell (i := 1) rfl
      have cKk0 : (wB9).cell? ⟨w4.heap.size, 0, none⟩ = some (.slice ak d.1.length xk) := HKk.out.cell (i := 0) rfl
      have cKk1 : (wB9).cell? ⟨w4.heap.size, 1, none⟩ = some (.slice bk d.2.length yk) := HKk.out.cell (i := 1) rfl
      have cAk0 : (wB9).cell? ⟨w4.heap.size + 1, 0, none⟩ = some (.int .i64 0) := HAk.out.cell (i := 0) rfl
      have cAk1 : (wB9).cell? ⟨w4.heap.size + 1, 1, none⟩ = some (.int .u64 e2) := HAk.out.cell (i := 1) rfl
      have cAk2 : (wB9).cell? ⟨w4.heap.size + 1, 2, none⟩ = some (.bool e3) := HAk.out.cell (i := 2) rfl
      have cKb0 : (wB9).cell? ⟨w6.heap.size, 0, none⟩ = some (.slice ab d2.1.length xb) := HKb.out.cell (i := 0) rfl
      have cKb1 : (wB9).cell? ⟨w6.heap.size, 1, none⟩ = some (.slice bb d2.2.length yb) := HKb.out.cell (i := 1) rfl
      have cAb0 : (wB9).cell? ⟨w6.heap.size + 1, 0, none⟩ = some (.int .i64 0) := HAb.out.cell (i := 0) rfl
      have cAb1 : (wB9).cell? ⟨w6.heap.size + 1, 1, none⟩ = some (.int .u64 v) := HAb.out.cell (i := 1) rfl
      have cAb2 : (wB9).cell? ⟨w6.heap.size + 1, 2, none⟩ = some (.bool fb) := HAb.out.cell (i := 2) rfl
      have cKc0 : (wB9).cell? ⟨w8.heap.size, 0, none⟩ = some (.slice ac m.1.length xc) := HKc.out.cell (i := 0) rfl
      have cKc1 : (wB9).cell? ⟨w8.heap.size, 1, none⟩ = some (.slice bc m.2.length yc) := HKc.out.cell (i := 1) rfl
      have cAc0 : (wB9).cell? ⟨w8.heap.size + 1, 0, none⟩ = some (.int .i64 0) := HAc.out.cell (i := 0) rfl
      have cAc1 : (wB9).cell? ⟨w8.heap.size + 1, 1, none⟩ = some (.int .u64 k2) := HAc.out.cell (i := 1) rfl
      have cAc2 : (wB9).cell? ⟨w8.heap.size + 1, 2, none⟩ = some (.bool k3) := HAc.out.cell (i := 2) rfl
      refine (HD4.out _ _ _ HGc.out).mono ?_; rintro e w10 ⟨vl, ul, rfl, hg, hx⟩
      obtain ⟨al, xl, rfl⟩ := hg.1.form
      obtain ⟨bl, yl, rfl⟩ := Gr.Ma.form hg.2
      clear cW00 cW01 cW02 cW03 cW04 cW05 cG00 cG01 cKk0 cKk1 cAk0 cAk1 cAk2 cKb0 cKb1 cAb0 cAb1 cAb2 cKc0 cKc1 cAc0 cAc1 cAc2
      replace HX := Lib.hid (HX.out.trans hx)
      replace HW0 := Lib.hid (HW0.out.ext hx)
      replace HG0 := Lib.hid (HG0.out.ext hx)
      replace HKk := Lib.hid (HKk.out.ext hx)
      replace HAk := Lib.hid (HAk.out.ext hx)
      replace HKb := Lib.hid (HKb.out.ext hx)
      replace HAb := Lib.hid (HAb.out.ext hx)
      replace HKc := Lib.hid (HKc.out.ext hx)
      replace HAc := Lib.hid (HAc.out.ext hx)
      replace HG := Lib.hid (HG.out.ext hx)
      replace HGk := Lib.hid (HGk.out.ext hx)
      replace HGb := Lib.hid (HGb.out.ext hx)
      replace HGc := Lib.hid (HGc.out.ext hx)
      have HGl := Lib.hid hg
      clear hg hx
      unfold anv
      obtain ⟨wB11, hwB11⟩ : ∃ x, x = ((w10.alloc (.cells #[.slice al m2.1.length xl, .slice bl m2.2.length yl] 25)).alloc (.cells #[.int .i64 0, .int .u64 (v % 4294967296), .bool fc] 35)) := ⟨_, rfl⟩
      have hxn : Ext w10 wB11 := hwB11 ▸ (((Ext.refl w10).alloc _).alloc _)
      replace HX := Lib.hid (HX.out.trans hxn)
      replace HW0 := Lib.hid (HW0.out.ext hxn)
      replace HG0 := Lib.hid (HG0.out.ext hxn)
      replace HKk := Lib.hid (HKk.out.ext hxn)
      replace HAk := Lib.hid (HAk.out.ext hxn)
      replace HKb := Lib.hid (HKb.out.ext hxn)
      replace HAb := Lib.hid (HAb.out.ext hxn)
      replace HKc := Lib.hid (HKc.out.ext hxn)
      replace HAc := Lib.hid (HAc.out.ext hxn)
      replace HG := Lib.hid (HG.out.ext hxn)
      replace HGk := Lib.hid (HGk.out.ext hxn)
      replace HGb := Lib.hid (HGb.out.ext hxn)
      replace HGc := Lib.hid (HGc.out.ext hxn)
      replace HGl := Lib.hid (HGl.out.ext hxn)
      have HKl := Lib.hid (show Blk wB11 (w10.heap.size) #[.slice al m2.1.length xl, .slice bl m2.2.length yl] 25 from hwB11 ▸ ((blk_at (by simp)).alloc _))
      have HAl := Lib.hid (show Blk wB11 (w10.heap.size + 1) #[.int .i64 0, .int .u64 (v % 4294967296), .bool fc] 35 from hwB11 ▸ (blk_at (by simp)))
      clear hxn
      have cW00 : (((w10.alloc (.cells #[.slice al m2.1.length xl, .slice bl m2.2.length yl] 25)).alloc (.cells #[.int .i64 0, .int .u64 (v % 4294967296), .bool fc] 35))).cell? ⟨w.heap.size, 0, none⟩ = some (.slice a0 g.1.length c0) := by rw [← hwB11]; exact HW0.out.cell (i := 0) rfl
      have cW01 : (((w10.alloc (.cells #[.slice al m2.1.length xl, .slice bl m2.2.length yl] 25)).alloc (.cells #[.int .i64 0, .int .u64 (v % 4294967296), .bool fc] 35))).cell? ⟨w.heap.size, 1, none⟩ = some (.slice b0 g.2.length d0) := by rw [← hwB11]; exact HW0.out.cell (i := 1) rfl
      have cW02 : (((w10.alloc (.cells #[.slice al m2.1.length xl, .slice bl m2.2.length yl] 25)).alloc (.cells #[.int .i64 0, .int .u64 (v % 4294967296), .bool fc] 35))).cell? ⟨w.heap.size, 2, none⟩ = some (.int .i64 th) := by rw [← hwB11]; exact HW0.out.cell (i := 2) rfl
      have cW03 : (((w10.alloc (.cells #[.slice al m2.1.length xl, .slice bl m2.2.length yl] 25)).alloc (.cells #[.int .i64 0, .int .u64 (v % 4294967296), .bool fc] 35))).cell? ⟨w.heap.size, 3, none⟩ = some (.int .i64 hh) := by rw [← hwB11]; exact HW0.out.cell (i := 3) rfl
      have cW04 : (((w10.alloc (.cells #[.slice al m2.1.length xl, .slice bl m2.2.length yl] 25)).alloc (.cells #[.int .i64 0, .int .u64 (v % 4294967296), .bool fc] 35))).cell? ⟨w.heap.size, 4, none⟩ = some (.int .i64 i) := by rw [← hwB11]; exact HW0.out.cell (i := 4) rfl
      have cW05 : (((w10.alloc (.cells #[.slice al m2.1.length xl, .slice bl m2.2.length yl] 25)).alloc (.cells #[.int .i64 0, .int .u64 (v % 4294967296), .bool fc] 35))).cell? ⟨w.heap.size, 5, none⟩ = some (.int .u64 v) := by rw [← hwB11]; exact HW0.out.cell (i := 5) rfl
      have cG00 : (((w10.alloc (.cells #[.slice al m2.1.length xl, .slice bl m2.2.length yl] 25)).alloc (.cells #[.int .i64 0, .int .u64 (v % 4294967296), .bool fc] 35))).cell? ⟨w.heap.size + 1, 0, none⟩ = some (.slice a0 g.1.length c0) := by rw [← hwB11]; exact HG0.out.cell (i := 0) rfl
      have cG01 : (((w10.alloc (.cells #[.slice al m2.1.length xl, .slice bl m2.2.length yl] 25)).alloc (.cells #[.int .i64 0, .int .u64 (v % 4294967296), .bool fc] 35))).cell? ⟨w.heap.size + 1, 1, none⟩ = some (.slice b0 g.2.length d0) := by rw [← hwB11]; exact HG0.out.cell (i := 1) rfl
      have cKk0 : (((w10.alloc (.cells #[.slice al m2.1.length xl, .slice bl m2.2.length yl] 25)).alloc (.cells #[.int .i64 0, .int .u64 (v % 4294967296), .bool fc] 35))).cell? ⟨w4.heap.size, 0, none⟩ = some (.slice ak d.1.length xk) := by rw [← hwB11]; exact HKk.out.cell (i := 0) rfl
      have cKk1 : (((w10.alloc (.cells #[.slice al m2.1.length xl, .slice bl m2.2.length yl] 25)).alloc (.cells #[.int .i64 0, .int .u64 (v % 4294967296), .bool fc] 35))).cell? ⟨w4.heap.size, 1, none⟩ = some (.slice bk d.2.length yk) := by rw [← hwB11]; exact HKk.out.cell (i := 1) rfl
      have cAk0 : (((w10.alloc (.cells #[.slice al m2.1.length xl, .slice bl m2.2.length yl] 25)).alloc (.cells #[.int .i64 0, .int .u64 (v % 4294967296), .bool fc] 35))).cell? ⟨w4.heap.size + 1, 0, none⟩ = some (.int .i64 0) := by rw [← hwB11]; exact HAk.out.cell (i := 0) rfl
      have cAk1 : (((w10.alloc (.cells #[.slice al m2.1.length xl, .slice bl m2.2.length yl] 25)).alloc (.cells #[.int .i64 0, .int .u64 (v % 4294967296), .bool fc] 35))).cell? ⟨w4.heap.size + 1, 1, none⟩ = some (.int .u64 e2) := by rw [← hwB11]; exact HAk.out.cell (i := 1) rfl
      have cAk2 : (((w10.alloc (.cells #[.slice al m2.1.length xl, .slice bl m2.2.length yl] 25)).alloc (.cells #[.int .i64 0, .int .u64 (v % 4294967296), .bool fc] 35))).cell? ⟨w4.heap.size + 1, 2, none⟩ = some (.bool e3) := by rw [← hwB11]; exact HAk.out.cell (i := 2) rfl
      have cKb0 : (((w10.alloc (.cells #[.slice al m2.1.length xl, .slice bl m2.2.length yl] 25)).alloc (.cells #[.int .i64 0, .int .u64 (v % 4294967296), .bool fc] 35))).cell? ⟨w6.heap.size, 0, none⟩ = some (.slice ab d2.1.length xb) := by rw [← hwB11]; exact HKb.out.cell (i := 0) rfl
      have cKb1 : (((w10.alloc (.cells #[.slice al m2.1.length xl, .slice bl m2.2.length yl] 25)).alloc (.cells #[.int .i64 0, .int .u64 (v % 4294967296), .bool fc] 35))).cell? ⟨w6.heap.size, 1, none⟩ = some (.slice bb d2.2.length yb) := by rw [← hwB11]; exact HKb.out.cell (i := 1) rfl
      have cAb0 : (((w10.alloc (.cells #[.slice al m2.1.length xl, .slice bl m2.2.length yl] 25)).alloc (.cells #[.int .i64 0, .int .u64 (v % 4294967296), .bool fc] 35))).cell? ⟨w6.heap.size + 1, 0, none⟩ = some (.int .i64 0) := by rw [← hwB11]; exact HAb.out.cell (i := 0) rfl
      have cAb1 : (((w10.alloc (.cells #[.slice al m2.1.length xl, .slice bl m2.2.length yl] 25)).alloc (.cells #[.int .i64 0, .int .u64 (v % 4294967296), .bool fc] 35))).cell? ⟨w6.heap.size + 1, 1, none⟩ = some (.int .u64 v) := by rw [← hwB11]; exact HAb.out.cell (i := 1) rfl
      have cAb2 : (((w10.alloc (.cells #[.slice al m2.1.length xl, .slice bl m2.2.length yl] 25)).alloc (.cells #[.int .i64 0, .int .u64 (v % 4294967296), .bool fc] 35))).cell? ⟨w6.heap.size + 1, 2, none⟩ = some (.bool fb) := by rw [← hwB11]; exact HAb.out.cell (i := 2) rfl
      have cKc0 : (((w10.alloc (.cells #[.slice al m2.1.length xl, .slice bl m2.2.length yl] 25)).alloc (.cells #[.int .i64 0, .int .u64 (v % 4294967296), .bool fc] 35))).cell? ⟨w8.heap.size, 0, none⟩ = some (.slice ac m.1.length xc) := by rw [← hwB11]; exact HKc.out.cell (i := 0) rfl
      have cKc1 : (((w10.alloc (.cells #[.slice al m2.1.length xl, .slice bl m2.2.length yl] 25)).alloc (.cells #[.int .i64 0, .int .u64 (v % 4294967296), .bool fc] 35))).cell? ⟨w8.heap.size, 1, none⟩ = some (.slice bc m.2.length yc) := by rw [← hwB11]; exact HKc.out.cell (i := 1) rfl
      have cAc0 : (((w10.alloc (.cells #[.slice al m2.1.length xl, .slice bl m2.2.length yl] 25)).alloc (.cells #[.int .i64 0, .int .u64 (v % 4294967296), .bool fc] 35))).cell? ⟨w8.heap.size + 1, 0, none⟩ = some (.int .i64 0) := by rw [← hwB11]; exact HAc.out.cell (i := 0) rfl
      have cAc1 : (((w10.alloc (.cells #[.slice al m2.1.length xl, .slice bl m2.2.length yl] 25)).alloc (.cells #[.int .i64 0, .int .u64 (v % 4294967296), .bool fc] 35))).cell? ⟨w8.heap.size + 1, 1, none⟩ = some (.int .u64 k2) := by rw [← hwB11]; exact HAc.out.cell (i := 1) rfl
      have cAc2 : (((w10.alloc (.cells #[.slice al m2.1.length xl, .slice bl m2.2.length yl] 25)).alloc (.cells #[.int .i64 0, .int .u64 (v % 4294967296), .bool fc] 35))).cell? ⟨w8.heap.size + 1, 2, none⟩ = some (.bool k3) := by rw [← hwB11]; exact HAc.out.cell (i := 2) rfl
      subst hwB11
      go_wp2_with fail
      go_ret
      exact ⟨by first | rfl | (simp; done), HX.out⟩

theorem walk (v0 : Value) (W : World) (r0 : Rd.V Try.prog W 45 v0) : Calls Try.prog 5 #[v0] W fun e w' => e = .returned (.bool true) ∧ Below W.heap.size W w' := by
  obtain ⟨cs, rfl, hs⟩ := r0.struct Try.underlying45
  obtain ⟨hl, _⟩ := hs.struct Try.underlying45
  rw [show Try.prog.cellsOf 45 = 6 by kernel_rfl] at hl
  obtain ⟨c0, c1, c2, c3, c4, c5, rfl⟩ := many_of hl
  obtain ⟨a, b, g, hab, hg, hwf⟩ := Gr.of_R (show Rd.R _ W _ [c0, c1] from Rd.R.field Try.underlying45 hs 0 rfl 0 2 25 rfl rfl (by kernel_rfl))
  obtain ⟨rfl, rfl⟩ : c0 = a ∧ c1 = b := by simpa using hab
  obtain ⟨th, h0, wth⟩ := (show Rd.R _ W _ [c2] from Rd.R.field Try.underlying45 hs 1 rfl 2 1 3 rfl rfl (by kernel_rfl)).int Try.underlying3
  obtain rfl : c2 = .int .i64 th := by simpa using h0
  obtain ⟨hh, h1, whh⟩ := (show Rd.R _ W _ [c3] from Rd.R.field Try.underlying45 hs 2 rfl 3 1 3 rfl rfl (by kernel_rfl)).int Try.underlying3
  obtain rfl : c3 = .int .i64 hh := by simpa using h1
  obtain ⟨i, h2, wi⟩ := (show Rd.R _ W _ [c4] from Rd.R.field Try.underlying45 hs 3 rfl 4 1 3 rfl rfl (by kernel_rfl)).int Try.underlying3
  obtain rfl : c4 = .int .i64 i := by simpa using h2
  obtain ⟨v, h3, wv⟩ := (show Rd.R _ W _ [c5] from Rd.R.field Try.underlying45 hs 4 rfl 5 1 26 rfl rfl (by kernel_rfl)).int Try.underlying26
  obtain rfl : c5 = .int .u64 v := by simpa using h3
  exact (go c0 c1 g th hh i v (posG_of hwf) (Rd.u64_bd wv).1 W hg).mono fun e w' ⟨he, hw⟩ => ⟨he, hw.below⟩

open Go.ChangeShapes Go.WideShapes Go.ChangeAt Go.RowKit
theorem own : ownKnob Try.prog.godebug = none := by kernel_rfl
theorem laidOut : laidOutB Try.prog = true := by kernel_rfl

set_option maxRecDepth 100000 in
theorem lifted (os : Os) (started : os.Started) (H : Type) (enc : TypeId × Value → H) :
    ReturnsInHanded {} Try.checked os 5 .any (Rows.graphWritesSpec.pre6 enc Try.prog Try.f5 Rows.graphWritesRow.domain false) (Rows.graphWritesSpec.post enc Try.prog Try.f5 false true false false) := by
  refine returnsInHanded_of_change_sized (C := Try.checked) own started (by kernel_rfl) Try.func5
    (ChangeSpec.witness6 (enc := enc) (C := Try.checked) false ⟨#[], #[.agg #[.slice none 0 0, .slice none 0 0, .int .i64 0, .int .i64 0, .int .i64 0, .int .u64 0]], []⟩ 12 (by kernel_rfl) (by kernel_rfl) (by kernel_rfl) (by kernel_rfl)) ?_
  intro W base args ds gs before hval0 hW _ hsz0 _
  have hval : ∀ (j : Nat) t v, Try.f5.params[j]? = some t → args[j]? = some v → Value.okWide Try.prog W .any base t v := hval0
  have hW' := hW
  obtain ⟨p, q, hA0, hV, rfl, _, _⟩ := hW
  have hA : DataW.TrodAll enc Try.prog W 0 (fun _ => true) true Try.f5.params.toList args.toList ds p := hA0
  obtain ⟨rfl, rfl⟩ := trodVars_none hV
  have hsz : (DataW.weightsEach Try.prog (Try.f5.params.toList ++ []) (ds ++ [])).all (· ≤ reachBytes) = true := hsz0
  rw [Try.params5] at hA hval hsz
  have hA2 := hA
  obtain ⟨v0, vs0, d0, ds0, p0, q0, hargs, rfl, rfl, h0, r0⟩ := trodAll_cons hA2
  obtain ⟨rfl, rfl, rfl⟩ := trodAll_nil r0
  obtain rfl : args = #[v0] := by cases args; simp_all
  have hR := Rd.trodAll_V hA (fun n hn => by simpa using List.all_eq_true.1 hsz n (by simpa using hn)) (fun j t v hj hv => hval j t v (by simpa using hj) (by simpa using hv))
  clear hA0 hval0 hA2
  refine (walk v0 W (hR 0 45 v0 rfl rfl)).mono fun e W' ⟨he, bel⟩ => ?_
  subst he
  exact ⟨_, rfl, _, _, _, [], _, [], hW', trodAll_mk1 (shut_bool Try.underlying4 _), Rd.trodAll_below laidOut bel (List.forall_mem_cons.2 ⟨⟨by kernel_rfl, of_decide_eq_true (by kernel_rfl)⟩, fun _ h => by cases h⟩) hA, rfl, bel.frame _, fun h => by cases h⟩

theorem over : Rows.graphWritesRow.holds Try.pinned (OpenSpec.ofChange Rows.graphWritesSpec) :=
  OpenClaim.holds_of_wide 5 Try.f5 rfl rfl rfl rfl rfl rfl rfl ⟨rfl, rfl, rfl, rfl, rfl⟩ rfl rfl rfl rfl rfl (by kernel_rfl) Try.func5 (by kernel_rfl)
    (of_decide_eq_true (by kernel_rfl)) (by unfold Func.isWrapper; first | (rw [if_pos (by decide +kernel)]; kernel_rfl) | (rw [if_neg (by decide +kernel)]; exact ⟨rfl, rfl⟩))
    (fun os started H enc _ => lifted os started H enc)

theorem proved : Rows.GraphWritesSaid := over
#print axioms proved
end Go.Proofs.Ytjhmlbhfnogdiaa.graphWrites
