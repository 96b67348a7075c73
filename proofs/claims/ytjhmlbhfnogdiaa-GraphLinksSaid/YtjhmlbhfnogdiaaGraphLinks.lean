/- GraphLinks holds for every input: a pointer field that was linked leads to that object, or to nothing, when it is followed. No condition. -/
import Derived.Test.YtjhmlbhfnogdiaaRows
import Derived.Test.YtjhmlbhfnogdiaaOp
import Derived.Test.YtjhmlbhfnogdiaaPq
namespace Go.Proofs.Ytjhmlbhfnogdiaa.graphLinks
open Go.RowKit Go.Proofs.Ytjhmlbhfnogdiaa Go.Proofs.Ytjhmlbhfnogdiaa.Hd Go.Proofs.Ytjhmlbhfnogdiaa.Gr Go.Proofs.Ytjhmlbhfnogdiaa.Hg Go.Proofs.Ytjhmlbhfnogdiaa.Rr Go.Proofs.Ytjhmlbhfnogdiaa.Wk Go.Proofs.Ytjhmlbhfnogdiaa.Wp Go.Proofs.Ytjhmlbhfnogdiaa.Wa Go.Proofs.Ytjhmlbhfnogdiaa.Wc Go.Proofs.Ytjhmlbhfnogdiaa.Wf Go.Proofs.Ytjhmlbhfnogdiaa.Pl Go.Proofs.Ytjhmlbhfnogdiaa.Op Go.Proofs.Ytjhmlbhfnogdiaa.Pq
set_option linter.unusedVariables false

theorem six_of {α : Type} {l : List α} (h : l.length = 6) : ∃ a b c d e f, l = [a, b, c, d, e, f] := by
  have h1 : l = l.take 4 ++ l.drop 4 := (List.take_append_drop 4 l).symm
  obtain ⟨a, b, c, d, e1⟩ := Gr.four_of (l := l.take 4) (by simp [h])
  obtain ⟨e, f, e2⟩ := Gr.two_of (l := l.drop 4) (by simp [h])
  exact ⟨a, b, c, d, e, f, by rw [h1, e1, e2]; rfl⟩

set_option maxHeartbeats 1000000 in
theorem go (a b : Value) (g : Gph) (th hh i k : Int) (hp : posG g) (w : World) (h : Gr w a b g) :
    Calls Try.prog 7 #[.agg #[a, b, .int .i64 th, .int .i64 hh, .int .i64 i, .int .i64 k]] w fun e w' => e = .returned (.bool true) ∧ Ext w w' := by
  obtain ⟨a0, c0, rfl⟩ := h.1.form
  obtain ⟨b0, d0, rfl⟩ := Gr.Ma.form h.2
  have hl1 := h.1.len
  have hl2 := Ma.len uS h.2
  have hsm := h.1.small
  have HG := Lib.hid h
  have HF := Lib.hid (fun (w : World) (h : Gr w (.slice a0 g.1.length c0) (.slice b0 g.2.length d0) g) => few_any _ _ g hp w h)
  clear h
  go_enter Try.func7, Try.ntmps7
  have HX := Lib.hid (Ext.refl w)
  obtain ⟨wB1, hwB1⟩ : ∃ x, x = ((w.alloc (.cells #[.slice a0 g.1.length c0, .slice b0 g.2.length d0, .int .i64 th, .int .i64 hh, .int .i64 i, .int .i64 k] 49)).alloc (.cells #[.slice a0 g.1.length c0, .slice b0 g.2.length d0] 25)) := ⟨_, rfl⟩
  have hxn : Ext w wB1 := hwB1 ▸ (((Ext.refl w).alloc _).alloc _)
  replace HX := Lib.hid (HX.out.trans hxn)
  replace HG := Lib.hid (HG.out.ext hxn)
  have HW0 := Lib.hid (show Blk wB1 (w.heap.size) #[.slice a0 g.1.length c0, .slice b0 g.2.length d0, .int .i64 th, .int .i64 hh, .int .i64 i, .int .i64 k] 49 from hwB1 ▸ ((blk_at (by simp)).alloc _))
  have HG0 := Lib.hid (show Blk wB1 (w.heap.size + 1) #[.slice a0 g.1.length c0, .slice b0 g.2.length d0] 25 from hwB1 ▸ (blk_at (by simp)))
  clear hxn
  go_wp2_with fail
  rw [← hwB1]
  clear hwB1
  have cW00 : (wB1).cell? ⟨w.heap.size, 0, none⟩ = some (.slice a0 g.1.length c0) := HW0.out.cell (i := 0) rfl
  have cW01 : (wB1).cell? ⟨w.heap.size, 1, none⟩ = some (.slice b0 g.2.length d0) := HW0.out.cell (i := 1) rfl
  have cW02 : (wB1).cell? ⟨w.heap.size, 2, none⟩ = some (.int .i64 th) := HW0.out.cell (i := 2) rfl
  have cW03 : (wB1).cell? ⟨w.heap.size, 3, none⟩ = some (.int .i64 hh) := HW0.out.cell (i := 3) rfl
  have cW04 : (wB1).cell? ⟨w.heap.size, 4, none⟩ = some (.int .i64 i) := HW0.out.cell (i := 4) rfl
  have cW05 : (wB1).cell? ⟨w.heap.size, 5, none⟩ = some (.int .i64 k) := HW0.out.cell (i := 5) rfl
  have cG00 : (wB1).cell? ⟨w.heap.size + 1, 0, none⟩ = some (.slice a0 g.1.length c0) := HG0.out.cell (i := 0) rfl
  have cG01 : (wB1).cell? ⟨w.heap.size + 1, 1, none⟩ = some (.slice b0 g.2.length d0) := HG0.out.cell (i := 1) rfl
  refine (Sh.shown_any _).mono ?_; rintro e w2 ⟨rfl, hx⟩
  clear cW00 cW01 cW02 cW03 cW04 cW05 cG00 cG01
  replace HX := Lib.hid (HX.out.trans hx)
  replace HW0 := Lib.hid (HW0.out.ext hx)
  replace HG0 := Lib.hid (HG0.out.ext hx)
  replace HG := Lib.hid (HG.out.ext hx)
  clear hx
  have cW00 : (w2).cell? ⟨w.heap.size, 0, none⟩ = some (.slice a0 g.1.length c0) := HW0.out.cell (i := 0) rfl
  have cW01 : (w2).cell? ⟨w.heap.size, 1, none⟩ = some (.slice b0 g.2.length d0) := HW0.out.cell (i := 1) rfl
  have cW02 : (w2).cell? ⟨w.heap.size, 2, none⟩ = some (.int .i64 th) := HW0.out.cell (i := 2) rfl
  have cW03 : (w2).cell? ⟨w.heap.size, 3, none⟩ = some (.int .i64 hh) := HW0.out.cell (i := 3) rfl
  have cW04 : (w2).cell? ⟨w.heap.size, 4, none⟩ = some (.int .i64 i) := HW0.out.cell (i := 4) rfl
  have cW05 : (w2).cell? ⟨w.heap.size, 5, none⟩ = some (.int .i64 k) := HW0.out.cell (i := 5) rfl
  have cG00 : (w2).cell? ⟨w.heap.size + 1, 0, none⟩ = some (.slice a0 g.1.length c0) := HG0.out.cell (i := 0) rfl
  have cG01 : (w2).cell? ⟨w.heap.size + 1, 1, none⟩ = some (.slice b0 g.2.length d0) := HG0.out.cell (i := 1) rfl
  go_wp2_with fail
  refine (HF.out _ HG.out).mono ?_; rintro e w3 ⟨rfl, hx⟩
  clear cW00 cW01 cW02 cW03 cW04 cW05 cG00 cG01
  replace HX := Lib.hid (HX.out.trans hx)
  replace HW0 := Lib.hid (HW0.out.ext hx)
  replace HG0 := Lib.hid (HG0.out.ext hx)
  replace HG := Lib.hid (HG.out.ext hx)
  clear hx
  have cW00 : (w3).cell? ⟨w.heap.size, 0, none⟩ = some (.slice a0 g.1.length c0) := HW0.out.cell (i := 0) rfl
  have cW01 : (w3).cell? ⟨w.heap.size, 1, none⟩ = some (.slice b0 g.2.length d0) := HW0.out.cell (i := 1) rfl
  have cW02 : (w3).cell? ⟨w.heap.size, 2, none⟩ = some (.int .i64 th) := HW0.out.cell (i := 2) rfl
  have cW03 : (w3).cell? ⟨w.heap.size, 3, none⟩ = some (.int .i64 hh) := HW0.out.cell (i := 3) rfl
  have cW04 : (w3).cell? ⟨w.heap.size, 4, none⟩ = some (.int .i64 i) := HW0.out.cell (i := 4) rfl
  have cW05 : (w3).cell? ⟨w.heap.size, 5, none⟩ = some (.int .i64 k) := HW0.out.cell (i := 5) rfl
  have cG00 : (w3).cell? ⟨w.heap.size + 1, 0, none⟩ = some (.slice a0 g.1.length c0) := HG0.out.cell (i := 0) rfl
  have cG01 : (w3).cell? ⟨w.heap.size + 1, 1, none⟩ = some (.slice b0 g.2.length d0) := HG0.out.cell (i := 1) rfl
  cases hf : fewG g with
  | false =>
    go_wp2_with fail
    go_ret
    exact ⟨rfl, HX.out⟩
  | true =>
    obtain ⟨hr, hn60, _⟩ := few_of hf
    clear hf HF
    have HD := Lib.hid (fun (a b : Value) (w : World) (h : Gr w a b g) => Wg.do_any a b g th (o5 hh i k) w h hr hp (Int.le_refl 0) (by omega))
    have hd := do_good (th := th) (o := o5 hh i k) hr hp (Int.le_refl 0) (Int.le_refl 0)
    have HE := do_err (th := th) (o := o5 hh i k) hr hp (Int.le_refl 0) (Int.le_refl 0)
    have HP := links (th := th) (h := hh) (i := i) (k := k) hr hp
    clear HE
    generalize doG g th (o5 hh i k) = d at *
    generalize doA g th (o5 hh i k) = an at *
    obtain ⟨e1, e2, e3⟩ := an
    obtain ⟨hr', hp', hs', hn', hn''⟩ := hd
    have hdl : d.1.length ≤ 1000 := by omega
    clear hs' hn' hn''
    have HD2 := Lib.hid (fun (a b : Value) (w : World) (h : Gr w a b d) => Wg.do_any a b d th (o3 hh i) w h hr' hp' (Int.le_refl 0) hdl)
    generalize doG d th (o3 hh i) = d2 at *
    generalize doA d th (o3 hh i) = an2 at *
    obtain ⟨f1, f2, f3⟩ := an2
    go_wp2_with fail
    refine (HD.out _ _ _ HG.out).mono ?_; rintro e w4 ⟨vk, uk, rfl, hg, hx⟩
    obtain ⟨ak, xk, rfl⟩ := hg.1.form
    obtain ⟨bk, yk, rfl⟩ := Gr.Ma.form hg.2
    clear cW00 cW01 cW02 cW03 cW04 cW05 cG00 cG01
    replace HX := Lib.hid (HX.out.trans hx)
    replace HW0 := Lib.hid (HW0.out.ext hx)
    replace HG0 := Lib.hid (HG0.out.ext hx)
    replace HG := Lib.hid (HG.out.ext hx)
    have HGk := Lib.hid hg
    clear hg hx
    unfold anv
    obtain ⟨wB5, hwB5⟩ : ∃ x, x = ((w4.alloc (.cells #[.slice ak d.1.length xk, .slice bk d.2.length yk] 25)).alloc (.cells #[.int .i64 e1, .int .u64 e2, .bool e3] 35)) := ⟨_, rfl⟩
    have hxn : Ext w4 wB5 := hwB5 ▸ (((Ext.refl w4).alloc _).alloc _)
    replace HX := Lib.hid (HX.out.trans hxn)
    replace HW0 := Lib.hid (HW0.out.ext hxn)
    replace HG0 := Lib.hid (HG0.out.ext hxn)
    replace HG := Lib.hid (HG.out.ext hxn)
    replace HGk := Lib.hid (HGk.out.ext hxn)
    have HKk := Lib.hid (show Blk wB5 (w4.heap.size) #[.slice ak d.1.length xk, .slice bk d.2.length yk] 25 from hwB5 ▸ ((blk_at (by simp)).alloc _))
    have HAk := Lib.hid (show Blk wB5 (w4.heap.size + 1) #[.int .i64 e1, .int .u64 e2, .bool e3] 35 from hwB5 ▸ (blk_at (by simp)))
    clear hxn
    have cW00 : (((w4.alloc (.cells #[.slice ak d.1.length xk, .slice bk d.2.length yk] 25)).alloc (.cells #[.int .i64 e1, .int .u64 e2, .bool e3] 35))).cell? ⟨w.heap.size, 0, none⟩ = some (.slice a0 g.1.length c0) := by rw [← hwB5]; exact HW0.out.cell (i := 0) rfl
    have cW01 : (((w4.alloc (.cells #[.slice ak d.1.length xk, .slice bk d.2.length yk] 25)).alloc (.cells #[.int .i64 e1, .int .u64 e2, .bool e3] 35))).cell? ⟨w.heap.size, 1, none⟩ = some (.slice b0 g.2.length d0) := by rw [← hwB5]; exact HW0.out.cell (i := 1) rfl
    have cW02 : (((w4.alloc (.cells #[.slice ak d.1.length xk, .slice bk d.2.length yk] 25)).alloc (.cells #[.int .i64 e1, .int .u64 e2, .bool e3] 35))).cell? ⟨w.heap.size, 2, none⟩ = some (.int .i64 th) := by rw [← hwB5]; exact HW0.out.cell (i := 2) rfl
    have cW03 : (((w4.alloc (.cells #[.slice ak d.1.length xk, .slice bk d.2.length yk] 25)).alloc (.cells #[.int .i64 e1, .int .u64 e2, .bool e3] 35))).cell? ⟨w.heap.size, 3, none⟩ = some (.int .i64 hh) := by rw [← hwB5]; exact HW0.out.cell (i := 3) rfl
    have cW04 : (((w4.alloc (.cells #[.slice ak d.1.length xk, .slice bk d.2.length yk] 25)).alloc (.cells #[.int .i64 e1, .int .u64 e2, .bool e3] 35))).cell? ⟨w.heap.size, 4, none⟩ = some (.int .i64 i) := by rw [← hwB5]; exact HW0.out.cell (i := 4) rfl
    have cW05 : (((w4.alloc (.cells #[.slice ak d.1.length xk, .slice bk d.2.length yk] 25)).alloc (.cells #[.int .i64 e1, .int .u64 e2, .bool e3] 35))).cell? ⟨w.heap.size, 5, none⟩ = some (.int .i64 k) := by rw [← hwB5]; exact HW0.out.cell (i := 5) rfl
    have cG00 : (((w4.alloc (.cells #[.slice ak d.1.length xk, .slice bk d.2.length yk] 25)).alloc (.cells #[.int .i64 e1, .int .u64 e2, .bool e3] 35))).cell? ⟨w.heap.size + 1, 0, none⟩ = some (.slice a0 g.1.length c0) := by rw [← hwB5]; exact HG0.out.cell (i := 0) rfl
    have cG01 : (((w4.alloc (.cells #[.slice ak d.1.length xk, .slice bk d.2.length yk] 25)).alloc (.cells #[.int .i64 e1, .int .u64 e2, .bool e3] 35))).cell? ⟨w.heap.size + 1, 1, none⟩ = some (.slice b0 g.2.length d0) := by rw [← hwB5]; exact HG0.out.cell (i := 1) rfl
    go_wp2_with fail
    rw [← hwB5]
    clear hwB5
    clear cW00 cW01 cW02 cW03 cW04 cW05 cG00 cG01
    have cW00 : (wB5).cell? ⟨w.heap.size, 0, none⟩ = some (.slice a0 g.1.length c0) := HW0.out.cell (i := 0) rfl
    have cW01 : (wB5).cell? ⟨w.heap.size, 1, none⟩ = some (.slice b0 g.2.length d0) := HW0.out.cell (i := 1) rfl
    have cW02 : (wB5).cell? ⟨w.heap.size, 2, none⟩ = some (.int .i64 th) := HW0.out.cell (i := 2) rfl
    have cW03 : (wB5).cell? ⟨w.heap.size, 3, none⟩ = some (.int .i64 hh) := HW0.out.cell (i := 3) rfl
    have cW04 : (wB5).cell? ⟨w.heap.size, 4, none⟩ = some (.int .i64 i) := HW0.out.cell (i := 4) rfl
    have cW05 : (wB5).cell? ⟨w.heap.size, 5, none⟩ = some (.int .i64 k) := HW0.out.cell (i := 5) rfl
    have cG00 : (wB5).cell? ⟨w.heap.size + 1, 0, none⟩ = some (.slice a0 g.1.length c0) := HG0.out.cell (i := 0) rfl
    have cG01 : (wB5).cell? ⟨w.heap.size + 1, 1, none⟩ = some (.slice b0 g.2.length d0) := HG0.out.cell (i := 1) rfl
    have cKk0 : (wB5).cell? ⟨w4.heap.size, 0, none⟩ = some (.slice ak d.1.length xk) := HKk.out.cell (i := 0) rfl
    have cKk1 : (wB5).cell? ⟨w4.heap.size, 1, none⟩ = some (.slice bk d.2.length yk) := HKk.out.cell (i := 1) rfl
    have cAk0 : (wB5).cell? ⟨w4.heap.size + 1, 0, none⟩ = some (.int .i64 e1) := HAk.out.cell (i := 0) rfl
    have cAk1 : (wB5).cell? ⟨w4.heap.size + 1, 1, none⟩ = some (.int .u64 e2) := HAk.out.cell (i := 1) rfl
    have cAk2 : (wB5).cell? ⟨w4.heap.size + 1, 2, none⟩ = some (.bool e3) := HAk.out.cell (i := 2) rfl
    refine (HD2.out _ _ _ HGk.out).mono ?_; rintro e w6 ⟨vb, ub, rfl, hg, hx⟩
    obtain ⟨ab, xb, rfl⟩ := hg.1.form
    obtain ⟨bb, yb, rfl⟩ := Gr.Ma.form hg.2
    clear cW00 cW01 cW02 cW03 cW04 cW05 cG00 cG01 cKk0 cKk1 cAk0 cAk1 cAk2
    replace HX := Lib.hid (HX.out.trans hx)
    replace HW0 := Lib.hid (HW0.out.ext hx)
    replace HG0 := Lib.hid (HG0.out.ext hx)
    replace HKk := Lib.hid (HKk.out.ext hx)
    replace HAk := Lib.hid (HAk.out.ext hx)
    replace HG := Lib.hid (HG.out.ext hx)
    replace HGk := Lib.hid (HGk.out.ext hx)
    have HGb := Lib.hid hg
    clear hg hx
    unfold anv
    obtain ⟨wB7, hwB7⟩ : ∃ x, x = ((w6.alloc (.cells #[.slice ab d2.1.length xb, .slice bb d2.2.length yb] 25)).alloc (.cells #[.int .i64 f1, .int .u64 f2, .bool f3] 35)) := ⟨_, rfl⟩
    have hxn : Ext w6 wB7 := hwB7 ▸ (((Ext.refl w6).alloc _).alloc _)
    replace HX := Lib.hid (HX.out.trans hxn)
    replace HW0 := Lib.hid (HW0.out.ext hxn)
    replace HG0 := Lib.hid (HG0.out.ext hxn)
    replace HKk := Lib.hid (HKk.out.ext hxn)
    replace HAk := Lib.hid (HAk.out.ext hxn)
    replace HG := Lib.hid (HG.out.ext hxn)
    replace HGk := Lib.hid (HGk.out.ext hxn)
    replace HGb := Lib.hid (HGb.out.ext hxn)
    have HKb := Lib.hid (show Blk wB7 (w6.heap.size) #[.slice ab d2.1.length xb, .slice bb d2.2.length yb] 25 from hwB7 ▸ ((blk_at (by simp)).alloc _))
    have HAb := Lib.hid (show Blk wB7 (w6.heap.size + 1) #[.int .i64 f1, .int .u64 f2, .bool f3] 35 from hwB7 ▸ (blk_at (by simp)))
    clear hxn
    have cW00 : (((w6.alloc (.cells #[.slice ab d2.1.length xb, .slice bb d2.2.length yb] 25)).alloc (.cells #[.int .i64 f1, .int .u64 f2, .bool f3] 35))).cell? ⟨w.heap.size, 0, none⟩ = some (.slice a0 g.1.length c0) := by rw [← hwB7]; exact HW0.out.cell (i := 0) rfl
    have cW01 : (((w6.alloc (.cells #[.slice ab d2.1.length xb, .slice bb d2.2.length yb] 25)).alloc (.cells #[.int .i64 f1, .int .u64 f2, .bool f3] 35))).cell? ⟨w.heap.size, 1, none⟩ = some (.slice b0 g.2.length d0) := by rw [← hwB7]; exact HW0.out.cell (i := 1) rfl
    have cW02 : (((w6.alloc (.cells #[.slice ab d2.1.length xb, .slice bb d2.2.length yb] 25)).alloc (.cells #[.int .i64 f1, .int .u64 f2, .bool f3] 35))).cell? ⟨w.heap.size, 2, none⟩ = some (.int .i64 th) := by rw [← hwB7]; exact HW0.out.cell (i := 2) rfl
    have cW03 : (((w6.alloc (.cells #[.slice ab d2.1.length xb, .slice bb d2.2.length yb] 25)).alloc (.cells #[.int .i64 f1, .int .u64 f2, .bool f3] 35))).cell? ⟨w.heap.size, 3, none⟩ = some (.int .i64 hh) := by rw [← hwB7]; exact HW0.out.cell (i := 3) rfl
    have cW04 : (((w6.alloc (.cells #[.slice ab d2.1.length xb, .slice bb d2.2.length yb] 25)).alloc (.cells #[.int .i64 f1, .int .u64 f2, .bool f3] 35))).cell? ⟨w.heap.size, 4, none⟩ = some (.int .i64 i) := by rw [← hwB7]; exact HW0.out.cell (i := 4) rfl
    have cW05 : (((w6.alloc (.cells #[.slice ab d2.1.length xb, .slice bb d2.2.length yb] 25)).alloc (.cells #[.int .i64 f1, .int .u64 f2, .bool f3] 35))).cell? ⟨w.heap.size, 5, none⟩ = some (.int .i64 k) := by rw [← hwB7]; exact HW0.out.cell (i := 5) rfl
    have cG00 : (((w6.alloc (.cells #[.slice ab d2.1.length xb, .slice bb d2.2.length yb] 25)).alloc (.cells #[.int .i64 f1, .int .u64 f2, .bool f3] 35))).cell? ⟨w.heap.size + 1, 0, none⟩ = some (.slice a0 g.1.length c0) := by rw [← hwB7]; exact HG0.out.cell (i := 0) rfl
    have cG01 : (((w6.alloc (.cells #[.slice ab d2.1.length xb, .slice bb d2.2.length yb] 25)).alloc (.cells #[.int .i64 f1, .int .u64 f2, .bool f3] 35))).cell? ⟨w.heap.size + 1, 1, none⟩ = some (.slice b0 g.2.length d0) := by rw [← hwB7]; exact HG0.out.cell (i := 1) rfl
    have cKk0 : (((w6.alloc (.cells #[.slice ab d2.1.length xb, .slice bb d2.2.length yb] 25)).alloc (.cells #[.int .i64 f1, .int .u64 f2, .bool f3] 35))).cell? ⟨w4.heap.size, 0, none⟩ = some (.slice ak d.1.length xk) := by rw [← hwB7]; exact HKk.out.cell (i := 0) rfl
    have cKk1 : (((w6.alloc (.cells #[.slice ab d2.1.length xb, .slice bb d2.2.length yb] 25)).alloc (.cells #[.int .i64 f1, .int .u64 f2, .bool f3] 35))).cell? ⟨w4.heap.size, 1, none⟩ = some (.slice bk d.2.length yk) := by rw [← hwB7]; exact HKk.out.cell (i := 1) rfl
    have cAk0 : (((w6.alloc (.cells #[.slice ab d2.1.length xb, .slice bb d2.2.length yb] 25)).alloc (.cells #[.int .i64 f1, .int .u64 f2, .bool f3] 35))).cell? ⟨w4.heap.size + 1, 0, none⟩ = some (.int .i64 e1) := by rw [← hwB7]; exact HAk.out.cell (i := 0) rfl
    have cAk1 : (((w6.alloc (.cells #[.slice ab d2.1.length xb, .slice bb d2.2.length yb] 25)).alloc (.cells #[.int .i64 f1, .int .u64 f2, .bool f3] 35))).cell? ⟨w4.heap.size + 1, 1, none⟩ = some (.int .u64 e2) := by rw [← hwB7]; exact HAk.out.cell (i := 1) rfl
    have cAk2 : (((w6.alloc (.cells #[.slice ab d2.1.length xb, .slice bb d2.2.length yb] 25)).alloc (.cells #[.int .i64 f1, .int .u64 f2, .bool f3] 35))).cell? ⟨w4.heap.size + 1, 2, none⟩ = some (.bool e3) := by rw [← hwB7]; exact HAk.out.cell (i := 2) rfl
    by_cases h0 : e1 = 0
    case neg =>
      have hb0 : (e1 == 0) = false := by simpa using h0
      clear HP hdl
      subst hwB7
      go_wp2_with fail
      go_ret
      exact ⟨by first | rfl | (simp; done), HX.out⟩
    case pos =>
      subst h0
      obtain ⟨⟨ht0, ht1⟩, _, _, hgl, HQ⟩ := HP rfl
      clear HP
      rcases HQ with hq4 | ⟨hf0, hr2, hp2, hnl, hsl, hge, hy⟩
      case inl =>
        obtain rfl : f1 = 4 := hq4
        subst hwB7
        go_wp2_with fail
        go_ret
        exact ⟨by first | rfl | (simp; done), HX.out⟩
      case inr =>
        obtain rfl : f1 = 0 := hf0
        have hlb : ∀ (ty : TypeId) (W : World), (Builtin.len_ #[23] ty #[.slice bb d2.2.length yb]).run Try.prog W = .ok (.int .i64 d2.2.length) W := Ma.len uS HGb.out.2
        have ht2 : th < d2.2.length := by rw [hsl]; exact ht1
        obtain ⟨p, up, hxp, hcp, hsp⟩ := Ma.at_ uS szS HGb.out.2 ht0 ht2
        obtain ⟨rp, qp, rfl⟩ : ∃ a c, up = .slice a (rowOf d2 th.toNat).length c := Row.form hsp
        have hlp : ∀ (ty : TypeId) (W : World), (Builtin.len_ #[42] ty #[.slice rp (rowOf d2 th.toNat).length qp]).run Try.prog W = .ok (.int .i64 (rowOf d2 th.toNat).length) W := Sl.len uI hsp
        have smp : ((rowOf d2 th.toNat).length : Int) ≤ 140737488355328 := Sl.small hsp
        clear hsp
        rw [hwB7] at hcp
        obtain ⟨q, hq⟩ : ∃ q : Int, ((rowOf d2 th.toNat).length : Int) = q := ⟨_, rfl⟩
        have hq1 : 1 ≤ q := by omega
        rw [hq] at hlp smp hy
        have hdl2 : d2.1.length ≤ 1000 := by omega
        have HD3 := Lib.hid (fun (a b : Value) (w : World) (h : Gr w a b d2) => Wg.do_any a b d2 th (o8 (q - 1) k) w h hr2 hp2 (Int.le_refl 0) hdl2)
        rw [hy] at HD3
        generalize doG d2 th (o8 (q - 1) k) = d3 at HD3
        clear hy hr2 hp2 hdl2 hnl hsl hge hgl hr' hp' hdl hq
        go_wp2_with fail
        rw [← hwB7]
        clear hwB7
        clear cW00 cW01 cW02 cW03 cW04 cW05 cG00 cG01 cKk0 cKk1 cAk0 cAk1 cAk2
        have cW00 : (wB7).cell? ⟨w.heap.size, 0, none⟩ = some (.slice a0 g.1.length c0) := HW0.out.cell (i := 0) rfl
        have cW01 : (wB7).cell? ⟨w.heap.size, 1, none⟩ = some (.slice b0 g.2.length d0) := HW0.out.cell (i := 1) rfl
        have cW02 : (wB7).cell? ⟨w.heap.size, 2, none⟩ = some (.int .i64 th) := HW0.out.cell (i := 2) rfl
        have cW03 : (wB7).cell? ⟨w.heap.size, 3, none⟩ = some (.int .i64 hh) := HW0.out.cell (i := 3) rfl
        have cW04 : (wB7).cell? ⟨w.heap.size, 4, none⟩ = some (.int .i64 i) := HW0.out.cell (i := 4) rfl
        have cW05 : (wB7).cell? ⟨w.heap.size, 5, none⟩ = some (.int .i64 k) := HW0.out.cell (i := 5) rfl
        have cG00 : (wB7).cell? ⟨w.heap.size + 1, 0, none⟩ = some (.slice a0 g.1.length c0) := HG0.out.cell (i := 0) rfl
        have cG01 : (wB7).cell? ⟨w.heap.size + 1, 1, none⟩ = some (.slice b0 g.2.length d0) := HG0.out.cell (i := 1) rfl
        have cKk0 : (wB7).cell? ⟨w4.heap.size, 0, none⟩ = some (.slice ak d.1.length xk) := HKk.out.cell (i := 0) rfl
        have cKk1 : (wB7).cell? ⟨w4.heap.size, 1, none⟩ = some (.slice bk d.2.length yk) := HKk.out.cell (i := 1) rfl
        have cAk0 : (wB7).cell? ⟨w4.heap.size + 1, 0, none⟩ = some (.int .i64 0) := HAk.out.cell (i := 0) rfl
        have cAk1 : (wB7).cell? ⟨w4.heap.size + 1, 1, none⟩ = some (.int .u64 e2) := HAk.out.cell (i := 1) rfl
        have cAk2 : (wB7).cell? ⟨w4.heap.size + 1, 2, none⟩ = some (.bool e3) := HAk.out.cell (i := 2) rfl
        have cKb0 : (wB7).cell? ⟨w6.heap.size, 0, none⟩ = some (.slice ab d2.1.length xb) := HKb.out.cell (i := 0) rfl
        have cKb1 : (wB7).cell? ⟨w6.heap.size, 1, none⟩ = some (.slice bb d2.2.length yb) := HKb.out.cell (i := 1) rfl
        have cAb0 : (wB7).cell? ⟨w6.heap.size + 1, 0, none⟩ = some (.int .i64 0) := HAb.out.cell (i := 0) rfl
        have cAb1 : (wB7).cell? ⟨w6.heap.size + 1, 1, none⟩ = some (.int .u64 f2) := HAb.out.cell (i := 1) rfl
        have cAb2 : (wB7).cell? ⟨w6.heap.size + 1, 2, none⟩ = some (.bool f3) := HAb.out.cell (i := 2) rfl
        clear hcp hxp hlp hlb hl2
        refine (HD3.out _ _ _ HGb.out).mono ?_; rintro e w8 ⟨vj, uj, rfl, hg, hx⟩
        obtain ⟨aj, xj, rfl⟩ := hg.1.form
        obtain ⟨bj, yj, rfl⟩ := Gr.Ma.form hg.2
        clear cW00 cW01 cW02 cW03 cW04 cW05 cG00 cG01 cKk0 cKk1 cAk0 cAk1 cAk2 cKb0 cKb1 cAb0 cAb1 cAb2
        replace HX := Lib.hid (HX.out.trans hx)
        replace HW0 := Lib.hid (HW0.out.ext hx)
        replace HG0 := Lib.hid (HG0.out.ext hx)
        replace HKk := Lib.hid (HKk.out.ext hx)
        replace HAk := Lib.hid (HAk.out.ext hx)
        replace HKb := Lib.hid (HKb.out.ext hx)
        replace HAb := Lib.hid (HAb.out.ext hx)
        replace HG := Lib.hid (HG.out.ext hx)
        replace HGk := Lib.hid (HGk.out.ext hx)
        replace HGb := Lib.hid (HGb.out.ext hx)
        have HGj := Lib.hid hg
        clear hg hx
        unfold anv
        obtain ⟨wB9, hwB9⟩ : ∃ x, x = ((w8.alloc (.cells #[.slice aj d3.1.length xj, .slice bj d3.2.length yj] 25)).alloc (.cells #[.int .i64 0, .int .u64 0, .bool true] 35)) := ⟨_, rfl⟩
        have hxn : Ext w8 wB9 := hwB9 ▸ (((Ext.refl w8).alloc _).alloc _)
        replace HX := Lib.hid (HX.out.trans hxn)
        replace HW0 := Lib.hid (HW0.out.ext hxn)
        replace HG0 := Lib.hid (HG0.out.ext hxn)
        replace HKk := Lib.hid (HKk.out.ext hxn)
        replace HAk := Lib.hid (HAk.out.ext hxn)
        replace HKb := Lib.hid (HKb.out.ext hxn)
        replace HAb := Lib.hid (HAb.out.ext hxn)
        replace HG := Lib.hid (HG.out.ext hxn)
        replace HGk := Lib.hid (HGk.out.ext hxn)
        replace HGb := Lib.hid (HGb.out.ext hxn)
        replace HGj := Lib.hid (HGj.out.ext hxn)
        have HKj := Lib.hid (show Blk wB9 (w8.heap.size) #[.slice aj d3.1.length xj, .slice bj d3.2.length yj] 25 from hwB9 ▸ ((blk_at (by simp)).alloc _))
        have HAj := Lib.hid (show Blk wB9 (w8.heap.size + 1) #[.int .i64 0, .int .u64 0, .bool true] 35 from hwB9 ▸ (blk_at (by simp)))
        clear hxn
        have cW00 : (((w8.alloc (.cells #[.slice aj d3.1.length xj, .slice bj d3.2.length yj] 25)).alloc (.cells #[.int .i64 0, .int .u64 0, .bool true] 35))).cell? ⟨w.heap.size, 0, none⟩ = some (.slice a0 g.1.length c0) := by rw [← hwB9]; exact HW0.out.cell (i := 0) rfl
        have cW01 : (((w8.alloc (.cells #[.slice aj d3.1.length xj, .slice bj d3.2.length yj] 25)).alloc (.cells #[.int .i64 0, .int .u64 0, .bool true] 35))).cell? ⟨w.heap.size, 1, none⟩ = some (.slice b0 g.2.length d0) := by rw [← hwB9]; exact HW0.out.cell (i := 1) rfl
        have cW02 : (((w8.alloc (.cells #[.slice aj d3.1.length xj, .slice bj d3.2.length yj] 25)).alloc (.cells #[.int .i64 0, .int .u64 0, .bool true] 35))).cell? ⟨w.heap.size, 2, none⟩ = some (.int .i64 th) := by rw [← hwB9]; exact HW0.out.cell (i := 2) rfl
        have cW03 : (((w8.alloc (.cells #[.slice aj d3.1.length xj, .slice bj d3.2.length yj] 25)).alloc (.cells #[.int .i64 0, .int .u64 0, .bool true] 35))).cell? ⟨w.heap.size, 3, none⟩ = some (.int .i64 hh) := by rw [← hwB9]; exact HW0.out.cell (i := 3) rfl
        have cW04 : (((w8.alloc (.cells #[.slice aj d3.1.length xj, .slice bj d3.2.length yj] 25)).alloc (.cells #[.int .i64 0, .int .u64 0, .bool true] 35))).cell? ⟨w.heap.size, 4, none⟩ = some (.int .i64 i) := by rw [← hwB9]; exact HW0.out.cell (i := 4) rfl
        have cW05 : (((w8.alloc (.cells #[.slice aj d3.1.length xj, .slice bj d3.2.length yj] 25)).alloc (.cells #[.int .i64 0, .int .u64 0, .bool true] 35))).cell? ⟨w.heap.size, 5, none⟩ = some (.int .i64 k) := by rw [← hwB9]; exact HW0.out.cell (i := 5) rfl
        have cG00 : (((w8.alloc (.cells #[.slice aj d3.1.length xj, .slice bj d3.2.length yj] 25)).alloc (.cells #[.int .i64 0, .int .u64 0, .bool true] 35))).cell? ⟨w.heap.size + 1, 0, none⟩ = some (.slice a0 g.1.length c0) := by rw [← hwB9]; exact HG0.out.cell (i := 0) rfl
        have cG01 : (((w8.alloc (.cells #[.slice aj d3.1.length xj, .slice bj d3.2.length yj] 25)).alloc (.cells #[.int .i64 0, .int .u64 0, .bool true] 35))).cell? ⟨w.heap.size + 1, 1, none⟩ = some (.slice b0 g.2.length d0) := by rw [← hwB9]; exact HG0.out.cell (i := 1) rfl
        have cKk0 : (((w8.alloc (.cells #[.slice aj d3.1.length xj, .slice bj d3.2.length yj] 25)).alloc (.cells #[.int .i64 0, .int .u64 0, .bool true] 35))).cell? ⟨w4.heap.size, 0, none⟩ = some (.slice ak d.1.length xk) := by rw [← hwB9]; exact HKk.out.cell (i := 0) rfl
        have cKk1 : (((w8.alloc (.cells #[.slice aj d3.1.length xj, .slice bj d3.2.length yj] 25)).alloc (.cells #[.int .i64 0, .int .u64 0, .bool true] 35))).cell? ⟨w4.heap.size, 1, none⟩ = some (.slice bk d.2.length yk) := by rw [← hwB9]; exact HKk.out.cell (i := 1) rfl
        have cAk0 : (((w8.alloc (.cells #[.slice aj d3.1.length xj, .slice bj d3.2.length yj] 25)).alloc (.cells #[.int .i64 0, .int .u64 0, .bool true] 35))).cell? ⟨w4.heap.size + 1, 0, none⟩ = some (.int .i64 0) := by rw [← hwB9]; exact HAk.out.cell (i := 0) rfl
        have cAk1 : (((w8.alloc (.cells #[.slice aj d3.1.length xj, .slice bj d3.2.length yj] 25)).alloc (.cells #[.int .i64 0, .int .u64 0, .bool true] 35))).cell? ⟨w4.heap.size + 1, 1, none⟩ = some (.int .u64 e2) := by rw [← hwB9]; exact HAk.out.cell (i := 1) rfl
        have cAk2 : (((w8.alloc (.cells #[.slice aj d3.1.length xj, .slice bj d3.2.length yj] 25)).alloc (.cells #[.int .i64 0, .int .u64 0, .bool true] 35))).cell? ⟨w4.heap.size + 1, 2, none⟩ = some (.bool e3) := by rw [← hwB9]; exact HAk.out.cell (i := 2) rfl
        have cKb0 : (((w8.alloc (.cells #[.slice aj d3.1.length xj, .slice bj d3.2.length yj] 25)).alloc (.cells #[.int .i64 0, .int .u64 0, .bool true] 35))).cell? ⟨w6.heap.size, 0, none⟩ = some (.slice ab d2.1.length xb) := by rw [← hwB9]; exact HKb.out.cell (i := 0) rfl
        have cKb1 : (((w8.alloc (.cells #[.slice aj d3.1.length xj, .slice bj d3.2.length yj] 25)).alloc (.cells #[.int .i64 0, .int .u64 0, .bool true] 35))).cell? ⟨w6.heap.size, 1, none⟩ = some (.slice bb d2.2.length yb) := by rw [← hwB9]; exact HKb.out.cell (i := 1) rfl
        have cAb0 : (((w8.alloc (.cells #[.slice aj d3.1.length xj, .slice bj d3.2.length yj] 25)).alloc (.cells #[.int .i64 0, .int .u64 0, .bool true] 35))).cell? ⟨w6.heap.size + 1, 0, none⟩ = some (.int .i64 0) := by rw [← hwB9]; exact HAb.out.cell (i := 0) rfl
        have cAb1 : (((w8.alloc (.cells #[.slice aj d3.1.length xj, .slice bj d3.2.length yj] 25)).alloc (.cells #[.int .i64 0, .int .u64 0, .bool true] 35))).cell? ⟨w6.heap.size + 1, 1, none⟩ = some (.int .u64 f2) := by rw [← hwB9]; exact HAb.out.cell (i := 1) rfl
        have cAb2 : (((w8.alloc (.cells #[.slice aj d3.1.length xj, .slice bj d3.2.length yj] 25)).alloc (.cells #[.int .i64 0, .int .u64 0, .bool true] 35))).cell? ⟨w6.heap.size + 1, 2, none⟩ = some (.bool f3) := by rw [← hwB9]; exact HAb.out.cell (i := 2) rfl
        subst hwB9
        go_wp2_with fail
        go_ret
        exact ⟨by first | rfl | (simp; done), HX.out⟩

theorem walk (v0 : Value) (W : World) (r0 : Rd.V Try.prog W 49 v0) : Calls Try.prog 7 #[v0] W fun e w' => e = .returned (.bool true) ∧ Below W.heap.size W w' := by
  obtain ⟨cs, rfl, hs⟩ := r0.struct Try.underlying49
  obtain ⟨hl, _⟩ := hs.struct Try.underlying49
  rw [show Try.prog.cellsOf 49 = 6 by kernel_rfl] at hl
  obtain ⟨c0, c1, c2, c3, c4, c5, rfl⟩ := six_of hl
  obtain ⟨a, b, g, hab, hg, hwf⟩ := Gr.of_R (show Rd.R _ W _ [c0, c1] from Rd.R.field Try.underlying49 hs 0 rfl 0 2 25 rfl rfl (by kernel_rfl))
  obtain ⟨rfl, rfl⟩ : c0 = a ∧ c1 = b := by simpa using hab
  obtain ⟨th, h2, _⟩ := (show Rd.R _ W _ [c2] from Rd.R.field Try.underlying49 hs 1 rfl 2 1 3 rfl rfl (by kernel_rfl)).int Try.underlying3
  obtain ⟨hh, h3, _⟩ := (show Rd.R _ W _ [c3] from Rd.R.field Try.underlying49 hs 2 rfl 3 1 3 rfl rfl (by kernel_rfl)).int Try.underlying3
  obtain ⟨i, h4, _⟩ := (show Rd.R _ W _ [c4] from Rd.R.field Try.underlying49 hs 3 rfl 4 1 3 rfl rfl (by kernel_rfl)).int Try.underlying3
  obtain ⟨k, h5, _⟩ := (show Rd.R _ W _ [c5] from Rd.R.field Try.underlying49 hs 4 rfl 5 1 3 rfl rfl (by kernel_rfl)).int Try.underlying3
  obtain rfl : c2 = .int .i64 th := by simpa using h2
  obtain rfl : c3 = .int .i64 hh := by simpa using h3
  obtain rfl : c4 = .int .i64 i := by simpa using h4
  obtain rfl : c5 = .int .i64 k := by simpa using h5
  exact (go c0 c1 g th hh i k (posG_of hwf) W hg).mono fun e w' ⟨he, hw⟩ => ⟨he, hw.below⟩

open Go.ChangeShapes Go.WideShapes Go.ChangeAt Go.RowKit
theorem own : ownKnob Try.prog.godebug = none := by kernel_rfl
theorem laidOut : laidOutB Try.prog = true := by kernel_rfl

set_option maxRecDepth 100000 in
theorem lifted (os : Os) (started : os.Started) (H : Type) (enc : TypeId × Value → H) :
    ReturnsInHanded {} Try.checked os 7 .any (Rows.graphLinksSpec.pre6 enc Try.prog Try.f7 Rows.graphLinksRow.domain false) (Rows.graphLinksSpec.post enc Try.prog Try.f7 false true false false) := by
  refine returnsInHanded_of_change_sized (C := Try.checked) own started (by kernel_rfl) Try.func7
    (ChangeSpec.witness6 (enc := enc) (C := Try.checked) false ⟨#[], #[.agg #[.slice none 0 0, .slice none 0 0, .int .i64 0, .int .i64 0, .int .i64 0, .int .i64 0]], []⟩ 12 (by kernel_rfl) (by kernel_rfl) (by kernel_rfl) (by kernel_rfl)) ?_
  intro W base args ds gs before hval0 hW _ hsz0 _
  have hval : ∀ (j : Nat) t v, Try.f7.params[j]? = some t → args[j]? = some v → Value.okWide Try.prog W .any base t v := hval0
  have hW' := hW
  obtain ⟨p, q, hA0, hV, rfl, _, _⟩ := hW
  have hA : DataW.TrodAll enc Try.prog W 0 (fun _ => true) true Try.f7.params.toList args.toList ds p := hA0
  obtain ⟨rfl, rfl⟩ := trodVars_none hV
  have hsz : (DataW.weightsEach Try.prog (Try.f7.params.toList ++ []) (ds ++ [])).all (· ≤ reachBytes) = true := hsz0
  rw [Try.params7] at hA hval hsz
  have hA2 := hA
  obtain ⟨v0, vs0, d0, ds0, p0, q0, hargs, rfl, rfl, h0, r0⟩ := trodAll_cons hA2
  obtain ⟨rfl, rfl, rfl⟩ := trodAll_nil r0
  obtain rfl : args = #[v0] := by cases args; simp_all
  have hR := Rd.trodAll_V hA (fun n hn => by simpa using List.all_eq_true.1 hsz n (by simpa using hn)) (fun j t v hj hv => hval j t v (by simpa using hj) (by simpa using hv))
  clear hA0 hval0 hA2
  refine (walk v0 W (hR 0 49 v0 rfl rfl)).mono fun e W' ⟨he, bel⟩ => ?_
  subst he
  exact ⟨_, rfl, _, _, _, [], _, [], hW', trodAll_mk1 (shut_bool Try.underlying4 _), Rd.trodAll_below laidOut bel (List.forall_mem_cons.2 ⟨⟨by kernel_rfl, of_decide_eq_true (by kernel_rfl)⟩, fun _ h => by cases h⟩) hA, rfl, bel.frame _, fun h => by cases h⟩

theorem over : Rows.graphLinksRow.holds Try.pinned (OpenSpec.ofChange Rows.graphLinksSpec) :=
  OpenClaim.holds_of_wide 7 Try.f7 rfl rfl rfl rfl rfl rfl rfl ⟨rfl, rfl, rfl, rfl, rfl⟩ rfl rfl rfl rfl rfl (by kernel_rfl) Try.func7 (by kernel_rfl)
    (of_decide_eq_true (by kernel_rfl)) (by unfold Func.isWrapper; first | (rw [if_pos (by decide +kernel)]; kernel_rfl) | (rw [if_neg (by decide +kernel)]; exact ⟨rfl, rfl⟩))
    (fun os started H enc _ => lifted os started H enc)

theorem proved : Rows.GraphLinksSaid := over
#print axioms proved
end Go.Proofs.Ytjhmlbhfnogdiaa.graphLinks
