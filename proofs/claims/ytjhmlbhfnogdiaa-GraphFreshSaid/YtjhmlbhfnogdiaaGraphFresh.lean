/- GraphFresh holds for every input: an object that is made is of no other handle; its scalar fields are 0, its pointers lead to nothing. No condition. -/
import Derived.Test.YtjhmlbhfnogdiaaRows
import Derived.Test.YtjhmlbhfnogdiaaOp
import Derived.Test.YtjhmlbhfnogdiaaPr
namespace Go.Proofs.Ytjhmlbhfnogdiaa.graphFresh
open Go.RowKit Go.Proofs.Ytjhmlbhfnogdiaa Go.Proofs.Ytjhmlbhfnogdiaa.Hd Go.Proofs.Ytjhmlbhfnogdiaa.Gr Go.Proofs.Ytjhmlbhfnogdiaa.Hg Go.Proofs.Ytjhmlbhfnogdiaa.Rr Go.Proofs.Ytjhmlbhfnogdiaa.Wk Go.Proofs.Ytjhmlbhfnogdiaa.Wp Go.Proofs.Ytjhmlbhfnogdiaa.Wa Go.Proofs.Ytjhmlbhfnogdiaa.Wc Go.Proofs.Ytjhmlbhfnogdiaa.Wf Go.Proofs.Ytjhmlbhfnogdiaa.Pl Go.Proofs.Ytjhmlbhfnogdiaa.Op Go.Proofs.Ytjhmlbhfnogdiaa.Pq Go.Proofs.Ytjhmlbhfnogdiaa.Pr
set_option linter.unusedVariables false

theorem many_of {α : Type} {l : List α} (h : l.length = 8) : ∃ x0 x1 x2 x3 x4 x5 x6 x7, l = [x0, x1, x2, x3, x4, x5, x6, x7] := by
  obtain ⟨x0, l, rfl⟩ := List.exists_cons_of_length_pos (show 0 < l.length by omega)
  replace h : l.length = 7 := by simpa using h
  obtain ⟨x1, l, rfl⟩ := List.exists_cons_of_length_pos (show 0 < l.length by omega)
  replace h : l.length = 6 := by simpa using h
  obtain ⟨x2, l, rfl⟩ := List.exists_cons_of_length_pos (show 0 < l.length by omega)
  replace h : l.length = 5 := by simpa using h
  obtain ⟨x3, l, rfl⟩ := List.exists_cons_of_length_pos (show 0 < l.length by omega)
  replace h : l.length = 4 := by simpa using h
  obtain ⟨x4, l, rfl⟩ := List.exists_cons_of_length_pos (show 0 < l.length by omega)
  replace h : l.length = 3 := by simpa using h
  obtain ⟨x5, l, rfl⟩ := List.exists_cons_of_length_pos (show 0 < l.length by omega)
  replace h : l.length = 2 := by simpa using h
  obtain ⟨x6, l, rfl⟩ := List.exists_cons_of_length_pos (show 0 < l.length by omega)
  replace h : l.length = 1 := by simpa using h
  obtain ⟨x7, l, rfl⟩ := List.exists_cons_of_length_pos (show 0 < l.length by omega)
  replace h : l.length = 0 := by simpa using h
  obtain rfl : l = [] := List.length_eq_zero_iff.1 h
  exact ⟨x0, x1, x2, x3, x4, x5, x6, x7, rfl⟩

set_option maxHeartbeats 2000000 in
theorem go (a b : Value) (g : Gph) (th i hh : Int) (x : Hd) (hp : posG g) (hx0 : 0 ≤ x.2.2) (w : World) (h : Gr w a b g) :
    Calls Try.prog 8 #[.agg #[a, b, .int .i64 th, .int .i64 x.1, .int .i64 x.2.1, .int .u64 x.2.2, .int .i64 i, .int .i64 hh]] w fun e w' => e = .returned (.bool true) ∧ Ext w w' := by
  obtain ⟨a0, c0, rfl⟩ := h.1.form
  obtain ⟨b0, d0, rfl⟩ := Gr.Ma.form h.2
  have hl1 := h.1.len
  have hl2 := Ma.len uS h.2
  have hsm := h.1.small
  have HG := Lib.hid h
  have HF := Lib.hid (fun (w : World) (h : Gr w (.slice a0 g.1.length c0) (.slice b0 g.2.length d0) g) => few_any _ _ g hp w h)
  clear h
  go_enter Try.func8, Try.ntmps8
  have HX := Lib.hid (Ext.refl w)
  obtain ⟨wB1, hwB1⟩ : ∃ wX, wX = (((w.alloc (.cells #[.slice a0 g.1.length c0, .slice b0 g.2.length d0, .int .i64 th, .int .i64 x.1, .int .i64 x.2.1, .int .u64 x.2.2, .int .i64 i, .int .i64 hh] 52)).alloc (.cells #[.slice a0 g.1.length c0, .slice b0 g.2.length d0] 25)).alloc (.cells #[.int .i64 x.1, .int .i64 x.2.1, .int .u64 x.2.2] 28)) := ⟨_, rfl⟩
  have hxn : Ext w wB1 := hwB1 ▸ ((((Ext.refl w).alloc _).alloc _).alloc _)
  replace HX := Lib.hid (HX.out.trans hxn)
  replace HG := Lib.hid (HG.out.ext hxn)
  have HW0 := Lib.hid (show Blk wB1 (w.heap.size) #[.slice a0 g.1.length c0, .slice b0 g.2.length d0, .int .i64 th, .int .i64 x.1, .int .i64 x.2.1, .int .u64 x.2.2, .int .i64 i, .int .i64 hh] 52 from hwB1 ▸ (((blk_at (by simp)).alloc _).alloc _))
  have HG0 := Lib.hid (show Blk wB1 (w.heap.size + 1) #[.slice a0 g.1.length c0, .slice b0 g.2.length d0] 25 from hwB1 ▸ ((blk_at (by simp)).alloc _))
  have HN0 := Lib.hid (show Blk wB1 (w.heap.size + 2) #[.int .i64 x.1, .int .i64 x.2.1, .int .u64 x.2.2] 28 from hwB1 ▸ (blk_at (by simp)))
  clear hxn
  go_wp2_with fail
  rw [← hwB1]
  clear hwB1
  have cW00 : (wB1).cell? ⟨w.heap.size, 0, none⟩ = some (.slice a0 g.1.length c0) := HW0.out.cell (i := 0) rfl
  have cW01 : (wB1).cell? ⟨w.heap.size, 1, none⟩ = some (.slice b0 g.2.length d0) := HW0.out.cell (i := 1) rfl
  have cW02 : (wB1).cell? ⟨w.heap.size, 2, none⟩ = some (.int .i64 th) := HW0.out.cell (i := 2) rfl
  have cW03 : (wB1).cell? ⟨w.heap.size, 3, none⟩ = some (.int .i64 x.1) := HW0.out.cell (i := 3) rfl
  have cW04 : (wB1).cell? ⟨w.heap.size, 4, none⟩ = some (.int .i64 x.2.1) := HW0.out.cell (i := 4) rfl
  have cW05 : (wB1).cell? ⟨w.heap.size, 5, none⟩ = some (.int .u64 x.2.2) := HW0.out.cell (i := 5) rfl
  have cW06 : (wB1).cell? ⟨w.heap.size, 6, none⟩ = some (.int .i64 i) := HW0.out.cell (i := 6) rfl
  have cW07 : (wB1).cell? ⟨w.heap.size, 7, none⟩ = some (.int .i64 hh) := HW0.out.cell (i := 7) rfl
  have cG00 : (wB1).cell? ⟨w.heap.size + 1, 0, none⟩ = some (.slice a0 g.1.length c0) := HG0.out.cell (i := 0) rfl
  have cG01 : (wB1).cell? ⟨w.heap.size + 1, 1, none⟩ = some (.slice b0 g.2.length d0) := HG0.out.cell (i := 1) rfl
  have cN00 : (wB1).cell? ⟨w.heap.size + 2, 0, none⟩ = some (.int .i64 x.1) := HN0.out.cell (i := 0) rfl
  have cN01 : (wB1).cell? ⟨w.heap.size + 2, 1, none⟩ = some (.int .i64 x.2.1) := HN0.out.cell (i := 1) rfl
  have cN02 : (wB1).cell? ⟨w.heap.size + 2, 2, none⟩ = some (.int .u64 x.2.2) := HN0.out.cell (i := 2) rfl
  refine (Sh.shown_any _).mono ?_; rintro e w2 ⟨rfl, hx⟩
  clear cW00 cW01 cW02 cW03 cW04 cW05 cW06 cW07 cG00 cG01 cN00 cN01 cN02
  replace HX := Lib.hid (HX.out.trans hx)
  replace HW0 := Lib.hid (HW0.out.ext hx)
  replace HG0 := Lib.hid (HG0.out.ext hx)
  replace HN0 := Lib.hid (HN0.out.ext hx)
  replace HG := Lib.hid (HG.out.ext hx)
  clear hx
  have cW00 : (w2).cell? ⟨w.heap.size, 0, none⟩ = some (.slice a0 g.1.length c0) := HW0.out.cell (i := 0) rfl
  have cW01 : (w2).cell? ⟨w.heap.size, 1, none⟩ = some (.slice b0 g.2.length d0) := HW0.out.cell (i := 1) rfl
  have cW02 : (w2).cell? ⟨w.heap.size, 2, none⟩ = some (.int .i64 th) := HW0.out.cell (i := 2) rfl
  have cW03 : (w2).cell? ⟨w.heap.size, 3, none⟩ = some (.int .i64 x.1) := HW0.out.cell (i := 3) rfl
  have cW04 : (w2).cell? ⟨w.heap.size, 4, none⟩ = some (.int .i64 x.2.1) := HW0.out.cell (i := 4) rfl
  have cW05 : (w2).cell? ⟨w.heap.size, 5, none⟩ = some (.int .u64 x.2.2) := HW0.out.cell (i := 5) rfl
  have cW06 : (w2).cell? ⟨w.heap.size, 6, none⟩ = some (.int .i64 i) := HW0.out.cell (i := 6) rfl
  have cW07 : (w2).cell? ⟨w.heap.size, 7, none⟩ = some (.int .i64 hh) := HW0.out.cell (i := 7) rfl
  have cG00 : (w2).cell? ⟨w.heap.size + 1, 0, none⟩ = some (.slice a0 g.1.length c0) := HG0.out.cell (i := 0) rfl
  have cG01 : (w2).cell? ⟨w.heap.size + 1, 1, none⟩ = some (.slice b0 g.2.length d0) := HG0.out.cell (i := 1) rfl
  have cN00 : (w2).cell? ⟨w.heap.size + 2, 0, none⟩ = some (.int .i64 x.1) := HN0.out.cell (i := 0) rfl
  have cN01 : (w2).cell? ⟨w.heap.size + 2, 1, none⟩ = some (.int .i64 x.2.1) := HN0.out.cell (i := 1) rfl
  have cN02 : (w2).cell? ⟨w.heap.size + 2, 2, none⟩ = some (.int .u64 x.2.2) := HN0.out.cell (i := 2) rfl
  go_wp2_with fail
  refine (HF.out _ HG.out).mono ?_; rintro e w3 ⟨rfl, hx⟩
  clear cW00 cW01 cW02 cW03 cW04 cW05 cW06 cW07 cG00 cG01 cN00 cN01 cN02
  replace HX := Lib.hid (HX.out.trans hx)
  replace HW0 := Lib.hid (HW0.out.ext hx)
  replace HG0 := Lib.hid (HG0.out.ext hx)
  replace HN0 := Lib.hid (HN0.out.ext hx)
  replace HG := Lib.hid (HG.out.ext hx)
  clear hx
  have cW00 : (w3).cell? ⟨w.heap.size, 0, none⟩ = some (.slice a0 g.1.length c0) := HW0.out.cell (i := 0) rfl
  have cW01 : (w3).cell? ⟨w.heap.size, 1, none⟩ = some (.slice b0 g.2.length d0) := HW0.out.cell (i := 1) rfl
  have cW02 : (w3).cell? ⟨w.heap.size, 2, none⟩ = some (.int .i64 th) := HW0.out.cell (i := 2) rfl
  have cW03 : (w3).cell? ⟨w.heap.size, 3, none⟩ = some (.int .i64 x.1) := HW0.out.cell (i := 3) rfl
  have cW04 : (w3).cell? ⟨w.heap.size, 4, none⟩ = some (.int .i64 x.2.1) := HW0.out.cell (i := 4) rfl
  have cW05 : (w3).cell? ⟨w.heap.size, 5, none⟩ = some (.int .u64 x.2.2) := HW0.out.cell (i := 5) rfl
  have cW06 : (w3).cell? ⟨w.heap.size, 6, none⟩ = some (.int .i64 i) := HW0.out.cell (i := 6) rfl
  have cW07 : (w3).cell? ⟨w.heap.size, 7, none⟩ = some (.int .i64 hh) := HW0.out.cell (i := 7) rfl
  have cG00 : (w3).cell? ⟨w.heap.size + 1, 0, none⟩ = some (.slice a0 g.1.length c0) := HG0.out.cell (i := 0) rfl
  have cG01 : (w3).cell? ⟨w.heap.size + 1, 1, none⟩ = some (.slice b0 g.2.length d0) := HG0.out.cell (i := 1) rfl
  have cN00 : (w3).cell? ⟨w.heap.size + 2, 0, none⟩ = some (.int .i64 x.1) := HN0.out.cell (i := 0) rfl
  have cN01 : (w3).cell? ⟨w.heap.size + 2, 1, none⟩ = some (.int .i64 x.2.1) := HN0.out.cell (i := 1) rfl
  have cN02 : (w3).cell? ⟨w.heap.size + 2, 2, none⟩ = some (.int .u64 x.2.2) := HN0.out.cell (i := 2) rfl
  cases hf : fewG g with
  | false =>
    go_wp2_with fail
    go_ret
    exact ⟨rfl, HX.out⟩
  | true =>
    obtain ⟨hr, hn60, _⟩ := few_of hf
    clear hf HF
    have HD := Lib.hid (fun (a b : Value) (w : World) (h : Gr w a b g) => Wg.do_any a b g th (o1 x) w h hr hp hx0 (by omega))
    have HE := do_err (th := th) (o := o1 x) hr hp (Int.le_refl 0) hx0
    have HP := fresh (th := th) (hh := hh) (i := i) hr hp hx0
    generalize doG g th (o1 x) = d at *
    generalize doA g th (o1 x) = an at *
    obtain ⟨e1, e2, e3⟩ := an
    replace HE : e1 ≠ 0 → d = g := fun h => (HE h).1
    replace HP := Lib.hid HP
    go_wp2_with fail
    refine (HD.out _ _ _ HG.out).mono ?_; rintro e w4 ⟨vk, uk, rfl, hg, hx⟩
    obtain ⟨ak, xk, rfl⟩ := hg.1.form
    obtain ⟨bk, yk, rfl⟩ := Gr.Ma.form hg.2
    clear cW00 cW01 cW02 cW03 cW04 cW05 cW06 cW07 cG00 cG01 cN00 cN01 cN02
    replace HX := Lib.hid (HX.out.trans hx)
    replace HW0 := Lib.hid (HW0.out.ext hx)
    replace HG0 := Lib.hid (HG0.out.ext hx)
    replace HN0 := Lib.hid (HN0.out.ext hx)
    replace HG := Lib.hid (HG.out.ext hx)
    have HGk := Lib.hid hg
    clear hg hx
    unfold anv
    obtain ⟨wB5, hwB5⟩ : ∃ wX, wX = ((w4.alloc (.cells #[.slice ak d.1.length xk, .slice bk d.2.length yk] 25)).alloc (.cells #[.int .i64 e1, .int .u64 e2, .bool e3] 35)) := ⟨_, rfl⟩
    have hxn : Ext w4 wB5 := hwB5 ▸ (((Ext.refl w4).alloc _).alloc _)
    replace HX := Lib.hid (HX.out.trans hxn)
    replace HW0 := Lib.hid (HW0.out.ext hxn)
    replace HG0 := Lib.hid (HG0.out.ext hxn)
    replace HN0 := Lib.hid (HN0.out.ext hxn)
    replace HG := Lib.hid (HG.out.ext hxn)
    replace HGk := Lib.hid (HGk.out.ext hxn)
    have HKk := Lib.hid (show Blk wB5 (w4.heap.size) #[.slice ak d.1.length xk, .slice bk d.2.length yk] 25 from hwB5 ▸ ((blk_at (by simp)).alloc _))
    have HAk := Lib.hid (show Blk wB5 (w4.heap.size + 1) #[.int .i64 e1, .int .u64 e2, .bool e3] 35 from hwB5 ▸ (blk_at (by simp)))
    clear hxn
    have cW00 : (((w4.alloc (.cells #[.slice ak d.1.length xk, .slice bk d.2.length yk] 25)).alloc (.cells #[.int .i64 e1, .int .u64 e2, .bool e3] 35))).cell? ⟨w.heap.size, 0, none⟩ = some (.slice a0 g.1.length c0) := by rw [← hwB5]; exact HW0.out.cell (i := 0) rfl
    have cW01 : (((w4.alloc (.cells #[.slice ak d.1.length xk, .slice bk d.2.length yk] 25)).alloc (.cells #[.int .i64 e1, .int .u64 e2, .bool e3] 35))).cell? ⟨w.heap.size, 1, none⟩ = some (.slice b0 g.2.length d0) := by rw [← hwB5]; exact HW0.out.cell (i := 1) rfl
    have cW02 : (((w4.alloc (.cells #[.slice ak d.1.length xk, .slice bk d.2.length yk] 25)).alloc (.cells #[.int .i64 e1, .int .u64 e2, .bool e3] 35))).cell? ⟨w.heap.size, 2, none⟩ = some (.int .i64 th) := by rw [← hwB5]; exact HW0.out.cell (i := 2) rfl
    have cW03 : (((w4.alloc (.cells #[.slice ak d.1.length xk, .slice bk d.2.length yk] 25)).alloc (.cells #[.int .i64 e1, .int .u64 e2, .bool e3] 35))).cell? ⟨w.heap.size, 3, none⟩ = some (.int .i64 x.1) := by rw [← hwB5]; exact HW0.out.cell (i := 3) rfl
    have cW04 : (((w4.alloc (.cells #[.slice ak d.1.length xk, .slice bk d.2.length yk] 25)).alloc (.cells #[.int .i64 e1, .int .u64 e2, .bool e3] 35))).cell? ⟨w.heap.size, 4, none⟩ = some (.int .i64 x.2.1) := by rw [← hwB5]; exact HW0.out.cell (i := 4) rfl
    have cW05 : (((w4.alloc (.cells #[.slice ak d.1.length xk, .slice bk d.2.length yk] 25)).alloc (.cells #[.int .i64 e1, .int .u64 e2, .bool e3] 35))).cell? ⟨w.heap.size, 5, none⟩ = some (.int .u64 x.2.2) := by rw [← hwB5]; exact HW0.out.cell (i := 5) rfl
    have cW06 : (((w4.alloc (.cells #[.slice ak d.1.length xk, .slice bk d.2.length yk] 25)).alloc (.cells #[.int .i64 e1, .int .u64 e2, .bool e3] 35))).cell? ⟨w.heap.size, 6, none⟩ = some (.int .i64 i) := by rw [← hwB5]; exact HW0.out.cell (i := 6) rfl
    have cW07 : (((w4.alloc (.cells #[.slice ak d.1.length xk, .slice bk d.2.length yk] 25)).alloc (.cells #[.int .i64 e1, .int .u64 e2, .bool e3] 35))).cell? ⟨w.heap.size, 7, none⟩ = some (.int .i64 hh) := by rw [← hwB5]; exact HW0.out.cell (i := 7) rfl
    have cG00 : (((w4.alloc (.cells #[.slice ak d.1.length xk, .slice bk d.2.length yk] 25)).alloc (.cells #[.int .i64 e1, .int .u64 e2, .bool e3] 35))).cell? ⟨w.heap.size + 1, 0, none⟩ = some (.slice a0 g.1.length c0) := by rw [← hwB5]; exact HG0.out.cell (i := 0) rfl
    have cG01 : (((w4.alloc (.cells #[.slice ak d.1.length xk, .slice bk d.2.length yk] 25)).alloc (.cells #[.int .i64 e1, .int .u64 e2, .bool e3] 35))).cell? ⟨w.heap.size + 1, 1, none⟩ = some (.slice b0 g.2.length d0) := by rw [← hwB5]; exact HG0.out.cell (i := 1) rfl
    have cN00 : (((w4.alloc (.cells #[.slice ak d.1.length xk, .slice bk d.2.length yk] 25)).alloc (.cells #[.int .i64 e1, .int .u64 e2, .bool e3] 35))).cell? ⟨w.heap.size + 2, 0, none⟩ = some (.int .i64 x.1) := by rw [← hwB5]; exact HN0.out.cell (i := 0) rfl
    have cN01 : (((w4.alloc (.cells #[.slice ak d.1.length xk, .slice bk d.2.length yk] 25)).alloc (.cells #[.int .i64 e1, .int .u64 e2, .bool e3] 35))).cell? ⟨w.heap.size + 2, 1, none⟩ = some (.int .i64 x.2.1) := by rw [← hwB5]; exact HN0.out.cell (i := 1) rfl
    have cN02 : (((w4.alloc (.cells #[.slice ak d.1.length xk, .slice bk d.2.length yk] 25)).alloc (.cells #[.int .i64 e1, .int .u64 e2, .bool e3] 35))).cell? ⟨w.heap.size + 2, 2, none⟩ = some (.int .u64 x.2.2) := by rw [← hwB5]; exact HN0.out.cell (i := 2) rfl
    by_cases h0 : e1 = 0
    case neg =>
      replace HE := (HE h0).symm
      subst HE
      have hb0 : (e1 == 0) = false := by simpa using h0
      clear HP
      go_wp2_with fail
      rw [← hwB5]
      clear hwB5
      clear cW00 cW01 cW02 cW03 cW04 cW05 cW06 cW07 cG00 cG01 cN00 cN01 cN02
      have cW00 : (wB5).cell? ⟨w.heap.size, 0, none⟩ = some (.slice a0 g.1.length c0) := HW0.out.cell (i := 0) rfl
      have cW01 : (wB5).cell? ⟨w.heap.size, 1, none⟩ = some (.slice b0 g.2.length d0) := HW0.out.cell (i := 1) rfl
      have cW02 : (wB5).cell? ⟨w.heap.size, 2, none⟩ = some (.int .i64 th) := HW0.out.cell (i := 2) rfl
      have cW03 : (wB5).cell? ⟨w.heap.size, 3, none⟩ = some (.int .i64 x.1) := HW0.out.cell (i := 3) rfl
      have cW04 : (wB5).cell? ⟨w.heap.size, 4, none⟩ = some (.int .i64 x.2.1) := HW0.out.cell (i := 4) rfl
      have cW05 : (wB5).cell? ⟨w.heap.size, 5, none⟩ = some (.int .u64 x.2.2) := HW0.out.cell (i := 5) rfl
      have cW06 : (wB5).cell? ⟨w.heap.size, 6, none⟩ = some (.int .i64 i) := HW0.out.cell (i := 6) rfl
      have cW07 : (wB5).cell? ⟨w.heap.size, 7, none⟩ = some (.int .i64 hh) := HW0.out.cell (i := 7) rfl
      have cG00 : (wB5).cell? ⟨w.heap.size + 1, 0, none⟩ = some (.slice a0 g.1.length c0) := HG0.out.cell (i := 0) rfl
      have cG01 : (wB5).cell? ⟨w.heap.size + 1, 1, none⟩ = some (.slice b0 g.2.length d0) := HG0.out.cell (i := 1) rfl
      have cN00 : (wB5).cell? ⟨w.heap.size + 2, 0, none⟩ = some (.int .i64 x.1) := HN0.out.cell (i := 0) rfl
      have cN01 : (wB5).cell? ⟨w.heap.size + 2, 1, none⟩ = some (.int .i64 x.2.1) := HN0.out.cell (i := 1) rfl
      have cN02 : (wB5).cell? ⟨w.heap.size + 2, 2, none⟩ = some (.int .u64 x.2.2) := HN0.out.cell (i := 2) rfl
      have cKk0 : (wB5).cell? ⟨w4.heap.size, 0, none⟩ = some (.slice ak g.1.length xk) := HKk.out.cell (i := 0) rfl
      have cKk1 : (wB5).cell? ⟨w4.heap.size, 1, none⟩ = some (.slice bk g.2.length yk) := HKk.out.cell (i := 1) rfl
      have cAk0 : (wB5).cell? ⟨w4.heap.size + 1, 0, none⟩ = some (.int .i64 e1) := HAk.out.cell (i := 0) rfl
      have cAk1 : (wB5).cell? ⟨w4.heap.size + 1, 1, none⟩ = some (.int .u64 e2) := HAk.out.cell (i := 1) rfl
      have cAk2 : (wB5).cell? ⟨w4.heap.size + 1, 2, none⟩ = some (.bool e3) := HAk.out.cell (i := 2) rfl
      refine ((Sm.same_any _ _ _ _ _ _ _ HGk.out HG.out)).mono ?_; rintro e w6 ⟨rfl, hx⟩
      clear cW00 cW01 cW02 cW03 cW04 cW05 cW06 cW07 cG00 cG01 cN00 cN01 cN02 cKk0 cKk1 cAk0 cAk1 cAk2
      replace HX := Lib.hid (HX.out.trans hx)
      replace HW0 := Lib.hid (HW0.out.ext hx)
      replace HG0 := Lib.hid (HG0.out.ext hx)
      replace HN0 := Lib.hid (HN0.out.ext hx)
      replace HKk := Lib.hid (HKk.out.ext hx)
      replace HAk := Lib.hid (HAk.out.ext hx)
      replace HG := Lib.hid (HG.out.ext hx)
      replace HGk := Lib.hid (HGk.out.ext hx)
      clear hx
      have cW00 : (w6).cell? ⟨w.heap.size, 0, none⟩ = some (.slice a0 g.1.length c0) := HW0.out.cell (i := 0) rfl
      have cW01 : (w6).cell? ⟨w.heap.size, 1, none⟩ = some (.slice b0 g.2.length d0) := HW0.out.cell (i := 1) rfl
      have cW02 : (w6).cell? ⟨w.heap.size, 2, none⟩ = some (.int .i64 th) := HW0.out.cell (i := 2) rfl
      have cW03 : (w6).cell? ⟨w.heap.size, 3, none⟩ = some (.int .i64 x.1) := HW0.out.cell (i := 3) rfl
      have cW04 : (w6).cell? ⟨w.heap.size, 4, none⟩ = some (.int .i64 x.2.1) := HW0.out.cell (i := 4) rfl
      have cW05 : (w6).cell? ⟨w.heap.size, 5, none⟩ = some (.int .u64 x.2.2) := HW0.out.cell (i := 5) rfl
      have cW06 : (w6).cell? ⟨w.heap.size, 6, none⟩ = some (.int .i64 i) := HW0.out.cell (i := 6) rfl
      have cW07 : (w6).cell? ⟨w.heap.size, 7, none⟩ = some (.int .i64 hh) := HW0.out.cell (i := 7) rfl
      have cG00 : (w6).cell? ⟨w.heap.size + 1, 0, none⟩ = some (.slice a0 g.1.length c0) := HG0.out.cell (i := 0) rfl
      have cG01 : (w6).cell? ⟨w.heap.size + 1, 1, none⟩ = some (.slice b0 g.2.length d0) := HG0.out.cell (i := 1) rfl
      have cN00 : (w6).cell? ⟨w.heap.size + 2, 0, none⟩ = some (.int .i64 x.1) := HN0.out.cell (i := 0) rfl
      have cN01 : (w6).cell? ⟨w.heap.size + 2, 1, none⟩ = some (.int .i64 x.2.1) := HN0.out.cell (i := 1) rfl
      have cN02 : (w6).cell? ⟨w.heap.size + 2, 2, none⟩ = some (.int .u64 x.2.2) := HN0.out.cell (i := 2) rfl
      have cKk0 : (w6).cell? ⟨w4.heap.size, 0, none⟩ = some (.slice ak g.1.length xk) := HKk.out.cell (i := 0) rfl
      have cKk1 : (w6).cell? ⟨w4.heap.size, 1, none⟩ = some (.slice bk g.2.length yk) := HKk.out.cell (i := 1) rfl
      have cAk0 : (w6).cell? ⟨w4.heap.size + 1, 0, none⟩ = some (.int .i64 e1) := HAk.out.cell (i := 0) rfl
      have cAk1 : (w6).cell? ⟨w4.heap.size + 1, 1, none⟩ = some (.int .u64 e2) := HAk.out.cell (i := 1) rfl
      have cAk2 : (w6).cell? ⟨w4.heap.size + 1, 2, none⟩ = some (.bool e3) := HAk.out.cell (i := 2) rfl
      go_wp2_with fail
      go_ret
      exact ⟨by first | rfl | (simp; done), HX.out⟩
    case pos =>
      subst h0
      obtain ⟨⟨ht0, ht1⟩, hr', hp', hd1, hd2, hsame, hget, hfol⟩ := HP.out rfl
      clear HE HP
      obtain ⟨p, up, hxp, hcp, hsp⟩ := Ma.at_ uS szS HG.out.2 ht0 ht1
      obtain ⟨rp, qp, rfl⟩ : ∃ a c, up = .slice a (rowOf g th.toNat).length c := Row.form hsp
      have hlp : ∀ (ty : TypeId) (W : World), (Builtin.len_ #[42] ty #[.slice rp (rowOf g th.toNat).length qp]).run Try.prog W = .ok (.int .i64 (rowOf g th.toNat).length) W := Sl.len uI hsp
      have smp : ((rowOf g th.toNat).length : Int) ≤ 140737488355328 := Sl.small hsp
      clear hsp
      rw [hwB5] at hcp
      obtain ⟨q, hq⟩ : ∃ q : Int, ((rowOf g th.toNat).length : Int) = q := ⟨_, rfl⟩
      have hq0 : 0 ≤ q := by omega
      rw [hq] at hlp smp hsame hget hfol
      have hdl : d.1.length ≤ 1000 := by omega
      have HD2 := Lib.hid (fun (a b : Value) (w : World) (h : Gr w a b d) => Wg.do_any a b d th (o8 hh q) w h hr' hp' (Int.le_refl 0) hdl)
      generalize doG d th (o8 hh q) = d2 at *
      generalize doA d th (o8 hh q) = an2 at *
      obtain ⟨s1, s2, s3⟩ := an2
      have HD3 := Lib.hid (fun (a b : Value) (w : World) (h : Gr w a b d) => Wg.do_any a b d th (o2 q i) w h hr' hp' (Int.le_refl 0) hdl)
      generalize doG d th (o2 q i) = d3 at *
      generalize doA d th (o2 q i) = an3 at *
      obtain ⟨t1, t2, t3⟩ := an3
      have HD4 := Lib.hid (fun (a b : Value) (w : World) (h : Gr w a b d) => Wg.do_any a b d th (o3 q i) w h hr' hp' (Int.le_refl 0) hdl)
      generalize doG d th (o3 q i) = d4 at *
      generalize doA d th (o3 q i) = an4 at *
      obtain ⟨f1, f2, f3⟩ := an4
      replace hsame : s3 = decide (hh = q) := hsame
      replace hget : t2 = 0 := hget
      subst s3
      subst t2
      replace hfol := Lib.hid hfol
      replace hd2 := Lib.hid hd2
      replace hq := Lib.hid hq
      clear hr' hp' hdl hd1
      go_wp2_with fail
      rw [← hwB5]
      clear hwB5
      clear cW00 cW01 cW02 cW03 cW04 cW05 cW06 cW07 cG00 cG01 cN00 cN01 cN02
      have cW00 : (wB5).cell? ⟨w.heap.size, 0, none⟩ = some (.slice a0 g.1.length c0) := HW0.out.cell (i := 0) rfl
      have cW01 : (wB5).cell? ⟨w.heap.size, 1, none⟩ = some (.slice b0 g.2.length d0) := HW0.out.cell (i := 1) rfl
      have cW02 : (wB5).cell? ⟨w.heap.size, 2, none⟩ = some (.int .i64 th) := HW0.out.cell (i := 2) rfl
      have cW03 : (wB5).cell? ⟨w.heap.size, 3, none⟩ = some (.int .i64 x.1) := HW0.out.cell (i := 3) rfl
      have cW04 : (wB5).cell? ⟨w.heap.size, 4, none⟩ = some (.int .i64 x.2.1) := HW0.out.cell (i := 4) rfl
      have cW05 : (wB5).cell? ⟨w.heap.size, 5, none⟩ = some (.int .u64 x.2.2) := HW0.out.cell (i := 5) rfl
      have cW06 : (wB5).cell? ⟨w.heap.size, 6, none⟩ = some (.int .i64 i) := HW0.out.cell (i := 6) rfl
      have cW07 : (wB5).cell? ⟨w.heap.size, 7, none⟩ = some (.int .i64 hh) := HW0.out.cell (i := 7) rfl
      have cG00 : (wB5).cell? ⟨w.heap.size + 1, 0, none⟩ = some (.slice a0 g.1.length c0) := HG0.out.cell (i := 0) rfl
      have cG01 : (wB5).cell? ⟨w.heap.size + 1, 1, none⟩ = some (.slice b0 g.2.length d0) := HG0.out.cell (i := 1) rfl
      have cN00 : (wB5).cell? ⟨w.heap.size + 2, 0, none⟩ = some (.int .i64 x.1) := HN0.out.cell (i := 0) rfl
      have cN01 : (wB5).cell? ⟨w.heap.size + 2, 1, none⟩ = some (.int .i64 x.2.1) := HN0.out.cell (i := 1) rfl
      have cN02 : (wB5).cell? ⟨w.heap.size + 2, 2, none⟩ = some (.int .u64 x.2.2) := HN0.out.cell (i := 2) rfl
      have cKk0 : (wB5).cell? ⟨w4.heap.size, 0, none⟩ = some (.slice ak d.1.length xk) := HKk.out.cell (i := 0) rfl
      have cKk1 : (wB5).cell? ⟨w4.heap.size, 1, none⟩ = some (.slice bk d.2.length yk) := HKk.out.cell (i := 1) rfl
      have cAk0 : (wB5).cell? ⟨w4.heap.size + 1, 0, none⟩ = some (.int .i64 0) := HAk.out.cell (i := 0) rfl
      have cAk1 : (wB5).cell? ⟨w4.heap.size + 1, 1, none⟩ = some (.int .u64 e2) := HAk.out.cell (i := 1) rfl
      have cAk2 : (wB5).cell? ⟨w4.heap.size + 1, 2, none⟩ = some (.bool e3) := HAk.out.cell (i := 2) rfl
      clear hcp hxp hlp
      refine (HD2.out _ _ _ HGk.out).mono ?_; rintro e w7 ⟨vz, uz, rfl, hg, hx⟩
      obtain ⟨az, xz, rfl⟩ := hg.1.form
      obtain ⟨bz, yz, rfl⟩ := Gr.Ma.form hg.2
      clear cW00 cW01 cW02 cW03 cW04 cW05 cW06 cW07 cG00 cG01 cN00 cN01 cN02 cKk0 cKk1 cAk0 cAk1 cAk2
      replace HX := Lib.hid (HX.out.trans hx)
      replace HW0 := Lib.hid (HW0.out.ext hx)
      replace HG0 := Lib.hid (HG0.out.ext hx)
      replace HN0 := Lib.hid (HN0.out.ext hx)
      replace HKk := Lib.hid (HKk.out.ext hx)
      replace HAk := Lib.hid (HAk.out.ext hx)
      replace HG := Lib.hid (HG.out.ext hx)
      replace HGk := Lib.hid (HGk.out.ext hx)
      have HGz := Lib.hid hg
      clear hg hx
      unfold anv
      obtain ⟨wB8, hwB8⟩ : ∃ wX, wX = ((w7.alloc (.cells #[.slice az d2.1.length xz, .slice bz d2.2.length yz] 25)).alloc (.cells #[.int .i64 s1, .int .u64 s2, .bool (decide (hh = q))] 35)) := ⟨_, rfl⟩
      have hxn : Ext w7 wB8 := hwB8 ▸ (((Ext.refl w7).alloc _).alloc _)
      replace HX := Lib.hid (HX.out.trans hxn)
      replace HW0 := Lib.hid (HW0.out.ext hxn)
      replace HG0 := Lib.hid (HG0.out.ext hxn)
      replace HN0 := Lib.hid (HN0.out.ext hxn)
      replace HKk := Lib.hid (HKk.out.ext hxn)
      replace HAk := Lib.hid (HAk.out.ext hxn)
      replace HG := Lib.hid (HG.out.ext hxn)
      replace HGk := Lib.hid (HGk.out.ext hxn)
      replace HGz := Lib.hid (HGz.out.ext hxn)
      have HKz := Lib.hid (show Blk wB8 (w7.heap.size) #[.slice az d2.1.length xz, .slice bz d2.2.length yz] 25 from hwB8 ▸ ((blk_at (by simp)).alloc _))
      have HAz := Lib.hid (show Blk wB8 (w7.heap.size + 1) #[.int .i64 s1, .int .u64 s2, .bool (decide (hh = q))] 35 from hwB8 ▸ (blk_at (by simp)))
      clear hxn
      have cW00 : (((w7.alloc (.cells #[.slice az d2.1.length xz, .slice bz d2.2.length yz] 25)).alloc (.cells #[.int .i64 s1, .int .u64 s2, .bool (decide (hh = q))] 35))).cell? ⟨w.heap.size, 0, none⟩ = some (.slice a0 g.1.length c0) := by rw [← hwB8]; exact HW0.out.cell (i := 0) rfl
      have cW01 : (((w7.alloc (.cells #[.slice az d2.1.length xz, .slice bz d2.2.length yz] 25)).alloc (.cells #[.int .i64 s1, .int .u64 s2, .bool (decide (hh = q))] 35))).cell? ⟨w.heap.size, 1, none⟩ = some (.slice b0 g.2.length d0) := by rw [← hwB8]; exact HW0.out.cell (i := 1) rfl
      have cW02 : (((w7.alloc (.cells #[.slice az d2.1.length xz, .slice bz d2.2.length yz] 25)).alloc (.cells #[.int .i64 s1, .int .u64 s2, .bool (decide (hh = q))] 35))).cell? ⟨w.heap.size, 2, none⟩ = some (.int .i64 th) := by rw [← hwB8]; exact HW0.out.cell (i := 2) rfl
      have cW03 : (((w7.alloc (.cells #[.slice az d2.1.length xz, .slice bz d2.2.length yz] 25)).alloc (.cells #[.int .i64 s1, .int .u64 s2, .bool (decide (hh = q))] 35))).cell? ⟨w.heap.size, 3, none⟩ = some (.int .i64 x.1) := by rw [← hwB8]; exact HW0.out.cell (i := 3) rfl
      have cW04 : (((w7.alloc (.cells #[.slice az d2.1.length xz, .slice bz d2.2.length yz] 25)).alloc (.cells #[.int .i64 s1, .int .u64 s2, .bool (decide (hh = q))] 35))).cell? ⟨w.heap.size, 4, none⟩ = some (.int .i64 x.2.1) := by rw [← hwB8]; exact HW0.out.cell (i := 4) rfl
      have cW05 : (((w7.alloc (.cells #[.slice az d2.1.length xz, .slice bz d2.2.length yz] 25)).alloc (.cells #[.int .i64 s1, .int .u64 s2, .bool (decide (hh = q))] 35))).cell? ⟨w.heap.size, 5, none⟩ = some (.int .u64 x.2.2) := by rw [← hwB8]; exact HW0.out.cell (i := 5) rfl
      have cW06 : (((w7.alloc (.cells #[.slice az d2.1.length xz, .slice bz d2.2.length yz] 25)).alloc (.cells #[.int .i64 s1, .int .u64 s2, .bool (decide (hh = q))] 35))).cell? ⟨w.heap.size, 6, none⟩ = some (.int .i64 i) := by rw [← hwB8]; exact HW0.out.cell (i := 6) rfl
      have cW07 : (((w7.alloc (.cells #[.slice az d2.1.length xz, .slice bz d2.2.length yz] 25)).alloc (.cells #[.int .i64 s1, .int .u64 s2, .bool (decide (hh = q))] 35))).cell? ⟨w.heap.size, 7, none⟩ = some (.int .i64 hh) := by rw [← hwB8]; exact HW0.out.cell (i := 7) rfl
      have cG00 : (((w7.alloc (.cells #[.slice az d2.1.length xz, .slice bz d2.2.length yz] 25)).alloc (.cells #[.int .i64 s1, .int .u64 s2, .bool (decide (hh = q))] 35))).cell? ⟨w.heap.size + 1, 0, none⟩ = some (.slice a0 g.1.length c0) := by rw [← hwB8]; exact HG0.out.cell (i := 0) rfl
      have cG01 : (((w7.alloc (.cells #[.slice az d2.1.length xz, .slice bz d2.2.length yz] 25)).alloc (.cells #[.int .i64 s1, .int .u64 s2, .bool (decide (hh = q))] 35))).cell? ⟨w.heap.size + 1, 1, none⟩ = some (.slice b0 g.2.length d0) := by rw [← hwB8]; exact HG0.out.cell (i := 1) rfl
      have cN00 : (((w7.alloc (.cells #[.slice az d2.1.length xz, .slice bz d2.2.length yz] 25)).alloc (.cells #[.int .i64 s1, .int .u64 s2, .bool (decide (hh = q))] 35))).cell? ⟨w.heap.size + 2, 0, none⟩ = some (.int .i64 x.1) := by rw [← hwB8]; exact HN0.out.cell (i := 0) rfl
      have cN01 : (((w7.alloc (.cells #[.slice az d2.1.length xz, .slice bz d2.2.length yz] 25)).alloc (.cells #[.int .i64 s1, .int .u64 s2, .bool (decide (hh = q))] 35))).cell? ⟨w.heap.size + 2, 1, none⟩ = some (.int .i64 x.2.1) := by rw [← hwB8]; exact HN0.out.cell (i := 1) rfl
      have cN02 : (((w7.alloc (.cells #[.slice az d2.1.length xz, .slice bz d2.2.length yz] 25)).alloc (.cells #[.int .i64 s1, .int .u64 s2, .bool (decide (hh = q))] 35))).cell? ⟨w.heap.size + 2, 2, none⟩ = some (.int .u64 x.2.2) := by rw [← hwB8]; exact HN0.out.cell (i := 2) rfl
      have cKk0 : (((w7.alloc (.cells #[.slice az d2.1.length xz, .slice bz d2.2.length yz] 25)).alloc (.cells #[.int .i64 s1, .int .u64 s2, .bool (decide (hh = q))] 35))).cell? ⟨w4.heap.size, 0, none⟩ = some (.slice ak d.1.length xk) := by rw [← hwB8]; exact HKk.out.cell (i := 0) rfl
      have cKk1 : (((w7.alloc (.cells #[.slice az d2.1.length xz, .slice bz d2.2.length yz] 25)).alloc (.cells #[.int .i64 s1, .int .u64 s2, .bool (decide (hh = q))] 35))).cell? ⟨w4.heap.size, 1, none⟩ = some (.slice bk d.2.length yk) := by rw [← hwB8]; exact HKk.out.cell (i := 1) rfl
      have cAk0 : (((w7.alloc (.cells #[.slice az d2.1.length xz, .slice bz d2.2.length yz] 25)).alloc (.cells #[.int .i64 s1, .int .u64 s2, .bool (decide (hh = q))] 35))).cell? ⟨w4.heap.size + 1, 0, none⟩ = some (.int .i64 0) := by rw [← hwB8]; exact HAk.out.cell (i := 0) rfl
      have cAk1 : (((w7.alloc (.cells #[.slice az d2.1.length xz, .slice bz d2.2.length yz] 25)).alloc (.cells #[.int .i64 s1, .int .u64 s2, .bool (decide (hh = q))] 35))).cell? ⟨w4.heap.size + 1, 1, none⟩ = some (.int .u64 e2) := by rw [← hwB8]; exact HAk.out.cell (i := 1) rfl
      have cAk2 : (((w7.alloc (.cells #[.slice az d2.1.length xz, .slice bz d2.2.length yz] 25)).alloc (.cells #[.int .i64 s1, .int .u64 s2, .bool (decide (hh = q))] 35))).cell? ⟨w4.heap.size + 1, 2, none⟩ = some (.bool e3) := by rw [← hwB8]; exact HAk.out.cell (i := 2) rfl
      go_wp2_with fail
      rw [← hwB8]
      clear hwB8
      clear cW00 cW01 cW02 cW03 cW04 cW05 cW06 cW07 cG00 cG01 cN00 cN01 cN02 cKk0 cKk1 cAk0 cAk1 cAk2
      have cW00 : (wB8).cell? ⟨w.heap.size, 0, none⟩ = some (.slice a0 g.1.length c0) := HW0.out.cell (i := 0) rfl
      have cW01 : (wB8).cell? ⟨w.heap.size, 1, none⟩ = some (.slice b0 g.2.length d0) := HW0.out.cell (i := 1) rfl
      have cW02 : (wB8).cell? ⟨w.heap.size, 2, none⟩ = some (.int .i64 th) := HW0.out.cell (i := 2) rfl
      have cW03 : (wB8).cell? ⟨w.heap.size, 3, none⟩ = some (.int .i64 x.1) := HW0.out.cell (i := 3) rfl
      have cW04 : (wB8).cell? ⟨w.heap.size, 4, none⟩ = some (.int .i64 x.2.1) := HW0.out.cell (i := 4) rfl
      have cW05 : (wB8).cell? ⟨w.heap.size, 5, none⟩ = some (.int .u64 x.2.2) := HW0.out.cell (i := 5) rfl
      have cW06 : (wB8).cell? ⟨w.heap.size, 6, none⟩ = some (.int .i64 i) := HW0.out.cell (i := 6) rfl
      have cW07 : (wB8).cell? ⟨w.heap.size, 7, none⟩ = some (.int .i64 hh) := HW0.out.cell (i := 7) rfl
      have cG00 : (wB8).cell? ⟨w.heap.size + 1, 0, none⟩ = some (.slice a0 g.1.length c0) := HG0.out.cell (i := 0) rfl
      have cG01 : (wB8).cell? ⟨w.heap.size + 1, 1, none⟩ = some (.slice b0 g.2.length d0) := HG0.out.cell (i := 1) rfl
      have cN00 : (wB8).cell? ⟨w.heap.size + 2, 0, none⟩ = some (.int .i64 x.1) := HN0.out.cell (i := 0) rfl
      have cN01 : (wB8).cell? ⟨w.heap.size + 2, 1, none⟩ = some (.int .i64 x.2.1) := HN0.out.cell (i := 1) rfl
      have cN02 : (wB8).cell? ⟨w.heap.size + 2, 2, none⟩ = some (.int .u64 x.2.2) := HN0.out.cell (i := 2) rfl
      have cKk0 : (wB8).cell? ⟨w4.heap.size, 0, none⟩ = some (.slice ak d.1.length xk) := HKk.out.cell (i := 0) rfl
      have cKk1 : (wB8).cell? ⟨w4.heap.size, 1, none⟩ = some (.slice bk d.2.length yk) := HKk.out.cell (i := 1) rfl
      have cAk0 : (wB8).cell? ⟨w4.heap.size + 1, 0, none⟩ = some (.int .i64 0) := HAk.out.cell (i := 0) rfl
      have cAk1 : (wB8).cell? ⟨w4.heap.size + 1, 1, none⟩ = some (.int .u64 e2) := HAk.out.cell (i := 1) rfl
      have cAk2 : (wB8).cell? ⟨w4.heap.size + 1, 2, none⟩ = some (.bool e3) := HAk.out.cell (i := 2) rfl
      have cKz0 : (wB8).cell? ⟨w7.heap.size, 0, none⟩ = some (.slice az d2.1.length xz) := HKz.out.cell (i := 0) rfl
      have cKz1 : (wB8).cell? ⟨w7.heap.size, 1, none⟩ = some (.slice bz d2.2.length yz) := HKz.out.cell (i := 1) rfl
      have cAz0 : (wB8).cell? ⟨w7.heap.size + 1, 0, none⟩ = some (.int .i64 s1) := HAz.out.cell (i := 0) rfl
      have cAz1 : (wB8).cell? ⟨w7.heap.size + 1, 1, none⟩ = some (.int .u64 s2) := HAz.out.cell (i := 1) rfl
      have cAz2 : (wB8).cell? ⟨w7.heap.size + 1, 2, none⟩ = some (.bool (decide (hh = q))) := HAz.out.cell (i := 2) rfl
      refine (HD3.out _ _ _ HGk.out).mono ?_; rintro e w9 ⟨vm, um, rfl, hg, hx⟩
      obtain ⟨am, xm, rfl⟩ := hg.1.form
      obtain ⟨bm, ym, rfl⟩ := Gr.Ma.form hg.2
      clear cW00 cW01 cW02 cW03 cW04 cW05 cW06 cW07 cG00 cG01 cN00 cN01 cN02 cKk0 cKk1 cAk0 cAk1 cAk2 cKz0 cKz1 cAz0 cAz1 cAz2
      replace HX := Lib.hid (HX.out.trans hx)
      replace HW0 := Lib.hid (HW0.out.ext hx)
      replace HG0 := Lib.hid (HG0.out.ext hx)
      replace HN0 := Lib.hid (HN0.out.ext hx)
      replace HKk := Lib.hid (HKk.out.ext hx)
      replace HAk := Lib.hid (HAk.out.ext hx)
      replace HKz := Lib.hid (HKz.out.ext hx)
      replace HAz := Lib.hid (HAz.out.ext hx)
      replace HG := Lib.hid (HG.out.ext hx)
      replace HGk := Lib.hid (HGk.out.ext hx)
      replace HGz := Lib.hid (HGz.out.ext hx)
      have HGm := Lib.hid hg
      clear hg hx
      unfold anv
      obtain ⟨wB10, hwB10⟩ : ∃ wX, wX = ((w9.alloc (.cells #[.slice am d3.1.length xm, .slice bm d3.2.length ym] 25)).alloc (.cells #[.int .i64 t1, .int .u64 0, .bool t3] 35)) := ⟨_, rfl⟩
      have hxn : Ext w9 wB10 := hwB10 ▸ (((Ext.refl w9).alloc _).alloc _)
      replace HX := Lib.hid (HX.out.trans hxn)
      replace HW0 := Lib.hid (HW0.out.ext hxn)
      replace HG0 := Lib.hid (HG0.out.ext hxn)
      replace HN0 := Lib.hid (HN0.out.ext hxn)
      replace HKk := Lib.hid (HKk.out.ext hxn)
      replace HAk := Lib.hid (HAk.out.ext hxn)
      replace HKz := Lib.hid (HKz.out.ext hxn)
      replace HAz := Lib.hid (HAz.out.ext hxn)
      replace HG := Lib.hid (HG.out.ext hxn)
      replace HGk := Lib.hid (HGk.out.ext hxn)
      replace HGz := Lib.hid (HGz.out.ext hxn)
      replace HGm := Lib.hid (HGm.out.ext hxn)
      have HKm := Lib.hid (show Blk wB10 (w9.heap.size) #[.slice am d3.1.length xm, .slice bm d3.2.length ym] 25 from hwB10 ▸ ((blk_at (by simp)).alloc _))
      have HAm := Lib.hid (show Blk wB10 (w9.heap.size + 1) #[.int .i64 t1, .int .u64 0, .bool t3] 35 from hwB10 ▸ (blk_at (by simp)))
      clear hxn
      have cW00 : (((w9.alloc (.cells #[.slice am d3.1.length xm, .slice bm d3.2.length ym] 25)).alloc (.cells #[.int .i64 t1, .int .u64 0, .bool t3] 35))).cell? ⟨w.heap.size, 0, none⟩ = some (.slice a0 g.1.length c0) := by rw [← hwB10]; exact HW0.out.cell (i := 0) rfl
      have cW01 : (((w9.alloc (.cells #[.slice am d3.1.length xm, .slice bm d3.2.length ym] 25)).alloc (.cells #[.int .i64 t1, .int .u64 0, .bool t3] 35))).cell? ⟨w.heap.size, 1, none⟩ = some (.slice b0 g.2.length d0) := by rw [← hwB10]; exact HW0.out.cell (i := 1) rfl
      have cW02 : (((w9.alloc (.cells #[.slice am d3.1.length xm, .slice bm d3.2.length ym] 25)).alloc (.cells #[.int .i64 t1, .int .u64 0, .bool t3] 35))).cell? ⟨w.heap.size, 2, none⟩ = some (.int .i64 th) := by rw [← hwB10]; exact HW0.out.cell (i := 2) rfl
      have cW03 : (((w9.alloc (.cells #[.slice am d3.1.length xm, .slice bm d3.2.length ym] 25)).alloc (.cells #[.int .i64 t1, .int .u64 0, .bool t3] 35))).cell? ⟨w.heap.size, 3, none⟩ = some (.int .i64 x.1) := by rw [← hwB10]; exact HW0.out.cell (i := 3) rfl
      have cW04 : (((w9.alloc (.cells #[.slice am d3.1.length xm, .slice bm d3.2.length ym] 25)).alloc (.cells #[.int .i64 t1, .int .u64 0, .bool t3] 35))).cell? ⟨w.heap.size, 4, none⟩ = some (.int .i64 x.2.1) := by rw [← hwB10]; exact HW0.out.cell (i := 4) rfl
      have cW05 : (((w9.alloc (.cells #[.slice am d3.1.length xm, .slice bm d3.2.length ym] 25)).alloc (.cells #[.int .i64 t1, .int .u64 0, .bool t3] 35))).cell? ⟨w.heap.size, 5, none⟩ = some (.int .u64 x.2.2) := by rw [← hwB10]; exact HW0.out.cell (i := 5) rfl
      have cW06 : (((w9.alloc (.cells #[.slice am d3.1.length xm, .slice bm d3.2.length ym] 25)).alloc (.cells #[.int .i64 t1, .int .u64 0, .bool t3] 35))).cell? ⟨w.heap.size, 6, none⟩ = some (.int .i64 i) := by rw [← hwB10]; exact HW0.out.cell (i := 6) rfl
      have cW07 : (((w9.alloc (.cells #[.slice am d3.1.length xm, .slice bm d3.2.length ym] 25)).alloc (.cells #[.int .i64 t1, .int .u64 0, .bool t3] 35))).cell? ⟨w.heap.size, 7, none⟩ = some (.int .i64 hh) := by rw [← hwB10]; exact HW0.out.cell (i := 7) rfl
      have cG00 : (((w9.alloc (.cells #[.slice am d3.1.length xm, .slice bm d3.2.length ym] 25)).alloc (.cells #[.int .i64 t1, .int .u64 0, .bool t3] 35))).cell? ⟨w.heap.size + 1, 0, none⟩ = some (.slice a0 g.1.length c0) := by rw [← hwB10]; exact HG0.out.cell (i := 0) rfl
      have cG01 : (((w9.alloc (.cells #[.slice am d3.1.length xm, .slice bm d3.2.length ym] 25)).alloc (.cells #[.int .i64 t1, .int .u64 0, .bool t3] 35))).cell? ⟨w.heap.size + 1, 1, none⟩ = some (.slice b0 g.2.length d0) := by rw [← hwB10]; exact HG0.out.cell (i := 1) rfl
      have cN00 : (((w9.alloc (.cells #[.slice am d3.1.length xm, .slice bm d3.2.length ym] 25)).alloc (.cells #[.int .i64 t1, .int .u64 0, .bool t3] 35))).cell? ⟨w.heap.size + 2, 0, none⟩ = some (.int .i64 x.1) := by rw [← hwB10]; exact HN0.out.cell (i := 0) rfl
      have cN01 : (((w9.alloc (.cells #[.slice am d3.1.length xm, .slice bm d3.2.length ym] 25)).alloc (.cells #[.int .i64 t1, .int .u64 0, .bool t3] 35))).cell? ⟨w.heap.size + 2, 1, none⟩ = some (.int .i64 x.2.1) := by rw [← hwB10]; exact HN0.out.cell (i := 1) rfl
      have cN02 : (((w9.alloc (.cells #[.slice am d3.1.length xm, .slice bm d3.2.length ym] 25)).alloc (.cells #[.int .i64 t1, .int .u64 0, .bool t3] 35))).cell? ⟨w.heap.size + 2, 2, none⟩ = some (.int .u64 x.2.2) := by rw [← hwB10]; exact HN0.out.cell (i := 2) rfl
      have cKk0 : (((w9.alloc (.cells #[.slice am d3.1.length xm, .slice bm d3.2.length ym] 25)).alloc (.cells #[.int .i64 t1, .int .u64 0, .bool t3] 35))).cell? ⟨w4.heap.size, 0, none⟩ = some (.slice ak d.1.length xk) := by rw [← hwB10]; exact HKk.out.cell (i := 0) rfl
      have cKk1 : (((w9.alloc (.cells #[.slice am d3.1.length xm, .slice bm d3.2.length ym] 25)).alloc (.cells #[.int .i64 t1, .int .u64 0, .bool t3] 35))).cell? ⟨w4.heap.size, 1, none⟩ = some (.slice bk d.2.length yk) := by rw [← hwB10]; exact HKk.out.cell (i := 1) rfl
      have cAk0 : (((w9.alloc (.cells #[.slice am d3.1.length xm, .slice bm d3.2.length ym] 25)).alloc (.cells #[.int .i64 t1, .int .u64 0, .bool t3] 35))).cell? ⟨w4.heap.size + 1, 0, none⟩ = some (.int .i64 0) := by rw [← hwB10]; exact HAk.out.cell (i := 0) rfl
      have cAk1 : (((w9.alloc (.cells #[.slice am d3.1.length xm, .slice bm d3.2.length ym] 25)).alloc (.cells #[.int .i64 t1, .int .u64 0, .bool t3] 35))).cell? ⟨w4.heap.size + 1, 1, none⟩ = some (.int .u64 e2) := by rw [← hwB10]; exact HAk.out.cell (i := 1) rfl
      have cAk2 : (((w9.alloc (.cells #[.slice am d3.1.length xm, .slice bm d3.2.length ym] 25)).alloc (.cells #[.int .i64 t1, .int .u64 0, .bool t3] 35))).cell? ⟨w4.heap.size + 1, 2, none⟩ = some (.bool e3) := by rw [← hwB10]; exact HAk.out.cell (i := 2) rfl
      have cKz0 : (((w9.alloc (.cells #[.slice am d3.1.length xm, .slice bm d3.2.length ym] 25)).alloc (.cells #[.int .i64 t1, .int .u64 0, .bool t3] 35))).cell? ⟨w7.heap.size, 0, none⟩ = some (.slice az d2.1.length xz) := by rw [← hwB10]; exact HKz.out.cell (i := 0) rfl
      have cKz1 : (((w9.alloc (.cells #[.slice am d3.1.length xm, .slice bm d3.2.length ym] 25)).alloc (.cells #[.int .i64 t1, .int .u64 0, .bool t3] 35))).cell? ⟨w7.heap.size, 1, none⟩ = some (.slice bz d2.2.length yz) := by rw [← hwB10]; exact HKz.out.cell (i := 1) rfl
      have cAz0 : (((w9.alloc (.cells #[.slice am d3.1.length xm, .slice bm d3.2.length ym] 25)).alloc (.cells #[.int .i64 t1, .int .u64 0, .bool t3] 35))).cell? ⟨w7.heap.size + 1, 0, none⟩ = some (.int .i64 s1) := by rw [← hwB10]; exact HAz.out.cell (i := 0) rfl
      have cAz1 : (((w9.alloc (.cells #[.slice am d3.1.length xm, .slice bm d3.2.length ym] 25)).alloc (.cells #[.int .i64 t1, .int .u64 0, .bool t3] 35))).cell? ⟨w7.heap.size + 1, 1, none⟩ = some (.int .u64 s2) := by rw [← hwB10]; exact HAz.out.cell (i := 1) rfl
      have cAz2 : (((w9.alloc (.cells #[.slice am d3.1.length xm, .slice bm d3.2.length ym] 25)).alloc (.cells #[.int .i64 t1, .int .u64 0, .bool t3] 35))).cell? ⟨w7.heap.size + 1, 2, none⟩ = some (.bool (decide (hh = q))) := by rw [← hwB10]; exact HAz.out.cell (i := 2) rfl
      go_wp2_with fail
      rw [← hwB10]
      clear hwB10
      clear cW00 cW01 cW02 cW03 cW04 cW05 cW06 cW07 cG00 cG01 cN00 cN01 cN02 cKk0 cKk1 cAk0 cAk1 cAk2 cKz0 cKz1 cAz0 cAz1 cAz2
      have cW00 : (wB10).cell? ⟨w.heap.size, 0, none⟩ = some (.slice a0 g.1.length c0) := HW0.out.cell (i := 0) rfl
      have cW01 : (wB10).cell? ⟨w.heap.size, 1, none⟩ = some (.slice b0 g.2.length d0) := HW0.out.cell (i := 1) rfl
      have cW02 : (wB10).cell? ⟨w.heap.size, 2, none⟩ = some (.int .i64 th) := HW0.out.cell (i := 2) rfl
      have cW03 : (wB10).cell? ⟨w.heap.size, 3, none⟩ = some (.int .i64 x.1) := HW0.out.cell (i := 3) rfl
      have cW04 : (wB10).cell? ⟨w.heap.size, 4, none⟩ = some (.int .i64 x.2.1) := HW0.out.cell (i := 4) rfl
      have cW05 : (wB10).cell? ⟨w.heap.size, 5, none⟩ = some (.int .u64 x.2.2) := HW0.out.cell (i := 5) rfl
      have cW06 : (wB10).cell? ⟨w.heap.size, 6, none⟩ = some (.int .i64 i) := HW0.out.cell (i := 6) rfl
      have cW07 : (wB10).cell? ⟨w.heap.size, 7, none⟩ = some (.int .i64 hh) := HW0.out.cell (i := 7) rfl
      have cG00 : (wB10).cell? ⟨w.heap.size + 1, 0, none⟩ = some (.slice a0 g.1.length c0) := HG0.out.cell (i := 0) rfl
      have cG01 : (wB10).cell? ⟨w.heap.size + 1, 1, none⟩ = some (.slice b0 g.2.length d0) := HG0.out.cell (i := 1) rfl
      have cN00 : (wB10).cell? ⟨w.heap.size + 2, 0, none⟩ = some (.int .i64 x.1) := HN0.out.cell (i := 0) rfl
      have cN01 : (wB10).cell? ⟨w.heap.size + 2, 1, none⟩ = some (.int .i64 x.2.1) := HN0.out.cell (i := 1) rfl
      have cN02 : (wB10).cell? ⟨w.heap.size + 2, 2, none⟩ = some (.int .u64 x.2.2) := HN0.out.cell (i := 2) rfl
      have cKk0 : (wB10).cell? ⟨w4.heap.size, 0, none⟩ = some (.slice ak d.1.length xk) := HKk.out.cell (i := 0) rfl
      have cKk1 : (wB10).cell? ⟨w4.heap.size, 1, none⟩ = some (.slice bk d.2.length yk) := HKk.out.cell (i := 1) rfl
      have cAk0 : (wB10).cell? ⟨w4.heap.size + 1, 0, none⟩ = some (.int .i64 0) := HAk.out.cell (i := 0) rfl
      have cAk1 : (wB10).cell? ⟨w4.heap.size + 1, 1, none⟩ = some (.int .u64 e2) := HAk.out.cell (i := 1) rfl
      have cAk2 : (wB10).cell? ⟨w4.heap.size + 1, 2, none⟩ = some (.bool e3) := HAk.out.cell (i := 2) rfl
      have cKz0 : (wB10).cell? ⟨w7.heap.size, 0, none⟩ = some (.slice az d2.1.length xz) := HKz.out.cell (i := 0) rfl
      have cKz1 : (wB10).cell? ⟨w7.heap.size, 1, none⟩ = some (.slice bz d2.2.length yz) := HKz.out.cell (i := 1) rfl
      have cAz0 : (wB10).cell? ⟨w7.heap.size + 1, 0, none⟩ = some (.int .i64 s1) := HAz.out.cell (i := 0) rfl
      have cAz1 : (wB10).cell? ⟨w7.heap.size + 1, 1, none⟩ = some (.int .u64 s2) := HAz.out.cell (i := 1) rfl
      have cAz2 : (wB10).cell? ⟨w7.heap.size + 1, 2, none⟩ = some (.bool (decide (hh = q))) := HAz.out.cell (i := 2) rfl
      have cKm0 : (wB10).cell? ⟨w9.heap.size, 0, none⟩ = some (.slice am d3.1.length xm) := HKm.out.cell (i := 0) rfl
      have cKm1 : (wB10).cell? ⟨w9.heap.size, 1, none⟩ = some (.slice bm d3.2.length ym) := HKm.out.cell (i := 1) rfl
      have cAm0 : (wB10).cell? ⟨w9.heap.size + 1, 0, none⟩ = some (.int .i64 t1) := HAm.out.cell (i := 0) rfl
      have cAm1 : (wB10).cell? ⟨w9.heap.size + 1, 1, none⟩ = some (.int .u64 0) := HAm.out.cell (i := 1) rfl
      have cAm2 : (wB10).cell? ⟨w9.heap.size + 1, 2, none⟩ = some (.bool t3) := HAm.out.cell (i := 2) rfl
      refine (HD4.out _ _ _ HGk.out).mono ?_; rintro e w11 ⟨vf, uf, rfl, hg, hx⟩
      obtain ⟨af, xf, rfl⟩ := hg.1.form
      obtain ⟨bf, yf, rfl⟩ := Gr.Ma.form hg.2
      clear cW00 cW01 cW02 cW03 cW04 cW05 cW06 cW07 cG00 cG01 cN00 cN01 cN02 cKk0 cKk1 cAk0 cAk1 cAk2 cKz0 cKz1 cAz0 cAz1 cAz2 cKm0 cKm1 cAm0 cAm1 cAm2
      replace HX := Lib.hid (HX.out.trans hx)
      replace HW0 := Lib.hid (HW0.out.ext hx)
      replace HG0 := Lib.hid (HG0.out.ext hx)
      replace HN0 := Lib.hid (HN0.out.ext hx)
      replace HKk := Lib.hid (HKk.out.ext hx)
      replace HAk := Lib.hid (HAk.out.ext hx)
      replace HKz := Lib.hid (HKz.out.ext hx)
      replace HAz := Lib.hid (HAz.out.ext hx)
      replace HKm := Lib.hid (HKm.out.ext hx)
      replace HAm := Lib.hid (HAm.out.ext hx)
      replace HG := Lib.hid (HG.out.ext hx)
      replace HGk := Lib.hid (HGk.out.ext hx)
      replace HGz := Lib.hid (HGz.out.ext hx)
      replace HGm := Lib.hid (HGm.out.ext hx)
      have HGf := Lib.hid hg
      clear hg hx
      unfold anv
      obtain ⟨wB12, hwB12⟩ : ∃ wX, wX = ((w11.alloc (.cells #[.slice af d4.1.length xf, .slice bf d4.2.length yf] 25)).alloc (.cells #[.int .i64 f1, .int .u64 f2, .bool f3] 35)) := ⟨_, rfl⟩
      have hxn : Ext w11 wB12 := hwB12 ▸ (((Ext.refl w11).alloc _).alloc _)
      replace HX := Lib.hid (HX.out.trans hxn)
      replace HW0 := Lib.hid (HW0.out.ext hxn)
      replace HG0 := Lib.hid (HG0.out.ext hxn)
      replace HN0 := Lib.hid (HN0.out.ext hxn)
      replace HKk := Lib.hid (HKk.out.ext hxn)
      replace HAk := Lib.hid (HAk.out.ext hxn)
      replace HKz := Lib.hid (HKz.out.ext hxn)
      replace HAz := Lib.hid (HAz.out.ext hxn)
      replace HKm := Lib.hid (HKm.out.ext hxn)
      replace HAm := Lib.hid (HAm.out.ext hxn)
      replace HG := Lib.hid (HG.out.ext hxn)
      replace HGk := Lib.hid (HGk.out.ext hxn)
      replace HGz := Lib.hid (HGz.out.ext hxn)
      replace HGm := Lib.hid (HGm.out.ext hxn)
      replace HGf := Lib.hid (HGf.out.ext hxn)
      have HKf := Lib.hid (show Blk wB12 (w11.heap.size) #[.slice af d4.1.length xf, .slice bf d4.2.length yf] 25 from hwB12 ▸ ((blk_at (by simp)).alloc _))
      have HAf := Lib.hid (show Blk wB12 (w11.heap.size + 1) #[.int .i64 f1, .int .u64 f2, .bool f3] 35 from hwB12 ▸ (blk_at (by simp)))
      clear hxn
      have cW00 : (((w11.alloc (.cells #[.slice af d4.1.length xf, .slice bf d4.2.length yf] 25)).alloc (.cells #[.int .i64 f1, .int .u64 f2, .bool f3] 35))).cell? ⟨w.heap.size, 0, none⟩ = some (.slice a0 g.1.length c0) := by rw [← hwB12]; exact HW0.out.cell (i := 0) rfl
      have cW01 : (((w11.alloc (.cells #[.slice af d4.1.length xf, .slice bf d4.2.length yf] 25)).alloc (.cells #[.int .i64 f1, .int .u64 f2, .bool f3] 35))).cell? ⟨w.heap.size, 1, none⟩ = some (.slice b0 g.2.length d0) := by rw [← hwB12]; exact HW0.out.cell (i := 1) rfl
      have cW02 : (((w11.alloc (.cells #[.slice af d4.1.length xf, .slice bf d4.2.length yf] 25)).alloc (.cells #[.int .i64 f1, .int .u64 f2, .bool f3] 35))).cell? ⟨w.heap.size, 2, none⟩ = some (.int .i64 th) := by rw [← hwB12]; exact HW0.out.cell (i := 2) rfl
      have cW03 : (((w11.alloc (.cells #[.slice af d4.1.length xf, .slice bf d4.2.length yf] 25)).alloc (.cells #[.int .i64 f1, .int .u64 f2, .bool f3] 35))).cell? ⟨w.heap.size, 3, none⟩ = some (.int .i64 x.1) := by rw [← hwB12]; exact HW0.out.cell (i := 3) rfl
      have cW04 : (((w11.alloc (.cells #[.slice af d4.1.length xf, .slice bf d4.2.length yf] 25)).alloc (.cells #[.int .i64 f1, .int .u64 f2, .bool f3] 35))).cell? ⟨w.heap.size, 4, none⟩ = some (.int .i64 x.2.1) := by rw [← hwB12]; exact HW0.out.cell (i := 4) rfl
      have cW05 : (((w11.alloc (.cells #[.slice af d4.1.length xf, .slice bf d4.2.length yf] 25)).alloc (.cells #[.int .i64 f1, .int .u64 f2, .bool f3] 35))).cell? ⟨w.heap.size, 5, none⟩ = some (.int .u64 x.2.2) := by rw [← hwB12]; exact HW0.out.cell (i := 5) rfl
      have cW06 : (((w11.alloc (.cells #[.slice af d4.1.length xf, .slice bf d4.2.length yf] 25)).alloc (.cells #[.int .i64 f1, .int .u64 f2, .bool f3] 35))).cell? ⟨w.heap.size, 6, none⟩ = some (.int .i64 i) := by rw [← hwB12]; exact HW0.out.cell (i := 6) rfl
      have cW07 : (((w11.alloc (.cells #[.slice af d4.1.length xf, .slice bf d4.2.length yf] 25)).alloc (.cells #[.int .i64 f1, .int .u64 f2, .bool f3] 35))).cell? ⟨w.heap.size, 7, none⟩ = some (.int .i64 hh) := by rw [← hwB12]; exact HW0.out.cell (i := 7) rfl
      have cG00 : (((w11.alloc (.cells #[.slice af d4.1.length xf, .slice bf d4.2.length yf] 25)).alloc (.cells #[.int .i64 f1, .int .u64 f2, .bool f3] 35))).cell? ⟨w.heap.size + 1, 0, none⟩ = some (.slice a0 g.1.length c0) := by rw [← hwB12]; exact HG0.out.cell (i := 0) rfl
      have cG01 : (((w11.alloc (.cells #[.slice af d4.1.length xf, .slice bf d4.2.length yf] 25)).alloc (.cells #[.int .i64 f1, .int .u64 f2, .bool f3] 35))).cell? ⟨w.heap.size + 1, 1, none⟩ = some (.slice b0 g.2.length d0) := by rw [← hwB12]; exact HG0.out.cell (i := 1) rfl
      have cN00 : (((w11.alloc (.cells #[.slice af d4.1.length xf, .slice bf d4.2.length yf] 25)).alloc (.cells #[.int .i64 f1, .int .u64 f2, .bool f3] 35))).cell? ⟨w.heap.size + 2, 0, none⟩ = some (.int .i64 x.1) := by rw [← hwB12]; exact HN0.out.cell (i := 0) rfl
      have cN01 : (((w11.alloc (.cells #[.slice af d4.1.length xf, .slice bf d4.2.length yf] 25)).alloc (.cells #[.int .i64 f1, .int .u64 f2, .bool f3] 35))).cell? ⟨w.heap.size + 2, 1, none⟩ = some (.int .i64 x.2.1) := by rw [← hwB12]; exact HN0.out.cell (i := 1) rfl
      have cN02 : (((w11.alloc (.cells #[.slice af d4.1.length xf, .slice bf d4.2.length yf] 25)).alloc (.cells #[.int .i64 f1, .int .u64 f2, .bool f3] 35))).cell? ⟨w.heap.size + 2, 2, none⟩ = some (.int .u64 x.2.2) := by rw [← hwB12]; exact HN0.out.cell (i := 2) rfl
      have cKk0 : (((w11.alloc (.cells #[.slice af d4.1.length xf, .slice bf d4.2.length yf] 25)).alloc (.cells #[.int .i64 f1, .int .u64 f2, .bool f3] 35))).cell? ⟨w4.heap.size, 0, none⟩ = some (.slice ak d.1.length xk) := by rw [← hwB12]; exact HKk.out.cell (i := 0) rfl
      have cKk1 : (((w11.alloc (.cells #[.slice af d4.1.length xf, .slice bf d4.2.length yf] 25)).alloc (.cells #[.int .i64 f1, .int .u64 f2, .bool f3] 35))).cell? ⟨w4.heap.size, 1, none⟩ = some (.slice bk d.2.length yk) := by rw [← hwB12]; exact HKk.out.cell (i := 1) rfl
      have cAk0 : (((w11.alloc (.cells #[.slice af d4.1.length xf, .slice bf d4.2.length yf] 25)).alloc (.cells #[.int .i64 f1, .int .u64 f2, .bool f3] 35))).cell? ⟨w4.heap.size + 1, 0, none⟩ = some (.int .i64 0) := by rw [← hwB12]; exact HAk.out.cell (i := 0) rfl
      have cAk1 : (((w11.alloc (.cells #[.slice af d4.1.length xf, .slice bf d4.2.length yf] 25)).alloc (.cells #[.int .i64 f1, .int .u64 f2, .bool f3] 35))).cell? ⟨w4.heap.size + 1, 1, none⟩ = some (.int .u64 e2) := by rw [← hwB12]; exact HAk.out.cell (i := 1) rfl
      have cAk2 : (((w11.alloc (.cells #[.slice af d4.1.length xf, .slice bf d4.2.length yf] 25)).alloc (.cells #[.int .i64 f1, .int .u64 f2, .bool f3] 35))).cell? ⟨w4.heap.size + 1, 2, none⟩ = some (.bool e3) := by rw [← hwB12]; exact HAk.out.cell (i := 2) rfl
      have cKz0 : (((w11.alloc (.cells #[.slice af d4.1.length xf, .slice bf d4.2.length yf] 25)).alloc (.cells #[.int .i64 f1, .int .u64 f2, .bool f3] 35))).cell? ⟨w7.heap.size, 0, none⟩ = some (.slice az d2.1.length xz) := by rw [← hwB12]; exact HKz.out.cell (i := 0) rfl
      have cKz1 : (((w11.alloc (.cells #[.slice af d4.1.length xf, .slice bf d4.2.length yf] 25)).alloc (.cells #[.int .i64 f1, .int .u64 f2, .bool f3] 35))).cell? ⟨w7.heap.size, 1, none⟩ = some (.slice bz d2.2.length yz) := by rw [← hwB12]; exact HKz.out.cell (i := 1) rfl
      have cAz0 : (((w11.alloc (.cells #[.slice af d4.1.length xf, .slice bf d4.2.length yf] 25)).alloc (.cells #[.int .i64 f1, .int .u64 f2, .bool f3] 35))).cell? ⟨w7.heap.size + 1, 0, none⟩ = some (.int .i64 s1) := by rw [← hwB12]; exact HAz.out.cell (i := 0) rfl
      have cAz1 : (((w11.alloc (.cells #[.slice af d4.1.length xf, .slice bf d4.2.length yf] 25)).alloc (.cells #[.int .i64 f1, .int .u64 f2, .bool f3] 35))).cell? ⟨w7.heap.size + 1, 1, none⟩ = some (.int .u64 s2) := by rw [← hwB12]; exact HAz.out.cell (i := 1) rfl
      have cAz2 : (((w11.alloc (.cells #[.slice af d4.1.length xf, .slice bf d4.2.length yf] 25)).alloc (.cells #[.int .i64 f1, .int .u64 f2, .bool f3] 35))).cell? ⟨w7.heap.size + 1, 2, none⟩ = some (.bool (decide (hh = q))) := by rw [← hwB12]; exact HAz.out.cell (i := 2) rfl
      have cKm0 : (((w11.alloc (.cells #[.slice af d4.1.length xf, .slice bf d4.2.length yf] 25)).alloc (.cells #[.int .i64 f1, .int .u64 f2, .bool f3] 35))).cell? ⟨w9.heap.size, 0, none⟩ = some (.slice am d3.1.length xm) := by rw [← hwB12]; exact HKm.out.cell (i := 0) rfl
      have cKm1 : (((w11.alloc (.cells #[.slice af d4.1.length xf, .slice bf d4.2.length yf] 25)).alloc (.cells #[.int .i64 f1, .int .u64 f2, .bool f3] 35))).cell? ⟨w9.heap.size, 1, none⟩ = some (.slice bm d3.2.length ym) := by rw [← hwB12]; exact HKm.out.cell (i := 1) rfl
      have cAm0 : (((w11.alloc (.cells #[.slice af d4.1.length xf, .slice bf d4.2.length yf] 25)).alloc (.cells #[.int .i64 f1, .int .u64 f2, .bool f3] 35))).cell? ⟨w9.heap.size + 1, 0, none⟩ = some (.int .i64 t1) := by rw [← hwB12]; exact HAm.out.cell (i := 0) rfl
      have cAm1 : (((w11.alloc (.cells #[.slice af d4.1.length xf, .slice bf d4.2.length yf] 25)).alloc (.cells #[.int .i64 f1, .int .u64 f2, .bool f3] 35))).cell? ⟨w9.heap.size + 1, 1, none⟩ = some (.int .u64 0) := by rw [← hwB12]; exact HAm.out.cell (i := 1) rfl
      have cAm2 : (((w11.alloc (.cells #[.slice af d4.1.length xf, .slice bf d4.2.length yf] 25)).alloc (.cells #[.int .i64 f1, .int .u64 f2, .bool f3] 35))).cell? ⟨w9.heap.size + 1, 2, none⟩ = some (.bool t3) := by rw [← hwB12]; exact HAm.out.cell (i := 2) rfl
      have HC : (hh = q ∧ (hh == q) = true ∧ decide (hh = q) = true) ∨ ((hh == q) = false ∧ decide (hh = q) = false) := by
        by_cases hc : hh = q
        · exact .inl ⟨hc, by simpa using hc, by simpa using hc⟩
        · exact .inr ⟨by simpa using hc, by simpa using hc⟩
      rcases hfol.out with hf | ⟨hf, hb2, r, hrow, hrl⟩
      case inl =>
        replace hf : ¬ f1 = 0 := hf
        have hb0 : (f1 == 0) = false := by simpa using hf
        clear hfol hd2 hq hl1 hl2
        rcases HC with ⟨hc, hcb, hcd⟩ | ⟨hcb, hcd⟩
        ·
          rw [hcd] at cAz2
          subst hwB12
          go_wp2_with fail
          go_ret
          exact ⟨by first | rfl | (simp; done), HX.out⟩
        ·
          rw [hcd] at cAz2
          subst hwB12
          go_wp2_with fail
          go_ret
          exact ⟨by first | rfl | (simp; done), HX.out⟩
      case inr =>
        obtain rfl : f1 = 0 := hf
        clear hfol
        have hlb : ∀ (ty : TypeId) (W : World), (Builtin.len_ #[23] ty #[.slice bf d4.2.length yf]).run Try.prog W = .ok (.int .i64 g.2.length) W := fun ty W => by rw [Ma.len uS HGf.out.2, hb2]
        have ht2 : th < d4.2.length := by rw [hb2]; exact ht1
        have hlr : ((rowOf d4 th.toNat).length : Int) = q + 2 := by
          have := hq.out
          rw [hrow]; simp; omega
        obtain ⟨p, up, hxp, hcp, hsp⟩ := Ma.at_ uS szS HGf.out.2 ht0 ht2
        obtain ⟨rp, qp, rfl⟩ : ∃ a c, up = .slice a (rowOf d4 th.toNat).length c := Row.form hsp
        have hlp : ∀ (ty : TypeId) (W : World), (Builtin.len_ #[42] ty #[.slice rp (rowOf d4 th.toNat).length qp]).run Try.prog W = .ok (.int .i64 (q + 2)) W := fun ty W => by rw [← hlr]; exact Sl.len uI hsp ty W
        obtain ⟨p2, hx2, hc2⟩ := Sl.at_ uI szI hsp (i := q + 1) (by omega) (by show q + 1 < ((rowOf d4 th.toNat).length : Int); omega)
        have hv : (d4.2.getD th.toNat []).getD (q + 1).toNat 0 = 0 := by
          have h1 : d4.2.getD th.toNat [] = r ++ [0] := hrow
          have h2 : (q + 1).toNat = r.length := by have := hq.out; omega
          rw [h1, h2]; simp [List.getD_eq_getElem?_getD]
        rw [hv] at hc2
        rw [hwB12] at hcp hc2
        clear hsp hb2 hrow hrl hlr hv hq hd2 hl1
        rcases HC with ⟨hc, hcb, hcd⟩ | ⟨hcb, hcd⟩
        ·
          rw [hcd] at cAz2
          subst hwB12
          go_wp2_with fail
          go_ret
          exact ⟨by first | rfl | (simp; done), HX.out⟩
        ·
          rw [hcd] at cAz2
          subst hwB12
          go_wp2_with fail
          go_ret
          exact ⟨by first | rfl | (simp; done), HX.out⟩

theorem walk (v0 : Value) (W : World) (r0 : Rd.V Try.prog W 52 v0) : Calls Try.prog 8 #[v0] W fun e w' => e = .returned (.bool true) ∧ Below W.heap.size W w' := by
  obtain ⟨cs, rfl, hs⟩ := r0.struct Try.underlying52
  obtain ⟨hl, _⟩ := hs.struct Try.underlying52
  rw [show Try.prog.cellsOf 52 = 8 by kernel_rfl] at hl
  obtain ⟨c0, c1, c2, c3, c4, c5, c6, c7, rfl⟩ := many_of hl
  obtain ⟨a, b, g, hab, hg, hwf⟩ := Gr.of_R (show Rd.R _ W _ [c0, c1] from Rd.R.field Try.underlying52 hs 0 rfl 0 2 25 rfl rfl (by kernel_rfl))
  obtain ⟨rfl, rfl⟩ : c0 = a ∧ c1 = b := by simpa using hab
  obtain ⟨th, h0, wth⟩ := (show Rd.R _ W _ [c2] from Rd.R.field Try.underlying52 hs 1 rfl 2 1 3 rfl rfl (by kernel_rfl)).int Try.underlying3
  obtain rfl : c2 = .int .i64 th := by simpa using h0
  obtain ⟨x, h1, wx⟩ := head_of_R (show Rd.R _ W _ [c3, c4, c5] from Rd.R.field Try.underlying52 hs 2 rfl 3 3 28 rfl rfl (by kernel_rfl))
  obtain ⟨rfl, rfl, rfl⟩ : c3 = .int .i64 x.1 ∧ c4 = .int .i64 x.2.1 ∧ c5 = .int .u64 x.2.2 := by simpa using h1
  obtain ⟨i, h2, wi⟩ := (show Rd.R _ W _ [c6] from Rd.R.field Try.underlying52 hs 3 rfl 6 1 3 rfl rfl (by kernel_rfl)).int Try.underlying3
  obtain rfl : c6 = .int .i64 i := by simpa using h2
  obtain ⟨hh, h3, whh⟩ := (show Rd.R _ W _ [c7] from Rd.R.field Try.underlying52 hs 4 rfl 7 1 3 rfl rfl (by kernel_rfl)).int Try.underlying3
  obtain rfl : c7 = .int .i64 hh := by simpa using h3
  exact (go c0 c1 g th i hh x (posG_of hwf) wx W hg).mono fun e w' ⟨he, hw⟩ => ⟨he, hw.below⟩

open Go.ChangeShapes Go.WideShapes Go.ChangeAt Go.RowKit
theorem own : ownKnob Try.prog.godebug = none := by kernel_rfl
theorem laidOut : laidOutB Try.prog = true := by kernel_rfl

set_option maxRecDepth 100000 in
theorem lifted (os : Os) (started : os.Started) (H : Type) (enc : TypeId × Value → H) :
    ReturnsInHanded {} Try.checked os 8 .any (Rows.graphFreshSpec.pre6 enc Try.prog Try.f8 Rows.graphFreshRow.domain false) (Rows.graphFreshSpec.post enc Try.prog Try.f8 false true false false) := by
  refine returnsInHanded_of_change_sized (C := Try.checked) own started (by kernel_rfl) Try.func8
    (ChangeSpec.witness6 (enc := enc) (C := Try.checked) false ⟨#[], #[.agg #[.slice none 0 0, .slice none 0 0, .int .i64 0, .int .i64 0, .int .i64 0, .int .u64 0, .int .i64 0, .int .i64 0]], []⟩ 12 (by kernel_rfl) (by kernel_rfl) (by kernel_rfl) (by kernel_rfl)) ?_
  intro W base args ds gs before hval0 hW _ hsz0 _
  have hval : ∀ (j : Nat) t v, Try.f8.params[j]? = some t → args[j]? = some v → Value.okWide Try.prog W .any base t v := hval0
  have hW' := hW
  obtain ⟨p, q, hA0, hV, rfl, _, _⟩ := hW
  have hA : DataW.TrodAll enc Try.prog W 0 (fun _ => true) true Try.f8.params.toList args.toList ds p := hA0
  obtain ⟨rfl, rfl⟩ := trodVars_none hV
  have hsz : (DataW.weightsEach Try.prog (Try.f8.params.toList ++ []) (ds ++ [])).all (· ≤ reachBytes) = true := hsz0
  rw [Try.params8] at hA hval hsz
  have hA2 := hA
  obtain ⟨v0, vs0, d0, ds0, p0, q0, hargs, rfl, rfl, h0, r0⟩ := trodAll_cons hA2
  obtain ⟨rfl, rfl, rfl⟩ := trodAll_nil r0
  obtain rfl : args = #[v0] := by cases args; simp_all
  have hR := Rd.trodAll_V hA (fun n hn => by simpa using List.all_eq_true.1 hsz n (by simpa using hn)) (fun j t v hj hv => hval j t v (by simpa using hj) (by simpa using hv))
  clear hA0 hval0 hA2
  refine (walk v0 W (hR 0 52 v0 rfl rfl)).mono fun e W' ⟨he, bel⟩ => ?_
  subst he
  exact ⟨_, rfl, _, _, _, [], _, [], hW', trodAll_mk1 (shut_bool Try.underlying4 _), Rd.trodAll_below laidOut bel (List.forall_mem_cons.2 ⟨⟨by kernel_rfl, of_decide_eq_true (by kernel_rfl)⟩, fun _ h => by cases h⟩) hA, rfl, bel.frame _, fun h => by cases h⟩

theorem over : Rows.graphFreshRow.holds Try.pinned (OpenSpec.ofChange Rows.graphFreshSpec) :=
  OpenClaim.holds_of_wide 8 Try.f8 rfl rfl rfl rfl rfl rfl rfl ⟨rfl, rfl, rfl, rfl, rfl⟩ rfl rfl rfl rfl rfl (by kernel_rfl) Try.func8 (by kernel_rfl)
    (of_decide_eq_true (by kernel_rfl)) (by unfold Func.isWrapper; first | (rw [if_pos (by decide +kernel)]; kernel_rfl) | (rw [if_neg (by decide +kernel)]; exact ⟨rfl, rfl⟩))
    (fun os started H enc _ => lifted os started H enc)

theorem proved : Rows.GraphFreshSaid := over
#print axioms proved
end Go.Proofs.Ytjhmlbhfnogdiaa.graphFresh
