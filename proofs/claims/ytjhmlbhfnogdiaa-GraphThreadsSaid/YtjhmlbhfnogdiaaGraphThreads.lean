/- GraphThreads holds for every input: what a thread does changes no other one's handles; where it writes no handle changes. No condition. -/
import Derived.Test.YtjhmlbhfnogdiaaRows
import Derived.Test.YtjhmlbhfnogdiaaOp
import Derived.Test.YtjhmlbhfnogdiaaPt
namespace Go.Proofs.Ytjhmlbhfnogdiaa.graphThreads
open Go.RowKit Go.Proofs.Ytjhmlbhfnogdiaa Go.Proofs.Ytjhmlbhfnogdiaa.Hd Go.Proofs.Ytjhmlbhfnogdiaa.Gr Go.Proofs.Ytjhmlbhfnogdiaa.Hg Go.Proofs.Ytjhmlbhfnogdiaa.Rr Go.Proofs.Ytjhmlbhfnogdiaa.Wk Go.Proofs.Ytjhmlbhfnogdiaa.Wp Go.Proofs.Ytjhmlbhfnogdiaa.Wa Go.Proofs.Ytjhmlbhfnogdiaa.Wc Go.Proofs.Ytjhmlbhfnogdiaa.Wf Go.Proofs.Ytjhmlbhfnogdiaa.Pl Go.Proofs.Ytjhmlbhfnogdiaa.Op Go.Proofs.Ytjhmlbhfnogdiaa.Pq Go.Proofs.Ytjhmlbhfnogdiaa.Pr
set_option linter.unusedVariables false

theorem many_of {α : Type} {l : List α} (h : l.length = 12) : ∃ x0 x1 x2 x3 x4 x5 x6 x7 x8 x9 x10 x11, l = [x0, x1, x2, x3, x4, x5, x6, x7, x8, x9, x10, x11] := by
  obtain ⟨x0, l, rfl⟩ := List.exists_cons_of_length_pos (show 0 < l.length by omega)
  replace h : l.length = 11 := by simpa using h
  obtain ⟨x1, l, rfl⟩ := List.exists_cons_of_length_pos (show 0 < l.length by omega)
  replace h : l.length = 10 := by simpa using h
  obtain ⟨x2, l, rfl⟩ := List.exists_cons_of_length_pos (show 0 < l.length by omega)
  replace h : l.length = 9 := by simpa using h
  obtain ⟨x3, l, rfl⟩ := List.exists_cons_of_length_pos (show 0 < l.length by omega)
  replace h : l.length = 8 := by simpa using h
  obtain ⟨x4, l, rfl⟩ := List.exists_cons_of_length_pos (show 0 < l.length by omega)
  replace h : l.length = 7 := by simpa using h
  obtain ⟨x5, l, rfl⟩ := List.exists_cons_of_length_pos (show 0 < l.length by omega)
  replace h : l.length = 6 := by simpa using h
  obtain ⟨x6, l, rfl⟩ := List.exists_cons_of_length_pos (show 0 < l.length by omega)
  replace h : l.length = 5 := by simpa using h
  obtain ⟨x7, l, rfl⟩ := List.exists_cons_of_length_pos (show 0 < l.length by omega)
  replace h : l.length = 4 := by simpa using h
  obtain ⟨x8, l, rfl⟩ := List.exists_cons_of_length_pos (show 0 < l.length by omega)
  replace h : l.length = 3 := by simpa using h
  obtain ⟨x9, l, rfl⟩ := List.exists_cons_of_length_pos (show 0 < l.length by omega)
  replace h : l.length = 2 := by simpa using h
  obtain ⟨x10, l, rfl⟩ := List.exists_cons_of_length_pos (show 0 < l.length by omega)
  replace h : l.length = 1 := by simpa using h
  obtain ⟨x11, l, rfl⟩ := List.exists_cons_of_length_pos (show 0 < l.length by omega)
  replace h : l.length = 0 := by simpa using h
  obtain rfl : l = [] := List.length_eq_zero_iff.1 h
  exact ⟨x0, x1, x2, x3, x4, x5, x6, x7, x8, x9, x10, x11, rfl⟩

set_option maxHeartbeats 16000000 in
theorem go (a b : Value) (g : Gph) (th other : Int) (o : Opn) (hp : posG g) (hv : 0 ≤ o.v) (hm : 0 ≤ o.new.2.2) (w : World) (h : Gr w a b g) :
    Calls Try.prog 4 #[.agg #[a, b, .int .i64 th, .int .i64 o.kind, .int .i64 o.h, .int .i64 o.i, .int .i64 o.k, .int .u64 o.v, .int .i64 o.new.1, .int .i64 o.new.2.1, .int .u64 o.new.2.2, .int .i64 other]] w fun e w' => e = .returned (.bool true) ∧ Ext w w' := by
  obtain ⟨a0, c0, rfl⟩ := h.1.form
  obtain ⟨b0, d0, rfl⟩ := Gr.Ma.form h.2
  have hl1 := h.1.len
  have hl2 := Ma.len uS h.2
  have hsm := h.1.small
  have HG := Lib.hid h
  have HF := Lib.hid (fun (w : World) (h : Gr w (.slice a0 g.1.length c0) (.slice b0 g.2.length d0) g) => few_any _ _ g hp w h)
  clear h
  go_enter Try.func4, Try.ntmps4
  have HX := Lib.hid (Ext.refl w)
  obtain ⟨wB1, hwB1⟩ : ∃ wX, wX = (((w.alloc (.cells #[.slice a0 g.1.length c0, .slice b0 g.2.length d0, .int .i64 th, .int .i64 o.kind, .int .i64 o.h, .int .i64 o.i, .int .i64 o.k, .int .u64 o.v, .int .i64 o.new.1, .int .i64 o.new.2.1, .int .u64 o.new.2.2, .int .i64 other] 41)).alloc (.cells #[.slice a0 g.1.length c0, .slice b0 g.2.length d0] 25)).alloc (.cells #[.int .i64 o.kind, .int .i64 o.h, .int .i64 o.i, .int .i64 o.k, .int .u64 o.v, .int .i64 o.new.1, .int .i64 o.new.2.1, .int .u64 o.new.2.2] 30)) := ⟨_, rfl⟩
  have hxn : Ext w wB1 := hwB1 ▸ ((((Ext.refl w).alloc _).alloc _).alloc _)
  replace HX := Lib.hid (HX.out.trans hxn)
  replace HG := Lib.hid (HG.out.ext hxn)
  have HW0 := Lib.hid (show Blk wB1 (w.heap.size) #[.slice a0 g.1.length c0, .slice b0 g.2.length d0, .int .i64 th, .int .i64 o.kind, .int .i64 o.h, .int .i64 o.i, .int .i64 o.k, .int .u64 o.v, .int .i64 o.new.1, .int .i64 o.new.2.1, .int .u64 o.new.2.2, .int .i64 other] 41 from hwB1 ▸ (((blk_at (by simp)).alloc _).alloc _))
  have HG0 := Lib.hid (show Blk wB1 (w.heap.size + 1) #[.slice a0 g.1.length c0, .slice b0 g.2.length d0] 25 from hwB1 ▸ ((blk_at (by simp)).alloc _))
  have HO0 := Lib.hid (show Blk wB1 (w.heap.size + 2) #[.int .i64 o.kind, .int .i64 o.h, .int .i64 o.i, .int .i64 o.k, .int .u64 o.v, .int .i64 o.new.1, .int .i64 o.new.2.1, .int .u64 o.new.2.2] 30 from hwB1 ▸ (blk_at (by simp)))
  clear hxn
  go_wp2_with fail
  rw [← hwB1]
  clear hwB1
  have cW00 : (wB1).cell? ⟨w.heap.size, 0, none⟩ = some (.slice a0 g.1.length c0) := HW0.out.cell (i := 0) rfl
  have cW01 : (wB1).cell? ⟨w.heap.size, 1, none⟩ = some (.slice b0 g.2.length d0) := HW0.out.cell (i := 1) rfl
  have cW02 : (wB1).cell? ⟨w.heap.size, 2, none⟩ = some (.int .i64 th) := HW0.out.cell (i := 2) rfl
  have cW03 : (wB1).cell? ⟨w.heap.size, 3, none⟩ = some (.int .i64 o.kind) := HW0.out.cell (i := 3) rfl
  have cW04 : (wB1).cell? ⟨w.heap.size, 4, none⟩ = some (.int .i64 o.h) := HW0.out.cell (i := 4) rfl
  have cW05 : (wB1).cell? ⟨w.heap.size, 5, none⟩ = some (.int .i64 o.i) := HW0.out.cell (i := 5) rfl
  have cW06 : (wB1).cell? ⟨w.heap.size, 6, none⟩ = some (.int .i64 o.k) := HW0.out.cell (i := 6) rfl
  have cW07 : (wB1).cell? ⟨w.heap.size, 7, none⟩ = some (.int .u64 o.v) := HW0.out.cell (i := 7) rfl
  have cW08 : (wB1).cell? ⟨w.heap.size, 8, none⟩ = some (.int .i64 o.new.1) := HW0.out.cell (i := 8) rfl
  have cW09 : (wB1).cell? ⟨w.heap.size, 9, none⟩ = some (.int .i64 o.new.2.1) := HW0.out.cell (i := 9) rfl
  have cW010 : (wB1).cell? ⟨w.heap.size, 10, none⟩ = some (.int .u64 o.new.2.2) := HW0.out.cell (i := 10) rfl
  have cW011 : (wB1).cell? ⟨w.heap.size, 11, none⟩ = some (.int .i64 other) := HW0.out.cell (i := 11) rfl
  have cG00 : (wB1).cell? ⟨w.heap.size + 1, 0, none⟩ = some (.slice a0 g.1.length c0) := HG0.out.cell (i := 0) rfl
  have cG01 : (wB1).cell? ⟨w.heap.size + 1, 1, none⟩ = some (.slice b0 g.2.length d0) := HG0.out.cell (i := 1) rfl
  have cO00 : (wB1).cell? ⟨w.heap.size + 2, 0, none⟩ = some (.int .i64 o.kind) := HO0.out.cell (i := 0) rfl
  have cO01 : (wB1).cell? ⟨w.heap.size + 2, 1, none⟩ = some (.int .i64 o.h) := HO0.out.cell (i := 1) rfl
  have cO02 : (wB1).cell? ⟨w.heap.size + 2, 2, none⟩ = some (.int .i64 o.i) := HO0.out.cell (i := 2) rfl
  have cO03 : (wB1).cell? ⟨w.heap.size + 2, 3, none⟩ = some (.int .i64 o.k) := HO0.out.cell (i := 3) rfl
  have cO04 : (wB1).cell? ⟨w.heap.size + 2, 4, none⟩ = some (.int .u64 o.v) := HO0.out.cell (i := 4) rfl
  have cO05 : (wB1).cell? ⟨w.heap.size + 2, 5, none⟩ = some (.int .i64 o.new.1) := HO0.out.cell (i := 5) rfl
  have cO06 : (wB1).cell? ⟨w.heap.size + 2, 6, none⟩ = some (.int .i64 o.new.2.1) := HO0.out.cell (i := 6) rfl
  have cO07 : (wB1).cell? ⟨w.heap.size + 2, 7, none⟩ = some (.int .u64 o.new.2.2) := HO0.out.cell (i := 7) rfl
  refine (Sh.shown_any _).mono ?_; rintro e w2 ⟨rfl, hx⟩
  clear cW00 cW01 cW02 cW03 cW04 cW05 cW06 cW07 cW08 cW09 cW010 cW011 cG00 cG01 cO00 cO01 cO02 cO03 cO04 cO05 cO06 cO07
  replace HX := Lib.hid (HX.out.trans hx)
  replace HW0 := Lib.hid (HW0.out.ext hx)
  replace HG0 := Lib.hid (HG0.out.ext hx)
  replace HO0 := Lib.hid (HO0.out.ext hx)
  replace HG := Lib.hid (HG.out.ext hx)
  clear hx
  have cW00 : (w2).cell? ⟨w.heap.size, 0, none⟩ = some (.slice a0 g.1.length c0) := HW0.out.cell (i := 0) rfl
  have cW01 : (w2).cell? ⟨w.heap.size, 1, none⟩ = some (.slice b0 g.2.length d0) := HW0.out.cell (i := 1) rfl
  have cW02 : (w2).cell? ⟨w.heap.size, 2, none⟩ = some (.int .i64 th) := HW0.out.cell (i := 2) rfl
  have cW03 : (w2).cell? ⟨w.heap.size, 3, none⟩ = some (.int .i64 o.kind) := HW0.out.cell (i := 3) rfl
  have cW04 : (w2).cell? ⟨w.heap.size, 4, none⟩ = some (.int .i64 o.h) := HW0.out.cell (i := 4) rfl
  have cW05 : (w2).cell? ⟨w.heap.size, 5, none⟩ = some (.int .i64 o.i) := HW0.out.cell (i := 5) rfl
  have cW06 : (w2).cell? ⟨w.heap.size, 6, none⟩ = some (.int .i64 o.k) := HW0.out.cell (i := 6) rfl
  have cW07 : (w2).cell? ⟨w.heap.size, 7, none⟩ = some (.int .u64 o.v) := HW0.out.cell (i := 7) rfl
  have cW08 : (w2).cell? ⟨w.heap.size, 8, none⟩ = some (.int .i64 o.new.1) := HW0.out.cell (i := 8) rfl
  have cW09 : (w2).cell? ⟨w.heap.size, 9, none⟩ = some (.int .i64 o.new.2.1) := HW0.out.cell (i := 9) rfl
  have cW010 : (w2).cell? ⟨w.heap.size, 10, none⟩ = some (.int .u64 o.new.2.2) := HW0.out.cell (i := 10) rfl
  have cW011 : (w2).cell? ⟨w.heap.size, 11, none⟩ = some (.int .i64 other) := HW0.out.cell (i := 11) rfl
  have cG00 : (w2).cell? ⟨w.heap.size + 1, 0, none⟩ = some (.slice a0 g.1.length c0) := HG0.out.cell (i := 0) rfl
  have cG01 : (w2).cell? ⟨w.heap.size + 1, 1, none⟩ = some (.slice b0 g.2.length d0) := HG0.out.cell (i := 1) rfl
  have cO00 : (w2).cell? ⟨w.heap.size + 2, 0, none⟩ = some (.int .i64 o.kind) := HO0.out.cell (i := 0) rfl
  have cO01 : (w2).cell? ⟨w.heap.size + 2, 1, none⟩ = some (.int .i64 o.h) := HO0.out.cell (i := 1) rfl
  have cO02 : (w2).cell? ⟨w.heap.size + 2, 2, none⟩ = some (.int .i64 o.i) := HO0.out.cell (i := 2) rfl
  have cO03 : (w2).cell? ⟨w.heap.size + 2, 3, none⟩ = some (.int .i64 o.k) := HO0.out.cell (i := 3) rfl
  have cO04 : (w2).cell? ⟨w.heap.size + 2, 4, none⟩ = some (.int .u64 o.v) := HO0.out.cell (i := 4) rfl
  have cO05 : (w2).cell? ⟨w.heap.size + 2, 5, none⟩ = some (.int .i64 o.new.1) := HO0.out.cell (i := 5) rfl
  have cO06 : (w2).cell? ⟨w.heap.size + 2, 6, none⟩ = some (.int .i64 o.new.2.1) := HO0.out.cell (i := 6) rfl
  have cO07 : (w2).cell? ⟨w.heap.size + 2, 7, none⟩ = some (.int .u64 o.new.2.2) := HO0.out.cell (i := 7) rfl
  go_wp2_with fail
  refine (HF.out _ HG.out).mono ?_; rintro e w3 ⟨rfl, hx⟩
  clear cW00 cW01 cW02 cW03 cW04 cW05 cW06 cW07 cW08 cW09 cW010 cW011 cG00 cG01 cO00 cO01 cO02 cO03 cO04 cO05 cO06 cO07
  replace HX := Lib.hid (HX.out.trans hx)
  replace HW0 := Lib.hid (HW0.out.ext hx)
  replace HG0 := Lib.hid (HG0.out.ext hx)
  replace HO0 := Lib.hid (HO0.out.ext hx)
  replace HG := Lib.hid (HG.out.ext hx)
  clear hx
  have cW00 : (w3).cell? ⟨w.heap.size, 0, none⟩ = some (.slice a0 g.1.length c0) := HW0.out.cell (i := 0) rfl
  have cW01 : (w3).cell? ⟨w.heap.size, 1, none⟩ = some (.slice b0 g.2.length d0) := HW0.out.cell (i := 1) rfl
  have cW02 : (w3).cell? ⟨w.heap.size, 2, none⟩ = some (.int .i64 th) := HW0.out.cell (i := 2) rfl
  have cW03 : (w3).cell? ⟨w.heap.size, 3, none⟩ = some (.int .i64 o.kind) := HW0.out.cell (i := 3) rfl
  have cW04 : (w3).cell? ⟨w.heap.size, 4, none⟩ = some (.int .i64 o.h) := HW0.out.cell (i := 4) rfl
  have cW05 : (w3).cell? ⟨w.heap.size, 5, none⟩ = some (.int .i64 o.i) := HW0.out.cell (i := 5) rfl
  have cW06 : (w3).cell? ⟨w.heap.size, 6, none⟩ = some (.int .i64 o.k) := HW0.out.cell (i := 6) rfl
  have cW07 : (w3).cell? ⟨w.heap.size, 7, none⟩ = some (.int .u64 o.v) := HW0.out.cell (i := 7) rfl
  have cW08 : (w3).cell? ⟨w.heap.size, 8, none⟩ = some (.int .i64 o.new.1) := HW0.out.cell (i := 8) rfl
  have cW09 : (w3).cell? ⟨w.heap.size, 9, none⟩ = some (.int .i64 o.new.2.1) := HW0.out.cell (i := 9) rfl
  have cW010 : (w3).cell? ⟨w.heap.size, 10, none⟩ = some (.int .u64 o.new.2.2) := HW0.out.cell (i := 10) rfl
  have cW011 : (w3).cell? ⟨w.heap.size, 11, none⟩ = some (.int .i64 other) := HW0.out.cell (i := 11) rfl
  have cG00 : (w3).cell? ⟨w.heap.size + 1, 0, none⟩ = some (.slice a0 g.1.length c0) := HG0.out.cell (i := 0) rfl
  have cG01 : (w3).cell? ⟨w.heap.size + 1, 1, none⟩ = some (.slice b0 g.2.length d0) := HG0.out.cell (i := 1) rfl
  have cO00 : (w3).cell? ⟨w.heap.size + 2, 0, none⟩ = some (.int .i64 o.kind) := HO0.out.cell (i := 0) rfl
  have cO01 : (w3).cell? ⟨w.heap.size + 2, 1, none⟩ = some (.int .i64 o.h) := HO0.out.cell (i := 1) rfl
  have cO02 : (w3).cell? ⟨w.heap.size + 2, 2, none⟩ = some (.int .i64 o.i) := HO0.out.cell (i := 2) rfl
  have cO03 : (w3).cell? ⟨w.heap.size + 2, 3, none⟩ = some (.int .i64 o.k) := HO0.out.cell (i := 3) rfl
  have cO04 : (w3).cell? ⟨w.heap.size + 2, 4, none⟩ = some (.int .u64 o.v) := HO0.out.cell (i := 4) rfl
  have cO05 : (w3).cell? ⟨w.heap.size + 2, 5, none⟩ = some (.int .i64 o.new.1) := HO0.out.cell (i := 5) rfl
  have cO06 : (w3).cell? ⟨w.heap.size + 2, 6, none⟩ = some (.int .i64 o.new.2.1) := HO0.out.cell (i := 6) rfl
  have cO07 : (w3).cell? ⟨w.heap.size + 2, 7, none⟩ = some (.int .u64 o.new.2.2) := HO0.out.cell (i := 7) rfl
  cases hf : fewG g with
  | false =>
    go_wp2_with fail
    go_ret
    exact ⟨rfl, HX.out⟩
  | true =>
    obtain ⟨hr, hn60, _⟩ := few_of hf
    clear hf HF
    by_cases ho0 : other < 0
    case pos =>
      go_wp2_with fail
      go_ret
      exact ⟨by first | rfl | (simp; done), HX.out⟩
    case neg =>
      by_cases ho1 : (g.2.length : Int) ≤ other
      case pos =>
        go_wp2_with fail
        go_ret
        exact ⟨by first | rfl | (simp; done), HX.out⟩
      case neg =>
        have hh0 : 0 ≤ other := by omega
        have hh1 : other < (g.2.length : Int) := by omega
        clear ho0 ho1
        have HD := Lib.hid (fun (a b : Value) (w : World) (h : Gr w a b g) => Wg.do_any a b g th o w h hr hp hm (by omega))
        obtain ⟨hr', hp', hs', hn', hn''⟩ := do_good (th := th) hr hp hv hm
        have HP := Lib.hid (Pt.threads (th := th) (o := o) hh0 hh1)
        clear hr' hp' hn' hn''
        replace hs' := Lib.hid hs'
        generalize doG g th o = d at *
        generalize doA g th o = an at *
        obtain ⟨e1, e2, e3⟩ := an
        go_wp2_with fail
        refine (HD.out _ _ _ HG.out).mono ?_; rintro e w4 ⟨vk, uk, rfl, hg, hx⟩
        obtain ⟨ak, xk, rfl⟩ := hg.1.form
        obtain ⟨bk, yk, rfl⟩ := Gr.Ma.form hg.2
        clear cW00 cW01 cW02 cW03 cW04 cW05 cW06 cW07 cW08 cW09 cW010 cW011 cG00 cG01 cO00 cO01 cO02 cO03 cO04 cO05 cO06 cO07
        replace HX := Lib.hid (HX.out.trans hx)
        replace HW0 := Lib.hid (HW0.out.ext hx)
        replace HG0 := Lib.hid (HG0.out.ext hx)
        replace HO0 := Lib.hid (HO0.out.ext hx)
        replace HG := Lib.hid (HG.out.ext hx)
        have HGk := Lib.hid hg
        clear hg hx
        unfold anv
        obtain ⟨wB5, hwB5⟩ : ∃ wX, wX = ((w4.alloc (.cells #[.slice ak d.1.length xk, .slice bk d.2.length yk] 25)).alloc (.cells #[.int .i64 e1, .int .u64 e2, .bool e3] 35)) := ⟨_, rfl⟩
        have hxn : Ext w4 wB5 := hwB5 ▸ (((Ext.refl w4).alloc _).alloc _)
        replace HX := Lib.hid (HX.out.trans hxn)
        replace HW0 := Lib.hid (HW0.out.ext hxn)
        replace HG0 := Lib.hid (HG0.out.ext hxn)
        replace HO0 := Lib.hid (HO0.out.ext hxn)
        replace HG := Lib.hid (HG.out.ext hxn)
        replace HGk := Lib.hid (HGk.out.ext hxn)
        have HKk := Lib.hid (show Blk wB5 (w4.heap.size) #[.slice ak d.1.length xk, .slice bk d.2.length yk] 25 from hwB5 ▸ ((blk_at (by simp)).alloc _))
        have HAk := Lib.hid (show Blk wB5 (w4.heap.size + 1) #[.int .i64 e1, .int .u64 e2, .bool e3] 35 from hwB5 ▸ (blk_at (by simp)))
        clear hxn
        have cW00 : (((w4.alloc (.cells #[.slice ak d.1.length xk, .slice bk d.2.length yk] 25)).alloc (.cells #[.int .i64 e1, .int .u64 e2, .bool e3] 35))).cell? ⟨w.heap.size, 0, none⟩ = some (.slice a0 g.1.length c0) := by rw [← hwB5]; exact HW0.out.cell (i := 0) rfl
        have cW01 : (((w4.alloc (.cells #[.slice ak d.1.length xk, .slice bk d.2.length yk] 25)).alloc (.cells #[.int .i64 e1, .int .u64 e2, .bool e3] 35))).cell? ⟨w.heap.size, 1, none⟩ = some (.slice b0 g.2.length d0) := by rw [← hwB5]; exact HW0.out.cell (i := 1) rfl
        have cW02 : (((w4.alloc (.cells #[.slice ak d.1.length xk, .slice bk d.2.length yk] 25)).alloc (.cells #[.int .i64 e1, .int .u64 e2, .bool e3] 35))).cell? ⟨w.heap.size, 2, none⟩ = some (.int .i64 th) := by rw [← hwB5]; exact HW0.out.cell (i := 2) rfl
        have cW03 : (((w4.alloc (.cells #[.slice ak d.1.length xk, .slice bk d.2.length yk] 25)).alloc (.cells #[.int .i64 e1, .int .u64 e2, .bool e3] 35))).cell? ⟨w.heap.size, 3, none⟩ = some (.int .i64 o.kind) := by rw [← hwB5]; exact HW0.out.cell (i := 3) rfl
        have cW04 : (((w4.alloc (.cells #[.slice ak d.1.length xk, .slice bk d.2.length yk] 25)).alloc (.cells #[.int .i64 e1, .int .u64 e2, .bool e3] 35))).cell? ⟨w.heap.size, 4, none⟩ = some (.int .i64 o.h) := by rw [← hwB5]; exact HW0.out.cell (i := 4) rfl
        have cW05 : (((w4.alloc (.cells #[.slice ak d.1.length xk, .slice bk d.2.length yk] 25)).alloc (.cells #[.int .i64 e1, .int .u64 e2, .bool e3] 35))).cell? ⟨w.heap.size, 5, none⟩ = some (.int .i64 o.i) := by rw [← hwB5]; exact HW0.out.cell (i := 5) rfl
        have cW06 : (((w4.alloc (.cells #[.slice ak d.1.length xk, .slice bk d.2.length yk] 25)).alloc (.cells #[.int .i64 e1, .int .u64 e2, .bool e3] 35))).cell? ⟨w.heap.size, 6, none⟩ = some (.int .i64 o.k) := by rw [← hwB5]; exact HW0.out.cell (i := 6) rfl
        have cW07 : (((w4.alloc (.cells #[.slice ak d.1.length xk, .slice bk d.2.length yk] 25)).alloc (.cells #[.int .i64 e1, .int .u64 e2, .bool e3] 35))).cell? ⟨w.heap.size, 7, none⟩ = some (.int .u64 o.v) := by rw [← hwB5]; exact HW0.out.cell (i := 7) rfl
        have cW08 : (((w4.alloc (.cells #[.slice ak d.1.length xk, .slice bk d.2.length yk] 25)).alloc (.cells #[.int .i64 e1, .int .u64 e2, .bool e3] 35))).cell? ⟨w.heap.size, 8, none⟩ = some (.int .i64 o.new.1) := by rw [← hwB5]; exact HW0.out.cell (i := 8) rfl
        have cW09 : (((w4.alloc (.cells #[.slice ak d.1.length xk, .slice bk d.2.length yk] 25)).alloc (.cells #[.int .i64 e1, .int .u64 e2, .bool e3] 35))).cell? ⟨w.heap.size, 9, none⟩ = some (.int .i64 o.new.2.1) := by rw [← hwB5]; exact HW0.out.cell (i := 9) rfl
        have cW010 : (((w4.alloc (.cells #[.slice ak d.1.length xk, .slice bk d.2.length yk] 25)).alloc (.cells #[.int .i64 e1, .int .u64 e2, .bool e3] 35))).cell? ⟨w.heap.size, 10, none⟩ = some (.int .u64 o.new.2.2) := by rw [← hwB5]; exact HW0.out.cell (i := 10) rfl
        have cW011 : (((w4.alloc (.cells #[.slice ak d.1.length xk, .slice bk d.2.length yk] 25)).alloc (.cells #[.int .i64 e1, .int .u64 e2, .bool e3] 35))).cell? ⟨w.heap.size, 11, none⟩ = some (.int .i64 other) := by rw [← hwB5]; exact HW0.out.cell (i := 11) rfl
        have cG00 : (((w4.alloc (.cells #[.slice ak d.1.length xk, .slice bk d.2.length yk] 25)).alloc (.cells #[.int .i64 e1, .int .u64 e2, .bool e3] 35))).cell? ⟨w.heap.size + 1, 0, none⟩ = some (.slice a0 g.1.length c0) := by rw [← hwB5]; exact HG0.out.cell (i := 0) rfl
        have cG01 : (((w4.alloc (.cells #[.slice ak d.1.length xk, .slice bk d.2.length yk] 25)).alloc (.cells #[.int .i64 e1, .int .u64 e2, .bool e3] 35))).cell? ⟨w.heap.size + 1, 1, none⟩ = some (.slice b0 g.2.length d0) := by rw [← hwB5]; exact HG0.out.cell (i := 1) rfl
        have cO00 : (((w4.alloc (.cells #[.slice ak d.1.length xk, .slice bk d.2.length yk] 25)).alloc (.cells #[.int .i64 e1, .int .u64 e2, .bool e3] 35))).cell? ⟨w.heap.size + 2, 0, none⟩ = some (.int .i64 o.kind) := by rw [← hwB5]; exact HO0.out.cell (i := 0) rfl
        have cO01 : (((w4.alloc (.cells #[.slice ak d.1.length xk, .slice bk d.2.length yk] 25)).alloc (.cells #[.int .i64 e1, .int .u64 e2, .bool e3] 35))).cell? ⟨w.heap.size + 2, 1, none⟩ = some (.int .i64 o.h) := by rw [← hwB5]; exact HO0.out.cell (i := 1) rfl
        have cO02 : (((w4.alloc (.cells #[.slice ak d.1.length xk, .slice bk d.2.length yk] 25)).alloc (.cells #[.int .i64 e1, .int .u64 e2, .bool e3] 35))).cell? ⟨w.heap.size + 2, 2, none⟩ = some (.int .i64 o.i) := by rw [← hwB5]; exact HO0.out.cell (i := 2) rfl
        have cO03 : (((w4.alloc (.cells #[.slice ak d.1.length xk, .slice bk d.2.length yk] 25)).alloc (.cells #[.int .i64 e1, .int .u64 e2, .bool e3] 35))).cell? ⟨w.heap.size + 2, 3, none⟩ = some (.int .i64 o.k) := by rw [← hwB5]; exact HO0.out.cell (i := 3) rfl
        have cO04 : (((w4.alloc (.cells #[.slice ak d.1.length xk, .slice bk d.2.length yk] 25)).alloc (.cells #[.int .i64 e1, .int .u64 e2, .bool e3] 35))).cell? ⟨w.heap.size + 2, 4, none⟩ = some (.int .u64 o.v) := by rw [← hwB5]; exact HO0.out.cell (i := 4) rfl
        have cO05 : (((w4.alloc (.cells #[.slice ak d.1.length xk, .slice bk d.2.length yk] 25)).alloc (.cells #[.int .i64 e1, .int .u64 e2, .bool e3] 35))).cell? ⟨w.heap.size + 2, 5, none⟩ = some (.int .i64 o.new.1) := by rw [← hwB5]; exact HO0.out.cell (i := 5) rfl
        have cO06 : (((w4.alloc (.cells #[.slice ak d.1.length xk, .slice bk d.2.length yk] 25)).alloc (.cells #[.int .i64 e1, .int .u64 e2, .bool e3] 35))).cell? ⟨w.heap.size + 2, 6, none⟩ = some (.int .i64 o.new.2.1) := by rw [← hwB5]; exact HO0.out.cell (i := 6) rfl
        have cO07 : (((w4.alloc (.cells #[.slice ak d.1.length xk, .slice bk d.2.length yk] 25)).alloc (.cells #[.int .i64 e1, .int .u64 e2, .bool e3] 35))).cell? ⟨w.heap.size + 2, 7, none⟩ = some (.int .u64 o.new.2.2) := by rw [← hwB5]; exact HO0.out.cell (i := 7) rfl
        have hlb : ∀ (ty : TypeId) (W : World), (Builtin.len_ #[23] ty #[.slice bk d.2.length yk]).run Try.prog W = .ok (.int .i64 g.2.length) W := fun ty W => by rw [Ma.len uS HGk.out.2, hs'.out]
        have hh2 : other < (d.2.length : Int) := by rw [hs'.out]; exact hh1
        obtain ⟨p, up, hxp, hcp, hsp⟩ := Ma.at_ uS szS HG.out.2 hh0 hh1
        obtain ⟨rp, ap, rfl⟩ : ∃ a c, up = .slice a (rowOf g other.toNat).length c := Row.form hsp
        replace hsp : Sl .i64 wB5 (.slice rp (rowOf g other.toNat).length ap) (rowOf g other.toNat) := hsp
        have smp := hsp.small
        have hlp := fun ty W => Sl.len (P := Try.prog) uI hsp ty W
        obtain ⟨q, uq, hxq, hcq, hsq⟩ := Ma.at_ uS szS HGk.out.2 hh0 hh2
        obtain ⟨rq, aq, rfl⟩ : ∃ a c, uq = .slice a (rowOf d other.toNat).length c := Row.form hsq
        replace hsq : Sl .i64 wB5 (.slice rq (rowOf d other.toNat).length aq) (rowOf d other.toNat) := hsq
        have smq := hsq.small
        have hlq := fun ty W => Sl.len (P := Try.prog) uI hsq ty W
        clear HD hh2 hs'
        clear cW00 cW01 cW02 cW03 cW04 cW05 cW06 cW07 cW08 cW09 cW010 cW011 cG00 cG01 cO00 cO01 cO02 cO03 cO04 cO05 cO06 cO07
        have g1 : (((w4.alloc (.cells #[.slice ak d.1.length xk, .slice bk d.2.length yk] 25)).alloc (.cells #[.int .i64 e1, .int .u64 e2, .bool e3] 35))).cell? ⟨w.heap.size + 1, 1, none⟩ = some (.slice b0 g.2.length d0) := by rw [← hwB5]; exact HG0.out.cell (i := 1) rfl
        have o0 : (((w4.alloc (.cells #[.slice ak d.1.length xk, .slice bk d.2.length yk] 25)).alloc (.cells #[.int .i64 e1, .int .u64 e2, .bool e3] 35))).cell? ⟨w.heap.size + 2, 0, none⟩ = some (.int .i64 o.kind) := by rw [← hwB5]; exact HO0.out.cell (i := 0) rfl
        have hEB : Hid (Ext wB5 ((w4.alloc (.cells #[.slice ak d.1.length xk, .slice bk d.2.length yk] 25)).alloc (.cells #[.int .i64 e1, .int .u64 e2, .bool e3] 35))) := by show Ext _ _; rw [← hwB5]; exact Ext.refl _
        by_cases k4 : o.kind = 4
        case pos =>
          have b4 : (o.kind == 4) = true := by simpa using k4
          cases hc : (other == th)
          all_goals
            have heq : rowOf d other.toNat = rowOf g other.toNat := HP.out.1 (.inr (by unfold Pt.Wr; omega))
            generalize rowOf d other.toNat = R' at *
            subst heq
            generalize rowOf g other.toNat = R at *
            obtain ⟨n, hn⟩ : ∃ n, R.length = n := ⟨_, rfl⟩
            rw [hn] at hsp hsq smp smq hlp hlq hcp hcq
            have HN := Lib.hid hn
            have HS1 := Lib.hid hsp
            have HS2 := Lib.hid hsq
            have HC1 := Lib.hid hcp
            have HC2 := Lib.hid hcq
            rw [hwB5] at hcp hcq
            clear hsp hsq hn HP smq
            go_wp2_with fail
            go_loopw [14] (fun i wr => ∃ (z : Nat), i = .int .i64 z ∧ z ≤ n ∧ Ext wB5 wr) (fun i _ => n - (intOf i).toNat)
            case atStart => exact ⟨0, rfl, Nat.zero_le _, hEB.out⟩
            case round =>
              obtain ⟨z, rfl, hz, hXz⟩ := hrel
              obtain ⟨wz, hwz⟩ : ∃ wz, wz = wr := ⟨_, rfl⟩
              subst hwz
              have HXz := Lib.hid hXz
              have g1 : wz.cell? ⟨w.heap.size + 1, 1, none⟩ = some (.slice b0 g.2.length d0) := (HG0.out.ext hXz).cell (i := 1) rfl
              have k1 : wz.cell? ⟨w4.heap.size, 1, none⟩ = some (.slice bk d.2.length yk) := (HKk.out.ext hXz).cell (i := 1) rfl
              have q1 := hXz.cell HC1.out
              have q2 := hXz.cell HC2.out
              clear hXz
              by_cases hlt : z < n
              · obtain ⟨p3, hp3, hv3⟩ := (HS1.out.ext HXz.out).at_ uI szI (i := z) (by omega) (by have := HN.out; omega)
                obtain ⟨p4, hp4, hv4⟩ := (HS2.out.ext HXz.out).at_ uI szI (i := z) (by omega) (by have := HN.out; omega)
                obtain ⟨x, hx⟩ : ∃ x, R.getD (z : Int).toNat 0 = x := ⟨_, rfl⟩
                rw [hx] at hv3 hv4
                clear hx
                go_wp2_with fail
                go_quiet (fail)
                go_wp2_with fail
                go_roundw
                case rel => exact ⟨z + 1, by go_num, hlt, HXz.out.drewN _⟩
                case measure => simp [intOf]; omega
              · obtain rfl : z = n := by omega
                go_wp2_with fail
                go_ret
                exact ⟨by first | rfl | (simp; done), HX.out.trans HXz.out⟩
        case neg =>
          have b4 : (o.kind == 4) = false := by simpa using k4
          by_cases k5 : o.kind = 5
          case pos =>
            have b5 : (o.kind == 5) = true := by simpa using k5
            cases hc : (other == th)
            all_goals
              have heq : rowOf d other.toNat = rowOf g other.toNat := HP.out.1 (.inr (by unfold Pt.Wr; omega))
              generalize rowOf d other.toNat = R' at *
              subst heq
              generalize rowOf g other.toNat = R at *
              obtain ⟨n, hn⟩ : ∃ n, R.length = n := ⟨_, rfl⟩
              rw [hn] at hsp hsq smp smq hlp hlq hcp hcq
              have HN := Lib.hid hn
              have HS1 := Lib.hid hsp
              have HS2 := Lib.hid hsq
              have HC1 := Lib.hid hcp
              have HC2 := Lib.hid hcq
              rw [hwB5] at hcp hcq
              clear hsp hsq hn HP smq
              go_wp2_with fail
              go_loopw [14] (fun i wr => ∃ (z : Nat), i = .int .i64 z ∧ z ≤ n ∧ Ext wB5 wr) (fun i _ => n - (intOf i).toNat)
              case atStart => exact ⟨0, rfl, Nat.zero_le _, hEB.out⟩
              case round =>
                obtain ⟨z, rfl, hz, hXz⟩ := hrel
                obtain ⟨wz, hwz⟩ : ∃ wz, wz = wr := ⟨_, rfl⟩
                subst hwz
                have HXz := Lib.hid hXz
                have g1 : wz.cell? ⟨w.heap.size + 1, 1, none⟩ = some (.slice b0 g.2.length d0) := (HG0.out.ext hXz).cell (i := 1) rfl
                have k1 : wz.cell? ⟨w4.heap.size, 1, none⟩ = some (.slice bk d.2.length yk) := (HKk.out.ext hXz).cell (i := 1) rfl
                have q1 := hXz.cell HC1.out
                have q2 := hXz.cell HC2.out
                clear hXz
                by_cases hlt : z < n
                · obtain ⟨p3, hp3, hv3⟩ := (HS1.out.ext HXz.out).at_ uI szI (i := z) (by omega) (by have := HN.out; omega)
                  obtain ⟨p4, hp4, hv4⟩ := (HS2.out.ext HXz.out).at_ uI szI (i := z) (by omega) (by have := HN.out; omega)
                  obtain ⟨x, hx⟩ : ∃ x, R.getD (z : Int).toNat 0 = x := ⟨_, rfl⟩
                  rw [hx] at hv3 hv4
                  clear hx
                  go_wp2_with fail
                  go_quiet (fail)
                  go_wp2_with fail
                  go_roundw
                  case rel => exact ⟨z + 1, by go_num, hlt, HXz.out.drewN _⟩
                  case measure => simp [intOf]; omega
                · obtain rfl : z = n := by omega
                  go_wp2_with fail
                  go_ret
                  exact ⟨by first | rfl | (simp; done), HX.out.trans HXz.out⟩
          case neg =>
            have b5 : (o.kind == 5) = false := by simpa using k5
            by_cases k6 : o.kind = 6
            case pos =>
              have b6 : (o.kind == 6) = true := by simpa using k6
              cases hc : (other == th)
              all_goals
                have heq : rowOf d other.toNat = rowOf g other.toNat := HP.out.1 (.inr (by unfold Pt.Wr; omega))
                generalize rowOf d other.toNat = R' at *
                subst heq
                generalize rowOf g other.toNat = R at *
                obtain ⟨n, hn⟩ : ∃ n, R.length = n := ⟨_, rfl⟩
                rw [hn] at hsp hsq smp smq hlp hlq hcp hcq
                have HN := Lib.hid hn
                have HS1 := Lib.hid hsp
                have HS2 := Lib.hid hsq
                have HC1 := Lib.hid hcp
                have HC2 := Lib.hid hcq
                rw [hwB5] at hcp hcq
                clear hsp hsq hn HP smq
                go_wp2_with fail
                go_loopw [14] (fun i wr => ∃ (z : Nat), i = .int .i64 z ∧ z ≤ n ∧ Ext wB5 wr) (fun i _ => n - (intOf i).toNat)
                case atStart => exact ⟨0, rfl, Nat.zero_le _, hEB.out⟩
                case round =>
                  obtain ⟨z, rfl, hz, hXz⟩ := hrel
                  obtain ⟨wz, hwz⟩ : ∃ wz, wz = wr := ⟨_, rfl⟩
                  subst hwz
                  have HXz := Lib.hid hXz
                  have g1 : wz.cell? ⟨w.heap.size + 1, 1, none⟩ = some (.slice b0 g.2.length d0) := (HG0.out.ext hXz).cell (i := 1) rfl
                  have k1 : wz.cell? ⟨w4.heap.size, 1, none⟩ = some (.slice bk d.2.length yk) := (HKk.out.ext hXz).cell (i := 1) rfl
                  have q1 := hXz.cell HC1.out
                  have q2 := hXz.cell HC2.out
                  clear hXz
                  by_cases hlt : z < n
                  · obtain ⟨p3, hp3, hv3⟩ := (HS1.out.ext HXz.out).at_ uI szI (i := z) (by omega) (by have := HN.out; omega)
                    obtain ⟨p4, hp4, hv4⟩ := (HS2.out.ext HXz.out).at_ uI szI (i := z) (by omega) (by have := HN.out; omega)
                    obtain ⟨x, hx⟩ : ∃ x, R.getD (z : Int).toNat 0 = x := ⟨_, rfl⟩
                    rw [hx] at hv3 hv4
                    clear hx
                    go_wp2_with fail
                    go_quiet (fail)
                    go_wp2_with fail
                    go_roundw
                    case rel => exact ⟨z + 1, by go_num, hlt, HXz.out.drewN _⟩
                    case measure => simp [intOf]; omega
                  · obtain rfl : z = n := by omega
                    go_wp2_with fail
                    go_ret
                    exact ⟨by first | rfl | (simp; done), HX.out.trans HXz.out⟩
            case neg =>
              have b6 : (o.kind == 6) = false := by simpa using k6
              by_cases k7 : o.kind = 7
              case pos =>
                have b7 : (o.kind == 7) = true := by simpa using k7
                cases hc : (other == th)
                all_goals
                  have heq : rowOf d other.toNat = rowOf g other.toNat := HP.out.1 (.inr (by unfold Pt.Wr; omega))
                  generalize rowOf d other.toNat = R' at *
                  subst heq
                  generalize rowOf g other.toNat = R at *
                  obtain ⟨n, hn⟩ : ∃ n, R.length = n := ⟨_, rfl⟩
                  rw [hn] at hsp hsq smp smq hlp hlq hcp hcq
                  have HN := Lib.hid hn
                  have HS1 := Lib.hid hsp
                  have HS2 := Lib.hid hsq
                  have HC1 := Lib.hid hcp
                  have HC2 := Lib.hid hcq
                  rw [hwB5] at hcp hcq
                  clear hsp hsq hn HP smq
                  go_wp2_with fail
                  go_loopw [14] (fun i wr => ∃ (z : Nat), i = .int .i64 z ∧ z ≤ n ∧ Ext wB5 wr) (fun i _ => n - (intOf i).toNat)
                  case atStart => exact ⟨0, rfl, Nat.zero_le _, hEB.out⟩
                  case round =>
                    obtain ⟨z, rfl, hz, hXz⟩ := hrel
                    obtain ⟨wz, hwz⟩ : ∃ wz, wz = wr := ⟨_, rfl⟩
                    subst hwz
                    have HXz := Lib.hid hXz
                    have g1 : wz.cell? ⟨w.heap.size + 1, 1, none⟩ = some (.slice b0 g.2.length d0) := (HG0.out.ext hXz).cell (i := 1) rfl
                    have k1 : wz.cell? ⟨w4.heap.size, 1, none⟩ = some (.slice bk d.2.length yk) := (HKk.out.ext hXz).cell (i := 1) rfl
                    have q1 := hXz.cell HC1.out
                    have q2 := hXz.cell HC2.out
                    clear hXz
                    by_cases hlt : z < n
                    · obtain ⟨p3, hp3, hv3⟩ := (HS1.out.ext HXz.out).at_ uI szI (i := z) (by omega) (by have := HN.out; omega)
                      obtain ⟨p4, hp4, hv4⟩ := (HS2.out.ext HXz.out).at_ uI szI (i := z) (by omega) (by have := HN.out; omega)
                      obtain ⟨x, hx⟩ : ∃ x, R.getD (z : Int).toNat 0 = x := ⟨_, rfl⟩
                      rw [hx] at hv3 hv4
                      clear hx
                      go_wp2_with fail
                      go_quiet (fail)
                      go_wp2_with fail
                      go_roundw
                      case rel => exact ⟨z + 1, by go_num, hlt, HXz.out.drewN _⟩
                      case measure => simp [intOf]; omega
                    · obtain rfl : z = n := by omega
                      go_wp2_with fail
                      go_ret
                      exact ⟨by first | rfl | (simp; done), HX.out.trans HXz.out⟩
              case neg =>
                have b7 : (o.kind == 7) = false := by simpa using k7
                by_cases k2 : o.kind = 2
                case pos =>
                  have b2 : (o.kind == 2) = true := by simpa using k2
                  cases hc : (other == th)
                  all_goals
                    have heq : rowOf d other.toNat = rowOf g other.toNat := HP.out.1 (.inr (by unfold Pt.Wr; omega))
                    generalize rowOf d other.toNat = R' at *
                    subst heq
                    generalize rowOf g other.toNat = R at *
                    obtain ⟨n, hn⟩ : ∃ n, R.length = n := ⟨_, rfl⟩
                    rw [hn] at hsp hsq smp smq hlp hlq hcp hcq
                    have HN := Lib.hid hn
                    have HS1 := Lib.hid hsp
                    have HS2 := Lib.hid hsq
                    have HC1 := Lib.hid hcp
                    have HC2 := Lib.hid hcq
                    rw [hwB5] at hcp hcq
                    clear hsp hsq hn HP smq
                    go_wp2_with fail
                    go_loopw [14] (fun i wr => ∃ (z : Nat), i = .int .i64 z ∧ z ≤ n ∧ Ext wB5 wr) (fun i _ => n - (intOf i).toNat)
                    case atStart => exact ⟨0, rfl, Nat.zero_le _, hEB.out⟩
                    case round =>
                      obtain ⟨z, rfl, hz, hXz⟩ := hrel
                      obtain ⟨wz, hwz⟩ : ∃ wz, wz = wr := ⟨_, rfl⟩
                      subst hwz
                      have HXz := Lib.hid hXz
                      have g1 : wz.cell? ⟨w.heap.size + 1, 1, none⟩ = some (.slice b0 g.2.length d0) := (HG0.out.ext hXz).cell (i := 1) rfl
                      have k1 : wz.cell? ⟨w4.heap.size, 1, none⟩ = some (.slice bk d.2.length yk) := (HKk.out.ext hXz).cell (i := 1) rfl
                      have q1 := hXz.cell HC1.out
                      have q2 := hXz.cell HC2.out
                      clear hXz
                      by_cases hlt : z < n
                      · obtain ⟨p3, hp3, hv3⟩ := (HS1.out.ext HXz.out).at_ uI szI (i := z) (by omega) (by have := HN.out; omega)
                        obtain ⟨p4, hp4, hv4⟩ := (HS2.out.ext HXz.out).at_ uI szI (i := z) (by omega) (by have := HN.out; omega)
                        obtain ⟨x, hx⟩ : ∃ x, R.getD (z : Int).toNat 0 = x := ⟨_, rfl⟩
                        rw [hx] at hv3 hv4
                        clear hx
                        go_wp2_with fail
                        go_quiet (fail)
                        go_wp2_with fail
                        go_roundw
                        case rel => exact ⟨z + 1, by go_num, hlt, HXz.out.drewN _⟩
                        case measure => simp [intOf]; omega
                      · obtain rfl : z = n := by omega
                        go_wp2_with fail
                        go_ret
                        exact ⟨by first | rfl | (simp; done), HX.out.trans HXz.out⟩
                case neg =>
                  have b2 : (o.kind == 2) = false := by simpa using k2
                  by_cases k8 : o.kind = 8
                  case pos =>
                    have b8 : (o.kind == 8) = true := by simpa using k8
                    cases hc : (other == th)
                    all_goals
                      have heq : rowOf d other.toNat = rowOf g other.toNat := HP.out.1 (.inr (by unfold Pt.Wr; omega))
                      generalize rowOf d other.toNat = R' at *
                      subst heq
                      generalize rowOf g other.toNat = R at *
                      obtain ⟨n, hn⟩ : ∃ n, R.length = n := ⟨_, rfl⟩
                      rw [hn] at hsp hsq smp smq hlp hlq hcp hcq
                      have HN := Lib.hid hn
                      have HS1 := Lib.hid hsp
                      have HS2 := Lib.hid hsq
                      have HC1 := Lib.hid hcp
                      have HC2 := Lib.hid hcq
                      rw [hwB5] at hcp hcq
                      clear hsp hsq hn HP smq
                      go_wp2_with fail
                      go_loopw [14] (fun i wr => ∃ (z : Nat), i = .int .i64 z ∧ z ≤ n ∧ Ext wB5 wr) (fun i _ => n - (intOf i).toNat)
                      case atStart => exact ⟨0, rfl, Nat.zero_le _, hEB.out⟩
                      case round =>
                        obtain ⟨z, rfl, hz, hXz⟩ := hrel
                        obtain ⟨wz, hwz⟩ : ∃ wz, wz = wr := ⟨_, rfl⟩
                        subst hwz
                        have HXz := Lib.hid hXz
                        have g1 : wz.cell? ⟨w.heap.size + 1, 1, none⟩ = some (.slice b0 g.2.length d0) := (HG0.out.ext hXz).cell (i := 1) rfl
                        have k1 : wz.cell? ⟨w4.heap.size, 1, none⟩ = some (.slice bk d.2.length yk) := (HKk.out.ext hXz).cell (i := 1) rfl
                        have q1 := hXz.cell HC1.out
                        have q2 := hXz.cell HC2.out
                        clear hXz
                        by_cases hlt : z < n
                        · obtain ⟨p3, hp3, hv3⟩ := (HS1.out.ext HXz.out).at_ uI szI (i := z) (by omega) (by have := HN.out; omega)
                          obtain ⟨p4, hp4, hv4⟩ := (HS2.out.ext HXz.out).at_ uI szI (i := z) (by omega) (by have := HN.out; omega)
                          obtain ⟨x, hx⟩ : ∃ x, R.getD (z : Int).toNat 0 = x := ⟨_, rfl⟩
                          rw [hx] at hv3 hv4
                          clear hx
                          go_wp2_with fail
                          go_quiet (fail)
                          go_wp2_with fail
                          go_roundw
                          case rel => exact ⟨z + 1, by go_num, hlt, HXz.out.drewN _⟩
                          case measure => simp [intOf]; omega
                        · obtain rfl : z = n := by omega
                          go_wp2_with fail
                          go_ret
                          exact ⟨by first | rfl | (simp; done), HX.out.trans HXz.out⟩
                  case neg =>
                    have b8 : (o.kind == 8) = false := by simpa using k8
                    cases hc : (other == th) with
                    | false =>
                      have heq : rowOf d other.toNat = rowOf g other.toNat := HP.out.1 (.inl (by intro h; rw [h] at hc; simp at hc))
                      generalize rowOf d other.toNat = R' at *
                      subst heq
                      generalize rowOf g other.toNat = R at *
                      obtain ⟨n, hn⟩ : ∃ n, R.length = n := ⟨_, rfl⟩
                      rw [hn] at hsp hsq smp smq hlp hlq hcp hcq
                      have HN := Lib.hid hn
                      have HS1 := Lib.hid hsp
                      have HS2 := Lib.hid hsq
                      have HC1 := Lib.hid hcp
                      have HC2 := Lib.hid hcq
                      rw [hwB5] at hcp hcq
                      clear hsp hsq hn HP smq
                      go_wp2_with fail
                      go_loopw [14] (fun i wr => ∃ (z : Nat), i = .int .i64 z ∧ z ≤ n ∧ Ext wB5 wr) (fun i _ => n - (intOf i).toNat)
                      case atStart => exact ⟨0, rfl, Nat.zero_le _, hEB.out⟩
                      case round =>
                        obtain ⟨z, rfl, hz, hXz⟩ := hrel
                        obtain ⟨wz, hwz⟩ : ∃ wz, wz = wr := ⟨_, rfl⟩
                        subst hwz
                        have HXz := Lib.hid hXz
                        have g1 : wz.cell? ⟨w.heap.size + 1, 1, none⟩ = some (.slice b0 g.2.length d0) := (HG0.out.ext hXz).cell (i := 1) rfl
                        have k1 : wz.cell? ⟨w4.heap.size, 1, none⟩ = some (.slice bk d.2.length yk) := (HKk.out.ext hXz).cell (i := 1) rfl
                        have q1 := hXz.cell HC1.out
                        have q2 := hXz.cell HC2.out
                        clear hXz
                        by_cases hlt : z < n
                        · obtain ⟨p3, hp3, hv3⟩ := (HS1.out.ext HXz.out).at_ uI szI (i := z) (by omega) (by have := HN.out; omega)
                          obtain ⟨p4, hp4, hv4⟩ := (HS2.out.ext HXz.out).at_ uI szI (i := z) (by omega) (by have := HN.out; omega)
                          obtain ⟨x, hx⟩ : ∃ x, R.getD (z : Int).toNat 0 = x := ⟨_, rfl⟩
                          rw [hx] at hv3 hv4
                          clear hx
                          go_wp2_with fail
                          go_quiet (fail)
                          go_wp2_with fail
                          go_roundw
                          case rel => exact ⟨z + 1, by go_num, hlt, HXz.out.drewN _⟩
                          case measure => simp [intOf]; omega
                        · obtain rfl : z = n := by omega
                          go_wp2_with fail
                          go_ret
                          exact ⟨by first | rfl | (simp; done), HX.out.trans HXz.out⟩
                    | true =>
                      obtain ⟨_, hb1, hb2⟩ := HP.out
                      obtain ⟨y1, hy1⟩ : ∃ y : Int, ((rowOf g other.toNat).length : Int) = y := ⟨_, rfl⟩
                      obtain ⟨y2, hy2⟩ : ∃ y : Int, ((rowOf d other.toNat).length : Int) = y := ⟨_, rfl⟩
                      have hb3 : -1 ≤ y2 - y1 := by omega
                      have hb4 : y2 - y1 ≤ 1 := by omega
                      have hb5 : 0 ≤ y1 := by omega
                      have hb6 : 0 ≤ y2 := by omega
                      rw [hy1] at hlp smp
                      rw [hy2] at hlq smq
                      rw [hwB5] at hcp hcq
                      clear hb1 hb2 hy1 hy2 HP hsp hsq
                      subst hwB5
                      go_wp2_with fail
                      go_ret
                      exact ⟨by first | rfl | (simp; done) | (simp; omega), HX.out⟩

theorem walk (v0 : Value) (W : World) (r0 : Rd.V Try.prog W 41 v0) : Calls Try.prog 4 #[v0] W fun e w' => e = .returned (.bool true) ∧ Below W.heap.size W w' := by
  obtain ⟨cs, rfl, hs⟩ := r0.struct Try.underlying41
  obtain ⟨hl, _⟩ := hs.struct Try.underlying41
  rw [show Try.prog.cellsOf 41 = 12 by kernel_rfl] at hl
  obtain ⟨c0, c1, c2, c3, c4, c5, c6, c7, c8, c9, c10, c11, rfl⟩ := many_of hl
  obtain ⟨a, b, g, hab, hg, hwf⟩ := Gr.of_R (show Rd.R _ W _ [c0, c1] from Rd.R.field Try.underlying41 hs 0 rfl 0 2 25 rfl rfl (by kernel_rfl))
  obtain ⟨rfl, rfl⟩ : c0 = a ∧ c1 = b := by simpa using hab
  obtain ⟨th, h0, wth⟩ := (show Rd.R _ W _ [c2] from Rd.R.field Try.underlying41 hs 1 rfl 2 1 3 rfl rfl (by kernel_rfl)).int Try.underlying3
  obtain rfl : c2 = .int .i64 th := by simpa using h0
  obtain ⟨o, h1, wov, wo⟩ := op_of_R (show Rd.R _ W _ [c3, c4, c5, c6, c7, c8, c9, c10] from Rd.R.field Try.underlying41 hs 2 rfl 3 8 30 rfl rfl (by kernel_rfl))
  obtain ⟨rfl, rfl, rfl, rfl, rfl, rfl, rfl, rfl⟩ : c3 = .int .i64 o.kind ∧ c4 = .int .i64 o.h ∧ c5 = .int .i64 o.i ∧ c6 = .int .i64 o.k ∧ c7 = .int .u64 o.v ∧ c8 = .int .i64 o.new.1 ∧ c9 = .int .i64 o.new.2.1 ∧ c10 = .int .u64 o.new.2.2 := by simpa [ocells] using h1
  obtain ⟨other, h2, wother⟩ := (show Rd.R _ W _ [c11] from Rd.R.field Try.underlying41 hs 3 rfl 11 1 3 rfl rfl (by kernel_rfl)).int Try.underlying3
  obtain rfl : c11 = .int .i64 other := by simpa using h2
  exact (go c0 c1 g th other o (posG_of hwf) wov.1 wo W hg).mono fun e w' ⟨he, hw⟩ => ⟨he, hw.below⟩

open Go.ChangeShapes Go.WideShapes Go.ChangeAt Go.RowKit
theorem own : ownKnob Try.prog.godebug = none := by kernel_rfl
theorem laidOut : laidOutB Try.prog = true := by kernel_rfl

set_option maxRecDepth 100000 in
theorem lifted (os : Os) (started : os.Started) (H : Type) (enc : TypeId × Value → H) :
    ReturnsInHanded {} Try.checked os 4 .any (Rows.graphThreadsSpec.pre6 enc Try.prog Try.f4 Rows.graphThreadsRow.domain false) (Rows.graphThreadsSpec.post enc Try.prog Try.f4 false true false false) := by
  refine returnsInHanded_of_change_sized (C := Try.checked) own started (by kernel_rfl) Try.func4
    (ChangeSpec.witness6 (enc := enc) (C := Try.checked) false ⟨#[], #[.agg #[.slice none 0 0, .slice none 0 0, .int .i64 0, .int .i64 0, .int .i64 0, .int .i64 0, .int .i64 0, .int .u64 0, .int .i64 0, .int .i64 0, .int .u64 0, .int .i64 0]], []⟩ 12 (by kernel_rfl) (by kernel_rfl) (by kernel_rfl) (by kernel_rfl)) ?_
  intro W base args ds gs before hval0 hW _ hsz0 _
  have hval : ∀ (j : Nat) t v, Try.f4.params[j]? = some t → args[j]? = some v → Value.okWide Try.prog W .any base t v := hval0
  have hW' := hW
  obtain ⟨p, q, hA0, hV, rfl, _, _⟩ := hW
  have hA : DataW.TrodAll enc Try.prog W 0 (fun _ => true) true Try.f4.params.toList args.toList ds p := hA0
  obtain ⟨rfl, rfl⟩ := trodVars_none hV
  have hsz : (DataW.weightsEach Try.prog (Try.f4.params.toList ++ []) (ds ++ [])).all (· ≤ reachBytes) = true := hsz0
  rw [Try.params4] at hA hval hsz
  have hA2 := hA
  obtain ⟨v0, vs0, d0, ds0, p0, q0, hargs, rfl, rfl, h0, r0⟩ := trodAll_cons hA2
  obtain ⟨rfl, rfl, rfl⟩ := trodAll_nil r0
  obtain rfl : args = #[v0] := by cases args; simp_all
  have hR := Rd.trodAll_V hA (fun n hn => by simpa using List.all_eq_true.1 hsz n (by simpa using hn)) (fun j t v hj hv => hval j t v (by simpa using hj) (by simpa using hv))
  clear hA0 hval0 hA2
  refine (walk v0 W (hR 0 41 v0 rfl rfl)).mono fun e W' ⟨he, bel⟩ => ?_
  subst he
  exact ⟨_, rfl, _, _, _, [], _, [], hW', trodAll_mk1 (shut_bool Try.underlying4 _), Rd.trodAll_below laidOut bel (List.forall_mem_cons.2 ⟨⟨by kernel_rfl, of_decide_eq_true (by kernel_rfl)⟩, fun _ h => by cases h⟩) hA, rfl, bel.frame _, fun h => by cases h⟩

theorem over : Rows.graphThreadsRow.holds Try.pinned (OpenSpec.ofChange Rows.graphThreadsSpec) :=
  OpenClaim.holds_of_wide 4 Try.f4 rfl rfl rfl rfl rfl rfl rfl ⟨rfl, rfl, rfl, rfl, rfl⟩ rfl rfl rfl rfl rfl (by kernel_rfl) Try.func4 (by kernel_rfl)
    (of_decide_eq_true (by kernel_rfl)) (by unfold Func.isWrapper; first | (rw [if_pos (by decide +kernel)]; kernel_rfl) | (rw [if_neg (by decide +kernel)]; exact ⟨rfl, rfl⟩))
    (fun os started H enc _ => lifted os started H enc)

theorem proved : Rows.GraphThreadsSaid := over
#print axioms proved
end Go.Proofs.Ytjhmlbhfnogdiaa.graphThreads
