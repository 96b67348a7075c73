/- GraphStays holds for every input: a right graph stays right; where something is refused it is as it was, and the answer tells nothing else. No condition. -/
import Derived.Test.YtjhmlbhfnogdiaaRows
import Derived.Test.YtjhmlbhfnogdiaaOp
namespace Go.Proofs.Ytjhmlbhfnogdiaa.graphStays
open Go.RowKit Go.Proofs.Ytjhmlbhfnogdiaa Go.Proofs.Ytjhmlbhfnogdiaa.Hd Go.Proofs.Ytjhmlbhfnogdiaa.Gr Go.Proofs.Ytjhmlbhfnogdiaa.Hg Go.Proofs.Ytjhmlbhfnogdiaa.Rr Go.Proofs.Ytjhmlbhfnogdiaa.Wk Go.Proofs.Ytjhmlbhfnogdiaa.Wp Go.Proofs.Ytjhmlbhfnogdiaa.Wa Go.Proofs.Ytjhmlbhfnogdiaa.Wc Go.Proofs.Ytjhmlbhfnogdiaa.Wf Go.Proofs.Ytjhmlbhfnogdiaa.Pl Go.Proofs.Ytjhmlbhfnogdiaa.Op
set_option linter.unusedVariables false

theorem go (a b : Value) (g : Gph) (th : Int) (o : Opn) (hp : posG g) (hv : 0 ≤ o.v) (hm : 0 ≤ o.new.2.2) (w : World) (h : Gr w a b g) :
    Calls Try.prog 3 #[.agg #[a, b], .int .i64 th, opv o] w fun e w' => e = .returned (.bool true) ∧ Ext w w' := by
  obtain ⟨a0, c0, rfl⟩ := h.1.form
  obtain ⟨b0, d0, rfl⟩ := Gr.Ma.form h.2
  have hl1 := h.1.len
  have hl2 := Ma.len uS h.2
  have hsm := h.1.small
  have HG := Lib.hid h
  have HF := Lib.hid (fun (w : World) (h : Gr w (.slice a0 g.1.length c0) (.slice b0 g.2.length d0) g) => few_any _ _ g hp w h)
  clear h
  unfold opv
  go_enter Try.func3, Try.ntmps3
  have HX := Lib.hid (Ext.refl w)
  obtain ⟨wB1, hwB1⟩ : ∃ x, x = ((w.alloc (.cells #[.slice a0 g.1.length c0, .slice b0 g.2.length d0] 25)).alloc (.cells #[.int .i64 o.kind, .int .i64 o.h, .int .i64 o.i, .int .i64 o.k, .int .u64 o.v, .int .i64 o.new.1, .int .i64 o.new.2.1, .int .u64 o.new.2.2] 30)) := ⟨_, rfl⟩
  have hxn : Ext w wB1 := hwB1 ▸ (((Ext.refl w).alloc _).alloc _)
  replace HX := Lib.hid (HX.out.trans hxn)
  replace HG := Lib.hid (HG.out.ext hxn)
  have HG0 := Lib.hid (show Blk wB1 (w.heap.size) #[.slice a0 g.1.length c0, .slice b0 g.2.length d0] 25 from hwB1 ▸ ((blk_at (by simp)).alloc _))
  have HO0 := Lib.hid (show Blk wB1 (w.heap.size + 1) #[.int .i64 o.kind, .int .i64 o.h, .int .i64 o.i, .int .i64 o.k, .int .u64 o.v, .int .i64 o.new.1, .int .i64 o.new.2.1, .int .u64 o.new.2.2] 30 from hwB1 ▸ (blk_at (by simp)))
  clear hxn
  go_wp2_with fail
  rw [← hwB1]
  clear hwB1
  have cG00 : (wB1).cell? ⟨w.heap.size, 0, none⟩ = some (.slice a0 g.1.length c0) := HG0.out.cell (i := 0) rfl
  have cG01 : (wB1).cell? ⟨w.heap.size, 1, none⟩ = some (.slice b0 g.2.length d0) := HG0.out.cell (i := 1) rfl
  have cO00 : (wB1).cell? ⟨w.heap.size + 1, 0, none⟩ = some (.int .i64 o.kind) := HO0.out.cell (i := 0) rfl
  have cO01 : (wB1).cell? ⟨w.heap.size + 1, 1, none⟩ = some (.int .i64 o.h) := HO0.out.cell (i := 1) rfl
  have cO02 : (wB1).cell? ⟨w.heap.size + 1, 2, none⟩ = some (.int .i64 o.i) := HO0.out.cell (i := 2) rfl
  have cO03 : (wB1).cell? ⟨w.heap.size + 1, 3, none⟩ = some (.int .i64 o.k) := HO0.out.cell (i := 3) rfl
  have cO04 : (wB1).cell? ⟨w.heap.size + 1, 4, none⟩ = some (.int .u64 o.v) := HO0.out.cell (i := 4) rfl
  have cO05 : (wB1).cell? ⟨w.heap.size + 1, 5, none⟩ = some (.int .i64 o.new.1) := HO0.out.cell (i := 5) rfl
  have cO06 : (wB1).cell? ⟨w.heap.size + 1, 6, none⟩ = some (.int .i64 o.new.2.1) := HO0.out.cell (i := 6) rfl
  have cO07 : (wB1).cell? ⟨w.heap.size + 1, 7, none⟩ = some (.int .u64 o.new.2.2) := HO0.out.cell (i := 7) rfl
  refine (Sh.shown_any _).mono ?_; rintro e w2 ⟨rfl, hx⟩
  clear cG00 cG01 cO00 cO01 cO02 cO03 cO04 cO05 cO06 cO07
  replace HX := Lib.hid (HX.out.trans hx)
  replace HG0 := Lib.hid (HG0.out.ext hx)
  replace HO0 := Lib.hid (HO0.out.ext hx)
  replace HG := Lib.hid (HG.out.ext hx)
  clear hx
  have cG00 : (w2).cell? ⟨w.heap.size, 0, none⟩ = some (.slice a0 g.1.length c0) := HG0.out.cell (i := 0) rfl
  have cG01 : (w2).cell? ⟨w.heap.size, 1, none⟩ = some (.slice b0 g.2.length d0) := HG0.out.cell (i := 1) rfl
  have cO00 : (w2).cell? ⟨w.heap.size + 1, 0, none⟩ = some (.int .i64 o.kind) := HO0.out.cell (i := 0) rfl
  have cO01 : (w2).cell? ⟨w.heap.size + 1, 1, none⟩ = some (.int .i64 o.h) := HO0.out.cell (i := 1) rfl
  have cO02 : (w2).cell? ⟨w.heap.size + 1, 2, none⟩ = some (.int .i64 o.i) := HO0.out.cell (i := 2) rfl
  have cO03 : (w2).cell? ⟨w.heap.size + 1, 3, none⟩ = some (.int .i64 o.k) := HO0.out.cell (i := 3) rfl
  have cO04 : (w2).cell? ⟨w.heap.size + 1, 4, none⟩ = some (.int .u64 o.v) := HO0.out.cell (i := 4) rfl
  have cO05 : (w2).cell? ⟨w.heap.size + 1, 5, none⟩ = some (.int .i64 o.new.1) := HO0.out.cell (i := 5) rfl
  have cO06 : (w2).cell? ⟨w.heap.size + 1, 6, none⟩ = some (.int .i64 o.new.2.1) := HO0.out.cell (i := 6) rfl
  have cO07 : (w2).cell? ⟨w.heap.size + 1, 7, none⟩ = some (.int .u64 o.new.2.2) := HO0.out.cell (i := 7) rfl
  go_wp2_with fail
  refine (HF.out _ HG.out).mono ?_; rintro e w3 ⟨rfl, hx⟩
  clear cG00 cG01 cO00 cO01 cO02 cO03 cO04 cO05 cO06 cO07
  replace HX := Lib.hid (HX.out.trans hx)
  replace HG0 := Lib.hid (HG0.out.ext hx)
  replace HO0 := Lib.hid (HO0.out.ext hx)
  replace HG := Lib.hid (HG.out.ext hx)
  clear hx
  have cG00 : (w3).cell? ⟨w.heap.size, 0, none⟩ = some (.slice a0 g.1.length c0) := HG0.out.cell (i := 0) rfl
  have cG01 : (w3).cell? ⟨w.heap.size, 1, none⟩ = some (.slice b0 g.2.length d0) := HG0.out.cell (i := 1) rfl
  have cO00 : (w3).cell? ⟨w.heap.size + 1, 0, none⟩ = some (.int .i64 o.kind) := HO0.out.cell (i := 0) rfl
  have cO01 : (w3).cell? ⟨w.heap.size + 1, 1, none⟩ = some (.int .i64 o.h) := HO0.out.cell (i := 1) rfl
  have cO02 : (w3).cell? ⟨w.heap.size + 1, 2, none⟩ = some (.int .i64 o.i) := HO0.out.cell (i := 2) rfl
  have cO03 : (w3).cell? ⟨w.heap.size + 1, 3, none⟩ = some (.int .i64 o.k) := HO0.out.cell (i := 3) rfl
  have cO04 : (w3).cell? ⟨w.heap.size + 1, 4, none⟩ = some (.int .u64 o.v) := HO0.out.cell (i := 4) rfl
  have cO05 : (w3).cell? ⟨w.heap.size + 1, 5, none⟩ = some (.int .i64 o.new.1) := HO0.out.cell (i := 5) rfl
  have cO06 : (w3).cell? ⟨w.heap.size + 1, 6, none⟩ = some (.int .i64 o.new.2.1) := HO0.out.cell (i := 6) rfl
  have cO07 : (w3).cell? ⟨w.heap.size + 1, 7, none⟩ = some (.int .u64 o.new.2.2) := HO0.out.cell (i := 7) rfl
  cases hf : fewG g with
  | false =>
    go_wp2_with fail
    go_ret
    exact ⟨rfl, HX.out⟩
  | true =>
    obtain ⟨hr, hn60, _⟩ := few_of hf
    clear hf HF
    have HD := Lib.hid (fun (a b : Value) (w : World) (h : Gr w a b g) => Wg.do_any a b g th o w h hr hp hm (by omega))
    obtain ⟨hr', hp', hs', hn', hn''⟩ := do_good (th := th) hr hp hv hm
    have HE := do_err (th := th) hr hp hv hm
    generalize doG g th o = d at *
    generalize doA g th o = an at *
    obtain ⟨e1, e2, e3⟩ := an
    replace HE : e1 ≠ 0 → d = g ∧ (e2, e3) = (0, false) := fun h => ⟨(HE h).1, (HE h).2.1⟩
    have HS := Lib.hid hs'
    clear hs'
    have HR := Lib.hid (fun (a b : Value) (w : World) (h : Gr w a b d) => right_any a b d hp' w h)
    rw [hr'] at HR
    go_wp2_with fail
    refine (HD.out _ _ _ HG.out).mono ?_; rintro e w4 ⟨vk, uk, rfl, hg, hx⟩
    obtain ⟨ak, xk, rfl⟩ := hg.1.form
    obtain ⟨bk, yk, rfl⟩ := Gr.Ma.form hg.2
    clear cG00 cG01 cO00 cO01 cO02 cO03 cO04 cO05 cO06 cO07
    replace HX := Lib.hid (HX.out.trans hx)
    replace HG0 := Lib.hid (HG0.out.ext hx)
    replace HO0 := Lib.hid (HO0.out.ext hx)
    replace HG := Lib.hid (HG.out.ext hx)
    have HGk := Lib.hid hg
    clear hg hx
    unfold anv
    obtain ⟨wB5, hwB5⟩ : ∃ x, x = ((w4.alloc (.cells #[.slice ak d.1.length xk, .slice bk d.2.length yk] 25)).alloc (.cells #[.int .i64 e1, .int .u64 e2, .bool e3] 35)) := ⟨_, rfl⟩
    have hxn : Ext w4 wB5 := hwB5 ▸ (((Ext.refl w4).alloc _).alloc _)
    replace HX := Lib.hid (HX.out.trans hxn)
    replace HG0 := Lib.hid (HG0.out.ext hxn)
    replace HO0 := Lib.hid (HO0.out.ext hxn)
    replace HG := Lib.hid (HG.out.ext hxn)
    replace HGk := Lib.hid (HGk.out.ext hxn)
    have HKk := Lib.hid (show Blk wB5 (w4.heap.size) #[.slice ak d.1.length xk, .slice bk d.2.length yk] 25 from hwB5 ▸ ((blk_at (by simp)).alloc _))
    have HAk := Lib.hid (show Blk wB5 (w4.heap.size + 1) #[.int .i64 e1, .int .u64 e2, .bool e3] 35 from hwB5 ▸ (blk_at (by simp)))
    clear hxn
    have cG00 : (((w4.alloc (.cells #[.slice ak d.1.length xk, .slice bk d.2.length yk] 25)).alloc (.cells #[.int .i64 e1, .int .u64 e2, .bool e3] 35))).cell? ⟨w.heap.size, 0, none⟩ = some (.slice a0 g.1.length c0) := by rw [← hwB5]; exact HG0.out.cell (i := 0) rfl
    have cG01 : (((w4.alloc (.cells #[.slice ak d.1.length xk, .slice bk d.2.length yk] 25)).alloc (.cells #[.int .i64 e1, .int .u64 e2, .bool e3] 35))).cell? ⟨w.heap.size, 1, none⟩ = some (.slice b0 g.2.length d0) := by rw [← hwB5]; exact HG0.out.cell (i := 1) rfl
    have cO00 : (((w4.alloc (.cells #[.slice ak d.1.length xk, .slice bk d.2.length yk] 25)).alloc (.cells #[.int .i64 e1, .int .u64 e2, .bool e3] 35))).cell? ⟨w.heap.size + 1, 0, none⟩ = some (.int .i64 o.kind) := by rw [← hwB5]; exact HO0.out.cell (i := 0) rfl
    have cO01 : (((w4.alloc (.cells #[.slice ak d.1.length xk, .slice bk d.2.length yk] 25)).alloc (.cells #[.int .i64 e1, .int .u64 e2, .bool e3] 35))).cell? ⟨w.heap.size + 1, 1, none⟩ = some (.int .i64 o.h) := by rw [← hwB5]; exact HO0.out.cell (i := 1) rfl
    have cO02 : (((w4.alloc (.cells #[.slice ak d.1.length xk, .slice bk d.2.length yk] 25)).alloc (.cells #[.int .i64 e1, .int .u64 e2, .bool e3] 35))).cell? ⟨w.heap.size + 1, 2, none⟩ = some (.int .i64 o.i) := by rw [← hwB5]; exact HO0.out.cell (i := 2) rfl
    have cO03 : (((w4.alloc (.cells #[.slice ak d.1.length xk, .slice bk d.2.length yk] 25)).alloc (.cells #[.int .i64 e1, .int .u64 e2, .bool e3] 35))).cell? ⟨w.heap.size + 1, 3, none⟩ = some (.int .i64 o.k) := by rw [← hwB5]; exact HO0.out.cell (i := 3) rfl
    have cO04 : (((w4.alloc (.cells #[.slice ak d.1.length xk, .slice bk d.2.length yk] 25)).alloc (.cells #[.int .i64 e1, .int .u64 e2, .bool e3] 35))).cell? ⟨w.heap.size + 1, 4, none⟩ = some (.int .u64 o.v) := by rw [← hwB5]; exact HO0.out.cell (i := 4) rfl
    have cO05 : (((w4.alloc (.cells #[.slice ak d.1.length xk, .slice bk d.2.length yk] 25)).alloc (.cells #[.int .i64 e1, .int .u64 e2, .bool e3] 35))).cell? ⟨w.heap.size + 1, 5, none⟩ = some (.int .i64 o.new.1) := by rw [← hwB5]; exact HO0.out.cell (i := 5) rfl
    have cO06 : (((w4.alloc (.cells #[.slice ak d.1.length xk, .slice bk d.2.length yk] 25)).alloc (.cells #[.int .i64 e1, .int .u64 e2, .bool e3] 35))).cell? ⟨w.heap.size + 1, 6, none⟩ = some (.int .i64 o.new.2.1) := by rw [← hwB5]; exact HO0.out.cell (i := 6) rfl
    have cO07 : (((w4.alloc (.cells #[.slice ak d.1.length xk, .slice bk d.2.length yk] 25)).alloc (.cells #[.int .i64 e1, .int .u64 e2, .bool e3] 35))).cell? ⟨w.heap.size + 1, 7, none⟩ = some (.int .u64 o.new.2.2) := by rw [← hwB5]; exact HO0.out.cell (i := 7) rfl
    go_wp2_with fail
    rw [← hwB5]
    clear hwB5
    clear cG00 cG01 cO00 cO01 cO02 cO03 cO04 cO05 cO06 cO07
    have cG00 : (wB5).cell? ⟨w.heap.size, 0, none⟩ = some (.slice a0 g.1.length c0) := HG0.out.cell (i := 0) rfl
    have cG01 : (wB5).cell? ⟨w.heap.size, 1, none⟩ = some (.slice b0 g.2.length d0) := HG0.out.cell (i := 1) rfl
    have cO00 : (wB5).cell? ⟨w.heap.size + 1, 0, none⟩ = some (.int .i64 o.kind) := HO0.out.cell (i := 0) rfl
    have cO01 : (wB5).cell? ⟨w.heap.size + 1, 1, none⟩ = some (.int .i64 o.h) := HO0.out.cell (i := 1) rfl
    have cO02 : (wB5).cell? ⟨w.heap.size + 1, 2, none⟩ = some (.int .i64 o.i) := HO0.out.cell (i := 2) rfl
    have cO03 : (wB5).cell? ⟨w.heap.size + 1, 3, none⟩ = some (.int .i64 o.k) := HO0.out.cell (i := 3) rfl
    have cO04 : (wB5).cell? ⟨w.heap.size + 1, 4, none⟩ = some (.int .u64 o.v) := HO0.out.cell (i := 4) rfl
    have cO05 : (wB5).cell? ⟨w.heap.size + 1, 5, none⟩ = some (.int .i64 o.new.1) := HO0.out.cell (i := 5) rfl
    have cO06 : (wB5).cell? ⟨w.heap.size + 1, 6, none⟩ = some (.int .i64 o.new.2.1) := HO0.out.cell (i := 6) rfl
    have cO07 : (wB5).cell? ⟨w.heap.size + 1, 7, none⟩ = some (.int .u64 o.new.2.2) := HO0.out.cell (i := 7) rfl
    have cKk0 : (wB5).cell? ⟨w4.heap.size, 0, none⟩ = some (.slice ak d.1.length xk) := HKk.out.cell (i := 0) rfl
    have cKk1 : (wB5).cell? ⟨w4.heap.size, 1, none⟩ = some (.slice bk d.2.length yk) := HKk.out.cell (i := 1) rfl
    have cAk0 : (wB5).cell? ⟨w4.heap.size + 1, 0, none⟩ = some (.int .i64 e1) := HAk.out.cell (i := 0) rfl
    have cAk1 : (wB5).cell? ⟨w4.heap.size + 1, 1, none⟩ = some (.int .u64 e2) := HAk.out.cell (i := 1) rfl
    have cAk2 : (wB5).cell? ⟨w4.heap.size + 1, 2, none⟩ = some (.bool e3) := HAk.out.cell (i := 2) rfl
    refine (HR.out _ _ _ HGk.out).mono ?_; rintro e w6 ⟨rfl, hx⟩
    clear cG00 cG01 cO00 cO01 cO02 cO03 cO04 cO05 cO06 cO07 cKk0 cKk1 cAk0 cAk1 cAk2
    replace HX := Lib.hid (HX.out.trans hx)
    replace HG0 := Lib.hid (HG0.out.ext hx)
    replace HO0 := Lib.hid (HO0.out.ext hx)
    replace HKk := Lib.hid (HKk.out.ext hx)
    replace HAk := Lib.hid (HAk.out.ext hx)
    replace HG := Lib.hid (HG.out.ext hx)
    replace HGk := Lib.hid (HGk.out.ext hx)
    clear hx
    have cG00 : (w6).cell? ⟨w.heap.size, 0, none⟩ = some (.slice a0 g.1.length c0) := HG0.out.cell (i := 0) rfl
    have cG01 : (w6).cell? ⟨w.heap.size, 1, none⟩ = some (.slice b0 g.2.length d0) := HG0.out.cell (i := 1) rfl
    have cO00 : (w6).cell? ⟨w.heap.size + 1, 0, none⟩ = some (.int .i64 o.kind) := HO0.out.cell (i := 0) rfl
    have cO01 : (w6).cell? ⟨w.heap.size + 1, 1, none⟩ = some (.int .i64 o.h) := HO0.out.cell (i := 1) rfl
    have cO02 : (w6).cell? ⟨w.heap.size + 1, 2, none⟩ = some (.int .i64 o.i) := HO0.out.cell (i := 2) rfl
    have cO03 : (w6).cell? ⟨w.heap.size + 1, 3, none⟩ = some (.int .i64 o.k) := HO0.out.cell (i := 3) rfl
    have cO04 : (w6).cell? ⟨w.heap.size + 1, 4, none⟩ = some (.int .u64 o.v) := HO0.out.cell (i := 4) rfl
    have cO05 : (w6).cell? ⟨w.heap.size + 1, 5, none⟩ = some (.int .i64 o.new.1) := HO0.out.cell (i := 5) rfl
    have cO06 : (w6).cell? ⟨w.heap.size + 1, 6, none⟩ = some (.int .i64 o.new.2.1) := HO0.out.cell (i := 6) rfl
    have cO07 : (w6).cell? ⟨w.heap.size + 1, 7, none⟩ = some (.int .u64 o.new.2.2) := HO0.out.cell (i := 7) rfl
    have cKk0 : (w6).cell? ⟨w4.heap.size, 0, none⟩ = some (.slice ak d.1.length xk) := HKk.out.cell (i := 0) rfl
    have cKk1 : (w6).cell? ⟨w4.heap.size, 1, none⟩ = some (.slice bk d.2.length yk) := HKk.out.cell (i := 1) rfl
    have cAk0 : (w6).cell? ⟨w4.heap.size + 1, 0, none⟩ = some (.int .i64 e1) := HAk.out.cell (i := 0) rfl
    have cAk1 : (w6).cell? ⟨w4.heap.size + 1, 1, none⟩ = some (.int .u64 e2) := HAk.out.cell (i := 1) rfl
    have cAk2 : (w6).cell? ⟨w4.heap.size + 1, 2, none⟩ = some (.bool e3) := HAk.out.cell (i := 2) rfl
    by_cases h0 : e1 = 0
    case neg =>
      obtain ⟨hdg, hd2⟩ := HE h0
      obtain ⟨rfl, rfl⟩ : e2 = 0 ∧ e3 = false := by simpa using hd2
      replace hdg := hdg.symm
      subst hdg
      have hb0 : (e1 == 0) = false := by simpa using h0
      have hse : ∀ W : World, (Op.equalIn 10000 35 (.agg #[.int .i64 e1, .int .u64 0, .bool false]) (.agg #[.int .i64 e1, .int .u64 0, .bool false])).run Try.prog W = .ok true W := fun W => by rw [eqAns]; simp
      clear HE hr' hp' HS hn' hn'' hd2
      go_wp2_with fail
      refine ((Sm.same_any _ _ _ _ _ _ _ HGk.out HG.out)).mono ?_; rintro e w7 ⟨rfl, hx⟩
      clear cG00 cG01 cO00 cO01 cO02 cO03 cO04 cO05 cO06 cO07 cKk0 cKk1 cAk0 cAk1 cAk2
      replace HX := Lib.hid (HX.out.trans hx)
      replace HG0 := Lib.hid (HG0.out.ext hx)
      replace HO0 := Lib.hid (HO0.out.ext hx)
      replace HKk := Lib.hid (HKk.out.ext hx)
      replace HAk := Lib.hid (HAk.out.ext hx)
      replace HG := Lib.hid (HG.out.ext hx)
      replace HGk := Lib.hid (HGk.out.ext hx)
      clear hx
      have cG00 : (w7).cell? ⟨w.heap.size, 0, none⟩ = some (.slice a0 g.1.length c0) := HG0.out.cell (i := 0) rfl
      have cG01 : (w7).cell? ⟨w.heap.size, 1, none⟩ = some (.slice b0 g.2.length d0) := HG0.out.cell (i := 1) rfl
      have cO00 : (w7).cell? ⟨w.heap.size + 1, 0, none⟩ = some (.int .i64 o.kind) := HO0.out.cell (i := 0) rfl
      have cO01 : (w7).cell? ⟨w.heap.size + 1, 1, none⟩ = some (.int .i64 o.h) := HO0.out.cell (i := 1) rfl
      have cO02 : (w7).cell? ⟨w.heap.size + 1, 2, none⟩ = some (.int .i64 o.i) := HO0.out.cell (i := 2) rfl
      have cO03 : (w7).cell? ⟨w.heap.size + 1, 3, none⟩ = some (.int .i64 o.k) := HO0.out.cell (i := 3) rfl
      have cO04 : (w7).cell? ⟨w.heap.size + 1, 4, none⟩ = some (.int .u64 o.v) := HO0.out.cell (i := 4) rfl
      have cO05 : (w7).cell? ⟨w.heap.size + 1, 5, none⟩ = some (.int .i64 o.new.1) := HO0.out.cell (i := 5) rfl
      have cO06 : (w7).cell? ⟨w.heap.size + 1, 6, none⟩ = some (.int .i64 o.new.2.1) := HO0.out.cell (i := 6) rfl
      have cO07 : (w7).cell? ⟨w.heap.size + 1, 7, none⟩ = some (.int .u64 o.new.2.2) := HO0.out.cell (i := 7) rfl
      have cKk0 : (w7).cell? ⟨w4.heap.size, 0, none⟩ = some (.slice ak g.1.length xk) := HKk.out.cell (i := 0) rfl
      have cKk1 : (w7).cell? ⟨w4.heap.size, 1, none⟩ = some (.slice bk g.2.length yk) := HKk.out.cell (i := 1) rfl
      have cAk0 : (w7).cell? ⟨w4.heap.size + 1, 0, none⟩ = some (.int .i64 e1) := HAk.out.cell (i := 0) rfl
      have cAk1 : (w7).cell? ⟨w4.heap.size + 1, 1, none⟩ = some (.int .u64 0) := HAk.out.cell (i := 1) rfl
      have cAk2 : (w7).cell? ⟨w4.heap.size + 1, 2, none⟩ = some (.bool false) := HAk.out.cell (i := 2) rfl
      go_wp2_with fail
      go_ret
      exact ⟨by first | rfl | (simp; done), HX.out⟩
    case pos =>
      subst h0
      have hk1 := HGk.out.1.len
      have hk2 : ∀ (ty : TypeId) (W : World), (Builtin.len_ #[23] ty #[.slice bk d.2.length yk]).run Try.prog W = .ok (.int .i64 g.2.length) W := fun ty W => by rw [Ma.len uS HGk.out.2, HS.out]
      obtain ⟨n1, hn1⟩ : ∃ n : Int, (d.1.length : Int) = n := ⟨_, rfl⟩
      obtain ⟨n2, hn2⟩ : ∃ n : Int, (g.1.length : Int) = n := ⟨_, rfl⟩
      have b1 : n2 ≤ n1 := by omega
      have b2 : n1 ≤ n2 + 1 := by omega
      have b3 : n2 ≤ 60 := by omega
      have b4 : 0 ≤ n2 := by omega
      rw [hn1] at hk1
      rw [hn2] at hl1
      clear HE hn1 hn2 hn' hn'' hsm
      go_wp2_with fail
      go_ret
      exact ⟨by first | rfl | (simp; done), HX.out⟩

theorem walk (v0 : Value) (v1 : Value) (v2 : Value) (W : World) (r0 : Rd.V Try.prog W 25 v0) (r1 : Rd.V Try.prog W 3 v1) (r2 : Rd.V Try.prog W 30 v2) : Calls Try.prog 3 #[v0, v1, v2] W fun e w' => e = .returned (.bool true) ∧ Below W.heap.size W w' := by
  obtain ⟨cs, rfl, hs⟩ := r0.struct Try.underlying25
  obtain ⟨a, b, g, rfl, hg, hwf⟩ := Gr.of_R hs
  obtain ⟨th, rfl, _⟩ := r1.int Try.underlying3
  obtain ⟨os, rfl, ho⟩ := r2.struct Try.underlying30
  obtain ⟨o, rfl, hv, hm⟩ := op_of_R ho
  exact (go a b g th o (posG_of hwf) hv.1 hm W hg).mono fun e w' ⟨he, hw⟩ => ⟨he, hw.below⟩

open Go.ChangeShapes Go.WideShapes Go.ChangeAt Go.RowKit
theorem own : ownKnob Try.prog.godebug = none := by kernel_rfl
theorem laidOut : laidOutB Try.prog = true := by kernel_rfl

set_option maxRecDepth 100000 in
theorem lifted (os : Os) (started : os.Started) (H : Type) (enc : TypeId × Value → H) :
    ReturnsInHanded {} Try.checked os 3 .any (Rows.graphStaysSpec.pre6 enc Try.prog Try.f3 Rows.graphStaysRow.domain false) (Rows.graphStaysSpec.post enc Try.prog Try.f3 false true false false) := by
  refine returnsInHanded_of_change_sized (C := Try.checked) own started (by kernel_rfl) Try.func3
    (ChangeSpec.witness6 (enc := enc) (C := Try.checked) false ⟨#[], #[.agg #[.slice none 0 0, .slice none 0 0], .int .i64 0, .agg #[.int .i64 0, .int .i64 0, .int .i64 0, .int .i64 0, .int .u64 0, .int .i64 0, .int .i64 0, .int .u64 0]], []⟩ 12 (by kernel_rfl) (by kernel_rfl) (by kernel_rfl) (by kernel_rfl)) ?_
  intro W base args ds gs before hval0 hW _ hsz0 _
  have hval : ∀ (j : Nat) t v, Try.f3.params[j]? = some t → args[j]? = some v → Value.okWide Try.prog W .any base t v := hval0
  have hW' := hW
  obtain ⟨p, q, hA0, hV, rfl, _, _⟩ := hW
  have hA : DataW.TrodAll enc Try.prog W 0 (fun _ => true) true Try.f3.params.toList args.toList ds p := hA0
  obtain ⟨rfl, rfl⟩ := trodVars_none hV
  have hsz : (DataW.weightsEach Try.prog (Try.f3.params.toList ++ []) (ds ++ [])).all (· ≤ reachBytes) = true := hsz0
  rw [Try.params3] at hA hval hsz
  have hA2 := hA
  obtain ⟨v0, vs0, d0, ds0, p0, q0, hargs, rfl, rfl, h0, r0⟩ := trodAll_cons hA2
  obtain ⟨v1, vs1, d1, ds1, p1, q1, rfl, rfl, rfl, h1, r1⟩ := trodAll_cons r0
  obtain ⟨v2, vs2, d2, ds2, p2, q2, rfl, rfl, rfl, h2, r2⟩ := trodAll_cons r1
  obtain ⟨rfl, rfl, rfl⟩ := trodAll_nil r2
  obtain rfl : args = #[v0, v1, v2] := by cases args; simp_all
  have hR := Rd.trodAll_V hA (fun n hn => by simpa using List.all_eq_true.1 hsz n (by simpa using hn)) (fun j t v hj hv => hval j t v (by simpa using hj) (by simpa using hv))
  clear hA0 hval0 hA2
  refine (walk v0 v1 v2 W (hR 0 25 v0 rfl rfl) (hR 1 3 v1 rfl rfl) (hR 2 30 v2 rfl rfl)).mono fun e W' ⟨he, bel⟩ => ?_
  subst he
  exact ⟨_, rfl, _, _, _, [], _, [], hW', trodAll_mk1 (shut_bool Try.underlying4 _), Rd.trodAll_below laidOut bel (List.forall_mem_cons.2 ⟨⟨by kernel_rfl, of_decide_eq_true (by kernel_rfl)⟩, List.forall_mem_cons.2 ⟨⟨by kernel_rfl, of_decide_eq_true (by kernel_rfl)⟩, List.forall_mem_cons.2 ⟨⟨by kernel_rfl, of_decide_eq_true (by kernel_rfl)⟩, fun _ h => by cases h⟩⟩⟩) hA, rfl, bel.frame _, fun h => by cases h⟩

theorem over : Rows.graphStaysRow.holds Try.pinned (OpenSpec.ofChange Rows.graphStaysSpec) :=
  OpenClaim.holds_of_wide 3 Try.f3 rfl rfl rfl rfl rfl rfl rfl ⟨rfl, rfl, rfl, rfl, rfl⟩ rfl rfl rfl rfl rfl (by kernel_rfl) Try.func3 (by kernel_rfl)
    (of_decide_eq_true (by kernel_rfl)) (by unfold Func.isWrapper; first | (rw [if_pos (by decide +kernel)]; kernel_rfl) | (rw [if_neg (by decide +kernel)]; exact ⟨rfl, rfl⟩))
    (fun os started H enc _ => lifted os started H enc)

theorem proved : Rows.GraphStaysSaid := over
#print axioms proved
end Go.Proofs.Ytjhmlbhfnogdiaa.graphStays
