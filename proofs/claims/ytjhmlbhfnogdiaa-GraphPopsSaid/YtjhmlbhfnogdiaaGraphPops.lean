/- GraphPops holds for every input: a handle that was pushed once more, and popped, leaves the graph as it was; both handles are of one object. No condition. -/
import Derived.Test.YtjhmlbhfnogdiaaRows
import Derived.Test.YtjhmlbhfnogdiaaOp
import Derived.Test.YtjhmlbhfnogdiaaPq
namespace Go.Proofs.Ytjhmlbhfnogdiaa.graphPops
open Go.RowKit Go.Proofs.Ytjhmlbhfnogdiaa Go.Proofs.Ytjhmlbhfnogdiaa.Hd Go.Proofs.Ytjhmlbhfnogdiaa.Gr Go.Proofs.Ytjhmlbhfnogdiaa.Hg Go.Proofs.Ytjhmlbhfnogdiaa.Rr Go.Proofs.Ytjhmlbhfnogdiaa.Wk Go.Proofs.Ytjhmlbhfnogdiaa.Wp Go.Proofs.Ytjhmlbhfnogdiaa.Wa Go.Proofs.Ytjhmlbhfnogdiaa.Wc Go.Proofs.Ytjhmlbhfnogdiaa.Wf Go.Proofs.Ytjhmlbhfnogdiaa.Pl Go.Proofs.Ytjhmlbhfnogdiaa.Op Go.Proofs.Ytjhmlbhfnogdiaa.Pq
set_option linter.unusedVariables false

set_option maxHeartbeats 1000000 in
theorem go (a b : Value) (g : Gph) (th hh : Int) (hp : posG g) (w : World) (h : Gr w a b g) :
    Calls Try.prog 6 #[.agg #[a, b], .int .i64 th, .int .i64 hh] w fun e w' => e = .returned (.bool true) ∧ Ext w w' := by
  obtain ⟨a0, c0, rfl⟩ := h.1.form
  obtain ⟨b0, d0, rfl⟩ := Gr.Ma.form h.2
  have hl1 := h.1.len
  have hl2 := Ma.len uS h.2
  have hsm := h.1.small
  have HG := Lib.hid h
  have HF := Lib.hid (fun (w : World) (h : Gr w (.slice a0 g.1.length c0) (.slice b0 g.2.length d0) g) => few_any _ _ g hp w h)
  clear h
  go_enter Try.func6, Try.ntmps6
  have HX := Lib.hid (Ext.refl w)
  obtain ⟨wB1, hwB1⟩ : ∃ x, x = (w.alloc (.cells #[.slice a0 g.1.length c0, .slice b0 g.2.length d0] 25)) := ⟨_, rfl⟩
  have hxn : Ext w wB1 := hwB1 ▸ ((Ext.refl w).alloc _)
  replace HX := Lib.hid (HX.out.trans hxn)
  replace HG := Lib.hid (HG.out.ext hxn)
  have HG0 := Lib.hid (show Blk wB1 (w.heap.size) #[.slice a0 g.1.length c0, .slice b0 g.2.length d0] 25 from hwB1 ▸ (blk_at (by simp)))
  clear hxn
  go_wp2_with fail
  rw [← hwB1]
  clear hwB1
  have cG00 : (wB1).cell? ⟨w.heap.size, 0, none⟩ = some (.slice a0 g.1.length c0) := HG0.out.cell (i := 0) rfl
  have cG01 : (wB1).cell? ⟨w.heap.size, 1, none⟩ = some (.slice b0 g.2.length d0) := HG0.out.cell (i := 1) rfl
  refine (Sh.shown_any _).mono ?_; rintro e w2 ⟨rfl, hx⟩
  clear cG00 cG01
  replace HX := Lib.hid (HX.out.trans hx)
  replace HG0 := Lib.hid (HG0.out.ext hx)
  replace HG := Lib.hid (HG.out.ext hx)
  clear hx
  have cG00 : (w2).cell? ⟨w.heap.size, 0, none⟩ = some (.slice a0 g.1.length c0) := HG0.out.cell (i := 0) rfl
  have cG01 : (w2).cell? ⟨w.heap.size, 1, none⟩ = some (.slice b0 g.2.length d0) := HG0.out.cell (i := 1) rfl
  go_wp2_with fail
  refine (HF.out _ HG.out).mono ?_; rintro e w3 ⟨rfl, hx⟩
  clear cG00 cG01
  replace HX := Lib.hid (HX.out.trans hx)
  replace HG0 := Lib.hid (HG0.out.ext hx)
  replace HG := Lib.hid (HG.out.ext hx)
  clear hx
  have cG00 : (w3).cell? ⟨w.heap.size, 0, none⟩ = some (.slice a0 g.1.length c0) := HG0.out.cell (i := 0) rfl
  have cG01 : (w3).cell? ⟨w.heap.size, 1, none⟩ = some (.slice b0 g.2.length d0) := HG0.out.cell (i := 1) rfl
  cases hf : fewG g with
  | false =>
    go_wp2_with fail
    go_ret
    exact ⟨rfl, HX.out⟩
  | true =>
    obtain ⟨hr, hn60, _⟩ := few_of hf
    clear hf HF
    have HD := Lib.hid (fun (a b : Value) (w : World) (h : Gr w a b g) => Wg.do_any a b g th (o9 hh) w h hr hp (Int.le_refl 0) (by omega))
    have hd := do_good (th := th) (o := o9 hh) hr hp (Int.le_refl 0) (Int.le_refl 0)
    have HE := do_err (th := th) (o := o9 hh) hr hp (Int.le_refl 0) (Int.le_refl 0)
    have HP := pops (th := th) (h := hh) hr hp
    have hdl : (doG g th (o9 hh)).1.length ≤ 1000 := by omega
    generalize doG g th (o9 hh) = d at *
    generalize doA g th (o9 hh) = an at *
    obtain ⟨e1, e2, e3⟩ := an
    replace HE : e1 ≠ 0 → d = g := fun h => (HE h).1
    clear hd
    generalize hn : (rowOf g th.toNat).length = n at HP
    go_wp2_with fail
    refine (HD.out _ _ _ HG.out).mono ?_; rintro e w4 ⟨vk, uk, rfl, hg, hx⟩
    obtain ⟨ak, xk, rfl⟩ := hg.1.form
    obtain ⟨bk, yk, rfl⟩ := Gr.Ma.form hg.2
    clear cG00 cG01
    replace HX := Lib.hid (HX.out.trans hx)
    replace HG0 := Lib.hid (HG0.out.ext hx)
    replace HG := Lib.hid (HG.out.ext hx)
    have HGk := Lib.hid hg
    clear hg hx
    unfold anv
    obtain ⟨wB5, hwB5⟩ : ∃ x, x = ((w4.alloc (.cells #[.slice ak d.1.length xk, .slice bk d.2.length yk] 25)).alloc (.cells #[.int .i64 e1, .int .u64 e2, .bool e3] 35)) := ⟨_, rfl⟩
    have hxn : Ext w4 wB5 := hwB5 ▸ (((Ext.refl w4).alloc _).alloc _)
    replace HX := Lib.hid (HX.out.trans hxn)
    replace HG0 := Lib.hid (HG0.out.ext hxn)
    replace HG := Lib.hid (HG.out.ext hxn)
    replace HGk := Lib.hid (HGk.out.ext hxn)
    have HKk := Lib.hid (show Blk wB5 (w4.heap.size) #[.slice ak d.1.length xk, .slice bk d.2.length yk] 25 from hwB5 ▸ ((blk_at (by simp)).alloc _))
    have HAk := Lib.hid (show Blk wB5 (w4.heap.size + 1) #[.int .i64 e1, .int .u64 e2, .bool e3] 35 from hwB5 ▸ (blk_at (by simp)))
    clear hxn
    have cG00 : (((w4.alloc (.cells #[.slice ak d.1.length xk, .slice bk d.2.length yk] 25)).alloc (.cells #[.int .i64 e1, .int .u64 e2, .bool e3] 35))).cell? ⟨w.heap.size, 0, none⟩ = some (.slice a0 g.1.length c0) := by rw [← hwB5]; exact HG0.out.cell (i := 0) rfl
    have cG01 : (((w4.alloc (.cells #[.slice ak d.1.length xk, .slice bk d.2.length yk] 25)).alloc (.cells #[.int .i64 e1, .int .u64 e2, .bool e3] 35))).cell? ⟨w.heap.size, 1, none⟩ = some (.slice b0 g.2.length d0) := by rw [← hwB5]; exact HG0.out.cell (i := 1) rfl
    by_cases h0 : e1 = 0
    case neg =>
      replace HE := (HE h0).symm
      subst HE
      have hb0 : (e1 == 0) = false := by simpa using h0
      clear HP hdl
      go_wp2_with fail
      rw [← hwB5]
      clear hwB5
      clear cG00 cG01
      have cG00 : (wB5).cell? ⟨w.heap.size, 0, none⟩ = some (.slice a0 g.1.length c0) := HG0.out.cell (i := 0) rfl
      have cG01 : (wB5).cell? ⟨w.heap.size, 1, none⟩ = some (.slice b0 g.2.length d0) := HG0.out.cell (i := 1) rfl
      have cKk0 : (wB5).cell? ⟨w4.heap.size, 0, none⟩ = some (.slice ak g.1.length xk) := HKk.out.cell (i := 0) rfl
      have cKk1 : (wB5).cell? ⟨w4.heap.size, 1, none⟩ = some (.slice bk g.2.length yk) := HKk.out.cell (i := 1) rfl
      have cAk0 : (wB5).cell? ⟨w4.heap.size + 1, 0, none⟩ = some (.int .i64 e1) := HAk.out.cell (i := 0) rfl
      have cAk1 : (wB5).cell? ⟨w4.heap.size + 1, 1, none⟩ = some (.int .u64 e2) := HAk.out.cell (i := 1) rfl
      have cAk2 : (wB5).cell? ⟨w4.heap.size + 1, 2, none⟩ = some (.bool e3) := HAk.out.cell (i := 2) rfl
      refine ((Sm.same_any _ _ _ _ _ _ _ HGk.out HG.out)).mono ?_; rintro e w6 ⟨rfl, hx⟩
      clear cG00 cG01 cKk0 cKk1 cAk0 cAk1 cAk2
      replace HX := Lib.hid (HX.out.trans hx)
      replace HG0 := Lib.hid (HG0.out.ext hx)
      replace HKk := Lib.hid (HKk.out.ext hx)
      replace HAk := Lib.hid (HAk.out.ext hx)
      replace HG := Lib.hid (HG.out.ext hx)
      replace HGk := Lib.hid (HGk.out.ext hx)
      clear hx
      have cG00 : (w6).cell? ⟨w.heap.size, 0, none⟩ = some (.slice a0 g.1.length c0) := HG0.out.cell (i := 0) rfl
      have cG01 : (w6).cell? ⟨w.heap.size, 1, none⟩ = some (.slice b0 g.2.length d0) := HG0.out.cell (i := 1) rfl
      have cKk0 : (w6).cell? ⟨w4.heap.size, 0, none⟩ = some (.slice ak g.1.length xk) := HKk.out.cell (i := 0) rfl
      have cKk1 : (w6).cell? ⟨w4.heap.size, 1, none⟩ = some (.slice bk g.2.length yk) := HKk.out.cell (i := 1) rfl
      have cAk0 : (w6).cell? ⟨w4.heap.size + 1, 0, none⟩ = some (.int .i64 e1) := HAk.out.cell (i := 0) rfl
      have cAk1 : (w6).cell? ⟨w4.heap.size + 1, 1, none⟩ = some (.int .u64 e2) := HAk.out.cell (i := 1) rfl
      have cAk2 : (w6).cell? ⟨w4.heap.size + 1, 2, none⟩ = some (.bool e3) := HAk.out.cell (i := 2) rfl
      go_wp2_with fail
      go_ret
      exact ⟨by first | rfl | (simp; done), HX.out⟩
    case pos =>
      subst h0
      obtain ⟨⟨ht0, ht1⟩, hy, hz, hzg, hr', hp'⟩ := HP rfl
      clear HE HP
      obtain ⟨p, up, hxp, hcp, hsp⟩ := Ma.at_ uS szS HG.out.2 ht0 ht1
      obtain ⟨rp, qp, rfl⟩ : ∃ a c, up = .slice a (rowOf g th.toNat).length c := Row.form hsp
      have hlp : ∀ (ty : TypeId) (W : World), (Builtin.len_ #[42] ty #[.slice rp (rowOf g th.toNat).length qp]).run Try.prog W = .ok (.int .i64 (rowOf g th.toNat).length) W := Sl.len uI hsp
      clear hsp
      rw [hwB5] at hcp
      rw [hn] at hcp hlp
      clear hn
      have HD2 := Lib.hid (fun (a b : Value) (w : World) (h : Gr w a b d) => Wg.do_any a b d th (o8 hh n) w h hr' hp' (Int.le_refl 0) hdl)
      rw [hy] at HD2
      generalize doG d th (o8 hh n) = d8 at HD2
      have HD3 := Lib.hid (fun (a b : Value) (w : World) (h : Gr w a b d) => Wg.do_any a b d th o10 w h hr' hp' (Int.le_refl 0) hdl)
      rw [hz, hzg] at HD3
      clear hy hz hzg hr' hp' hdl
      go_wp2_with fail
      rw [← hwB5]
      clear hwB5
      clear cG00 cG01
      have cG00 : (wB5).cell? ⟨w.heap.size, 0, none⟩ = some (.slice a0 g.1.length c0) := HG0.out.cell (i := 0) rfl
      have cG01 : (wB5).cell? ⟨w.heap.size, 1, none⟩ = some (.slice b0 g.2.length d0) := HG0.out.cell (i := 1) rfl
      have cKk0 : (wB5).cell? ⟨w4.heap.size, 0, none⟩ = some (.slice ak d.1.length xk) := HKk.out.cell (i := 0) rfl
      have cKk1 : (wB5).cell? ⟨w4.heap.size, 1, none⟩ = some (.slice bk d.2.length yk) := HKk.out.cell (i := 1) rfl
      have cAk0 : (wB5).cell? ⟨w4.heap.size + 1, 0, none⟩ = some (.int .i64 0) := HAk.out.cell (i := 0) rfl
      have cAk1 : (wB5).cell? ⟨w4.heap.size + 1, 1, none⟩ = some (.int .u64 e2) := HAk.out.cell (i := 1) rfl
      have cAk2 : (wB5).cell? ⟨w4.heap.size + 1, 2, none⟩ = some (.bool e3) := HAk.out.cell (i := 2) rfl
      clear hcp hxp hlp
      refine (HD2.out _ _ _ HGk.out).mono ?_; rintro e w7 ⟨vj, uj, rfl, hg, hx⟩
      obtain ⟨aj, xj, rfl⟩ := hg.1.form
      obtain ⟨bj, yj, rfl⟩ := Gr.Ma.form hg.2
      clear cG00 cG01 cKk0 cKk1 cAk0 cAk1 cAk2
      replace HX := Lib.hid (HX.out.trans hx)
      replace HG0 := Lib.hid (HG0.out.ext hx)
      replace HKk := Lib.hid (HKk.out.ext hx)
      replace HAk := Lib.hid (HAk.out.ext hx)
      replace HG := Lib.hid (HG.out.ext hx)
      replace HGk := Lib.hid (HGk.out.ext hx)
      have HGj := Lib.hid hg
      clear hg hx
      unfold anv
      obtain ⟨wB8, hwB8⟩ : ∃ x, x = ((w7.alloc (.cells #[.slice aj d8.1.length xj, .slice bj d8.2.length yj] 25)).alloc (.cells #[.int .i64 0, .int .u64 0, .bool true] 35)) := ⟨_, rfl⟩
      have hxn : Ext w7 wB8 := hwB8 ▸ (((Ext.refl w7).alloc _).alloc _)
      replace HX := Lib.hid (HX.out.trans hxn)
      replace HG0 := Lib.hid (HG0.out.ext hxn)
      replace HKk := Lib.hid (HKk.out.ext hxn)
      replace HAk := Lib.hid (HAk.out.ext hxn)
      replace HG := Lib.hid (HG.out.ext hxn)
      replace HGk := Lib.hid (HGk.out.ext hxn)
      replace HGj := Lib.hid (HGj.out.ext hxn)
      have HKj := Lib.hid (show Blk wB8 (w7.heap.size) #[.slice aj d8.1.length xj, .slice bj d8.2.length yj] 25 from hwB8 ▸ ((blk_at (by simp)).alloc _))
      have HAj := Lib.hid (show Blk wB8 (w7.heap.size + 1) #[.int .i64 0, .int .u64 0, .bool true] 35 from hwB8 ▸ (blk_at (by simp)))
      clear hxn
      have cG00 : (((w7.alloc (.cells #[.slice aj d8.1.length xj, .slice bj d8.2.length yj] 25)).alloc (.cells #[.int .i64 0, .int .u64 0, .bool true] 35))).cell? ⟨w.heap.size, 0, none⟩ = some (.slice a0 g.1.length c0) := by rw [← hwB8]; exact HG0.out.cell (i := 0) rfl
      have cG01 : (((w7.alloc (.cells #[.slice aj d8.1.length xj, .slice bj d8.2.length yj] 25)).alloc (.cells #[.int .i64 0, .int .u64 0, .bool true] 35))).cell? ⟨w.heap.size, 1, none⟩ = some (.slice b0 g.2.length d0) := by rw [← hwB8]; exact HG0.out.cell (i := 1) rfl
      have cKk0 : (((w7.alloc (.cells #[.slice aj d8.1.length xj, .slice bj d8.2.length yj] 25)).alloc (.cells #[.int .i64 0, .int .u64 0, .bool true] 35))).cell? ⟨w4.heap.size, 0, none⟩ = some (.slice ak d.1.length xk) := by rw [← hwB8]; exact HKk.out.cell (i := 0) rfl
      have cKk1 : (((w7.alloc (.cells #[.slice aj d8.1.length xj, .slice bj d8.2.length yj] 25)).alloc (.cells #[.int .i64 0, .int .u64 0, .bool true] 35))).cell? ⟨w4.heap.size, 1, none⟩ = some (.slice bk d.2.length yk) := by rw [← hwB8]; exact HKk.out.cell (i := 1) rfl
      have cAk0 : (((w7.alloc (.cells #[.slice aj d8.1.length xj, .slice bj d8.2.length yj] 25)).alloc (.cells #[.int .i64 0, .int .u64 0, .bool true] 35))).cell? ⟨w4.heap.size + 1, 0, none⟩ = some (.int .i64 0) := by rw [← hwB8]; exact HAk.out.cell (i := 0) rfl
      have cAk1 : (((w7.alloc (.cells #[.slice aj d8.1.length xj, .slice bj d8.2.length yj] 25)).alloc (.cells #[.int .i64 0, .int .u64 0, .bool true] 35))).cell? ⟨w4.heap.size + 1, 1, none⟩ = some (.int .u64 e2) := by rw [← hwB8]; exact HAk.out.cell (i := 1) rfl
      have cAk2 : (((w7.alloc (.cells #[.slice aj d8.1.length xj, .slice bj d8.2.length yj] 25)).alloc (.cells #[.int .i64 0, .int .u64 0, .bool true] 35))).cell? ⟨w4.heap.size + 1, 2, none⟩ = some (.bool e3) := by rw [← hwB8]; exact HAk.out.cell (i := 2) rfl
      go_wp2_with fail
      rw [← hwB8]
      clear hwB8
      clear cG00 cG01 cKk0 cKk1 cAk0 cAk1 cAk2
      have cG00 : (wB8).cell? ⟨w.heap.size, 0, none⟩ = some (.slice a0 g.1.length c0) := HG0.out.cell (i := 0) rfl
      have cG01 : (wB8).cell? ⟨w.heap.size, 1, none⟩ = some (.slice b0 g.2.length d0) := HG0.out.cell (i := 1) rfl
      have cKk0 : (wB8).cell? ⟨w4.heap.size, 0, none⟩ = some (.slice ak d.1.length xk) := HKk.out.cell (i := 0) rfl
      have cKk1 : (wB8).cell? ⟨w4.heap.size, 1, none⟩ = some (.slice bk d.2.length yk) := HKk.out.cell (i := 1) rfl
      have cAk0 : (wB8).cell? ⟨w4.heap.size + 1, 0, none⟩ = some (.int .i64 0) := HAk.out.cell (i := 0) rfl
      have cAk1 : (wB8).cell? ⟨w4.heap.size + 1, 1, none⟩ = some (.int .u64 e2) := HAk.out.cell (i := 1) rfl
      have cAk2 : (wB8).cell? ⟨w4.heap.size + 1, 2, none⟩ = some (.bool e3) := HAk.out.cell (i := 2) rfl
      have cKj0 : (wB8).cell? ⟨w7.heap.size, 0, none⟩ = some (.slice aj d8.1.length xj) := HKj.out.cell (i := 0) rfl
      have cKj1 : (wB8).cell? ⟨w7.heap.size, 1, none⟩ = some (.slice bj d8.2.length yj) := HKj.out.cell (i := 1) rfl
      have cAj0 : (wB8).cell? ⟨w7.heap.size + 1, 0, none⟩ = some (.int .i64 0) := HAj.out.cell (i := 0) rfl
      have cAj1 : (wB8).cell? ⟨w7.heap.size + 1, 1, none⟩ = some (.int .u64 0) := HAj.out.cell (i := 1) rfl
      have cAj2 : (wB8).cell? ⟨w7.heap.size + 1, 2, none⟩ = some (.bool true) := HAj.out.cell (i := 2) rfl
      refine (HD3.out _ _ _ HGk.out).mono ?_; rintro e w9 ⟨vb, ub, rfl, hg, hx⟩
      obtain ⟨ab, xb, rfl⟩ := hg.1.form
      obtain ⟨bb, yb, rfl⟩ := Gr.Ma.form hg.2
      clear cG00 cG01 cKk0 cKk1 cAk0 cAk1 cAk2 cKj0 cKj1 cAj0 cAj1 cAj2
      replace HX := Lib.hid (HX.out.trans hx)
      replace HG0 := Lib.hid (HG0.out.ext hx)
      replace HKk := Lib.hid (HKk.out.ext hx)
      replace HAk := Lib.hid (HAk.out.ext hx)
      replace HKj := Lib.hid (HKj.out.ext hx)
      replace HAj := Lib.hid (HAj.out.ext hx)
      replace HG := Lib.hid (HG.out.ext hx)
      replace HGk := Lib.hid (HGk.out.ext hx)
      replace HGj := Lib.hid (HGj.out.ext hx)
      have HGb := Lib.hid hg
      clear hg hx
      unfold anv
      obtain ⟨wB10, hwB10⟩ : ∃ x, x = ((w9.alloc (.cells #[.slice ab g.1.length xb, .slice bb g.2.length yb] 25)).alloc (.cells #[.int .i64 0, .int .u64 0, .bool false] 35)) := ⟨_, rfl⟩
      have hxn : Ext w9 wB10 := hwB10 ▸ (((Ext.refl w9).alloc _).alloc _)
      replace HX := Lib.hid (HX.out.trans hxn)
      replace HG0 := Lib.hid (HG0.out.ext hxn)
      replace HKk := Lib.hid (HKk.out.ext hxn)
      replace HAk := Lib.hid (HAk.out.ext hxn)
      replace HKj := Lib.hid (HKj.out.ext hxn)
      replace HAj := Lib.hid (HAj.out.ext hxn)
      replace HG := Lib.hid (HG.out.ext hxn)
      replace HGk := Lib.hid (HGk.out.ext hxn)
      replace HGj := Lib.hid (HGj.out.ext hxn)
      replace HGb := Lib.hid (HGb.out.ext hxn)
      have HKb := Lib.hid (show Blk wB10 (w9.heap.size) #[.slice ab g.1.length xb, .slice bb g.2.length yb] 25 from hwB10 ▸ ((blk_at (by simp)).alloc _))
      have HAb := Lib.hid (show Blk wB10 (w9.heap.size + 1) #[.int .i64 0, .int .u64 0, .bool false] 35 from hwB10 ▸ (blk_at (by simp)))
      clear hxn
      have cG00 : (((w9.alloc (.cells #[.slice ab g.1.length xb, .slice bb g.2.length yb] 25)).alloc (.cells #[.int .i64 0, .int .u64 0, .bool false] 35))).cell? ⟨w.heap.size, 0, none⟩ = some (.slice a0 g.1.length c0) := by rw [← hwB10]; exact HG0.out.cell (i := 0) rfl
      have cG01 : (((w9.alloc (.cells #[.slice ab g.1.length xb, .slice bb g.2.length yb] 25)).alloc (.cells #[.int .i64 0, .int .u64 0, .bool false] 35))).cell? ⟨w.heap.size, 1, none⟩ = some (.slice b0 g.2.length d0) := by rw [← hwB10]; exact HG0.out.cell (i := 1) rfl
      have cKk0 : (((w9.alloc (.cells #[.slice ab g.1.length xb, .slice bb g.2.length yb] 25)).alloc (.cells #[.int .i64 0, .int .u64 0, .bool false] 35))).cell? ⟨w4.heap.size, 0, none⟩ = some (.slice ak d.1.length xk) := by rw [← hwB10]; exact HKk.out.cell (i := 0) rfl
      have cKk1 : (((w9.alloc (.cells #[.slice ab g.1.length xb, .slice bb g.2.length yb] 25)).alloc (.cells #[.int .i64 0, .int .u64 0, .bool false] 35))).cell? ⟨w4.heap.size, 1, none⟩ = some (.slice bk d.2.length yk) := by rw [← hwB10]; exact HKk.out.cell (i := 1) rfl
      have cAk0 : (((w9.alloc (.cells #[.slice ab g.1.length xb, .slice bb g.2.length yb] 25)).alloc (.cells #[.int .i64 0, .int .u64 0, .bool false] 35))).cell? ⟨w4.heap.size + 1, 0, none⟩ = some (.int .i64 0) := by rw [← hwB10]; exact HAk.out.cell (i := 0) rfl
      have cAk1 : (((w9.alloc (.cells #[.slice ab g.1.length xb, .slice bb g.2.length yb] 25)).alloc (.cells #[.int .i64 0, .int .u64 0, .bool false] 35))).cell? ⟨w4.heap.size + 1, 1, none⟩ = some (.int .u64 e2) := by rw [← hwB10]; exact HAk.out.cell (i := 1) rfl
      have cAk2 : (((w9.alloc (.cells #[.slice ab g.1.length xb, .slice bb g.2.length yb] 25)).alloc (.cells #[.int .i64 0, .int .u64 0, .bool false] 35))).cell? ⟨w4.heap.size + 1, 2, none⟩ = some (.bool e3) := by rw [← hwB10]; exact HAk.out.cell (i := 2) rfl
      have cKj0 : (((w9.alloc (.cells #[.slice ab g.1.length xb, .slice bb g.2.length yb] 25)).alloc (.cells #[.int .i64 0, .int .u64 0, .bool false] 35))).cell? ⟨w7.heap.size, 0, none⟩ = some (.slice aj d8.1.length xj) := by rw [← hwB10]; exact HKj.out.cell (i := 0) rfl
      have cKj1 : (((w9.alloc (.cells #[.slice ab g.1.length xb, .slice bb g.2.length yb] 25)).alloc (.cells #[.int .i64 0, .int .u64 0, .bool false] 35))).cell? ⟨w7.heap.size, 1, none⟩ = some (.slice bj d8.2.length yj) := by rw [← hwB10]; exact HKj.out.cell (i := 1) rfl
      have cAj0 : (((w9.alloc (.cells #[.slice ab g.1.length xb, .slice bb g.2.length yb] 25)).alloc (.cells #[.int .i64 0, .int .u64 0, .bool false] 35))).cell? ⟨w7.heap.size + 1, 0, none⟩ = some (.int .i64 0) := by rw [← hwB10]; exact HAj.out.cell (i := 0) rfl
      have cAj1 : (((w9.alloc (.cells #[.slice ab g.1.length xb, .slice bb g.2.length yb] 25)).alloc (.cells #[.int .i64 0, .int .u64 0, .bool false] 35))).cell? ⟨w7.heap.size + 1, 1, none⟩ = some (.int .u64 0) := by rw [← hwB10]; exact HAj.out.cell (i := 1) rfl
      have cAj2 : (((w9.alloc (.cells #[.slice ab g.1.length xb, .slice bb g.2.length yb] 25)).alloc (.cells #[.int .i64 0, .int .u64 0, .bool false] 35))).cell? ⟨w7.heap.size + 1, 2, none⟩ = some (.bool true) := by rw [← hwB10]; exact HAj.out.cell (i := 2) rfl
      go_wp2_with fail
      rw [← hwB10]
      clear hwB10
      clear cG00 cG01 cKk0 cKk1 cAk0 cAk1 cAk2 cKj0 cKj1 cAj0 cAj1 cAj2
      have cG00 : (wB10).cell? ⟨w.heap.size, 0, none⟩ = some (.slice a0 g.1.length c0) := HG0.out.cell (i := 0) rfl
      have cG01 : (wB10).cell? ⟨w.heap.size, 1, none⟩ = some (.slice b0 g.2.length d0) := HG0.out.cell (i := 1) rfl
      have cKk0 : (wB10).cell? ⟨w4.heap.size, 0, none⟩ = some (.slice ak d.1.length xk) := HKk.out.cell (i := 0) rfl
      have cKk1 : (wB10).cell? ⟨w4.heap.size, 1, none⟩ = some (.slice bk d.2.length yk) := HKk.out.cell (i := 1) rfl
      have cAk0 : (wB10).cell? ⟨w4.heap.size + 1, 0, none⟩ = some (.int .i64 0) := HAk.out.cell (i := 0) rfl
      have cAk1 : (wB10).cell? ⟨w4.heap.size + 1, 1, none⟩ = some (.int .u64 e2) := HAk.out.cell (i := 1) rfl
      have cAk2 : (wB10).cell? ⟨w4.heap.size + 1, 2, none⟩ = some (.bool e3) := HAk.out.cell (i := 2) rfl
      have cKj0 : (wB10).cell? ⟨w7.heap.size, 0, none⟩ = some (.slice aj d8.1.length xj) := HKj.out.cell (i := 0) rfl
      have cKj1 : (wB10).cell? ⟨w7.heap.size, 1, none⟩ = some (.slice bj d8.2.length yj) := HKj.out.cell (i := 1) rfl
      have cAj0 : (wB10).cell? ⟨w7.heap.size + 1, 0, none⟩ = some (.int .i64 0) := HAj.out.cell (i := 0) rfl
      have cAj1 : (wB10).cell? ⟨w7.heap.size + 1, 1, none⟩ = some (.int .u64 0) := HAj.out.cell (i := 1) rfl
      have cAj2 : (wB10).cell? ⟨w7.heap.size + 1, 2, none⟩ = some (.bool true) := HAj.out.cell (i := 2) rfl
      have cKb0 : (wB10).cell? ⟨w9.heap.size, 0, none⟩ = some (.slice ab g.1.length xb) := HKb.out.cell (i := 0) rfl
      have cKb1 : (wB10).cell? ⟨w9.heap.size, 1, none⟩ = some (.slice bb g.2.length yb) := HKb.out.cell (i := 1) rfl
      have cAb0 : (wB10).cell? ⟨w9.heap.size + 1, 0, none⟩ = some (.int .i64 0) := HAb.out.cell (i := 0) rfl
      have cAb1 : (wB10).cell? ⟨w9.heap.size + 1, 1, none⟩ = some (.int .u64 0) := HAb.out.cell (i := 1) rfl
      have cAb2 : (wB10).cell? ⟨w9.heap.size + 1, 2, none⟩ = some (.bool false) := HAb.out.cell (i := 2) rfl
      refine ((Sm.same_any _ _ _ _ _ _ _ HGb.out HG.out)).mono ?_; rintro e w11 ⟨rfl, hx⟩
      clear cG00 cG01 cKk0 cKk1 cAk0 cAk1 cAk2 cKj0 cKj1 cAj0 cAj1 cAj2 cKb0 cKb1 cAb0 cAb1 cAb2
      replace HX := Lib.hid (HX.out.trans hx)
      replace HG0 := Lib.hid (HG0.out.ext hx)
      replace HKk := Lib.hid (HKk.out.ext hx)
      replace HAk := Lib.hid (HAk.out.ext hx)
      replace HKj := Lib.hid (HKj.out.ext hx)
      replace HAj := Lib.hid (HAj.out.ext hx)
      replace HKb := Lib.hid (HKb.out.ext hx)
      replace HAb := Lib.hid (HAb.out.ext hx)
      replace HG := Lib.hid (HG.out.ext hx)
      replace HGk := Lib.hid (HGk.out.ext hx)
      replace HGj := Lib.hid (HGj.out.ext hx)
      replace HGb := Lib.hid (HGb.out.ext hx)
      clear hx
      have cG00 : (w11).cell? ⟨w.heap.size, 0, none⟩ = some (.slice a0 g.1.length c0) := HG0.out.cell (i := 0) rfl
      have cG01 : (w11).cell? ⟨w.heap.size, 1, none⟩ = some (.slice b0 g.2.length d0) := HG0.out.cell (i := 1) rfl
      have cKk0 : (w11).cell? ⟨w4.heap.size, 0, none⟩ = some (.slice ak d.1.length xk) := HKk.out.cell (i := 0) rfl
      have cKk1 : (w11).cell? ⟨w4.heap.size, 1, none⟩ = some (.slice bk d.2.length yk) := HKk.out.cell (i := 1) rfl
      have cAk0 : (w11).cell? ⟨w4.heap.size + 1, 0, none⟩ = some (.int .i64 0) := HAk.out.cell (i := 0) rfl
      have cAk1 : (w11).cell? ⟨w4.heap.size + 1, 1, none⟩ = some (.int .u64 e2) := HAk.out.cell (i := 1) rfl
      have cAk2 : (w11).cell? ⟨w4.heap.size + 1, 2, none⟩ = some (.bool e3) := HAk.out.cell (i := 2) rfl
      have cKj0 : (w11).cell? ⟨w7.heap.size, 0, none⟩ = some (.slice aj d8.1.length xj) := HKj.out.cell (i := 0) rfl
      have cKj1 : (w11).cell? ⟨w7.heap.size, 1, none⟩ = some (.slice bj d8.2.length yj) := HKj.out.cell (i := 1) rfl
      have cAj0 : (w11).cell? ⟨w7.heap.size + 1, 0, none⟩ = some (.int .i64 0) := HAj.out.cell (i := 0) rfl
      have cAj1 : (w11).cell? ⟨w7.heap.size + 1, 1, none⟩ = some (.int .u64 0) := HAj.out.cell (i := 1) rfl
      have cAj2 : (w11).cell? ⟨w7.heap.size + 1, 2, none⟩ = some (.bool true) := HAj.out.cell (i := 2) rfl
      have cKb0 : (w11).cell? ⟨w9.heap.size, 0, none⟩ = some (.slice ab g.1.length xb) := HKb.out.cell (i := 0) rfl
      have cKb1 : (w11).cell? ⟨w9.heap.size, 1, none⟩ = some (.slice bb g.2.length yb) := HKb.out.cell (i := 1) rfl
      have cAb0 : (w11).cell? ⟨w9.heap.size + 1, 0, none⟩ = some (.int .i64 0) := HAb.out.cell (i := 0) rfl
      have cAb1 : (w11).cell? ⟨w9.heap.size + 1, 1, none⟩ = some (.int .u64 0) := HAb.out.cell (i := 1) rfl
      have cAb2 : (w11).cell? ⟨w9.heap.size + 1, 2, none⟩ = some (.bool false) := HAb.out.cell (i := 2) rfl
      go_wp2_with fail
      go_ret
      exact ⟨by first | rfl | (simp; done), HX.out⟩

theorem walk (v0 : Value) (v1 : Value) (v2 : Value) (W : World) (r0 : Rd.V Try.prog W 25 v0) (r1 : Rd.V Try.prog W 3 v1) (r2 : Rd.V Try.prog W 3 v2) : Calls Try.prog 6 #[v0, v1, v2] W fun e w' => e = .returned (.bool true) ∧ Below W.heap.size W w' := by
  obtain ⟨cs, rfl, hs⟩ := r0.struct Try.underlying25
  obtain ⟨a, b, g, rfl, hg, hwf⟩ := Gr.of_R hs
  obtain ⟨th, rfl, _⟩ := r1.int Try.underlying3
  obtain ⟨hh, rfl, _⟩ := r2.int Try.underlying3
  exact (go a b g th hh (posG_of hwf) W hg).mono fun e w' ⟨he, hw⟩ => ⟨he, hw.below⟩

open Go.ChangeShapes Go.WideShapes Go.ChangeAt Go.RowKit
theorem own : ownKnob Try.prog.godebug = none := by kernel_rfl
theorem laidOut : laidOutB Try.prog = true := by kernel_rfl

set_option maxRecDepth 100000 in
theorem lifted (os : Os) (started : os.Started) (H : Type) (enc : TypeId × Value → H) :
    ReturnsInHanded {} Try.checked os 6 .any (Rows.graphPopsSpec.pre6 enc Try.prog Try.f6 Rows.graphPopsRow.domain false) (Rows.graphPopsSpec.post enc Try.prog Try.f6 false true false false) := by
  refine returnsInHanded_of_change_sized (C := Try.checked) own started (by kernel_rfl) Try.func6
    (ChangeSpec.witness6 (enc := enc) (C := Try.checked) false ⟨#[], #[.agg #[.slice none 0 0, .slice none 0 0], .int .i64 0, .int .i64 0], []⟩ 12 (by kernel_rfl) (by kernel_rfl) (by kernel_rfl) (by kernel_rfl)) ?_
  intro W base args ds gs before hval0 hW _ hsz0 _
  have hval : ∀ (j : Nat) t v, Try.f6.params[j]? = some t → args[j]? = some v → Value.okWide Try.prog W .any base t v := hval0
  have hW' := hW
  obtain ⟨p, q, hA0, hV, rfl, _, _⟩ := hW
  have hA : DataW.TrodAll enc Try.prog W 0 (fun _ => true) true Try.f6.params.toList args.toList ds p := hA0
  obtain ⟨rfl, rfl⟩ := trodVars_none hV
  have hsz : (DataW.weightsEach Try.prog (Try.f6.params.toList ++ []) (ds ++ [])).all (· ≤ reachBytes) = true := hsz0
  rw [Try.params6] at hA hval hsz
  have hA2 := hA
  obtain ⟨v0, vs0, d0, ds0, p0, q0, hargs, rfl, rfl, h0, r0⟩ := trodAll_cons hA2
  obtain ⟨v1, vs1, d1, ds1, p1, q1, rfl, rfl, rfl, h1, r1⟩ := trodAll_cons r0
  obtain ⟨v2, vs2, d2, ds2, p2, q2, rfl, rfl, rfl, h2, r2⟩ := trodAll_cons r1
  obtain ⟨rfl, rfl, rfl⟩ := trodAll_nil r2
  obtain rfl : args = #[v0, v1, v2] := by cases args; simp_all
  have hR := Rd.trodAll_V hA (fun n hn => by simpa using List.all_eq_true.1 hsz n (by simpa using hn)) (fun j t v hj hv => hval j t v (by simpa using hj) (by simpa using hv))
  clear hA0 hval0 hA2
  refine (walk v0 v1 v2 W (hR 0 25 v0 rfl rfl) (hR 1 3 v1 rfl rfl) (hR 2 3 v2 rfl rfl)).mono fun e W' ⟨he, bel⟩ => ?_
  subst he
  exact ⟨_, rfl, _, _, _, [], _, [], hW', trodAll_mk1 (shut_bool Try.underlying4 _), Rd.trodAll_below laidOut bel (List.forall_mem_cons.2 ⟨⟨by kernel_rfl, of_decide_eq_true (by kernel_rfl)⟩, List.forall_mem_cons.2 ⟨⟨by kernel_rfl, of_decide_eq_true (by kernel_rfl)⟩, List.forall_mem_cons.2 ⟨⟨by kernel_rfl, of_decide_eq_true (by kernel_rfl)⟩, fun _ h => by cases h⟩⟩⟩) hA, rfl, bel.frame _, fun h => by cases h⟩

theorem over : Rows.graphPopsRow.holds Try.pinned (OpenSpec.ofChange Rows.graphPopsSpec) :=
  OpenClaim.holds_of_wide 6 Try.f6 rfl rfl rfl rfl rfl rfl rfl ⟨rfl, rfl, rfl, rfl, rfl⟩ rfl rfl rfl rfl rfl (by kernel_rfl) Try.func6 (by kernel_rfl)
    (of_decide_eq_true (by kernel_rfl)) (by unfold Func.isWrapper; first | (rw [if_pos (by decide +kernel)]; kernel_rfl) | (rw [if_neg (by decide +kernel)]; exact ⟨rfl, rfl⟩))
    (fun os started H enc _ => lifted os started H enc)

theorem proved : Rows.GraphPopsSaid := over
#print axioms proved
end Go.Proofs.Ytjhmlbhfnogdiaa.graphPops
