/- GraphCanon holds for every input: what isn't reached doesn't matter: what is done on what is reached, in order, answers the same, and comes to the same. No condition. -/
import Derived.Test.YtjhmlbhfnogdiaaRows
import Derived.Test.YtjhmlbhfnogdiaaOp
import Derived.Test.YtjhmlbhfnogdiaaCk
namespace Go.Proofs.Ytjhmlbhfnogdiaa.graphCanon
open Go.RowKit Go.Proofs.Ytjhmlbhfnogdiaa Go.Proofs.Ytjhmlbhfnogdiaa.Hd Go.Proofs.Ytjhmlbhfnogdiaa.Gr Go.Proofs.Ytjhmlbhfnogdiaa.Hg Go.Proofs.Ytjhmlbhfnogdiaa.Rr Go.Proofs.Ytjhmlbhfnogdiaa.Wk Go.Proofs.Ytjhmlbhfnogdiaa.Wp Go.Proofs.Ytjhmlbhfnogdiaa.Wa Go.Proofs.Ytjhmlbhfnogdiaa.Wc Go.Proofs.Ytjhmlbhfnogdiaa.Wf Go.Proofs.Ytjhmlbhfnogdiaa.Pl Go.Proofs.Ytjhmlbhfnogdiaa.Op
set_option linter.unusedVariables false

set_option maxHeartbeats 4000000 in
theorem go (a b : Value) (g : Gph) (th : Int) (o : Opn) (hp : posG g) (hv : 0 ≤ o.v) (hm : 0 ≤ o.new.2.2) (w : World) (h : Gr w a b g) :
    Calls Try.prog 9 #[.agg #[a, b], .int .i64 th, opv o] w fun e w' => e = .returned (.bool true) ∧ Ext w w' := by
  obtain ⟨a0, c0, rfl⟩ := h.1.form
  obtain ⟨b0, d0, rfl⟩ := Gr.Ma.form h.2
  have hl1 := h.1.len
  have hl2 := Ma.len uS h.2
  have hsm := h.1.small
  have HG := Lib.hid h
  have HF := Lib.hid (fun (w : World) (h : Gr w (.slice a0 g.1.length c0) (.slice b0 g.2.length d0) g) => few_any _ _ g hp w h)
  clear h
  unfold opv
  go_enter Try.func9, Try.ntmps9
  have HX := Lib.hid (Ext.refl w)
  obtain ⟨wB1, hwB1⟩ : ∃ wX, wX = ((w.alloc (.cells #[.slice a0 g.1.length c0, .slice b0 g.2.length d0] 25)).alloc (.cells #[.int .i64 o.kind, .int .i64 o.h, .int .i64 o.i, .int .i64 o.k, .int .u64 o.v, .int .i64 o.new.1, .int .i64 o.new.2.1, .int .u64 o.new.2.2] 30)) := ⟨_, rfl⟩
  have hxn : Ext w wB1 := hwB1 ▸ (((Ext.refl w).alloc _).alloc _)
  replace HX := Lib.hid (HX.out.trans hxn)
  replace HG := Lib.hid (HG.out.ext hxn)
  have HG0 := Lib.hid (show Blk wB1 (w.heap.size) #[.slice a0 g.1.length c0, .slice b0 g.2.length d0] 25 from hwB1 ▸ ((blk_at (by simp)).alloc _))
  have HO0 := Lib.hid (show Blk wB1 (w.heap.size + 1) #[.int .i64 o.kind, .int .i64 o.h, .int .i64 o.i, .int .i64 o.k, .int .u64 o.v, .int .i64 o.new.1, .int .i64 o.new.2.1, .int .u64 o.new.2.2] 30 from hwB1 ▸ (blk_at (by simp)))
  clear hxn
  go_wp2_with fail
  rw [← hwB1]
  clear hwB1
  have cG00 : (wB1).cell? ⟨w.heap.size, 0, none⟩ = some (.slice a0 g.1.length c0) := HG0.out.cell (i := 0) rfl
  have cG01 : (wB1).cell? ⟨w.heap.size, 1, none⟩ = some (.slice b0 g.2.length d0) := HG0.out.cell (i := 1) rfl
  have cO00 : (wB1).cell? ⟨w.heap.size + 1, 0, none⟩ = some (.int .i64 o.kind) := HO0.out.cell (i := 0) rfl
  have cO01 : (wB1).cell? ⟨w.heap.size + 1, 1, none⟩ = some (.int .i64 o.h) := HO0.out.cell (i := 1) rfl
  have cO02 : (wB1).cell? ⟨w.heap.size + 1, 2, none⟩ = some (.int .i64 o.i) := HO0.out.cell (i := 2) rfl
  have cO03 : (wB1).cell? ⟨w.heap.size + 1, 3, none⟩ = some (.int .i64 o.k) := HO0.out.cell (i := 3) rfl
  have cO04 : (wB1).cell? ⟨w.heap.size + 1, 4, none⟩ = some (.int .u64 o.v) := HO0.out.cell (i := 4) rfl
  have cO05 : (wB1).cell? ⟨w.heap.size + 1, 5, none⟩ = some (.int .i64 o.new.1) := HO0.out.cell (i := 5) rfl
  have cO06 : (wB1).cell? ⟨w.heap.size + 1, 6, none⟩ = some (.int .i64 o.new.2.1) := HO0.out.cell (i := 6) rfl
  have cO07 : (wB1).cell? ⟨w.heap.size + 1, 7, none⟩ = some (.int .u64 o.new.2.2) := HO0.out.cell (i := 7) rfl
  refine (Sh.shown_any _).mono ?_; rintro e w2 ⟨rfl, hx⟩
  clear cG00 cG01 cO00 cO01 cO02 cO03 cO04 cO05 cO06 cO07
  replace HX := Lib.hid (HX.out.trans hx)
  replace HG0 := Lib.hid (HG0.out.ext hx)
  replace HO0 := Lib.hid (HO0.out.ext hx)
  replace HG := Lib.hid (HG.out.ext hx)
  clear hx
  have cG00 : (w2).cell? ⟨w.heap.size, 0, none⟩ = some (.slice a0 g.1.length c0) := HG0.out.cell (i := 0) rfl
  have cG01 : (w2).cell? ⟨w.heap.size, 1, none⟩ = some (.slice b0 g.2.length d0) := HG0.out.cell (i := 1) rfl
  have cO00 : (w2).cell? ⟨w.heap.size + 1, 0, none⟩ = some (.int .i64 o.kind) := HO0.out.cell (i := 0) rfl
  have cO01 : (w2).cell? ⟨w.heap.size + 1, 1, none⟩ = some (.int .i64 o.h) := HO0.out.cell (i := 1) rfl
  have cO02 : (w2).cell? ⟨w.heap.size + 1, 2, none⟩ = some (.int .i64 o.i) := HO0.out.cell (i := 2) rfl
  have cO03 : (w2).cell? ⟨w.heap.size + 1, 3, none⟩ = some (.int .i64 o.k) := HO0.out.cell (i := 3) rfl
  have cO04 : (w2).cell? ⟨w.heap.size + 1, 4, none⟩ = some (.int .u64 o.v) := HO0.out.cell (i := 4) rfl
  have cO05 : (w2).cell? ⟨w.heap.size + 1, 5, none⟩ = some (.int .i64 o.new.1) := HO0.out.cell (i := 5) rfl
  have cO06 : (w2).cell? ⟨w.heap.size + 1, 6, none⟩ = some (.int .i64 o.new.2.1) := HO0.out.cell (i := 6) rfl
  have cO07 : (w2).cell? ⟨w.heap.size + 1, 7, none⟩ = some (.int .u64 o.new.2.2) := HO0.out.cell (i := 7) rfl
  go_wp2_with fail
  refine (HF.out _ HG.out).mono ?_; rintro e w3 ⟨rfl, hx⟩
  clear cG00 cG01 cO00 cO01 cO02 cO03 cO04 cO05 cO06 cO07
  replace HX := Lib.hid (HX.out.trans hx)
  replace HG0 := Lib.hid (HG0.out.ext hx)
  replace HO0 := Lib.hid (HO0.out.ext hx)
  replace HG := Lib.hid (HG.out.ext hx)
  clear hx
  have cG00 : (w3).cell? ⟨w.heap.size, 0, none⟩ = some (.slice a0 g.1.length c0) := HG0.out.cell (i := 0) rfl
  have cG01 : (w3).cell? ⟨w.heap.size, 1, none⟩ = some (.slice b0 g.2.length d0) := HG0.out.cell (i := 1) rfl
  have cO00 : (w3).cell? ⟨w.heap.size + 1, 0, none⟩ = some (.int .i64 o.kind) := HO0.out.cell (i := 0) rfl
  have cO01 : (w3).cell? ⟨w.heap.size + 1, 1, none⟩ = some (.int .i64 o.h) := HO0.out.cell (i := 1) rfl
  have cO02 : (w3).cell? ⟨w.heap.size + 1, 2, none⟩ = some (.int .i64 o.i) := HO0.out.cell (i := 2) rfl
  have cO03 : (w3).cell? ⟨w.heap.size + 1, 3, none⟩ = some (.int .i64 o.k) := HO0.out.cell (i := 3) rfl
  have cO04 : (w3).cell? ⟨w.heap.size + 1, 4, none⟩ = some (.int .u64 o.v) := HO0.out.cell (i := 4) rfl
  have cO05 : (w3).cell? ⟨w.heap.size + 1, 5, none⟩ = some (.int .i64 o.new.1) := HO0.out.cell (i := 5) rfl
  have cO06 : (w3).cell? ⟨w.heap.size + 1, 6, none⟩ = some (.int .i64 o.new.2.1) := HO0.out.cell (i := 6) rfl
  have cO07 : (w3).cell? ⟨w.heap.size + 1, 7, none⟩ = some (.int .u64 o.new.2.2) := HO0.out.cell (i := 7) rfl
  cases hf : fewG g with
  | false =>
    go_wp2_with fail
    go_ret
    exact ⟨rfl, HX.out⟩
  | true =>
    obtain ⟨hr, hn60, h200⟩ := few_of hf
    clear hf HF
    have hfit : Ck.Fit 0 g := ⟨hr, hp, hn60, h200⟩
    obtain ⟨c, d, d2, k, e1, e2, e3, hc, hd, ha, hd2, ha2, hk, hk2, hcc, fc, fd, fd2⟩ := Ck.pack hfit th o hv hm
    have HCg := Lib.hid (fun (a b : Value) (w : World) (h : Gr w a b g) => Ck.canon_fit (by decide) h hfit)
    rw [hc] at HCg
    have HD := Lib.hid (fun (a b : Value) (w : World) (h : Gr w a b g) => Wg.do_any a b g th o w h hr hp hm (by omega))
    rw [hd, ha] at HD
    have HD2 := Lib.hid (fun (a b : Value) (w : World) (h : Gr w a b c) => Wg.do_any a b c th o w h fc.right fc.pos hm (by have := fc.nodes; omega))
    rw [hd2, ha2] at HD2
    have HCa : Hid (∀ (a b : Value) (w : World), Gr w a b d → Calls Try.prog 16 #[.agg #[a, b]] w fun e w' => ∃ u v, e = .returned (.agg #[u, v]) ∧ Hid (∀ W, Ext w' W → Gr W u v k) ∧ Ext w w') := fun a b w h => (Ck.canon_fit (by decide) h fd).mono fun e w' ⟨u, v, he, hg, hx⟩ => ⟨u, v, he, fun W hW => by rw [hk] at hg; exact hg.ext hW, hx⟩
    have HCb : Hid (∀ (a b : Value) (w : World), Gr w a b d2 → Calls Try.prog 16 #[.agg #[a, b]] w fun e w' => ∃ u v, e = .returned (.agg #[u, v]) ∧ Hid (∀ W, Ext w' W → Gr W u v k) ∧ Ext w w') := fun a b w h => (Ck.canon_fit (by decide) h fd2).mono fun e w' ⟨u, v, he, hg, hx⟩ => ⟨u, v, he, fun W hW => by rw [hk2] at hg; exact hg.ext hW, hx⟩
    have HCc : Hid (∀ (a b : Value) (w : World), Gr w a b c → Calls Try.prog 16 #[.agg #[a, b]] w fun e w' => ∃ u v, e = .returned (.agg #[u, v]) ∧ Hid (∀ W, Ext w' W → Gr W u v c) ∧ Ext w w') := fun a b w h => (Ck.canon_fit (by decide) h fc).mono fun e w' ⟨u, v, he, hg, hx⟩ => ⟨u, v, he, fun W hW => by rw [hcc] at hg; exact hg.ext hW, hx⟩
    have HSS : Hid (∀ (G : Gph) (a b a' b' : Value) (w : World), Gr w a b G → Gr w a' b' G → Calls Try.prog 15 #[.agg #[a, b], .agg #[a', b']] w fun e w' => e = .returned (.bool true) ∧ Ext w w') := fun G a b a' b' w h h' => (Sm.same_any a b a' b' G G w h h').mono fun e w' ⟨he, hx⟩ => ⟨by rw [he]; simp, hx⟩
    clear hc hd ha hd2 ha2 hk hk2 hcc fc fd fd2 hfit hr hp hv hm
    go_wp2_with fail
    refine (HCg.out _ _ _ HG.out).mono ?_; rintro e w4 ⟨vc, uc, rfl, hg, hx⟩
    obtain ⟨ac, xc, rfl⟩ := hg.1.form
    obtain ⟨bc, yc, rfl⟩ := Gr.Ma.form hg.2
    clear cG00 cG01 cO00 cO01 cO02 cO03 cO04 cO05 cO06 cO07
    replace HX := Lib.hid (HX.out.trans hx)
    replace HG0 := Lib.hid (HG0.out.ext hx)
    replace HO0 := Lib.hid (HO0.out.ext hx)
    replace HG := Lib.hid (HG.out.ext hx)
    have HGc := Lib.hid hg
    clear hg hx
    obtain ⟨wB5, hwB5⟩ : ∃ wX, wX = (w4.alloc (.cells #[.slice ac c.1.length xc, .slice bc c.2.length yc] 25)) := ⟨_, rfl⟩
    have hxn : Ext w4 wB5 := hwB5 ▸ ((Ext.refl w4).alloc _)
    replace HX := Lib.hid (HX.out.trans hxn)
    replace HG0 := Lib.hid (HG0.out.ext hxn)
    replace HO0 := Lib.hid (HO0.out.ext hxn)
    replace HG := Lib.hid (HG.out.ext hxn)
    replace HGc := Lib.hid (HGc.out.ext hxn)
    have HKc := Lib.hid (show Blk wB5 (w4.heap.size) #[.slice ac c.1.length xc, .slice bc c.2.length yc] 25 from hwB5 ▸ (blk_at (by simp)))
    clear hxn
    have cG00 : ((w4.alloc (.cells #[.slice ac c.1.length xc, .slice bc c.2.length yc] 25))).cell? ⟨w.heap.size, 0, none⟩ = some (.slice a0 g.1.length c0) := by rw [← hwB5]; exact HG0.out.cell (i := 0) rfl
    have cG01 : ((w4.alloc (.cells #[.slice ac c.1.length xc, .slice bc c.2.length yc] 25))).cell? ⟨w.heap.size, 1, none⟩ = some (.slice b0 g.2.length d0) := by rw [← hwB5]; exact HG0.out.cell (i := 1) rfl
    have cO00 : ((w4.alloc (.cells #[.slice ac c.1.length xc, .slice bc c.2.length yc] 25))).cell? ⟨w.heap.size + 1, 0, none⟩ = some (.int .i64 o.kind) := by rw [← hwB5]; exact HO0.out.cell (i := 0) rfl
    have cO01 : ((w4.alloc (.cells #[.slice ac c.1.length xc, .slice bc c.2.length yc] 25))).cell? ⟨w.heap.size + 1, 1, none⟩ = some (.int .i64 o.h) := by rw [← hwB5]; exact HO0.out.cell (i := 1) rfl
    have cO02 : ((w4.alloc (.cells #[.slice ac c.1.length xc, .slice bc c.2.length yc] 25))).cell? ⟨w.heap.size + 1, 2, none⟩ = some (.int .i64 o.i) := by rw [← hwB5]; exact HO0.out.cell (i := 2) rfl
    have cO03 : ((w4.alloc (.cells #[.slice ac c.1.length xc, .slice bc c.2.length yc] 25))).cell? ⟨w.heap.size + 1, 3, none⟩ = some (.int .i64 o.k) := by rw [← hwB5]; exact HO0.out.cell (i := 3) rfl
    have cO04 : ((w4.alloc (.cells #[.slice ac c.1.length xc, .slice bc c.2.length yc] 25))).cell? ⟨w.heap.size + 1, 4, none⟩ = some (.int .u64 o.v) := by rw [← hwB5]; exact HO0.out.cell (i := 4) rfl
    have cO05 : ((w4.alloc (.cells #[.slice ac c.1.length xc, .slice bc c.2.length yc] 25))).cell? ⟨w.heap.size + 1, 5, none⟩ = some (.int .i64 o.new.1) := by rw [← hwB5]; exact HO0.out.cell (i := 5) rfl
    have cO06 : ((w4.alloc (.cells #[.slice ac c.1.length xc, .slice bc c.2.length yc] 25))).cell? ⟨w.heap.size + 1, 6, none⟩ = some (.int .i64 o.new.2.1) := by rw [← hwB5]; exact HO0.out.cell (i := 6) rfl
    have cO07 : ((w4.alloc (.cells #[.slice ac c.1.length xc, .slice bc c.2.length yc] 25))).cell? ⟨w.heap.size + 1, 7, none⟩ = some (.int .u64 o.new.2.2) := by rw [← hwB5]; exact HO0.out.cell (i := 7) rfl
    go_wp2_with fail
    rw [← hwB5]
    clear hwB5
    clear cG00 cG01 cO00 cO01 cO02 cO03 cO04 cO05 cO06 cO07
    have cG00 : (wB5).cell? ⟨w.heap.size, 0, none⟩ = some (.slice a0 g.1.length c0) := HG0.out.cell (i := 0) rfl
    have cG01 : (wB5).cell? ⟨w.heap.size, 1, none⟩ = some (.slice b0 g.2.length d0) := HG0.out.cell (i := 1) rfl
    have cO00 : (wB5).cell? ⟨w.heap.size + 1, 0, none⟩ = some (.int .i64 o.kind) := HO0.out.cell (i := 0) rfl
    have cO01 : (wB5).cell? ⟨w.heap.size + 1, 1, none⟩ = some (.int .i64 o.h) := HO0.out.cell (i := 1) rfl
    have cO02 : (wB5).cell? ⟨w.heap.size + 1, 2, none⟩ = some (.int .i64 o.i) := HO0.out.cell (i := 2) rfl
    have cO03 : (wB5).cell? ⟨w.heap.size + 1, 3, none⟩ = some (.int .i64 o.k) := HO0.out.cell (i := 3) rfl
    have cO04 : (wB5).cell? ⟨w.heap.size + 1, 4, none⟩ = some (.int .u64 o.v) := HO0.out.cell (i := 4) rfl
    have cO05 : (wB5).cell? ⟨w.heap.size + 1, 5, none⟩ = some (.int .i64 o.new.1) := HO0.out.cell (i := 5) rfl
    have cO06 : (wB5).cell? ⟨w.heap.size + 1, 6, none⟩ = some (.int .i64 o.new.2.1) := HO0.out.cell (i := 6) rfl
    have cO07 : (wB5).cell? ⟨w.heap.size + 1, 7, none⟩ = some (.int .u64 o.new.2.2) := HO0.out.cell (i := 7) rfl
    have cKc0 : (wB5).cell? ⟨w4.heap.size, 0, none⟩ = some (.slice ac c.1.length xc) := HKc.out.cell (i := 0) rfl
    have cKc1 : (wB5).cell? ⟨w4.heap.size, 1, none⟩ = some (.slice bc c.2.length yc) := HKc.out.cell (i := 1) rfl
    refine (HD.out _ _ _ HG.out).mono ?_; rintro e w6 ⟨va, ua, rfl, hg, hx⟩
    obtain ⟨aa, xa, rfl⟩ := hg.1.form
    obtain ⟨ba, ya, rfl⟩ := Gr.Ma.form hg.2
    clear cG00 cG01 cO00 cO01 cO02 cO03 cO04 cO05 cO06 cO07 cKc0 cKc1
    replace HX := Lib.hid (HX.out.trans hx)
    replace HG0 := Lib.hid (HG0.out.ext hx)
    replace HO0 := Lib.hid (HO0.out.ext hx)
    replace HKc := Lib.hid (HKc.out.ext hx)
    replace HG := Lib.hid (HG.out.ext hx)
    replace HGc := Lib.hid (HGc.out.ext hx)
    have HGa := Lib.hid hg
    clear hg hx
    unfold anv
    obtain ⟨wB7, hwB7⟩ : ∃ wX, wX = ((w6.alloc (.cells #[.slice aa d.1.length xa, .slice ba d.2.length ya] 25)).alloc (.cells #[.int .i64 e1, .int .u64 e2, .bool e3] 35)) := ⟨_, rfl⟩
    have hxn : Ext w6 wB7 := hwB7 ▸ (((Ext.refl w6).alloc _).alloc _)
    replace HX := Lib.hid (HX.out.trans hxn)
    replace HG0 := Lib.hid (HG0.out.ext hxn)
    replace HO0 := Lib.hid (HO0.out.ext hxn)
    replace HKc := Lib.hid (HKc.out.ext hxn)
    replace HG := Lib.hid (HG.out.ext hxn)
    replace HGc := Lib.hid (HGc.out.ext hxn)
    replace HGa := Lib.hid (HGa.out.ext hxn)
    have HKa := Lib.hid (show Blk wB7 (w6.heap.size) #[.slice aa d.1.length xa, .slice ba d.2.length ya] 25 from hwB7 ▸ ((blk_at (by simp)).alloc _))
    have HAa := Lib.hid (show Blk wB7 (w6.heap.size + 1) #[.int .i64 e1, .int .u64 e2, .bool e3] 35 from hwB7 ▸ (blk_at (by simp)))
    clear hxn
    have cG00 : (((w6.alloc (.cells #[.slice aa d.1.length xa, .slice ba d.2.length ya] 25)).alloc (.cells #[.int .i64 e1, .int .u64 e2, .bool e3] 35))).cell? ⟨w.heap.size, 0, none⟩ = some (.slice a0 g.1.length c0) := by rw [← hwB7]; exact HG0.out.cell (i := 0) rfl
    have cG01 : (((w6.alloc (.cells #[.slice aa d.1.length xa, .slice ba d.2.length ya] 25)).alloc (.cells #[.int .i64 e1, .int .u64 e2, .bool e3] 35))).cell? ⟨w.heap.size, 1, none⟩ = some (.slice b0 g.2.length d0) := by rw [← hwB7]; exact HG0.out.cell (i := 1) rfl
    have cO00 : (((w6.alloc (.cells #[.slice aa d.1.length xa, .slice ba d.2.length ya] 25)).alloc (.cells #[.int .i64 e1, .int .u64 e2, .bool e3] 35))).cell? ⟨w.heap.size + 1, 0, none⟩ = some (.int .i64 o.kind) := by rw [← hwB7]; exact HO0.out.cell (i := 0) rfl
    have cO01 : (((w6.alloc (.cells #[.slice aa d.1.length xa, .slice ba d.2.length ya] 25)).alloc (.cells #[.int .i64 e1, .int .u64 e2, .bool e3] 35))).cell? ⟨w.heap.size + 1, 1, none⟩ = some (.int .i64 o.h) := by rw [← hwB7]; exact HO0.out.cell (i := 1) rfl
    have cO02 : (((w6.alloc (.cells #[.slice aa d.1.length xa, .slice ba d.2.length ya] 25)).alloc (.cells #[.int .i64 e1, .int .u64 e2, .bool e3] 35))).cell? ⟨w.heap.size + 1, 2, none⟩ = some (.int .i64 o.i) := by rw [← hwB7]; exact HO0.out.cell (i := 2) rfl
    have cO03 : (((w6.alloc (.cells #[.slice aa d.1.length xa, .slice ba d.2.length ya] 25)).alloc (.cells #[.int .i64 e1, .int .u64 e2, .bool e3] 35))).cell? ⟨w.heap.size + 1, 3, none⟩ = some (.int .i64 o.k) := by rw [← hwB7]; exact HO0.out.cell (i := 3) rfl
    have cO04 : (((w6.alloc (.cells #[.slice aa d.1.length xa, .slice ba d.2.length ya] 25)).alloc (.cells #[.int .i64 e1, .int .u64 e2, .bool e3] 35))).cell? ⟨w.heap.size + 1, 4, none⟩ = some (.int .u64 o.v) := by rw [← hwB7]; exact HO0.out.cell (i := 4) rfl
    have cO05 : (((w6.alloc (.cells #[.slice aa d.1.length xa, .slice ba d.2.length ya] 25)).alloc (.cells #[.int .i64 e1, .int .u64 e2, .bool e3] 35))).cell? ⟨w.heap.size + 1, 5, none⟩ = some (.int .i64 o.new.1) := by rw [← hwB7]; exact HO0.out.cell (i := 5) rfl
    have cO06 : (((w6.alloc (.cells #[.slice aa d.1.length xa, .slice ba d.2.length ya] 25)).alloc (.cells #[.int .i64 e1, .int .u64 e2, .bool e3] 35))).cell? ⟨w.heap.size + 1, 6, none⟩ = some (.int .i64 o.new.2.1) := by rw [← hwB7]; exact HO0.out.cell (i := 6) rfl
    have cO07 : (((w6.alloc (.cells #[.slice aa d.1.length xa, .slice ba d.2.length ya] 25)).alloc (.cells #[.int .i64 e1, .int .u64 e2, .bool e3] 35))).cell? ⟨w.heap.size + 1, 7, none⟩ = some (.int .u64 o.new.2.2) := by rw [← hwB7]; exact HO0.out.cell (i := 7) rfl
    have cKc0 : (((w6.alloc (.cells #[.slice aa d.1.length xa, .slice ba d.2.length ya] 25)).alloc (.cells #[.int .i64 e1, .int .u64 e2, .bool e3] 35))).cell? ⟨w4.heap.size, 0, none⟩ = some (.slice ac c.1.length xc) := by rw [← hwB7]; exact HKc.out.cell (i := 0) rfl
    have cKc1 : (((w6.alloc (.cells #[.slice aa d.1.length xa, .slice ba d.2.length ya] 25)).alloc (.cells #[.int .i64 e1, .int .u64 e2, .bool e3] 35))).cell? ⟨w4.heap.size, 1, none⟩ = some (.slice bc c.2.length yc) := by rw [← hwB7]; exact HKc.out.cell (i := 1) rfl
    go_wp2_with fail
    rw [← hwB7]
    clear hwB7
    clear cG00 cG01 cO00 cO01 cO02 cO03 cO04 cO05 cO06 cO07 cKc0 cKc1
    have cG00 : (wB7).cell? ⟨w.heap.size, 0, none⟩ = some (.slice a0 g.1.length c0) := HG0.out.cell (i := 0) rfl
    have cG01 : (wB7).cell? ⟨w.heap.size, 1, none⟩ = some (.slice b0 g.2.length d0) := HG0.out.cell (i := 1) rfl
    have cO00 : (wB7).cell? ⟨w.heap.size + 1, 0, none⟩ = some (.int .i64 o.kind) := HO0.out.cell (i := 0) rfl
    have cO01 : (wB7).cell? ⟨w.heap.size + 1, 1, none⟩ = some (.int .i64 o.h) := HO0.out.cell (i := 1) rfl
    have cO02 : (wB7).cell? ⟨w.heap.size + 1, 2, none⟩ = some (.int .i64 o.i) := HO0.out.cell (i := 2) rfl
    have cO03 : (wB7).cell? ⟨w.heap.size + 1, 3, none⟩ = some (.int .i64 o.k) := HO0.out.cell (i := 3) rfl
    have cO04 : (wB7).cell? ⟨w.heap.size + 1, 4, none⟩ = some (.int .u64 o.v) := HO0.out.cell (i := 4) rfl
    have cO05 : (wB7).cell? ⟨w.heap.size + 1, 5, none⟩ = some (.int .i64 o.new.1) := HO0.out.cell (i := 5) rfl
    have cO06 : (wB7).cell? ⟨w.heap.size + 1, 6, none⟩ = some (.int .i64 o.new.2.1) := HO0.out.cell (i := 6) rfl
    have cO07 : (wB7).cell? ⟨w.heap.size + 1, 7, none⟩ = some (.int .u64 o.new.2.2) := HO0.out.cell (i := 7) rfl
    have cKc0 : (wB7).cell? ⟨w4.heap.size, 0, none⟩ = some (.slice ac c.1.length xc) := HKc.out.cell (i := 0) rfl
    have cKc1 : (wB7).cell? ⟨w4.heap.size, 1, none⟩ = some (.slice bc c.2.length yc) := HKc.out.cell (i := 1) rfl
    have cKa0 : (wB7).cell? ⟨w6.heap.size, 0, none⟩ = some (.slice aa d.1.length xa) := HKa.out.cell (i := 0) rfl
    have cKa1 : (wB7).cell? ⟨w6.heap.size, 1, none⟩ = some (.slice ba d.2.length ya) := HKa.out.cell (i := 1) rfl
    have cAa0 : (wB7).cell? ⟨w6.heap.size + 1, 0, none⟩ = some (.int .i64 e1) := HAa.out.cell (i := 0) rfl
    have cAa1 : (wB7).cell? ⟨w6.heap.size + 1, 1, none⟩ = some (.int .u64 e2) := HAa.out.cell (i := 1) rfl
    have cAa2 : (wB7).cell? ⟨w6.heap.size + 1, 2, none⟩ = some (.bool e3) := HAa.out.cell (i := 2) rfl
    refine (HD2.out _ _ _ HGc.out).mono ?_; rintro e w8 ⟨vb, ub, rfl, hg, hx⟩
    obtain ⟨ab, xb, rfl⟩ := hg.1.form
    obtain ⟨bb, yb, rfl⟩ := Gr.Ma.form hg.2
    clear cG00 cG01 cO00 cO01 cO02 cO03 cO04 cO05 cO06 cO07 cKc0 cKc1 cKa0 cKa1 cAa0 cAa1 cAa2
    replace HX := Lib.hid (HX.out.trans hx)
    replace HG0 := Lib.hid (HG0.out.ext hx)
    replace HO0 := Lib.hid (HO0.out.ext hx)
    replace HKc := Lib.hid (HKc.out.ext hx)
    replace HKa := Lib.hid (HKa.out.ext hx)
    replace HAa := Lib.hid (HAa.out.ext hx)
    replace HG := Lib.hid (HG.out.ext hx)
    replace HGc := Lib.hid (HGc.out.ext hx)
    replace HGa := Lib.hid (HGa.out.ext hx)
    have HGb := Lib.hid hg
    clear hg hx
    unfold anv
    obtain ⟨wB9, hwB9⟩ : ∃ wX, wX = ((w8.alloc (.cells #[.slice ab d2.1.length xb, .slice bb d2.2.length yb] 25)).alloc (.cells #[.int .i64 e1, .int .u64 e2, .bool e3] 35)) := ⟨_, rfl⟩
    have hxn : Ext w8 wB9 := hwB9 ▸ (((Ext.refl w8).alloc _).alloc _)
    replace HX := Lib.hid (HX.out.trans hxn)
    replace HG0 := Lib.hid (HG0.out.ext hxn)
    replace HO0 := Lib.hid (HO0.out.ext hxn)
    replace HKc := Lib.hid (HKc.out.ext hxn)
    replace HKa := Lib.hid (HKa.out.ext hxn)
    replace HAa := Lib.hid (HAa.out.ext hxn)
    replace HG := Lib.hid (HG.out.ext hxn)
    replace HGc := Lib.hid (HGc.out.ext hxn)
    replace HGa := Lib.hid (HGa.out.ext hxn)
    replace HGb := Lib.hid (HGb.out.ext hxn)
    have HKb := Lib.hid (show Blk wB9 (w8.heap.size) #[.slice ab d2.1.length xb, .slice bb d2.2.length yb] 25 from hwB9 ▸ ((blk_at (by simp)).alloc _))
    have HAb := Lib.hid (show Blk wB9 (w8.heap.size + 1) #[.int .i64 e1, .int .u64 e2, .bool e3] 35 from hwB9 ▸ (blk_at (by simp)))
    clear hxn
    have cG00 : (((w8.alloc (.cells #[.slice ab d2.1.length xb, .slice bb d2.2.length yb] 25)).alloc (.cells #[.int .i64 e1, .int .u64 e2, .bool e3] 35))).cell? ⟨w.heap.size, 0, none⟩ = some (.slice a0 g.1.length c0) := by rw [← hwB9]; exact HG0.out.cell (i := 0) rfl
    have cG01 : (((w8.alloc (.cells #[.slice ab d2.1.length xb, .slice bb d2.2.length yb] 25)).alloc (.cells #[.int .i64 e1, .int .u64 e2, .bool e3] 35))).cell? ⟨w.heap.size, 1, none⟩ = some (.slice b0 g.2.length d0) := by rw [← hwB9]; exact HG0.out.cell (i := 1) rfl
    have cO00 : (((w8.alloc (.cells #[.slice ab d2.1.length xb, .slice bb d2.2.length yb] 25)).alloc (.cells #[.int .i64 e1, .int .u64 e2, .bool e3] 35))).cell? ⟨w.heap.size + 1, 0, none⟩ = some (.int .i64 o.kind) := by rw [← hwB9]; exact HO0.out.cell (i := 0) rfl
    have cO01 : (((w8.alloc (.cells #[.slice ab d2.1.length xb, .slice bb d2.2.length yb] 25)).alloc (.cells #[.int .i64 e1, .int .u64 e2, .bool e3] 35))).cell? ⟨w.heap.size + 1, 1, none⟩ = some (.int .i64 o.h) := by rw [← hwB9]; exact HO0.out.cell (i := 1) rfl
    have cO02 : (((w8.alloc (.cells #[.slice ab d2.1.length xb, .slice bb d2.2.length yb] 25)).alloc (.cells #[.int .i64 e1, .int .u64 e2, .bool e3] 35))).cell? ⟨w.heap.size + 1, 2, none⟩ = some (.int .i64 o.i) := by rw [← hwB9]; exact HO0.out.cell (i := 2) rfl
    have cO03 : (((w8.alloc (.cells #[.slice ab d2.1.length xb, .slice bb d2.2.length yb] 25)).alloc (.cells #[.int .i64 e1, .int .u64 e2, .bool e3] 35))).cell? ⟨w.heap.size + 1, 3, none⟩ = some (.int .i64 o.k) := by rw [← hwB9]; exact HO0.out.cell (i := 3) rfl
    have cO04 : (((w8.alloc (.cells #[.slice ab d2.1.length xb, .slice bb d2.2.length yb] 25)).alloc (.cells #[.int .i64 e1, .int .u64 e2, .bool e3] 35))).cell? ⟨w.heap.size + 1, 4, none⟩ = some (.int .u64 o.v) := by rw [← hwB9]; exact HO0.out.cell (i := 4) rfl
    have cO05 : (((w8.alloc (.cells #[.slice ab d2.1.length xb, .slice bb d2.2.length yb] 25)).alloc (.cells #[.int .i64 e1, .int .u64 e2, .bool e3] 35))).cell? ⟨w.heap.size + 1, 5, none⟩ = some (.int .i64 o.new.1) := by rw [← hwB9]; exact HO0.out.cell (i := 5) rfl
    have cO06 : (((w8.alloc (.cells #[.slice ab d2.1.length xb, .slice bb d2.2.length yb] 25)).alloc (.cells #[.int .i64 e1, .int .u64 e2, .bool e3] 35))).cell? ⟨w.heap.size + 1, 6, none⟩ = some (.int .i64 o.new.2.1) := by rw [← hwB9]; exact HO0.out.cell (i := 6) rfl
    have cO07 : (((w8.alloc (.cells #[.slice ab d2.1.length xb, .slice bb d2.2.length yb] 25)).alloc (.cells #[.int .i64 e1, .int .u64 e2, .bool e3] 35))).cell? ⟨w.heap.size + 1, 7, none⟩ = some (.int .u64 o.new.2.2) := by rw [← hwB9]; exact HO0.out.cell (i := 7) rfl
    have cKc0 : (((w8.alloc (.cells #[.slice ab d2.1.length xb, .slice bb d2.2.length yb] 25)).alloc (.cells #[.int .i64 e1, .int .u64 e2, .bool e3] 35))).cell? ⟨w4.heap.size, 0, none⟩ = some (.slice ac c.1.length xc) := by rw [← hwB9]; exact HKc.out.cell (i := 0) rfl
    have cKc1 : (((w8.alloc (.cells #[.slice ab d2.1.length xb, .slice bb d2.2.length yb] 25)).alloc (.cells #[.int .i64 e1, .int .u64 e2, .bool e3] 35))).cell? ⟨w4.heap.size, 1, none⟩ = some (.slice bc c.2.length yc) := by rw [← hwB9]; exact HKc.out.cell (i := 1) rfl
    have cKa0 : (((w8.alloc (.cells #[.slice ab d2.1.length xb, .slice bb d2.2.length yb] 25)).alloc (.cells #[.int .i64 e1, .int .u64 e2, .bool e3] 35))).cell? ⟨w6.heap.size, 0, none⟩ = some (.slice aa d.1.length xa) := by rw [← hwB9]; exact HKa.out.cell (i := 0) rfl
    have cKa1 : (((w8.alloc (.cells #[.slice ab d2.1.length xb, .slice bb d2.2.length yb] 25)).alloc (.cells #[.int .i64 e1, .int .u64 e2, .bool e3] 35))).cell? ⟨w6.heap.size, 1, none⟩ = some (.slice ba d.2.length ya) := by rw [← hwB9]; exact HKa.out.cell (i := 1) rfl
    have cAa0 : (((w8.alloc (.cells #[.slice ab d2.1.length xb, .slice bb d2.2.length yb] 25)).alloc (.cells #[.int .i64 e1, .int .u64 e2, .bool e3] 35))).cell? ⟨w6.heap.size + 1, 0, none⟩ = some (.int .i64 e1) := by rw [← hwB9]; exact HAa.out.cell (i := 0) rfl
    have cAa1 : (((w8.alloc (.cells #[.slice ab d2.1.length xb, .slice bb d2.2.length yb] 25)).alloc (.cells #[.int .i64 e1, .int .u64 e2, .bool e3] 35))).cell? ⟨w6.heap.size + 1, 1, none⟩ = some (.int .u64 e2) := by rw [← hwB9]; exact HAa.out.cell (i := 1) rfl
    have cAa2 : (((w8.alloc (.cells #[.slice ab d2.1.length xb, .slice bb d2.2.length yb] 25)).alloc (.cells #[.int .i64 e1, .int .u64 e2, .bool e3] 35))).cell? ⟨w6.heap.size + 1, 2, none⟩ = some (.bool e3) := by rw [← hwB9]; exact HAa.out.cell (i := 2) rfl
    cases hk2 : (o.kind == 2)
    all_goals
      go_wp2_with fail
      rw [← hwB9]
      clear hwB9
      clear cG00 cG01 cO00 cO01 cO02 cO03 cO04 cO05 cO06 cO07 cKc0 cKc1 cKa0 cKa1 cAa0 cAa1 cAa2
      have cG00 : (wB9).cell? ⟨w.heap.size, 0, none⟩ = some (.slice a0 g.1.length c0) := HG0.out.cell (i := 0) rfl
      have cG01 : (wB9).cell? ⟨w.heap.size, 1, none⟩ = some (.slice b0 g.2.length d0) := HG0.out.cell (i := 1) rfl
      have cO00 : (wB9).cell? ⟨w.heap.size + 1, 0, none⟩ = some (.int .i64 o.kind) := HO0.out.cell (i := 0) rfl
      have cO01 : (wB9).cell? ⟨w.heap.size + 1, 1, none⟩ = some (.int .i64 o.h) := HO0.out.cell (i := 1) rfl
      have cO02 : (wB9).cell? ⟨w.heap.size + 1, 2, none⟩ = some (.int .i64 o.i) := HO0.out.cell (i := 2) rfl
      have cO03 : (wB9).cell? ⟨w.heap.size + 1, 3, none⟩ = some (.int .i64 o.k) := HO0.out.cell (i := 3) rfl
      have cO04 : (wB9).cell? ⟨w.heap.size + 1, 4, none⟩ = some (.int .u64 o.v) := HO0.out.cell (i := 4) rfl
      have cO05 : (wB9).cell? ⟨w.heap.size + 1, 5, none⟩ = some (.int .i64 o.new.1) := HO0.out.cell (i := 5) rfl
      have cO06 : (wB9).cell? ⟨w.heap.size + 1, 6, none⟩ = some (.int .i64 o.new.2.1) := HO0.out.cell (i := 6) rfl
      have cO07 : (wB9).cell? ⟨w.heap.size + 1, 7, none⟩ = some (.int .u64 o.new.2.2) := HO0.out.cell (i := 7) rfl
      have cKc0 : (wB9).cell? ⟨w4.heap.size, 0, none⟩ = some (.slice ac c.1.length xc) := HKc.out.cell (i := 0) rfl
      have cKc1 : (wB9).cell? ⟨w4.heap.size, 1, none⟩ = some (.slice bc c.2.length yc) := HKc.out.cell (i := 1) rfl
      have cKa0 : (wB9).cell? ⟨w6.heap.size, 0, none⟩ = some (.slice aa d.1.length xa) := HKa.out.cell (i := 0) rfl
      have cKa1 : (wB9).cell? ⟨w6.heap.size, 1, none⟩ = some (.slice ba d.2.length ya) := HKa.out.cell (i := 1) rfl
      have cAa0 : (wB9).cell? ⟨w6.heap.size + 1, 0, none⟩ = some (.int .i64 e1) := HAa.out.cell (i := 0) rfl
      have cAa1 : (wB9).cell? ⟨w6.heap.size + 1, 1, none⟩ = some (.int .u64 e2) := HAa.out.cell (i := 1) rfl
      have cAa2 : (wB9).cell? ⟨w6.heap.size + 1, 2, none⟩ = some (.bool e3) := HAa.out.cell (i := 2) rfl
      have cKb0 : (wB9).cell? ⟨w8.heap.size, 0, none⟩ = some (.slice ab d2.1.length xb) := HKb.out.cell (i := 0) rfl
      have cKb1 : (wB9).cell? ⟨w8.heap.size, 1, none⟩ = some (.slice bb d2.2.length yb) := HKb.out.cell (i := 1) rfl
      have cAb0 : (wB9).cell? ⟨w8.heap.size + 1, 0, none⟩ = some (.int .i64 e1) := HAb.out.cell (i := 0) rfl
      have cAb1 : (wB9).cell? ⟨w8.heap.size + 1, 1, none⟩ = some (.int .u64 e2) := HAb.out.cell (i := 1) rfl
      have cAb2 : (wB9).cell? ⟨w8.heap.size + 1, 2, none⟩ = some (.bool e3) := HAb.out.cell (i := 2) rfl
      clear cG00 cG01 cO00 cO01 cO02 cO03 cO04 cO05 cO06 cO07 cKc0 cKc1 cKa0 cKa1 cAa0 cAa1 cAa2 cKb0 cKb1 cAb0 cAb1 cAb2
      have fKc0 : ∀ W : World, Ext wB9 W → W.cell? ⟨w4.heap.size, 0, none⟩ = some (.slice ac c.1.length xc) := fun W h => (HKc.out.ext h).cell (i := 0) rfl
      have fKc1 : ∀ W : World, Ext wB9 W → W.cell? ⟨w4.heap.size, 1, none⟩ = some (.slice bc c.2.length yc) := fun W h => (HKc.out.ext h).cell (i := 1) rfl
      have fKa0 : ∀ W : World, Ext wB9 W → W.cell? ⟨w6.heap.size, 0, none⟩ = some (.slice aa d.1.length xa) := fun W h => (HKa.out.ext h).cell (i := 0) rfl
      have fKa1 : ∀ W : World, Ext wB9 W → W.cell? ⟨w6.heap.size, 1, none⟩ = some (.slice ba d.2.length ya) := fun W h => (HKa.out.ext h).cell (i := 1) rfl
      have fAa0 : ∀ W : World, Ext wB9 W → W.cell? ⟨w6.heap.size + 1, 0, none⟩ = some (.int .i64 e1) := fun W h => (HAa.out.ext h).cell (i := 0) rfl
      have fAa1 : ∀ W : World, Ext wB9 W → W.cell? ⟨w6.heap.size + 1, 1, none⟩ = some (.int .u64 e2) := fun W h => (HAa.out.ext h).cell (i := 1) rfl
      have fAa2 : ∀ W : World, Ext wB9 W → W.cell? ⟨w6.heap.size + 1, 2, none⟩ = some (.bool e3) := fun W h => (HAa.out.ext h).cell (i := 2) rfl
      have fKb0 : ∀ W : World, Ext wB9 W → W.cell? ⟨w8.heap.size, 0, none⟩ = some (.slice ab d2.1.length xb) := fun W h => (HKb.out.ext h).cell (i := 0) rfl
      have fKb1 : ∀ W : World, Ext wB9 W → W.cell? ⟨w8.heap.size, 1, none⟩ = some (.slice bb d2.2.length yb) := fun W h => (HKb.out.ext h).cell (i := 1) rfl
      have fAb0 : ∀ W : World, Ext wB9 W → W.cell? ⟨w8.heap.size + 1, 0, none⟩ = some (.int .i64 e1) := fun W h => (HAb.out.ext h).cell (i := 0) rfl
      have fAb1 : ∀ W : World, Ext wB9 W → W.cell? ⟨w8.heap.size + 1, 1, none⟩ = some (.int .u64 e2) := fun W h => (HAb.out.ext h).cell (i := 1) rfl
      have fAb2 : ∀ W : World, Ext wB9 W → W.cell? ⟨w8.heap.size + 1, 2, none⟩ = some (.bool e3) := fun W h => (HAb.out.ext h).cell (i := 2) rfl
      have FA : Hid (∀ W, Ext wB9 W → Gr W (.slice aa d.1.length xa) (.slice ba d.2.length ya) d) := fun W h => HGa.out.ext h
      have FB : Hid (∀ W, Ext wB9 W → Gr W (.slice ab d2.1.length xb) (.slice bb d2.2.length yb) d2) := fun W h => HGb.out.ext h
      have FC : Hid (∀ W, Ext wB9 W → Gr W (.slice ac c.1.length xc) (.slice bc c.2.length yc) c) := fun W h => HGc.out.ext h
      have hse : ∀ W : World, (Op.equalIn 10000 35 (.agg #[.int .i64 e1, .int .u64 e2, .bool e3]) (.agg #[.int .i64 e1, .int .u64 e2, .bool e3])).run Try.prog W = .ok true W := fun W => by rw [eqAns]; simp
      go_region_held3 (fun W : World => Ext wB9 W) (first | exact (Ext.refl wB9).drew | exact Ext.trans (by assumption) hxq) (first
        | (go_at_call 16; (with_reducible refine (HCa.out _ _ _ (FA.out _ (by assumption))).mono ?_); rintro e wq ⟨ua, va, rfl, hUa, hxq⟩)
        | (go_at_call 16; (with_reducible refine (HCb.out _ _ _ (FB.out _ (by assumption))).mono ?_); rintro e wq ⟨ub, vb, rfl, hUb, hxq⟩)
        | (go_at_call 15; (with_reducible refine (HSS.out k _ _ _ _ _ (hUa.out _ (by first | exact Ext.refl _ | assumption)) (hUb.out _ (by first | exact Ext.refl _ | assumption))).mono ?_); rintro e wq ⟨rfl, hxq⟩))
      all_goals
        go_wp2_with fail
        go_region_held3 (fun W : World => Ext wB9 W) (first | exact Ext.drew (by assumption) | exact Ext.trans (by assumption) hxr) (first
          | (go_at_call 16; (with_reducible refine (HCc.out _ _ _ (FC.out _ (by assumption))).mono ?_); rintro e wr ⟨uc, vc, rfl, hUc, hxr⟩)
          | (go_at_call 15; (with_reducible refine (HSS.out c _ _ _ _ _ (hUc.out _ (by first | exact Ext.refl _ | assumption)) (FC.out _ (by assumption))).mono ?_); rintro e wr ⟨rfl, hxr⟩))
        all_goals
          go_wp2_with fail
          go_ret
          exact ⟨by first | rfl | (simp; done), HX.out.trans (by assumption)⟩

theorem walk (v0 : Value) (v1 : Value) (v2 : Value) (W : World) (r0 : Rd.V Try.prog W 25 v0) (r1 : Rd.V Try.prog W 3 v1) (r2 : Rd.V Try.prog W 30 v2) : Calls Try.prog 9 #[v0, v1, v2] W fun e w' => e = .returned (.bool true) ∧ Below W.heap.size W w' := by
  obtain ⟨cs, rfl, hs⟩ := r0.struct Try.underlying25
  obtain ⟨a, b, g, rfl, hg, hwf⟩ := Gr.of_R hs
  obtain ⟨th, rfl, _⟩ := r1.int Try.underlying3
  obtain ⟨os, rfl, ho⟩ := r2.struct Try.underlying30
  obtain ⟨o, rfl, hv, hm⟩ := op_of_R ho
  exact (go a b g th o (posG_of hwf) hv.1 hm W hg).mono fun e w' ⟨he, hw⟩ => ⟨he, hw.below⟩

open Go.ChangeShapes Go.WideShapes Go.ChangeAt Go.RowKit
theorem own : ownKnob Try.prog.godebug = none := by kernel_rfl
theorem laidOut : laidOutB Try.prog = true := by kernel_rfl

set_option maxRecDepth 100000 in
theorem lifted (os : Os) (started : os.Started) (H : Type) (enc : TypeId × Value → H) :
    ReturnsInHanded {} Try.checked os 9 .any (Rows.graphCanonSpec.pre6 enc Try.prog Try.f9 Rows.graphCanonRow.domain false) (Rows.graphCanonSpec.post enc Try.prog Try.f9 false true false false) := by
  refine returnsInHanded_of_change_sized (C := Try.checked) own started (by kernel_rfl) Try.func9
    (ChangeSpec.witness6 (enc := enc) (C := Try.checked) false ⟨#[], #[.agg #[.slice none 0 0, .slice none 0 0], .int .i64 0, .agg #[.int .i64 0, .int .i64 0, .int .i64 0, .int .i64 0, .int .u64 0, .int .i64 0, .int .i64 0, .int .u64 0]], []⟩ 12 (by kernel_rfl) (by kernel_rfl) (by kernel_rfl) (by kernel_rfl)) ?_
  intro W base args ds gs before hval0 hW _ hsz0 _
  have hval : ∀ (j : Nat) t v, Try.f9.params[j]? = some t → args[j]? = some v → Value.okWide Try.prog W .any base t v := hval0
  have hW' := hW
  obtain ⟨p, q, hA0, hV, rfl, _, _⟩ := hW
  have hA : DataW.TrodAll enc Try.prog W 0 (fun _ => true) true Try.f9.params.toList args.toList ds p := hA0
  obtain ⟨rfl, rfl⟩ := trodVars_none hV
  have hsz : (DataW.weightsEach Try.prog (Try.f9.params.toList ++ []) (ds ++ [])).all (· ≤ reachBytes) = true := hsz0
  rw [Try.params9] at hA hval hsz
  have hA2 := hA
  obtain ⟨v0, vs0, d0, ds0, p0, q0, hargs, rfl, rfl, h0, r0⟩ := trodAll_cons hA2
  obtain ⟨v1, vs1, d1, ds1, p1, q1, rfl, rfl, rfl, h1, r1⟩ := trodAll_cons r0
  obtain ⟨v2, vs2, d2, ds2, p2, q2, rfl, rfl, rfl, h2, r2⟩ := trodAll_cons r1
  obtain ⟨rfl, rfl, rfl⟩ := trodAll_nil r2
  obtain rfl : args = #[v0, v1, v2] := by cases args; simp_all
  have hR := Rd.trodAll_V hA (fun n hn => by simpa using List.all_eq_true.1 hsz n (by simpa using hn)) (fun j t v hj hv => hval j t v (by simpa using hj) (by simpa using hv))
  clear hA0 hval0 hA2
  refine (walk v0 v1 v2 W (hR 0 25 v0 rfl rfl) (hR 1 3 v1 rfl rfl) (hR 2 30 v2 rfl rfl)).mono fun e W' ⟨he, bel⟩ => ?_
  subst he
  exact ⟨_, rfl, _, _, _, [], _, [], hW', trodAll_mk1 (shut_bool Try.underlying4 _), Rd.trodAll_below laidOut bel (List.forall_mem_cons.2 ⟨⟨by kernel_rfl, of_decide_eq_true (by kernel_rfl)⟩, List.forall_mem_cons.2 ⟨⟨by kernel_rfl, of_decide_eq_true (by kernel_rfl)⟩, List.forall_mem_cons.2 ⟨⟨by kernel_rfl, of_decide_eq_true (by kernel_rfl)⟩, fun _ h => by cases h⟩⟩⟩) hA, rfl, bel.frame _, fun h => by cases h⟩

theorem over : Rows.graphCanonRow.holds Try.pinned (OpenSpec.ofChange Rows.graphCanonSpec) :=
  OpenClaim.holds_of_wide 9 Try.f9 rfl rfl rfl rfl rfl rfl rfl ⟨rfl, rfl, rfl, rfl, rfl⟩ rfl rfl rfl rfl rfl (by kernel_rfl) Try.func9 (by kernel_rfl)
    (of_decide_eq_true (by kernel_rfl)) (by unfold Func.isWrapper; first | (rw [if_pos (by decide +kernel)]; kernel_rfl) | (rw [if_neg (by decide +kernel)]; exact ⟨rfl, rfl⟩))
    (fun os started H enc _ => lifted os started H enc)

theorem proved : Rows.GraphCanonSaid := over
#print axioms proved
end Go.Proofs.Ytjhmlbhfnogdiaa.graphCanon
