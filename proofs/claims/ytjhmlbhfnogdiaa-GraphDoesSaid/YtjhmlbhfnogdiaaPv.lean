/- The reference's push and set. -/
import Derived.Test.YtjhmlbhfnogdiaaCy
namespace Go.Proofs.Ytjhmlbhfnogdiaa.Pv
open Go.RowKit
open Go.Proofs.Ytjhmlbhfnogdiaa Go.Proofs.Ytjhmlbhfnogdiaa.Hd Go.Proofs.Ytjhmlbhfnogdiaa.Gr Go.Proofs.Ytjhmlbhfnogdiaa.Hg Go.Proofs.Ytjhmlbhfnogdiaa.Ps Go.Proofs.Ytjhmlbhfnogdiaa.Rr Go.Proofs.Ytjhmlbhfnogdiaa.Wk Go.Proofs.Ytjhmlbhfnogdiaa.Wp Go.Proofs.Ytjhmlbhfnogdiaa.Pl Go.Proofs.Ytjhmlbhfnogdiaa.Vf Go.Proofs.Ytjhmlbhfnogdiaa.Co Go.Proofs.Ytjhmlbhfnogdiaa.Ro Go.Proofs.Ytjhmlbhfnogdiaa.Cy
set_option linter.unusedVariables false

/-- 'append(append([]int{}, row...), h)', of the call's own. -/
theorem grown (w : World) (v : Value) (xs : List Int) (x : Int) (hs : Sl .i64 w v xs) (hb : xs.length ≤ 1000000) :
    ∃ v1 w1 v2 w2, (Builtin.append_ #[42, 42] 42 #[.slice (some ⟨w.heap.size, 0, none⟩) 0 0, v]).run Try.prog (w.alloc (.cells #[] 3)) = .ok v1 w1 ∧
      (Builtin.append_ #[42, 42] 42 #[v1, .slice (some ⟨w1.heap.size, 0, none⟩) 1 1]).run Try.prog (w1.alloc (.cells #[.int .i64 x] 3)) = .ok v2 w2 ∧ w2.ownsRow w.heap.size 3 1 v2 (xs ++ [x]).length ((xs ++ [x]).map (Value.int .i64)) ∧ Ext w w2 := by
  obtain ⟨i0, hi, hz0, hz1, hz2⟩ := info_i
  obtain ⟨v1, w1, hr1, ho1, hx1⟩ := dup (ty := 42) uI hi hz0 hz1 hz2 rfl (by decide) (by decide) hs (oneCells _ _)
  obtain ⟨v2, w2, hr2, ho2, hc⟩ := Rc.app_one ho1 hx1.size x (by omega)
  exact ⟨v1, w1, v2, w2, hr1, hr2, ho2, hc.ext hx1 fun k hk => (ho1.lt k hk).1⟩

theorem gro_le {wE w : World} {base base' : Nat} {a b : Value} {g : Gph} (h : GrO wE base a b g w) (hb : base' ≤ base) (hE : wE.heap.size ≤ base') : GrO wE base' a b g w := by
  obtain ⟨ps, h1, h2, h3⟩ := h.nd
  obtain ⟨vs, e1, e2, e3, e4⟩ := h.rw
  exact ⟨h.ext, ⟨hE, Nat.le_trans hb h.hb.2⟩, h.hn, h.hm, ⟨ps, h1, own_le h2 hb, fun i p n hp hn => ⟨(h3 i p n hp hn).1, (h3 i p n hp hn).2.imp id fun h => ⟨own_le h.1 hb, h.2⟩⟩⟩, vs, e1, own_le e2 hb, e3, fun i u r hu hr => ⟨own_le (e4 i u r hu hr).1 hb, (e4 i u r hu hr).2⟩⟩

def full (g : Gph) (th : Nat) : Bool := decide (16 ≤ (rowOf g th).length)
def rp (g : Gph) (th : Nat) (x : Int) : Gph := if full g th = true then g else pushG g th x
def re (g : Gph) (th : Nat) : Int := if full g th = true then 4 else 0

set_option maxRecDepth 100000 in
set_option maxHeartbeats 8000000 in
theorem rpush_any (a b : Value) (g : Gph) (th : Nat) (x : Int) (wE w : World) (base : Nat) (hI : GI wE base a b g w) (hth : th < g.2.length) (hn : g.1.length ≤ 1000) (hm : g.2.length ≤ 1048576) :
    Calls Try.prog 37 #[.agg #[a, b], .int .i64 th, .int .i64 x] w fun e w' => ∃ a' b', e = .returned (.tuple #[.agg #[a', b'], .int .i64 (re g th)]) ∧ (full g th = true → a' = a ∧ b' = b) ∧ (full g th = false → GrO wE base a' b' (pushG g th x) w') ∧ Ext w w' := by
  have h := hI.gr
  have hIb := hI.hb
  obtain ⟨a0, c0, rfl⟩ := h.1.form
  obtain ⟨b0, d0, rfl⟩ := Gr.Ma.form h.2
  obtain ⟨B, hB⟩ : ∃ B, B = w.heap.size := ⟨_, rfl⟩
  have hsm := h.2.small
  have hlen := h.2.len uS
  obtain ⟨p, u, hpx, hpc, hu⟩ := h.2.at_ uS szS (i := (th : Int)) (by omega) (by omega)
  rw [Int.toNat_natCast] at hu
  replace hu : Sl .i64 w u (rowOf g th) := hu
  obtain ⟨ua, uc, rfl⟩ := Row.form hu
  obtain ⟨rl, hrl⟩ : ∃ rl, (rowOf g th).length = rl := ⟨_, rfl⟩
  replace hpc : w.cell? p = some (.slice ua rl uc) := by rw [← hrl]; exact hpc
  have husm := hu.small
  have hulen := hu.len uI
  rw [hrl] at husm hulen
  obtain ⟨wA, hwA⟩ : ∃ wA, wA = (w.alloc (.cells #[.slice a0 g.1.length c0, .slice b0 g.2.length d0] 25)).alloc (.cells #[.slice none 0 0, .slice none 0 0] 25) := ⟨_, rfl⟩
  have hxA : Ext w wA := hwA ▸ ((Ext.refl w).alloc _).alloc _
  have hbA : Blk wA B #[.slice a0 g.1.length c0, .slice b0 g.2.length d0] 25 := by rw [hwA, hB]; exact (Blk.new w _ _).alloc _
  have hrA : Blk wA (B + 1) #[.slice none 0 0, .slice none 0 0] 25 := by rw [hwA, hB]; exact Wf.blk_at (by simp)
  have k0 : wA.cell? ⟨B, 0, none⟩ = some (.slice a0 g.1.length c0) := hbA.cell (i := 0) rfl
  have k1 : wA.cell? ⟨B, 1, none⟩ = some (.slice b0 g.2.length d0) := hbA.cell (i := 1) rfl
  have kp : wA.cell? p = some (.slice ua rl uc) := hxA.cell hpc
  have HBw : Hid (B = w.heap.size) := hB
  by_cases hf : 16 ≤ rl
  · have e1 : re g th = 4 := by unfold re full; rw [hrl, if_pos (by simpa using hf)]
    have e2 : full g th = true := by unfold full; rw [hrl]; simpa using hf
    rw [e1, e2]
    obtain ⟨W8, hW8⟩ : ∃ W8, W8 = (w.alloc (.cells #[.slice a0 g.1.length c0, .slice b0 g.2.length d0] 25)).alloc (.cells #[.slice a0 g.1.length c0, .slice b0 g.2.length d0] 25) := ⟨_, rfl⟩
    have hx8 : Ext w W8 := hW8 ▸ ((Ext.refl w).alloc _).alloc _
    have hb8 : Blk W8 (B + 1) #[.slice a0 g.1.length c0, .slice b0 g.2.length d0] 25 := by rw [hW8, hB]; exact Wf.blk_at (by simp)
    have r0 : W8.cell? ⟨B + 1, 0, none⟩ = some (.slice a0 g.1.length c0) := hb8.cell (i := 0) rfl
    have r1 : W8.cell? ⟨B + 1, 1, none⟩ = some (.slice b0 g.2.length d0) := hb8.cell (i := 1) rfl
    have hf' : (16 : Int) ≤ (rl : Int) := by omega
    have HF := Lib.hid hx8
    rw [hwA] at kp
    clear h hI hIb hu hrl e1 e2 hbA hrA hxA hwA hx8 hb8 k0 k1 hf
    go_enter Try.func37, Try.ntmps37
    go_wp2_with fail
    rw [← hW8, ← hB]
    exact bodyPost_ret (v := .tuple #[.agg #[.slice a0 g.1.length c0, .slice b0 g.2.length d0], .int .i64 4]) (by simp [results, Try.results37, go_sem, r0, r1]) rfl ⟨_, _, rfl, fun _ => ⟨rfl, rfl⟩, fun h => (by cases h), HF.out⟩
  · have e1 : re g th = 0 := by unfold re full; rw [hrl, if_neg (by simpa using hf)]
    have e2 : full g th = false := by unfold full; rw [hrl]; simpa using hf
    rw [e1, e2]
    have hf' : ¬ (16 : Int) ≤ (rl : Int) := by omega
    obtain ⟨v1, w1, v2, w2, hr1, hr2, ho2, hx2⟩ := grown wA _ (rowOf g th) x (hu.ext hxA) (by omega)
    rw [hrl] at hr1
    obtain ⟨va, vc, hvf⟩ := Vc.own_form ho2
    have hl2 : (rowOf g th ++ [x]).length = rl + 1 := by simp [hrl]
    rw [hl2] at hvf
    subst hvf
    have q1 : (wA.alloc (.cells #[] 3)).cell? ⟨B, 1, none⟩ = some (.slice b0 g.2.length d0) := (hbA.ext ((Ext.refl wA).alloc _)).cell (i := 1) rfl
    have qp : (wA.alloc (.cells #[] 3)).cell? p = some (.slice ua rl uc) := ((Ext.refl wA).alloc _).cell kp
    have hb2 := hbA.ext hx2
    have z0 : w2.cell? ⟨B, 0, none⟩ = some (.slice a0 g.1.length c0) := hb2.cell (i := 0) rfl
    have z1 : w2.cell? ⟨B, 1, none⟩ = some (.slice b0 g.2.length d0) := hb2.cell (i := 1) rfl
    have HCP := Lib.hid (copied_any _ _ g wE w2 base (hI.ext' (hxA.trans hx2)) hn hm)
    have HES := Lib.hid hIb
    have HR2b := Lib.hid (hrA.ext hx2)
    have HO2 := Lib.hid ho2
    have HX2 := Lib.hid (And.intro hx2 (hxA.trans hx2))
    have HSZ : Hid (B + 2 = wA.heap.size) := by show _ = _; rw [hwA, hB]; simp
    have HTH := Lib.hid (And.intro hth hl2)
    have HRA := Lib.hid hrA
    rw [hwA] at hr1 q1 qp kp
    simp only [World.size_alloc] at hr1
    rw [hB] at q1
    have HR1 := Lib.hid hr1
    have HR2 := Lib.hid hr2
    clear h hI hIb hu hrl e1 e2 hbA hrA hxA hx2 k0 k1 hf hr1 hr2 ho2 hb2 hn hm hl2 hth
    go_enter Try.func37, Try.ntmps37
    rw [hB] at z0 z1
    go_wp2_with (at_builtin; first
      | ((with_reducible refine Lib.wpList_append_run _ ?_ (.tmp 18) (.tmp 23) 42 42 ?_ _ _ ?_ ?_ v1 w1 HR1.out ?_); rfl; rfl; rfl; rfl)
      | ((with_reducible refine Lib.wpList_append_run _ ?_ (.tmp 24) (.tmp 26) 42 42 ?_ _ _ ?_ ?_ _ w2 HR2.out ?_); rfl; rfl; rfl; rfl))
    rw [← hB]
    clear hwA hB q1 qp z0 z1 kp
    refine HCP.out.mono ?_; rintro e w3 ⟨na, nc, ra, rc, rfl, hG3, hx3, hna, hra⟩
    obtain ⟨w4, hw4⟩ : ∃ w4, w4 = w3.alloc (.cells #[.slice na g.1.length nc, .slice ra g.2.length rc] 25) := ⟨_, rfl⟩
    obtain ⟨ob, hob⟩ : ∃ ob, ob = w3.heap.size := ⟨_, rfl⟩
    have hx4 : Ext w3 w4 := hw4 ▸ (Ext.refl w3).alloc _
    have hb4 : Blk w4 ob #[.slice na g.1.length nc, .slice ra g.2.length rc] 25 := by rw [hw4, hob]; exact Blk.new w3 _ _
    have hG4 := hG3.ext' hx4
    have hown4 : w4.ownsRow wA.heap.size 3 1 (.slice va (rl + 1) vc) (rowOf g th ++ [x]).length ((rowOf g th ++ [x]).map (Value.int .i64)) := own_ext HO2.out (hx3.trans hx4)
    have hbe : B + 2 ≤ w2.heap.size := by have := HX2.out.1.size; have := HSZ.out; omega
    have hBw := HBw.out
    have hEs := HES.out
    obtain ⟨gb, y, hgb, hix, hyc, hyf, hG6⟩ := hG4.setRow HTH.out.1 (own_le hown4 (by have := HSZ.out; omega)) (by rw [HTH.out.2]; omega)
    have hgl : B + 2 ≤ gb ∧ gb < w3.heap.size := ⟨by have := hra gb hgb; omega, (hG3.rw.lt gb hgb).2⟩
    have hR4 := HR2b.out.ext (hx3.trans hx4)
    have hb5 : Blk (w4.setCell ⟨gb, th, none⟩ (.slice va (rl + 1) vc)) ob #[.slice na g.1.length nc, .slice ra g.2.length rc] 25 := hb4.other (p := ⟨gb, th, none⟩) (by show ob ≠ gb; omega) _
    have hR5 : Blk (w4.setCell ⟨gb, th, none⟩ (.slice va (rl + 1) vc)) (B + 1) #[.slice none 0 0, .slice none 0 0] 25 := hR4.other (p := ⟨gb, th, none⟩) (by show B + 1 ≠ gb; omega) _
    obtain ⟨W8, hW8⟩ : ∃ W8, W8 = ((w4.setCell ⟨gb, th, none⟩ (.slice va (rl + 1) vc)).setCell ⟨B + 1, 0, none⟩ (.slice na g.1.length nc)).setCell ⟨B + 1, 1, none⟩ (.slice ra g.2.length rc) := ⟨_, rfl⟩
    have hc : Ch (fun k => k = B + 1) (w4.setCell ⟨gb, th, none⟩ (.slice va (rl + 1) vc)) W8 := by
      rw [hW8]
      exact (Ch.set (fun k => k = B + 1) _ ⟨B + 1, 0, none⟩ _ rfl).trans (Ch.set (fun k => k = B + 1) _ ⟨B + 1, 1, none⟩ _ rfl) (fun _ _ h => h)
    have hbW : Blk W8 (B + 1) #[.slice na g.1.length nc, .slice ra g.2.length rc] 25 := by rw [hW8]; exact (hR5.set 0 _).set 1 _
    have hG8 := hG6.ch hc fun k hk => ⟨by omega, .inr ⟨_, hk ▸ hR5⟩⟩
    have r0 : W8.cell? ⟨B + 1, 0, none⟩ = some (.slice na g.1.length nc) := hbW.cell (i := 0) rfl
    have r1 : W8.cell? ⟨B + 1, 1, none⟩ = some (.slice ra g.2.length rc) := hbW.cell (i := 1) rfl
    have HF : Hid (GrO wE base (.slice na g.1.length nc) (.slice ra g.2.length rc) (pushG g th x) W8 ∧ Ext w W8) := ⟨hG8, hc.ext ((HX2.out.2.trans (hx3.trans hx4)).setCell (p := ⟨gb, th, none⟩) (by show w.heap.size ≤ gb; omega) _) (fun k hk => by omega)⟩
    have t0 : (w4.setCell ⟨gb, th, none⟩ (.slice va (rl + 1) vc)).cell? ⟨ob, 0, none⟩ = some (.slice na g.1.length nc) := hb5.cell (i := 0) rfl
    have t1 : (w4.setCell ⟨gb, th, none⟩ (.slice va (rl + 1) vc)).cell? ⟨ob, 1, none⟩ = some (.slice ra g.2.length rc) := hb5.cell (i := 1) rfl
    have x0 : (w4.setCell ⟨gb, th, none⟩ (.slice va (rl + 1) vc)).cell? ⟨B + 1, 0, none⟩ = some (.slice none 0 0) := hR5.cell (i := 0) rfl
    have x1 : (w4.setCell ⟨gb, th, none⟩ (.slice va (rl + 1) vc)).cell? ⟨B + 1, 1, none⟩ = some (.slice none 0 0) := hR5.cell (i := 1) rfl
    have y0 := hR5.free 0
    have y1 := hR5.free 1
    rw [hw4] at t0 t1 x0 x1 y0 y1 hyc hyf hW8
    rw [hob] at t0 t1
    clear hG3 hx3 hx4 hb4 hG4 hown4 hG6 hgl hR4 hb5 hR5 hc hbW hG8 hw4 hob hgb hbe hBw hEs hna hra
    go_wp2_with fail
    rw [← hW8]
    clear hW8
    exact bodyPost_ret (v := .tuple #[.agg #[.slice na g.1.length nc, .slice ra g.2.length rc], .int .i64 0]) (by simp [results, Try.results37, go_sem, r0, r1]) rfl ⟨_, _, rfl, fun h => (by cases h), fun _ => HF.out.1, HF.out.2⟩

set_option maxRecDepth 100000 in
set_option maxHeartbeats 8000000 in
theorem rset_any (a b : Value) (g : Gph) (n i : Nat) (v : Int) (wE w : World) (base : Nat) (hI : GI wE base a b g w) (hnl : n < g.1.length) (hi : i < (node g n).2.length) (hfl : (node g n).2.length ≤ 1000000) (hn : g.1.length ≤ 1000) (hm : g.2.length ≤ 1048576) :
    Calls Try.prog 41 #[.agg #[a, b], .int .i64 n, .int .i64 i, .int .u64 v] w fun e w' => ∃ a' b', e = .returned (.agg #[a', b']) ∧ GrO wE base a' b' (setG g n i v) w' ∧ Ext w w' := by
  have h := hI.gr
  obtain ⟨a0, c0, rfl⟩ := h.1.form
  obtain ⟨b0, d0, rfl⟩ := Gr.Ma.form h.2
  obtain ⟨B, hB⟩ : ∃ B, B = w.heap.size := ⟨_, rfl⟩
  obtain ⟨wA, hwA⟩ : ∃ wA, wA = (w.alloc (.cells #[.slice a0 g.1.length c0, .slice b0 g.2.length d0] 25)).alloc (.cells #[.slice none 0 0, .slice none 0 0] 25) := ⟨_, rfl⟩
  have hxA : Ext w wA := hwA ▸ ((Ext.refl w).alloc _).alloc _
  have hbA : Blk wA B #[.slice a0 g.1.length c0, .slice b0 g.2.length d0] 25 := by rw [hwA, hB]; exact (Blk.new w _ _).alloc _
  have hrA : Blk wA (B + 1) #[.slice none 0 0, .slice none 0 0] 25 := by rw [hwA, hB]; exact Wf.blk_at (by simp)
  have HCP := Lib.hid (copied_any _ _ g wE wA base (hI.ext' hxA) hn hm)
  have HES := Lib.hid hI.hb
  have HBw : Hid (B = w.heap.size) := hB
  have HSZ : Hid (B + 2 = wA.heap.size) := by show _ = _; rw [hwA, hB]; simp
  have HG := Lib.hid h
  have HXA := Lib.hid hxA
  have HXW := Lib.hid hxA
  have HBA := Lib.hid hbA
  have HRA := Lib.hid hrA
  have HK := Lib.hid (And.intro hnl (And.intro hi hfl))
  clear h hI hn hm hxA hbA hrA hi hfl
  go_enter Try.func41, Try.ntmps41
  go_wp2_with fail
  rw [← hwA, ← hB]
  clear hwA hB
  refine HCP.out.mono ?_; rintro e w3 ⟨na, nc, ra, rc, rfl, hG3, hx3, hna, hra⟩
  obtain ⟨w4, hw4⟩ : ∃ w4, w4 = w3.alloc (.cells #[.slice na g.1.length nc, .slice ra g.2.length rc] 25) := ⟨_, rfl⟩
  obtain ⟨ob, hob⟩ : ∃ ob, ob = w3.heap.size := ⟨_, rfl⟩
  have hx4 : Ext w3 w4 := hw4 ▸ (Ext.refl w3).alloc _
  have hb4 : Blk w4 ob #[.slice na g.1.length nc, .slice ra g.2.length rc] 25 := by rw [hw4, hob]; exact Blk.new w3 _ _
  have hE4 := HXA.out.trans (hx3.trans hx4)
  obtain ⟨b1, o1, s1, u, hix, e0, e1, e2, e3, hu⟩ := HG.out.1.at_ n HK.out.1
  replace e0 : w.cell? ⟨b1, o1, s1⟩ = some (.int .i64 (node g n).1.1) := e0
  replace e1 : w.cell? ⟨b1, o1 + 1, none⟩ = some (.int .i64 (node g n).1.2.1) := e1
  replace e2 : w.cell? ⟨b1, o1 + 2, none⟩ = some (.int .u64 (node g n).1.2.2) := e2
  replace hu : Sl .u64 w u (node g n).2 := hu
  obtain ⟨i0, hi, hz0, hz1, hz2⟩ := info_u
  obtain ⟨v5, w5, hr5, ho5, hx5⟩ := dup (ty := 65) uU hi hz0 hz1 hz2 rfl (by decide) (by decide) (hu.ext hE4) (oneCells _ _)
  have HSET : Hid (setG g n i v = (g.1.set n ((node g n).1, (node g n).2.set i v), g.2)) := rfl
  obtain ⟨ua, uc, rfl⟩ := Row.form hu
  obtain ⟨fl, hfl⟩ : ∃ fl, (node g n).2.length = fl := ⟨_, rfl⟩
  rw [hfl] at e3
  obtain ⟨fa, fc, hvf⟩ := Vc.own_form ho5
  rw [hfl] at hvf hr5
  subst hvf
  have hil : i < ((node g n).2.map (Value.int .u64)).length := by rw [List.length_map]; exact HK.out.2.1
  obtain ⟨fb, cap, hv, hfb, hfbl, hfc, hff, hfs⟩ := Wi.own_set ho5 hil
  simp only [Value.slice.injEq] at hv
  obtain ⟨rfl, hdead, rfl⟩ := hv
  clear hdead
  replace hfc : w5.cell? ⟨fb, i, none⟩ = some (.int .u64 ((node g n).2.getD i 0)) := by
    rw [hfc]; have := HK.out.2.1; simp [List.getD_eq_getElem?_getD, this]
  have hat := Wi.own_at (P := Try.prog) (base := 0) (e := 0) (w := w) uU szU (show i < fl by have := HK.out.2.1; omega) (g := fb) (cap := fc) (n := fl)
  rw [Nat.mul_one] at hat
  obtain ⟨w6, hw6⟩ : ∃ w6, w6 = w5.setCell ⟨fb, i, none⟩ (.int .u64 v) := ⟨_, rfl⟩
  have ho6 : w6.ownsRow w4.heap.size 26 1 (.slice (some ⟨fb, 0, none⟩) fl fc) fl (((node g n).2.set i v).map (Value.int .u64)) := by
    have := hfs (.int .u64 v)
    rw [hw6, List.map_set, ← hfl]; rw [hfl]; rw [hfl] at this; exact this
  have hx6 : Ext w4 w6 := by rw [hw6]; exact hx5.setCell (p := ⟨fb, i, none⟩) hfb _
  have hG6 := hG3.ext' (hx4.trans hx6)
  have hbe : base ≤ w4.heap.size := by have := HES.out; have := HXA.out.size; have := hx3.size; have := hx4.size; omega
  obtain ⟨gb, y0, y1, y2, y3, hgb, hgx, hy0, hy1, hy2, hy3, hf0, hf1, hf2, hf3, hG7⟩ := hG6.setNode HK.out.1 (node g n).1 (f := (node g n).2.set i v) (by rw [List.length_set, hfl]; exact own_le ho6 hbe) (by rw [List.length_set]; exact HK.out.2.2)
  rw [← HSET.out] at hG7
  generalize node g n = nd at *
  obtain ⟨⟨t, l, m⟩, f⟩ := nd
  dsimp only at *
  have hb6 := hb4.ext hx6
  have hA6 := HBA.out.ext (hx3.trans (hx4.trans hx6))
  have hR6 := HRA.out.ext (hx3.trans (hx4.trans hx6))
  have hE6 := hE4.trans hx6
  have q0 : (w4.alloc (.cells #[] 26)).cell? ⟨B, 0, none⟩ = some (.slice a0 g.1.length c0) := (HBA.out.ext (hx3.trans (hx4.alloc _))).cell (i := 0) rfl
  have q3 : (w4.alloc (.cells #[] 26)).cell? ⟨b1, o1 + 3, none⟩ = some (.slice ua fl uc) := (hE4.alloc _).cell e3
  have HR5 := Lib.hid hr5
  have hBw := HBw.out
  have hgl : gb < ob ∧ B + 2 ≤ gb := by
    obtain ⟨ps, _, p2, _⟩ := hG3.nd
    have h1 := (p2.lt gb hgb).2
    have h2 := hna gb hgb
    have h3 := HSZ.out
    omega
  clear hna hra
  have hS0 : w6.drew.cell? ⟨ob, 0, none⟩ = some (.slice na g.1.length nc) ∧ w6.drew.cell? ⟨B, 0, none⟩ = some (.slice a0 g.1.length c0) ∧ w6.drew.cell? ⟨b1, o1, s1⟩ = some (.int .i64 t) ∧ w6.drew.cell? ⟨b1, o1 + 1, none⟩ = some (.int .i64 l) ∧ w6.drew.cell? ⟨b1, o1 + 2, none⟩ = some (.int .u64 m) := ⟨hb6.cell (i := 0) rfl, hA6.cell (i := 0) rfl, hE6.cell e0, hE6.cell e1, hE6.cell e2⟩
  have HS0 := Lib.hid hS0
  have HY := Lib.hid (And.intro (And.intro hy0 (And.intro hy1 (And.intro hy2 hy3))) (And.intro (And.intro hf0 (And.intro hf1 (And.intro hf2 hf3))) hgx))
  have HIX := Lib.hid hix
  have HB6 := Lib.hid (And.intro hb6 hR6)
  have HX6 := Lib.hid (HXW.out.trans (hx3.trans (hx4.trans hx6)))
  have HG7 := Lib.hid hG7
  have HGL := Lib.hid hgl
  rw [hw4] at hr5 q0 q3
  simp only [World.size_alloc] at hr5
  have HR5 := Lib.hid hr5
  clear hG3 hx3 hx4 hb4 hE4 hu hi hz0 hz1 hz2 hx5 hfl ho5 hil hfb hfbl hfs ho6 hx6 hG6 hG7 hgb hgl hb6 hA6 hR6 hE6 hr5 hnl e0 e1 e2 e3 hbe hBw hS0 hy0 hy1 hy2 hy3 hf0 hf1 hf2 hf3 hgx
  go_wp2_with (at_builtin; refine Lib.wpList_append_run _ ?_ (.tmp 13) (.tmp 19) 65 65 ?_ _ _ ?_ ?_ _ w5 HR5.out ?_; rfl; rfl; rfl; rfl)
  rw [← hw6, ← hob]
  clear hw4 hob q0 q3 hw6 hfc hff
  have hS0 := HS0.out
  obtain ⟨⟨hy0, hy1, hy2, hy3⟩, ⟨hf0, hf1, hf2, hf3⟩, hgx⟩ := HY.out
  refine wp_region_noPanic ?_
  refine Rt.begin_ (fun W : World => W.cell? ⟨ob, 0, none⟩ = some (.slice na g.1.length nc) ∧ W.cell? ⟨B, 0, none⟩ = some (.slice a0 g.1.length c0) ∧ W.cell? ⟨b1, o1, s1⟩ = some (.int .i64 t) ∧ W.cell? ⟨b1, o1 + 1, none⟩ = some (.int .i64 l) ∧ W.cell? ⟨b1, o1 + 2, none⟩ = some (.int .u64 m)) (fun i => i == 12) (by kernel_rfl) ?_
  simp only [List.length_cons, List.length_nil, Nat.reduceAdd, Array.replicate_succ, Array.replicate_zero]
  refine Rt.takeW 0 (v := ?_) rfl (by kernel_rfl) (fun _ _ _ h => h) rfl ?_ ?_
  rotate_left
  · (intro W; go_simp; try with_reducible rfl)
  try simp only [Act.put, List.setIfInBounds_toArray, List.set_cons_zero, List.set_cons_succ]
  refine Rt.take 1 (v := ?_) rfl (by kernel_rfl) (fun _ _ _ h => h) rfl ?_ hS0 ?_
  rotate_left
  · (intro W hSW; (try dsimp only at hSW); go_simp; try with_reducible rfl)
  try simp only [Act.put, List.setIfInBounds_toArray, List.set_cons_zero, List.set_cons_succ]
  refine Rt.takeW 2 (v := ?_) rfl (by kernel_rfl) (fun _ _ _ h => h) rfl ?_ ?_
  rotate_left
  · (intro W; go_simp; try with_reducible rfl)
  try simp only [Act.put, List.setIfInBounds_toArray, List.set_cons_zero, List.set_cons_succ]
  refine Rt.takeW 3 (v := ?_) rfl (by kernel_rfl) (fun _ _ _ h => h) rfl ?_ ?_
  rotate_left
  · (intro W; go_simp; try with_reducible rfl)
  try simp only [Act.put, List.setIfInBounds_toArray, List.set_cons_zero, List.set_cons_succ]
  refine Rt.take 4 (v := ?_) rfl (by kernel_rfl) (fun _ _ _ h => h) rfl ?_ hS0 ?_
  rotate_left
  · (intro W hSW; (try dsimp only at hSW); go_simp; try with_reducible rfl)
  try simp only [Act.put, List.setIfInBounds_toArray, List.set_cons_zero, List.set_cons_succ]
  refine Rt.takeW 5 (v := ?_) rfl (by kernel_rfl) (fun _ _ _ h => h) rfl ?_ ?_
  rotate_left
  · (intro W; go_simp; try with_reducible rfl)
  try simp only [Act.put, List.setIfInBounds_toArray, List.set_cons_zero, List.set_cons_succ]
  refine Rt.takeW 6 (v := ?_) rfl (by kernel_rfl) (fun _ _ _ h => h) rfl ?_ ?_
  rotate_left
  · (intro W; go_simp; try with_reducible rfl)
  try simp only [Act.put, List.setIfInBounds_toArray, List.set_cons_zero, List.set_cons_succ]
  refine Rt.takeW 7 (v := ?_) rfl (by kernel_rfl) (fun _ _ _ h => h) rfl ?_ ?_
  rotate_left
  · (intro W; go_simp; try with_reducible rfl)
  try simp only [Act.put, List.setIfInBounds_toArray, List.set_cons_zero, List.set_cons_succ]
  refine Rt.take 8 (v := ?_) rfl (by kernel_rfl) (fun _ _ _ h => h) rfl ?_ hS0 ?_
  rotate_left
  · (intro W hSW; (try dsimp only at hSW); go_simp; try with_reducible rfl)
  try simp only [Act.put, List.setIfInBounds_toArray, List.set_cons_zero, List.set_cons_succ]
  refine Rt.takeW 9 (v := ?_) rfl (by kernel_rfl) (fun _ _ _ h => h) rfl ?_ ?_
  rotate_left
  · (intro W; go_simp; try with_reducible rfl)
  try simp only [Act.put, List.setIfInBounds_toArray, List.set_cons_zero, List.set_cons_succ]
  refine Rt.takeW 10 (v := ?_) rfl (by kernel_rfl) (fun _ _ _ h => h) rfl ?_ ?_
  rotate_left
  · (intro W; go_simp; try with_reducible rfl)
  try simp only [Act.put, List.setIfInBounds_toArray, List.set_cons_zero, List.set_cons_succ]
  refine Rt.takeW 11 (v := ?_) rfl (by kernel_rfl) (fun _ _ _ h => h) rfl ?_ ?_
  rotate_left
  · (intro W; go_simp; try with_reducible rfl)
  try simp only [Act.put, List.setIfInBounds_toArray, List.set_cons_zero, List.set_cons_succ]
  refine Rt.step 12 rfl (by kernel_rfl) rfl (fun K hK => ?_)
  go_simp
  refine hK _ _ ⟨.inl rfl, ?_⟩
  clear hK K
  try simp only [Act.put, List.setIfInBounds_toArray, List.set_cons_zero, List.set_cons_succ]
  refine Rt.done (by kernel_rfl) ?_
  refine NoPanic.normal ?_
  obtain ⟨w7, hw7⟩ : ∃ w7, w7 = ((((w6.setCell ⟨gb, n * 4, none⟩ (.int .i64 t)).setCell ⟨gb, n * 4 + 1, none⟩ (.int .i64 l)).setCell ⟨gb, n * 4 + 2, none⟩ (.int .u64 m)).setCell ⟨gb, n * 4 + 3, none⟩ (.slice (some ⟨fb, 0, none⟩) fl fc)).drew := ⟨_, rfl⟩
  rw [← hw7]
  have hgl := HGL.out
  have hG8 := HG7.out.ext' ((Ext.refl _).drew)
  have four : ∀ {b : Nat} {cs : Array Value}, Blk w6 b cs 25 → b ≠ gb → Blk w7 b cs 25 := fun hb hne => by
    rw [hw7]
    exact (((((hb.other (p := ⟨gb, n * 4, none⟩) hne _).other (p := ⟨gb, n * 4 + 1, none⟩) hne _).other (p := ⟨gb, n * 4 + 2, none⟩) hne _).other (p := ⟨gb, n * 4 + 3, none⟩) hne _)).ext ((Ext.refl _).drew)
  rw [← hw7] at hG8
  have hb7 := four HB6.out.1 (by omega)
  have hR7 := four HB6.out.2 (by omega)
  obtain ⟨W8, hW8⟩ : ∃ W8, W8 = (w7.setCell ⟨B + 1, 0, none⟩ (.slice na g.1.length nc)).setCell ⟨B + 1, 1, none⟩ (.slice ra g.2.length rc) := ⟨_, rfl⟩
  have hc : Ch (fun k => k = B + 1) w7 W8 := by
    rw [hW8]
    exact (Ch.set (fun k => k = B + 1) _ ⟨B + 1, 0, none⟩ _ rfl).trans (Ch.set (fun k => k = B + 1) _ ⟨B + 1, 1, none⟩ _ rfl) (fun _ _ h => h)
  have hbW : Blk W8 (B + 1) #[.slice na g.1.length nc, .slice ra g.2.length rc] 25 := by rw [hW8]; exact (hR7.set 0 _).set 1 _
  have hG9 := hG8.ch hc fun k hk => ⟨by have := HBw.out; have := HES.out; omega, .inr ⟨_, hk ▸ hR7⟩⟩
  have r0 : W8.cell? ⟨B + 1, 0, none⟩ = some (.slice na g.1.length nc) := hbW.cell (i := 0) rfl
  have r1 : W8.cell? ⟨B + 1, 1, none⟩ = some (.slice ra g.2.length rc) := hbW.cell (i := 1) rfl
  have hx7 : Ext w w7 := by
    rw [hw7]
    have hbw := HBw.out
    exact (((((HX6.out.setCell (p := ⟨gb, n * 4, none⟩) (by show w.heap.size ≤ gb; omega) _).setCell (p := ⟨gb, n * 4 + 1, none⟩) (by show w.heap.size ≤ gb; omega) _).setCell (p := ⟨gb, n * 4 + 2, none⟩) (by show w.heap.size ≤ gb; omega) _).setCell (p := ⟨gb, n * 4 + 3, none⟩) (by show w.heap.size ≤ gb; omega) _)).drew
  have HF : Hid (GrO wE base (.slice na g.1.length nc) (.slice ra g.2.length rc) (setG g n i v) W8 ∧ Ext w W8) := ⟨hG9, hc.ext hx7 (fun k hk => by have := HBw.out; omega)⟩
  have t0 : w7.cell? ⟨ob, 0, none⟩ = some (.slice na g.1.length nc) := hb7.cell (i := 0) rfl
  have t1 : w7.cell? ⟨ob, 1, none⟩ = some (.slice ra g.2.length rc) := hb7.cell (i := 1) rfl
  have x0 : w7.cell? ⟨B + 1, 0, none⟩ = some (.slice none 0 0) := hR7.cell (i := 0) rfl
  have x1 : w7.cell? ⟨B + 1, 1, none⟩ = some (.slice none 0 0) := hR7.cell (i := 1) rfl
  have z0 := hR7.free 0
  have z1 := hR7.free 1
  clear hgl hG8 four hb7 hR7 hc hbW hG9 hx7 hw7 hS0 hy0 hy1 hy2 hy3 hf0 hf1 hf2 hf3
  go_wp2_with fail
  rw [← hW8]
  clear hW8
  exact bodyPost_ret (v := .agg #[.slice na g.1.length nc, .slice ra g.2.length rc]) (by simp [results, Try.results41, go_sem, r0, r1]) rfl ⟨_, _, rfl, HF.out⟩
end Go.Proofs.Ytjhmlbhfnogdiaa.Pv
