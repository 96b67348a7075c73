/- References of chapter 10: Add, First, Once. -/
import Derived.Test.YtgfehdjahjpfhaaGw
import Derived.Test.YtgfehdjahjpfhaaFt
import Derived.Test.YtgfehdjahjpfhaaOk
import Derived.Deep.RegionHeld3
namespace Go.Proofs.Ytgfehdjahjpfhaa.Rh
open Go.RowKit
open Go.Proofs.Ytgfehdjahjpfhaa Go.Proofs.Ytgfehdjahjpfhaa.En Go.Proofs.Ytgfehdjahjpfhaa.Ok Go.Proofs.Ytgfehdjahjpfhaa.Gw
set_option linter.unusedVariables false

theorem add_any (v : Value) (es : List E) (x : E) (most : Int) (w : World) (h : Es w v es) :
    Calls Try.prog 17 #[v, .agg #[.int .u64 x.1, .int .i64 x.2], .int .i64 most] w fun e w' => ∃ u, e = .returned (.tuple #[u, .int .i64 (Ad.addE es most)]) ∧ Es w' u (Ad.addL es most x) ∧ Ext w w' := by
  have hlen := h.len
  have hsm := h.small
  cases hc : Ad.full es most with
  | true =>
    have e1 : Ad.addE es most = 4 := by unfold Ad.addE; rw [if_pos hc]
    have e2 : Ad.addL es most x = es := by unfold Ad.addL; rw [if_pos hc]
    rw [e1, e2]; clear e1 e2
    have hc' : most ≤ (es.length : Int) ∨ (¬ most ≤ (es.length : Int) ∧ 64 ≤ (es.length : Int)) := by
      unfold Ad.full at hc
      simp only [Bool.or_eq_true, decide_eq_true_eq] at hc
      omega
    clear hc
    have H := Lib.hid h; clear h
    rcases hc' with hm | ⟨hm, hl⟩
    · have d1 : decide (most ≤ (es.length : Int)) = true := decide_eq_true hm
      go_enter Try.func17, Try.ntmps17
      go_wp2_with fail
      go_ret2
      exact ⟨v, rfl, H.out.ext ((Ext.refl w).alloc _), (Ext.refl w).alloc _⟩
    · have d1 : decide (most ≤ (es.length : Int)) = false := decide_eq_false hm
      have d2 : decide (64 ≤ (es.length : Int)) = true := decide_eq_true hl
      go_enter Try.func17, Try.ntmps17
      go_wp2_with fail
      go_ret2
      exact ⟨v, rfl, H.out.ext ((Ext.refl w).alloc _), (Ext.refl w).alloc _⟩
  | false =>
    have e1 : Ad.addE es most = 0 := by unfold Ad.addE; rw [hc]; rfl
    have e2 : Ad.addL es most x = es ++ [x] := by unfold Ad.addL; rw [hc]; rfl
    rw [e1, e2]; clear e1 e2
    have hc2 : ¬ most ≤ (es.length : Int) ∧ ¬ 64 ≤ (es.length : Int) := by
      unfold Ad.full at hc
      simp only [Bool.or_eq_false_iff, decide_eq_false_iff_not] at hc
      omega
    have d1 : decide (most ≤ (es.length : Int)) = false := decide_eq_false hc2.1
    have d2 : decide (64 ≤ (es.length : Int)) = false := decide_eq_false hc2.2
    have h64 : es.length < 64 := by omega
    obtain ⟨wA, hwA⟩ : ∃ wA, wA = w.alloc (.cells #[.int .u64 x.1, .int .i64 x.2] 28) := ⟨_, rfl⟩
    have hxA : Ext w wA := hwA ▸ (Ext.refl w).alloc _
    have hbA : Blk wA w.heap.size #[.int .u64 x.1, .int .i64 x.2] 28 := hwA ▸ Blk.new w _ _
    obtain ⟨⟨v1, w1, v2, w2, a1, x1, a2, x2, z1⟩, ⟨v3, w3, v4, w4, a3, x3, a4, x4, z2⟩, ⟨v5, w5, v6, w6, a5, x5, a6, x6, z3⟩⟩ := drawn_ (h.ext hxA) x (by omega)
    have e0 : wA.cell? ⟨w.heap.size, 0, none⟩ = some (.int .u64 x.1) := hbA.cell (i := 0) rfl
    have e1 : wA.cell? ⟨w.heap.size, 1, none⟩ = some (.int .i64 x.2) := hbA.cell (i := 1) rfl
    have HC : Hid (∀ W, Ext wA W → W.cell? ⟨w.heap.size, 0, none⟩ = some (.int .u64 x.1) ∧ W.cell? ⟨w.heap.size, 1, none⟩ = some (.int .i64 x.2) ∧ Ext wA W) := fun W h => ⟨h.cell e0, h.cell e1, h⟩
    have HZ1 := Lib.hid (And.intro z1 (hxA.trans x2))
    have HZ2 := Lib.hid (And.intro z2 (hxA.trans x4))
    have HZ3 := Lib.hid (And.intro z3 (hxA.trans x6))
    clear e0 e1 hc hc2 hbA z1 z2 z3 h
    go_enter Try.func17, Try.ntmps17
    go_wp2_with fail
    rw [← hwA]
    clear hwA
    go_region_held3 (fun W : World => W.cell? ⟨w.heap.size, 0, none⟩ = some (.int .u64 x.1) ∧ W.cell? ⟨w.heap.size, 1, none⟩ = some (.int .i64 x.2) ∧ Ext wA W)
      (exact HC.out _ (by repeat (first | exact Ext.refl _ | assumption | refine Ext.alloc ?_ _ | refine Ext.drewN ?_ _ | refine Ext.drew ?_ | refine Ext.trans ?_ (by assumption))))
      (first
        | ((with_reducible refine Ad.step_append_run ?_ (.tmp 18) (.tmp 19) 22 ?_ _ _ ?_ ?_ _ _ a1 ?_); rfl; rfl; rfl; rfl)
        | ((with_reducible refine Ad.step_append_run ?_ (.tmp 18) (.tmp 19) 22 ?_ _ _ ?_ ?_ _ _ a3 ?_); rfl; rfl; rfl; rfl)
        | ((with_reducible refine Ad.step_append_run ?_ (.tmp 18) (.tmp 19) 22 ?_ _ _ ?_ ?_ _ _ a5 ?_); rfl; rfl; rfl; rfl)
        | ((with_reducible refine Ad.step_append_run ?_ (.tmp 20) (.tmp 22) 22 ?_ _ _ ?_ ?_ _ _ a2 ?_); rfl; rfl; rfl; rfl)
        | ((with_reducible refine Ad.step_append_run ?_ (.tmp 20) (.tmp 22) 22 ?_ _ _ ?_ ?_ _ _ a4 ?_); rfl; rfl; rfl; rfl)
        | ((with_reducible refine Ad.step_append_run ?_ (.tmp 20) (.tmp 22) 22 ?_ _ _ ?_ ?_ _ _ a6 ?_); rfl; rfl; rfl; rfl))
    all_goals
      go_wp2_with fail
      go_ret2
      first | exact ⟨_, rfl, HZ1.out⟩ | exact ⟨_, rfl, HZ2.out⟩ | exact ⟨_, rfl, HZ3.out⟩

theorem first_nil (v : Value) (w : World) (h : Es w v []) :
    Calls Try.prog 18 #[v] w fun r w' => r = .returned (.tuple #[.agg #[.int .u64 0, .int .i64 0], v, .bool false]) ∧ Ext w w' := by
  have hlen := h.len
  replace hlen : ∀ ty w', (Builtin.len_ #[22] ty #[v]).run Try.prog w' = .ok (.int .i64 0) w' := hlen
  obtain ⟨wA, hwA⟩ : ∃ wA, wA = w.alloc (.cells #[.int .u64 0, .int .i64 0] 28) := ⟨_, rfl⟩
  have hx : Ext w wA := hwA ▸ (Ext.refl w).alloc _
  have hb : Blk wA w.heap.size #[.int .u64 0, .int .i64 0] 28 := hwA ▸ Blk.new w _ _
  have d0 := hb.cell (i := 0) rfl
  have d1 := hb.cell (i := 1) rfl
  have f0 := hb.free 0
  have f1 := hb.free 1
  have HE := Lib.hid hx
  clear hx hb h
  go_enter Try.func18, Try.ntmps18
  go_wp2_with fail
  rw [← hwA]
  clear hwA
  refine bodyPost_ret (v := .tuple #[.agg #[.int .u64 0, .int .i64 0], v, .bool false]) (by simp [results, Try.results18, go_sem, d0, d1]) rfl ⟨rfl, HE.out⟩

/-- 'v[1:]'. -/
theorem rest {w : World} {v : Value} {e : E} {es : List E} (h : Es w v (e :: es)) :
    ∃ u, (∀ w', (Instr.sliceAt 22 v (some (.int .i64 1)) none none).run Try.prog w' = .ok u w') ∧ Es w u es := by
  obtain ⟨hl, hb, hn, ⟨_, h0⟩ | ⟨a, cap, rfl, hnc, hcm, hcell⟩⟩ := h
  · simp at h0
  · have hsz := sz
    simp only [List.length_cons] at hnc hb hn
    refine ⟨.slice (if cap = 1 then some a else some (a.add 2)) es.length (cap - 1), fun w' => ?_, ⟨cs_len es, by omega, by omega, ?_⟩⟩
    · have k1 : ¬ ((es.length : Int) + 1 < 1) := by omega
      simp [Instr.sliceAt, Instr.slice, Instr.sliceBounds, Instr.sliceBound, run_underlying uT, asIntOf, hsz, k1]
    · by_cases hc : cap = 1
      · subst hc
        obtain rfl : es = [] := List.eq_nil_of_length_eq_zero (by omega)
        exact .inr ⟨a, 0, by simp, Nat.le_refl _, by unfold maxLen; omega, fun j c hj => by simp [cs] at hj⟩
      · rw [if_neg hc]
        refine .inr ⟨_, _, rfl, by omega, by omega, fun j c hj => ?_⟩
        rw [add_add, Nat.add_comm]
        exact hcell (j + 2) c (by
          have e3 : cs (e :: es) = .int .u64 e.1 :: .int .i64 e.2 :: cs es := rfl
          rw [e3]; simpa using hj)

theorem first_any (v : Value) (e : E) (es : List E) (w : World) (h : Es w v (e :: es)) :
    Calls Try.prog 18 #[v] w fun r w' => ∃ u, r = .returned (.tuple #[.agg #[.int .u64 e.1, .int .i64 e.2], u, .bool true]) ∧ Es w' u es ∧ Ext w w' := by
  have hlen := h.len
  have hsm := h.small
  obtain ⟨u, hs, hu⟩ := rest h
  obtain ⟨n, hn⟩ : ∃ n, es.length = n := ⟨_, rfl⟩
  have hl2 : (e :: es).length = n + 1 := by simp [hn]
  rw [hl2] at hlen hsm
  obtain ⟨q, hq⟩ : ∃ q : Int, (n : Int) + 1 = q := ⟨_, rfl⟩
  replace hlen : ∀ ty w', (Builtin.len_ #[22] ty #[v]).run Try.prog w' = .ok (.int .i64 q) w' := fun ty w' => by rw [hlen ty w', ← hq]; rfl
  have hq0 : (q == 0) = false := by rw [beq_eq_false_iff_ne]; omega
  obtain ⟨b, o, s, hix, c0, c1⟩ := h.at_ 0 (by simp)
  replace hix : ∀ w', (Instr.indexAt 22 v (.int .i64 0)).run Try.prog w' = .ok (.pointer (some ⟨b, o, s⟩)) w' := hix
  replace c0 : w.cell? ⟨b, o, s⟩ = some (.int .u64 e.1) := c0
  replace c1 : w.cell? ⟨b, o + 1, none⟩ = some (.int .i64 e.2) := c1
  obtain ⟨wA, hwA⟩ : ∃ wA, wA = w.alloc (.cells #[.int .u64 0, .int .i64 0] 28) := ⟨_, rfl⟩
  have hx : Ext w wA := hwA ▸ (Ext.refl w).alloc _
  have hb : Blk wA w.heap.size #[.int .u64 0, .int .i64 0] 28 := hwA ▸ Blk.new w _ _
  have hEn : Ext wA ((wA.alloc none_).drew) := ((Ext.refl wA).alloc _).drew
  have hon : ((wA.alloc none_).drew).ownsRow wA.heap.size 28 2 (.slice (some ⟨wA.heap.size, 0, none⟩) 0 0) 0 [] := own_ext (own_empty wA 28 2) ((Ext.refl _).drew)
  have hub := hu.2.1
  obtain ⟨v1, w1, a1, ho1, _, hx1⟩ := app_own (xs := []) hEn rfl hon (hu.ext (hx.trans hEn)) (by simpa using hub)
  rw [List.nil_append] at ho1
  have hb1 := hb.ext hx1
  have d0 := hb1.cell (i := 0) rfl
  have d1 := hb1.cell (i := 1) rfl
  have f0 := hb1.free 0
  have f1 := hb1.free 1
  have hb2 : Blk ((w1.setCell ⟨w.heap.size, 0, none⟩ (.int .u64 e.1)).setCell ⟨w.heap.size, 1, none⟩ (.int .i64 e.2)) w.heap.size #[.int .u64 e.1, .int .i64 e.2] 28 := (hb1.set 0 _).set 1 _
  have g0 := hb2.cell (i := 0) rfl
  have g1 := hb2.cell (i := 1) rfl
  have hsz : w.heap.size < wA.heap.size := by rw [hwA]; simp
  have HF : Hid (Es ((w1.setCell ⟨w.heap.size, 0, none⟩ (.int .u64 e.1)).setCell ⟨w.heap.size, 1, none⟩ (.int .i64 e.2)) v1 es ∧ Ext w ((w1.setCell ⟨w.heap.size, 0, none⟩ (.int .u64 e.1)).setCell ⟨w.heap.size, 1, none⟩ (.int .i64 e.2))) := by
    refine ⟨?_, ((hx.trans hx1).setCell (p := ⟨w.heap.size, 0, none⟩) (Nat.le_refl _) _).setCell (p := ⟨w.heap.size, 1, none⟩) (Nat.le_refl _) _⟩
    have hne : v1.ownBlock = none ∨ v1.ownBlock ≠ some w.heap.size := by
      cases hv : v1.ownBlock with
      | none => exact .inl rfl
      | some g => right; have := (ho1.lt g hv).1; simp; omega
    have g2 : w1.grownBy ((w1.setCell ⟨w.heap.size, 0, none⟩ (.int .u64 e.1)).setCell ⟨w.heap.size, 1, none⟩ (.int .i64 e.2)) (some w.heap.size) := ⟨rfl, rfl, rfl, by simp [World.setCell], fun j hj hne => by
      have hne' : j ≠ w.heap.size := fun e => hne (by rw [e])
      exact (Below.heap_setCell _ _ _ _ hne').trans (Below.heap_setCell _ _ _ _ hne')⟩
    exact es_of (ho1.kept g2 hne) hub
  have HC : Hid (∀ W, Ext w W → W.cell? ⟨b, o, s⟩ = some (.int .u64 e.1) ∧ W.cell? ⟨b, o + 1, none⟩ = some (.int .i64 e.2) ∧ Ext w W) := fun W h => ⟨h.cell c0, h.cell c1, h⟩
  have hxw1 := hx.trans hx1
  clear hu h hl2 hn hq hb hb1 hb2 ho1 hon hEn c0 c1 hub hx1
  go_enter Try.func18, Try.ntmps18
  go_wp2_with fail
  rw [← hwA]
  clear hwA
  go_region_held3 (fun W : World => W.cell? ⟨b, o, s⟩ = some (.int .u64 e.1) ∧ W.cell? ⟨b, o + 1, none⟩ = some (.int .i64 e.2) ∧ Ext w W)
    (exact HC.out _ (by repeat (first | assumption | refine Ext.alloc ?_ _ | refine Ext.drew ?_ | refine Ext.setCell ?_ (Nat.le_refl _) _)))
    (first
      | ((with_reducible refine Ad.step_append_run ?_ (.tmp 13) (.tmp 15) 22 ?_ _ _ ?_ ?_ _ _ a1 ?_); rfl; rfl; rfl; rfl))
  all_goals
    go_wp2_with fail
    refine bodyPost_ret (v := .tuple #[.agg #[.int .u64 e.1, .int .i64 e.2], v1, .bool true]) (by simp [results, Try.results18, go_sem, g0, g1]) rfl ⟨_, rfl, HF.out⟩
end Go.Proofs.Ytgfehdjahjpfhaa.Rh
