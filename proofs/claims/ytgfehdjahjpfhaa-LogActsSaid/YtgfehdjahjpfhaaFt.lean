/- First of package log. -/
import Derived.Test.YtgfehdjahjpfhaaAd
namespace Go.Proofs.Ytgfehdjahjpfhaa.Ft
open Go.RowKit
open Go.Proofs.Ytgfehdjahjpfhaa Go.Proofs.Ytgfehdjahjpfhaa.En
set_option linter.unusedVariables false

/-- 'v[1:n:n]', n the length. -/
theorem rest {w : World} {v : Value} {e : E} {es : List E} (h : Es w v (e :: es)) :
    ∃ u, (∀ w', (Instr.sliceAt 22 v (some (.int .i64 1)) (some (.int .i64 ((es.length : Int) + 1))) (some (.int .i64 ((es.length : Int) + 1)))).run Try.prog w' = .ok u w') ∧ Es w u es := by
  obtain ⟨hl, hb, hn, ⟨_, h0⟩ | ⟨a, cap, rfl, hnc, hcm, hcell⟩⟩ := h
  · simp at h0
  · have hsz := sz
    simp only [List.length_cons] at hnc hb hn
    have h1 : ((es.length : Int) + 1) = ((es.length + 1 : Nat) : Int) := by omega
    refine ⟨.slice (if es = [] then some a else some (a.add 2)) es.length es.length, fun w' => ?_, ⟨cs_len es, by omega, by omega, ?_⟩⟩
    · rw [h1]
      simp [Instr.sliceAt, Instr.slice, Instr.sliceBounds, Instr.sliceBound, run_underlying uT, asIntOf, hsz]
      rw [if_pos ⟨by omega, by omega⟩, if_pos (by omega), if_pos (by omega)]
    · by_cases he : es = []
      · subst he
        exact .inr ⟨a, 0, by simp, Nat.le_refl _, by unfold maxLen; omega, fun j c hj => by simp [cs] at hj⟩
      · rw [if_neg he]
        refine .inr ⟨_, _, rfl, Nat.le_refl _, by omega, fun j c hj => ?_⟩
        rw [add_add, Nat.add_comm]
        exact hcell (j + 2) c (by
          have e3 : cs (e :: es) = .int .u64 e.1 :: .int .i64 e.2 :: cs es := rfl
          rw [e3]; simpa using hj)

theorem first_any (v : Value) (e : E) (es : List E) (w : World) (h : Es w v (e :: es)) :
    Calls Try.prog 15 #[v] w fun r w' => ∃ u, r = .returned (.tuple #[.agg #[.int .u64 e.1, .int .i64 e.2], u, .bool true]) ∧ Es w' u es ∧ Ext w w' := by
  have hlen := h.len
  have hsm := h.small
  obtain ⟨u, hs, hu⟩ := rest h
  obtain ⟨n, hn⟩ : ∃ n, es.length = n := ⟨_, rfl⟩
  have hl2 : (e :: es).length = n + 1 := by simp [hn]
  rw [hl2] at hlen hsm
  rw [hn] at hs
  obtain ⟨q, hq⟩ : ∃ q : Int, (n : Int) + 1 = q := ⟨_, rfl⟩
  rw [hq] at hs
  replace hlen : ∀ ty w', (Builtin.len_ #[22] ty #[v]).run Try.prog w' = .ok (.int .i64 q) w' := fun ty w' => by rw [hlen ty w', ← hq]; rfl
  have hq0 : (q == 0) = false := by rw [beq_eq_false_iff_ne]; omega
  obtain ⟨b, o, s, hix, c0, c1⟩ := h.at_ 0 (by simp)
  replace hix : ∀ w', (Instr.indexAt 22 v (.int .i64 0)).run Try.prog w' = .ok (.pointer (some ⟨b, o, s⟩)) w' := hix
  replace c0 : w.cell? ⟨b, o, s⟩ = some (.int .u64 e.1) := c0
  replace c1 : w.cell? ⟨b, o + 1, none⟩ = some (.int .i64 e.2) := c1
  obtain ⟨wA, hwA⟩ : ∃ wA, wA = w.alloc (.cells #[.int .u64 0, .int .i64 0] 28) := ⟨_, rfl⟩
  have hx : Ext w wA := hwA ▸ (Ext.refl w).alloc _
  have hb : Blk wA w.heap.size #[.int .u64 0, .int .i64 0] 28 := hwA ▸ Blk.new w _ _
  replace c0 := hx.cell c0
  replace c1 := hx.cell c1
  have d0 := hb.cell (i := 0) rfl
  have d1 := hb.cell (i := 1) rfl
  have f0 := hb.free 0
  have f1 := hb.free 1
  have hb2 : Blk ((wA.setCell ⟨w.heap.size, 0, none⟩ (.int .u64 e.1)).setCell ⟨w.heap.size, 1, none⟩ (.int .i64 e.2)) w.heap.size #[.int .u64 e.1, .int .i64 e.2] 28 := (hb.set 0 _).set 1 _
  have g0 := hb2.cell (i := 0) rfl
  have g1 := hb2.cell (i := 1) rfl
  have HE : Hid (Ext w (((wA.setCell ⟨w.heap.size, 0, none⟩ (.int .u64 e.1)).setCell ⟨w.heap.size, 1, none⟩ (.int .i64 e.2)))) := (hx.setCell (p := ⟨w.heap.size, 0, none⟩) (Nat.le_refl _) _).setCell (p := ⟨w.heap.size, 1, none⟩) (Nat.le_refl _) _
  have HU := Lib.hid hu
  clear hu h hl2 hn hq hb hb2 hx
  go_enter Try.func15, Try.ntmps15
  go_wp2_with fail
  rw [← hwA]
  clear hwA
  go_region
  go_wp2_with fail
  refine bodyPost_ret (v := .tuple #[.agg #[.int .u64 e.1, .int .i64 e.2], u, .bool true]) (by simp [results, Try.results15, go_sem, g0, g1]) rfl ⟨u, rfl, HU.out.ext ?_, ?_⟩
  · exact Ext.drew HE.out
  · exact Ext.drew HE.out
end Go.Proofs.Ytgfehdjahjpfhaa.Ft
