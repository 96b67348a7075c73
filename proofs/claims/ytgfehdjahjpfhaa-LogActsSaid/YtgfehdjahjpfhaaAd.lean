/- Add of package log. -/
import Derived.Test.YtgfehdjahjpfhaaEn
import Derived.Test.YtgfehdjahjpfhaaBk
import Derived.Deep.RegionLaw
namespace Go.Proofs.Ytgfehdjahjpfhaa.Ad
open Go.RowKit
open Go.Proofs.Ytgfehdjahjpfhaa Go.Proofs.Ytgfehdjahjpfhaa.En
set_option linter.unusedVariables false

def full (es : List E) (most : Int) : Bool := decide (most ≤ es.length) || decide (64 ≤ es.length)
def addE (es : List E) (most : Int) : Int := if full es most = true then 4 else 0
def addL (es : List E) (most : Int) (e : E) : List E := if full es most = true then es else es ++ [e]

/-- At a step of a region that draws its order: an append whose run is known. -/
theorem step_append_run {P : Program} {w : World} {ops : Array Oper} {o : Oper} {a : Act} {K : Act → World → Prop} {Q : Exit → Act → World → Prop} {X : Prop} (hgd : o.guard = none) (s x : Operand) (t : TypeId)
    (ho : o.op = .call { callee := .builtin .append, args := #[s, x], argTypes := #[t, t] }) (vs vx : Value) (hs : a.eval s = vs) (hx : a.eval x = vx) (v' : Value) (w' : World) (hr : (Builtin.append_ #[t, t] o.type #[vs, vx]).run P w = .ok v' w') (h : K (a.put o.dst v') w') :
    if Region.wanted o (yielded ops a.tmps) = true then Oper.wp P o a w K Q else X := by
  rw [if_pos (by simp [Region.wanted, hgd])]
  exact Lib.wp_append_run w s x t t ho vs vx hs hx v' w' hr h

theorem one (w : World) (x : E) : Es (w.alloc (.cells #[.int .u64 x.1, .int .i64 x.2] 28)) (.slice (some ⟨w.heap.size, 0, none⟩) 1 1) [x] := by
  have h := Blk.new w #[.int .u64 x.1, .int .i64 x.2] 28
  refine ⟨rfl, by simp, by simp, .inr ⟨_, 1, rfl, Nat.le_refl _, by unfold maxLen; omega, fun j c hj => ?_⟩⟩
  have hadd : (⟨w.heap.size, 0, none⟩ : Addr).add j = ⟨w.heap.size, j, none⟩ := by unfold Addr.add; split <;> simp_all
  rw [hadd]
  refine h.cell ?_
  simpa [cs, ec] using hj

theorem add_any (v : Value) (es : List E) (x : E) (most : Int) (w : World) (h : Es w v es) :
    Calls Try.prog 13 #[v, .agg #[.int .u64 x.1, .int .i64 x.2], .int .i64 most] w fun e w' => ∃ u, e = .returned (.tuple #[u, .int .i64 (addE es most)]) ∧ Es w' u (addL es most x) ∧ Ext w w' := by
  have hlen := h.len
  have hsm := h.small
  cases hc : full es most with
  | true =>
    have e1 : addE es most = 4 := by unfold addE; rw [if_pos hc]
    have e2 : addL es most x = es := by unfold addL; rw [if_pos hc]
    rw [e1, e2]; clear e1 e2
    have hc' : (64 < most ∧ 64 ≤ (es.length : Int)) ∨ (¬ 64 < most ∧ most ≤ (es.length : Int)) := by
      unfold full at hc
      simp only [Bool.or_eq_true, decide_eq_true_eq] at hc
      omega
    clear hc
    have H := Lib.hid h; clear h
    rcases hc' with ⟨hm, hl⟩ | ⟨hm, hl⟩
    all_goals
      go_enter Try.func13, Try.ntmps13
      go_wp2_with fail
      go_ret2
      exact ⟨v, rfl, H.out.ext ((Ext.refl w).alloc _), (Ext.refl w).alloc _⟩
  | false =>
    have e1 : addE es most = 0 := by unfold addE; rw [hc]; rfl
    have e2 : addL es most x = es ++ [x] := by unfold addL; rw [hc]; rfl
    rw [e1, e2]; clear e1 e2
    have hc2 : (es.length : Int) < most ∧ es.length < 64 := by
      unfold full at hc
      simp only [Bool.or_eq_false_iff, decide_eq_false_iff_not] at hc
      omega
    have hc' : (64 < most ∧ (es.length : Int) < 64) ∨ (¬ 64 < most ∧ (es.length : Int) < most) := by omega
    have h64 : es.length < 64 := hc2.2
    clear hc hc2
    obtain ⟨u1, hsl, hr1, hf1⟩ := Row.slice3 uT sz h (k := es.length) (Nat.le_refl _)
    obtain ⟨a1, c1, rfl⟩ := hr1.form
    obtain ⟨wA, hwA⟩ : ∃ wA, wA = w.alloc (.cells #[.int .u64 x.1, .int .i64 x.2] 28) := ⟨_, rfl⟩
    have hxA : Ext w wA := hwA ▸ (Ext.refl w).alloc _
    have hx : Ext w ((wA.alloc (.cells #[.int .u64 x.1, .int .i64 x.2] 28)).drew) := (hxA.alloc _).drew
    obtain ⟨i0, hi, hz0, hz1, hz2⟩ := info_e
    obtain ⟨v', w', hrun, hrow, hext, _⟩ := append_full (ty := 22) uT hi hz0 hz1 hz2 rfl (by decide) (hr1.ext hx) hf1 (Es.ext (one wA x) ((Ext.refl _).drew)) (cs_one _) (by simp; omega) (by decide)
    have HF : Hid (Es w' v' (es ++ [x]) ∧ Ext w w') := ⟨Es.of_row hrow (by rw [List.take_of_length_le (by rw [cs_len]; omega), cs_append]), hx.trans hext⟩
    have hb := Blk.new w #[.int .u64 x.1, .int .i64 x.2] 28
    rw [← hwA] at hb
    have c0 := hb.cell (i := 0) rfl
    have c1' := hb.cell (i := 1) rfl
    clear hrow hext hr1 hf1 h hx hxA hi hz0 hz1 hz2 hb
    rcases hc' with ⟨hm, hl⟩ | ⟨hm, hl⟩
    all_goals
      go_enter Try.func13, Try.ntmps13
      go_wp2_with fail
      rw [← hwA]
      clear hwA
      go_region_law (refine step_append_run rfl (.tmp 19) (.tmp 21) 22 rfl _ _ rfl rfl v' w' hrun ?_)
      go_wp2_with fail
      go_ret2
      exact ⟨v', rfl, HF.out⟩

/-- An argument that is an entry. -/
theorem entry_of {w : World} {v : Value} (h : Rd.V Try.prog w 28 v) : ∃ x : E, v = .agg #[.int .u64 x.1, .int .i64 x.2] := by
  obtain ⟨l, rfl, hs⟩ := h.struct Try.underlying28
  obtain ⟨hl, _⟩ := hs.struct Try.underlying28
  rw [show Try.prog.cellsOf 28 = 2 by kernel_rfl] at hl
  match l, hl with
  | [c0, c1], _ =>
    obtain ⟨x, hx, _⟩ := (Rd.R.field Try.underlying28 hs 0 rfl 0 1 26 rfl rfl (by kernel_rfl)).int Try.underlying26
    obtain rfl : c0 = .int .u64 x := by simpa using hx
    obtain ⟨y, hy, _⟩ := (Rd.R.field Try.underlying28 hs 1 rfl 1 1 3 rfl rfl (by kernel_rfl)).int Try.underlying3
    obtain rfl : c1 = .int .i64 y := by simpa using hy
    exact ⟨(x, y), rfl⟩
end Go.Proofs.Ytgfehdjahjpfhaa.Ad
