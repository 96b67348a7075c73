/- slices.Backward over a row of entries: what its closure does for every loop body that keeps what was there. -/
import Derived.RangeFuncBox
import Derived.RangeFuncNested
import Derived.RangeFuncWrites
import Derived.RangeFuncBound
import Derived.RangeFuncCalls
import Derived.RangeFuncLeaves
import Derived.Shelf.Abstract
import Derived.Shelf.RegionOpen
import Derived.OwnWalkIn
import Derived.TacticsInMore
import Derived.LoopNIn
import Derived.LoopIn
import Derived.Maps.OwnIn
import Derived.Test.YtgfehdjahjpfhaaOk
import Derived.Test.YtgfehdjahjpfhaaRv
namespace Go.Proofs.Ytgfehdjahjpfhaa.Bw
open Go.RowKit Go.Shelf
open Go.Proofs.Ytgfehdjahjpfhaa Go.Proofs.Ytgfehdjahjpfhaa.En Go.Proofs.Ytgfehdjahjpfhaa.Ok
set_option linter.unusedVariables false
attribute [local go_sem] Oper.semAt_some

theorem Ext.grownBy {w w' : World} (h : Ext w w') : w.grownBy w' none := ⟨h.os, h.tape, h.output, Below.size h, fun k hk _ => Below.block h k hk⟩

abbrev EU := { e : E // wfE e }
def EU0 : EU := ⟨(0, 0), by decide, by decide⟩
def vals (xs : List EU) : List E := xs.map (·.1)
theorem vals_length (xs : List EU) : (vals xs).length = xs.length := by simp [vals]
theorem vals_wf (xs : List EU) : ∀ e ∈ vals xs, wfE e := fun e h => by
  obtain ⟨x, _, rfl⟩ := List.mem_map.1 h
  exact x.2
theorem vals_getD (xs : List EU) {i : Nat} (h : i < xs.length) : (vals xs).getD i (0, 0) = (xs.getD i EU0).1 := by
  simp [vals, List.getD_eq_getElem?_getD, h]
theorem drop_rev (xs : List EU) {k : Nat} (h : k < xs.length) : (xs.drop k).reverse = (xs.drop (k + 1)).reverse ++ [xs.getD k EU0] := by
  rw [List.drop_eq_getElem_cons h, List.reverse_cons]
  simp [List.getD_eq_getElem?_getD, h]

/-- What is asked of what the iterator keeps. -/
def Kp (n₀ B : Nat) (v : Value) (W W' : World) : Prop := Below n₀ W W' ∧ (Boxed W B 22 v → Boxed W' B 22 v)

set_option maxRecDepth 100000 in
set_option maxHeartbeats 4000000 in
theorem bw1 (n : Nat) (hn : 1 ≤ n) (ly Bs : Nat) (w0 : World) (v : Value) (ues : List EU) (hS : Es w0 v (vals ues)) (J Jx : List (Nat × EU) → World → Prop)
    (hY : ∀ pre x W, J pre W → pre.length < ues.length → YieldAt Fence.wide (n - 1) Try.prog ly #[.int .i64 (x.1 : Nat), .agg #[.int .u64 x.2.1.1, .int .i64 x.2.1.2]] W fun e W' =>
      (e = .returned (.bool true) ∧ J (pre ++ [x]) W' ∧ Kp w0.heap.size Bs v W W') ∨ (e = .returned (.bool false) ∧ Jx (pre ++ [x]) W'))
    (W : World) (hX : Ext w0 W) (hB : Boxed W Bs 22 v) (h0 : J [] W) :
    CallsIn Fence.wide n Try.prog 25 #[.func (.yield ly) #[] #[], .pointer (some ⟨Bs, 0, none⟩)] W fun e W' => (∃ v, e = .returned v) ∧
      ((∃ ys : List (Nat × EU), ys.map (·.2) = ues.reverse ∧ J ys W') ∨ (∃ pre, True ∧ Jx pre W')) := by
  have hlen := hS.len
  have hsm := hS.small
  rw [vals_length] at hlen hsm
  have hc := hB.cell
  have HS := Lib.hid hS
  have HX := Lib.hid hX
  have HY := Lib.hid hY
  have HB := Lib.hid hB
  clear hS hX hY hB
  refine callsIn_of_wp Try.func25 rfl trivial ?_ rfl
  simp only [Try.ntmps25, List.size_toArray, List.length_cons, List.length_nil, Nat.reduceAdd, Nat.reduceSub, Array.replicate_succ, Array.replicate_zero, List.push_toArray, List.append_toArray, List.nil_append, List.cons_append]
  gi_wp2
  clear hc
  gi_loopw [3] (fun i wr => ∃ (k : Nat) (pre : List (Nat × EU)), i = .int .i64 ((k : Int) - 1) ∧ k ≤ ues.length ∧ pre.map (·.2) = (ues.drop k).reverse ∧ J pre wr ∧ Ext w0 wr ∧ Boxed wr Bs 22 v) (fun i _ => (intOf i + 1).toNat)
  case atStart => exact ⟨ues.length, [], rfl, Nat.le_refl _, by simp, h0, HX.out, HB.out⟩
  case round =>
    obtain ⟨k, pre, rfl, hk, hpre, hJ, hXr, hBr⟩ := hrel
    have hc := hBr.cell
    have HPRE := Lib.hid hpre
    have HJ := Lib.hid hJ
    have HXR := Lib.hid hXr
    have HBR := Lib.hid hBr
    clear hpre hJ hXr hBr
    cases k with
    | zero =>
      gi_wp2
      go_end0
      exact ⟨⟨_, rfl⟩, .inl ⟨pre, by rw [HPRE.out]; simp, HJ.out⟩⟩
    | succ k =>
      have hks : (k : Int) ≤ 140737488355328 := by omega
      have e0 : (((k + 1 : Nat) : Int) - 1) = (k : Int) := by omega
      rw [e0]
      obtain ⟨b, o, s, hx, hc0, hc1⟩ := (HS.out.ext HXR.out).at_ k (by rw [vals_length]; exact hk)
      rw [vals_getD ues hk] at hc0 hc1
      have hpl : pre.length < ues.length := by
        have := congrArg List.length HPRE.out
        simp at this
        omega
      obtain ⟨fn, tmps, assign, body, hy, hR⟩ := HY.out pre (k, ues.getD k EU0) wr HJ.out hpl
      have HRd := Lib.hid hR
      have HN : Hid ((pre ++ [(k, ues.getD k EU0)]).map (·.2) = (ues.drop k).reverse) := by
        show _ = _
        rw [drop_rev ues hk, List.map_append, HPRE.out]; rfl
      clear hR e0 hpl
      generalize ues.getD k EU0 = x at hc0 hc1 hy HRd HN
      obtain ⟨⟨x1, x2⟩, hx⟩ := x
      dsimp only at hc0 hc1 hy
      gi_wp2
      refine HRd.out.mono ?_
      rintro e W3 (⟨rfl, hJ3, hk3⟩ | ⟨rfl, hJx3⟩)
      · gi_wp2
        go_roundw
        case rel => exact ⟨k, _, by go_num, by omega, HN.out, hJ3, Below.trans HXR.out hk3.1, hk3.2 HBR.out⟩
        case measure => simp [intOf]
      · gi_wp2
        refine bodyPost_ret (results_none rfl _ _ _) rfl ?_
        exact ⟨⟨_, rfl⟩, .inr ⟨_, trivial, hJx3⟩⟩
end Go.Proofs.Ytgfehdjahjpfhaa.Bw
