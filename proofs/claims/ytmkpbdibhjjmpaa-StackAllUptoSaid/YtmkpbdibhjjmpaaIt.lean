/- Rows of rows of words that bear their own proof of being words; the iterator over all of them: what its closure does for every loop body that keeps what lay there. -/
import Derived.RangeFuncBox
import Derived.RangeFuncNested
import Derived.RangeFuncWrites
import Derived.RangeFuncBound
import Derived.RangeFuncCalls
import Derived.RangeFuncLeaves
import Derived.Shelf.Abstract
import Derived.Shelf.RegionOpen
import Derived.OwnWalkIn
import Derived.TacticsInMore
import Derived.LoopNIn
import Derived.LoopIn
import Derived.Maps.OwnIn
import Derived.Test.YtmkpbdibhjjmpaaSt
import Derived.Test.YtmkpbdibhjjmpaaMs
namespace Go.Proofs.Ytmkpbdibhjjmpaa.It
open Go.RowKit Go.Shelf
open Go.Proofs.Ytmkpbdibhjjmpaa
set_option linter.unusedVariables false
attribute [local go_sem] Oper.semAt_some

/-- A word. -/
abbrev U := { x : Int // (Lit.int .u64 x).wf = true }
def U0 : U := ⟨0, by decide⟩
def vals (xs : List U) : List Int := xs.map (·.1)
def mat (rows : List (List U)) : List (List Int) := rows.map vals
theorem vals_length (xs : List U) : (vals xs).length = xs.length := by simp [vals]
theorem mat_length (rows : List (List U)) : (mat rows).length = rows.length := by simp [mat]
theorem mat_getD (rows : List (List U)) {i : Nat} (h : i < rows.length) : (mat rows).getD i [] = vals (rows.getD i []) := by
  simp [mat, List.getD_eq_getElem?_getD, h]
theorem vals_getD (xs : List U) {i : Nat} (h : i < xs.length) : (vals xs).getD i 0 = (xs.getD i U0).1 := by
  simp [vals, List.getD_eq_getElem?_getD, h]
/-- What has come when i rows and k words of the next are over. -/
def upto (rows : List (List U)) (i k : Nat) : List U := (rows.take i).flatten ++ (rows.getD i []).take k
theorem upto_zero (rows : List (List U)) : upto rows 0 0 = [] := by simp [upto]
theorem upto_word (rows : List (List U)) (i : Nat) {k : Nat} (h : k < (rows.getD i []).length) : upto rows i (k + 1) = upto rows i k ++ [(rows.getD i []).getD k U0] := by
  have e : (rows.getD i []).getD k U0 = (rows.getD i [])[k] := by rw [List.getD_eq_getElem?_getD, List.getElem?_eq_getElem h, Option.getD_some]
  unfold upto
  rw [e, List.take_succ_eq_append_getElem h, List.append_assoc]
theorem upto_row (rows : List (List U)) {i : Nat} (h : i < rows.length) : upto rows i (rows.getD i []).length = upto rows (i + 1) 0 := by
  have e : rows.getD i [] = rows[i] := by rw [List.getD_eq_getElem?_getD, List.getElem?_eq_getElem h, Option.getD_some]
  unfold upto
  rw [List.take_succ_eq_append_getElem h, List.take_length, e, List.flatten_append, List.take_zero, List.append_nil]
  simp only [List.flatten_cons, List.flatten_nil, List.append_nil]
theorem upto_end (rows : List (List U)) : upto rows rows.length 0 = rows.flatten := by simp [upto]
theorem upto_prefix (rows : List (List U)) {i k : Nat} (h : i < rows.length) (hk : k ≤ (rows.getD i []).length) : upto rows i k <+: rows.flatten := by
  have e : rows = rows.take i ++ (rows.getD i [] :: rows.drop (i + 1)) := by
    conv => lhs; rw [← List.take_append_drop i rows, List.drop_eq_getElem_cons h]
    simp [List.getD_eq_getElem?_getD, h]
  have e2 : rows.flatten = (rows.take i).flatten ++ (rows.getD i [] ++ (rows.drop (i + 1)).flatten) := by
    conv => lhs; rw [e]
    simp
  rw [e2]
  unfold upto
  exact (List.prefix_append_right_inj _).2 ((List.take_prefix _ _).trans (List.prefix_append _ _))
theorem upto_lt (rows : List (List U)) {i k : Nat} (h : i < rows.length) (hk : k < (rows.getD i []).length) : (upto rows i k).length < rows.flatten.length := by
  have h1 := (upto_prefix rows h (Nat.succ_le_of_lt hk)).length_le
  rw [upto_word rows i hk] at h1
  simp at h1
  simp
  omega

set_option maxRecDepth 100000 in
set_option maxHeartbeats 4000000 in
/-- The closure, for every loop body that keeps what was there. -/
theorem each1_in (F : Fence) (n : Nat) (hf : F.fn 31) (hro : F.round = none) (hn : 1 ≤ n) (l Bs : Nat) (w0 : World) (v : Value) (rows : List (List U)) (hM : Ma .u64 w0 v (mat rows)) (J Jx : List U → World → Prop)
    (hY : ∀ pre x W, J pre W → pre.length < rows.flatten.length → YieldAt F (n - 1) Try.prog l #[.int .u64 x.1] W fun e W' =>
      (e = .returned (.bool true) ∧ J (pre ++ [x]) W' ∧ Below w0.heap.size W W') ∨ (e = .returned (.bool false) ∧ Jx (pre ++ [x]) W'))
    (W : World) (hX : Ext w0 W) (hBs : W.cell? ⟨Bs, 0, none⟩ = some v) (h0 : J [] W) :
    CallsIn F n Try.prog 31 #[.func (.yield l) #[] #[], .pointer (some ⟨Bs, 0, none⟩)] W fun e W' => (∃ v, e = .returned v) ∧
      ((∃ ys, ys = rows.flatten ∧ J ys W') ∨ (∃ pre, pre <+: rows.flatten ∧ Jx pre W')) := by
  have hlen := hM.len St.uT2
  have hsm := hM.small
  rw [mat_length] at hlen hsm
  obtain ⟨N, hN⟩ : ∃ N, rows.length = N := ⟨_, rfl⟩
  rw [hN] at hlen hsm
  have HN := Lib.hid hN
  have HM := Lib.hid hM
  have HX0 := Lib.hid hX
  have HY := Lib.hid hY
  clear hM hN hX hY
  refine callsIn_of_wp Try.func31 rfl hf ?_ hro
  simp only [Try.ntmps31, List.size_toArray, List.length_cons, List.length_nil, Nat.reduceAdd, Nat.reduceSub, Array.replicate_succ, Array.replicate_zero, List.push_toArray, List.append_toArray, List.nil_append, List.cons_append]
  gi_wp2
  gi_loopw [9] (fun i wr => ∃ j : Nat, i = .int .i64 j ∧ j ≤ N ∧ J (upto rows j 0) wr ∧ Ext w0 wr) (fun i _ => N - (intOf i).toNat)
  case atStart => exact ⟨0, rfl, Nat.zero_le _, by rw [upto_zero]; exact h0, HX0.out⟩
  case round =>
    obtain ⟨j, rfl, hj, hJ, hXr⟩ := hrel
    obtain ⟨wo, hwo⟩ : ∃ wo, wo = wr := ⟨_, rfl⟩
    subst hwo
    have HJ := Lib.hid hJ
    have HXr := Lib.hid hXr
    clear hJ hXr
    by_cases hlt : j < N
    · have hltr : j < rows.length := by have := HN.out; omega
      obtain ⟨p, u, hp, hcp, hu⟩ := St.rowsAt HM.out j (by rw [mat_length]; exact hltr)
      rw [mat_getD rows hltr] at hu
      replace hcp := HXr.out.cell hcp
      obtain ⟨r, hr⟩ : ∃ r, rows.getD j [] = r := ⟨_, rfl⟩
      rw [hr] at hu
      have hulen := hu.len Sk.uT
      have hrsm := hu.small
      rw [vals_length] at hulen hrsm
      have HU := Lib.hid hu
      have HR := Lib.hid hr
      have HLT := Lib.hid hltr
      clear hu hr hltr
      gi_wp2
      gi_loopw [15] (fun i wr => ∃ k : Nat, i = .int .i64 k ∧ k ≤ r.length ∧ J (upto rows j k) wr ∧ Ext w0 wr) (fun i _ => r.length - (intOf i).toNat)
      case atStart => exact ⟨0, rfl, Nat.zero_le _, HJ.out, HXr.out⟩
      case round =>
        obtain ⟨k, rfl, hk, hJk, hXk⟩ := hrel
        obtain ⟨wq, hwq⟩ : ∃ wq, wq = wr := ⟨_, rfl⟩
        subst hwq
        have HJK := Lib.hid hJk
        have HXK := Lib.hid hXk
        clear hJk hXk
        by_cases hklt : k < r.length
        · obtain ⟨q, hq, hcq⟩ := St.elems HU.out k (by rw [vals_length]; exact hklt)
          rw [vals_getD r hklt] at hcq
          replace hcq := HXK.out.cell hcq
          obtain ⟨fn, tmps, assign, body, hy, hR⟩ := HY.out _ (r.getD k U0) wq HJK.out (upto_lt rows HLT.out (by rw [HR.out]; exact hklt))
          have HRd := Lib.hid hR
          have HNX : Hid (upto rows j k ++ [r.getD k U0] = upto rows j (k + 1)) := by show _ = _; rw [upto_word rows j (by rw [HR.out]; exact hklt), HR.out]
          have HPX : Hid (upto rows j (k + 1) <+: rows.flatten) := upto_prefix rows HLT.out (by rw [HR.out]; omega)
          clear hR
          generalize r.getD k U0 = x at hcq hy HRd HNX
          obtain ⟨x, hx⟩ := x
          dsimp only at hcq hy
          gi_wp2
          refine HRd.out.mono ?_
          rintro e W3 (⟨rfl, hJ3, hk3⟩ | ⟨rfl, hJx3⟩)
          · gi_wp2
            go_roundw
            case rel => exact ⟨k + 1, by go_num, hklt, by rw [← HNX.out]; exact hJ3, Below.trans HXK.out hk3⟩
            case measure => simp [intOf]; omega
          · gi_wp2
            refine bodyPost_ret (results_none rfl _ _ _) rfl ?_
            exact ⟨⟨_, rfl⟩, .inr ⟨_, HPX.out, by rw [← HNX.out]; exact hJx3⟩⟩
        · obtain rfl : k = r.length := by omega
          have HJ2 : Hid (J (upto rows (j + 1) 0) wq) := by
            show J _ _
            have h1 := HJK.out
            rw [← HR.out, upto_row rows HLT.out] at h1
            exact h1
          gi_wp2
          go_roundw
          case rel => exact ⟨j + 1, by go_num, hlt, HJ2.out, HXK.out⟩
          case measure => simp [intOf]; omega
    · obtain rfl : j = N := by omega
      have HJ2 : Hid (J rows.flatten wo) := by
        show J _ _
        have h1 := HJ.out
        rw [← HN.out, upto_end] at h1
        exact h1
      gi_wp2
      go_end0
      exact ⟨⟨_, rfl⟩, .inl ⟨_, rfl, HJ2.out⟩⟩
end Go.Proofs.Ytmkpbdibhjjmpaa.It
