/- Making memory, clearing a space, comparing two: said of lists. -/
import Derived.Test.YtjobhdcjjegpfaaAs
import Derived.Laws.OwnMore
import Derived.RegionTactic
import Derived.ChangeAlike
namespace Go.Proofs.Ytjobhdcjjegpfaa.Ar
open Go.RowKit
open Go.Proofs.Ytjobhdcjjegpfaa
set_option linter.unusedVariables false

/-- A space of 0s. -/
theorem mk_any (n : Int) (n0 : 0 ≤ n) (n1 : n ≤ 1048576) (u : World) : (Instr.makeSlice 22 (.int .i64 n) (.int .i64 n)).run Try.prog u =
    .ok (.slice (some ⟨u.heap.size, 0, none⟩) n.toNat n.toNat) (u.alloc (.cells (madeCells #[.int .u64 0] n.toNat) 26)) := by
  obtain ⟨i0, hi, hz0, hz1, hz2⟩ := Aw.info_u64
  have h := run_make (P := Try.prog) u 22 26 i0 (.int .u64 0) Aw.uT hi hz0 .i64 .i64 n n n0 (Int.le_refl _) (by rw [hz2]; omega) (by omega)
  simpa [hz1, Value.cells] using h
theorem made_own (w : World) (b n : Nat) (hb : b = w.heap.size) (hn : n ≤ maxLen) : (w.alloc (.cells (madeCells #[.int .u64 0] n) 26)).ownsRow b 26 1 (.slice (some ⟨b, 0, none⟩) n n) n ((List.replicate n (0 : Int)).map (Value.int .u64)) := by
  subst hb
  refine ⟨by simp, .inr ⟨w.heap.size, n, _, rfl, Nat.le_refl _, Blk.new w _ _, Nat.le_refl _, hn, by simp [size_madeCells], ?_⟩⟩
  rw [toList_madeCells_one, List.map_replicate]
  simp

theorem clear_any (n : Int) (v0 v1 : Value) (xs ys : List Int) (s : Int) (hr : Ap.Rt n xs ys) (w : World) (h0 : Sl .u64 w v0 xs) (h1 : Sl .u64 w v1 ys) :
    Calls Try.prog 21 #[.agg #[.int .i64 n, v0, v1], .int .i64 s] w fun e w' => ∃ u0 u1, e = .returned (.agg #[.int .i64 n, u0, u1]) ∧
      Nw w' w.heap.size v0 xs u0 (Ap.cl 0 n xs s) ∧ Nw w' w.heap.size v1 ys u1 (Ap.cl 1 n ys s) ∧ Ext w w' := by
  obtain ⟨b0, c0, rfl⟩ := Row.form h0
  obtain ⟨b1, c1, rfl⟩ := Row.form h1
  have n0 : 16 ≤ n := hr.1
  have n1 : n ≤ 4096 := hr.2.1
  have hmk := mk_any n (by omega) (by omega)
  clear h0 h1 hr
  by_cases g0 : s < 0
  · have e1 : Ap.cl 0 n xs s = xs := by unfold Ap.cl; rw [if_neg (by omega)]
    have e2 : Ap.cl 1 n ys s = ys := by unfold Ap.cl; rw [if_neg (by omega)]
    rw [e1, e2]
    clear e1 e2
    have d1 : decide (s < 0) = true := decide_eq_true g0
    clear g0
    go_enter Try.func21, Try.ntmps21
    go_wp2_with fail
    exact bodyPost_ret (v := .agg #[.int .i64 n, .slice b0 xs.length c0, .slice b1 ys.length c1]) (by simp [results, Try.results21, go_sem]) rfl ⟨_, _, rfl, Nw.refl _ _ _ _, Nw.refl _ _ _ _, (by repeat (first | exact Ext.refl _ | assumption | refine Ext.alloc ?_ _ | refine Ext.drewN ?_ _ | refine Ext.drew ?_ | refine Ext.trans ?_ (by assumption)))⟩
  by_cases g1 : 1 < s
  · have e1 : Ap.cl 0 n xs s = xs := by unfold Ap.cl; rw [if_neg (by omega)]
    have e2 : Ap.cl 1 n ys s = ys := by unfold Ap.cl; rw [if_neg (by omega)]
    rw [e1, e2]
    clear e1 e2
    have d1 : decide (s < 0) = false := decide_eq_false g0
    have d2 : decide (1 < s) = true := decide_eq_true g1
    clear g0 g1
    go_enter Try.func21, Try.ntmps21
    go_wp2_with fail
    exact bodyPost_ret (v := .agg #[.int .i64 n, .slice b0 xs.length c0, .slice b1 ys.length c1]) (by simp [results, Try.results21, go_sem]) rfl ⟨_, _, rfl, Nw.refl _ _ _ _, Nw.refl _ _ _ _, (by repeat (first | exact Ext.refl _ | assumption | refine Ext.alloc ?_ _ | refine Ext.drewN ?_ _ | refine Ext.drew ?_ | refine Ext.trans ?_ (by assumption)))⟩
  have hn8 : n.toNat * 8 ≤ 140737488355328 := by omega
  have hnm : n.toNat ≤ maxLen := by unfold maxLen; omega
  have HN := Lib.hid (And.intro hn8 hnm)
  clear hn8 hnm
  rcases (show s = 0 ∨ s = 1 by omega) with rfl | rfl
  · have e1 : Ap.cl 0 n xs 0 = List.replicate n.toNat 0 := by unfold Ap.cl; rw [if_pos rfl]
    have e2 : Ap.cl 1 n ys 0 = ys := by unfold Ap.cl; rw [if_neg (by decide)]
    rw [e1, e2]
    clear e1 e2 g0 g1
    go_enter Try.func21, Try.ntmps21
    go_wp2_with fail
    refine bodyPost_ret (v := .agg #[.int .i64 n, .slice (some ⟨w.heap.size + 1 + 1, 0, none⟩) n.toNat n.toNat, .slice b1 ys.length c1]) (by simp [results, Try.results21, go_sem]) rfl ⟨_, _, rfl, ?_, Nw.refl _ _ _ _, (by repeat (first | exact Ext.refl _ | assumption | refine Ext.alloc ?_ _ | refine Ext.drewN ?_ _ | refine Ext.drew ?_ | refine Ext.trans ?_ (by assumption)))⟩
    exact Nw.of_own (own_le (made_own _ _ _ (by simp) HN.out.2) (by omega)) (by simp) HN.out.1 _ _
  · have e1 : Ap.cl 0 n xs 1 = xs := by unfold Ap.cl; rw [if_neg (by decide)]
    have e2 : Ap.cl 1 n ys 1 = List.replicate n.toNat 0 := by unfold Ap.cl; rw [if_pos rfl]
    rw [e1, e2]
    clear e1 e2 g0 g1
    go_enter Try.func21, Try.ntmps21
    go_wp2_with fail
    refine bodyPost_ret (v := .agg #[.int .i64 n, .slice b0 xs.length c0, .slice (some ⟨w.heap.size + 1 + 1, 0, none⟩) n.toNat n.toNat]) (by simp [results, Try.results21, go_sem]) rfl ⟨_, _, rfl, Nw.refl _ _ _ _, ?_, (by repeat (first | exact Ext.refl _ | assumption | refine Ext.alloc ?_ _ | refine Ext.drewN ?_ _ | refine Ext.drew ?_ | refine Ext.trans ?_ (by assumption)))⟩
    exact Nw.of_own (own_le (made_own _ _ _ (by simp) HN.out.2) (by omega)) (by simp) HN.out.1 _ _

theorem rclear_any (n : Int) (v0 v1 : Value) (xs ys : List Int) (s : Int) (hr : Ap.Rt n xs ys) (w : World) (h0 : Sl .u64 w v0 xs) (h1 : Sl .u64 w v1 ys) :
    Calls Try.prog 29 #[.agg #[.int .i64 n, v0, v1], .int .i64 s] w fun e w' => ∃ u0 u1, e = .returned (.agg #[.int .i64 n, u0, u1]) ∧
      Nw w' w.heap.size v0 xs u0 (Ap.cl 0 n xs s) ∧ Nw w' w.heap.size v1 ys u1 (Ap.cl 1 n ys s) ∧ Ext w w' := by
  obtain ⟨b0, c0, rfl⟩ := Row.form h0
  obtain ⟨b1, c1, rfl⟩ := Row.form h1
  have n0 : 16 ≤ n := hr.1
  have n1 : n ≤ 4096 := hr.2.1
  have hmk := mk_any n (by omega) (by omega)
  clear h0 h1 hr
  by_cases g0 : s < 0
  · have e1 : Ap.cl 0 n xs s = xs := by unfold Ap.cl; rw [if_neg (by omega)]
    have e2 : Ap.cl 1 n ys s = ys := by unfold Ap.cl; rw [if_neg (by omega)]
    rw [e1, e2]
    clear e1 e2
    have d1 : (s == 0) = false := beq_eq_false_iff_ne.2 (by omega)
    have d2 : (s == 1) = false := beq_eq_false_iff_ne.2 (by omega)
    clear g0
    go_enter Try.func29, Try.ntmps29
    go_wp2_with fail
    exact bodyPost_ret (v := .agg #[.int .i64 n, .slice b0 xs.length c0, .slice b1 ys.length c1]) (by simp [results, Try.results29, go_sem]) rfl ⟨_, _, rfl, Nw.refl _ _ _ _, Nw.refl _ _ _ _, (by repeat (first | exact Ext.refl _ | assumption | refine Ext.alloc ?_ _ | refine Ext.drewN ?_ _ | refine Ext.drew ?_ | refine Ext.trans ?_ (by assumption)))⟩
  by_cases g1 : 1 < s
  · have e1 : Ap.cl 0 n xs s = xs := by unfold Ap.cl; rw [if_neg (by omega)]
    have e2 : Ap.cl 1 n ys s = ys := by unfold Ap.cl; rw [if_neg (by omega)]
    rw [e1, e2]
    clear e1 e2
    have d1 : (s == 0) = false := beq_eq_false_iff_ne.2 (by omega)
    have d2 : (s == 1) = false := beq_eq_false_iff_ne.2 (by omega)
    clear g0 g1
    go_enter Try.func29, Try.ntmps29
    go_wp2_with fail
    exact bodyPost_ret (v := .agg #[.int .i64 n, .slice b0 xs.length c0, .slice b1 ys.length c1]) (by simp [results, Try.results29, go_sem]) rfl ⟨_, _, rfl, Nw.refl _ _ _ _, Nw.refl _ _ _ _, (by repeat (first | exact Ext.refl _ | assumption | refine Ext.alloc ?_ _ | refine Ext.drewN ?_ _ | refine Ext.drew ?_ | refine Ext.trans ?_ (by assumption)))⟩
  have hn8 : n.toNat * 8 ≤ 140737488355328 := by omega
  have hnm : n.toNat ≤ maxLen := by unfold maxLen; omega
  have HN := Lib.hid (And.intro hn8 hnm)
  clear hn8 hnm
  rcases (show s = 0 ∨ s = 1 by omega) with rfl | rfl
  · have e1 : Ap.cl 0 n xs 0 = List.replicate n.toNat 0 := by unfold Ap.cl; rw [if_pos rfl]
    have e2 : Ap.cl 1 n ys 0 = ys := by unfold Ap.cl; rw [if_neg (by decide)]
    rw [e1, e2]
    clear e1 e2 g0 g1
    go_enter Try.func29, Try.ntmps29
    go_wp2_with fail
    refine bodyPost_ret (v := .agg #[.int .i64 n, .slice (some ⟨w.heap.size + 1 + 1 + 1, 0, none⟩) n.toNat n.toNat, .slice b1 ys.length c1]) (by simp [results, Try.results29, go_sem]) rfl ⟨_, _, rfl, ?_, Nw.refl _ _ _ _, (by repeat (first | exact Ext.refl _ | assumption | refine Ext.alloc ?_ _ | refine Ext.drewN ?_ _ | refine Ext.drew ?_ | refine Ext.trans ?_ (by assumption)))⟩
    exact Nw.of_own (own_le (made_own _ _ _ (by simp) HN.out.2) (by omega)) (by simp) HN.out.1 _ _
  · have e1 : Ap.cl 0 n xs 1 = xs := by unfold Ap.cl; rw [if_neg (by decide)]
    have e2 : Ap.cl 1 n ys 1 = List.replicate n.toNat 0 := by unfold Ap.cl; rw [if_pos rfl]
    rw [e1, e2]
    clear e1 e2 g0 g1
    go_enter Try.func29, Try.ntmps29
    go_wp2_with fail
    refine bodyPost_ret (v := .agg #[.int .i64 n, .slice b0 xs.length c0, .slice (some ⟨w.heap.size + 1 + 1 + 1, 0, none⟩) n.toNat n.toNat]) (by simp [results, Try.results29, go_sem]) rfl ⟨_, _, rfl, Nw.refl _ _ _ _, ?_, (by repeat (first | exact Ext.refl _ | assumption | refine Ext.alloc ?_ _ | refine Ext.drewN ?_ _ | refine Ext.drew ?_ | refine Ext.trans ?_ (by assumption)))⟩
    exact Nw.of_own (own_le (made_own _ _ _ (by simp) HN.out.2) (by omega)) (by simp) HN.out.1 _ _

def nwE (k : Int) : Int := if k < 16 then 1 else if 4096 < k then 3 else 0
def nwN (k : Int) : Int := if nwE k = 0 then k else 0
def nwL (k : Int) : List Int := List.replicate (nwN k).toNat 0
theorem new_any (k : Int) (w : World) :
    Calls Try.prog 17 #[.int .i64 k] w fun e w' => ∃ u0 u1, e = .returned (.tuple #[.agg #[.int .i64 (nwN k), u0, u1], .int .i64 (nwE k)]) ∧ Sl .u64 w' u0 (nwL k) ∧ Sl .u64 w' u1 (nwL k) ∧ Ext w w' := by
  by_cases g0 : k < 16
  · have e1 : nwE k = 1 := by unfold nwE; rw [if_pos g0]
    have e2 : nwN k = 0 := by unfold nwN; rw [e1]; rfl
    have e3 : nwL k = [] := by unfold nwL; rw [e2]; rfl
    rw [e1, e2, e3]
    clear e1 e2 e3
    go_enter Try.func17, Try.ntmps17
    go_wp2_with fail
    exact bodyPost_ret (v := .tuple #[.agg #[.int .i64 0, .slice none 0 0, .slice none 0 0], .int .i64 1]) (by simp [results, Try.results17, go_sem]) rfl ⟨_, _, rfl, Sl.nil _ _, Sl.nil _ _, (by repeat (first | exact Ext.refl _ | assumption | refine Ext.alloc ?_ _ | refine Ext.drewN ?_ _ | refine Ext.drew ?_ | refine Ext.trans ?_ (by assumption)))⟩
  by_cases g1 : 4096 < k
  · have e1 : nwE k = 3 := by unfold nwE; rw [if_neg g0, if_pos g1]
    have e2 : nwN k = 0 := by unfold nwN; rw [e1]; rfl
    have e3 : nwL k = [] := by unfold nwL; rw [e2]; rfl
    rw [e1, e2, e3]
    have g2 : 16 ≤ k := by omega
    clear e1 e2 e3 g0
    go_enter Try.func17, Try.ntmps17
    go_wp2_with fail
    exact bodyPost_ret (v := .tuple #[.agg #[.int .i64 0, .slice none 0 0, .slice none 0 0], .int .i64 3]) (by simp [results, Try.results17, go_sem]) rfl ⟨_, _, rfl, Sl.nil _ _, Sl.nil _ _, (by repeat (first | exact Ext.refl _ | assumption | refine Ext.alloc ?_ _ | refine Ext.drewN ?_ _ | refine Ext.drew ?_ | refine Ext.trans ?_ (by assumption)))⟩
  · have e1 : nwE k = 0 := by unfold nwE; rw [if_neg g0, if_neg g1]
    have e2 : nwN k = k := by unfold nwN; rw [e1]; rfl
    have e3 : nwL k = List.replicate k.toNat 0 := by unfold nwL; rw [e2]
    rw [e1, e2, e3]
    have g2 : 16 ≤ k := by omega
    have g3 : k ≤ 4096 := by omega
    have hmk := mk_any k (by omega) (by omega)
    have HN := Lib.hid (And.intro (show k.toNat * 8 ≤ 140737488355328 by omega) (show k.toNat ≤ maxLen by unfold maxLen; omega))
    clear e1 e2 e3 g0 g1
    go_enter Try.func17, Try.ntmps17
    go_wp2_with fail
    go_region
    all_goals go_wp2
    · refine bodyPost_ret (v := .tuple #[.agg #[.int .i64 k, .slice (some ⟨w.heap.size + 1, 0, none⟩) k.toNat k.toNat, .slice (some ⟨w.heap.size + 1 + 1, 0, none⟩) k.toNat k.toNat], .int .i64 0]) (by simp [results, Try.results17, go_sem]) rfl ⟨_, _, rfl, ?_, ?_, (by repeat (first | exact Ext.refl _ | assumption | refine Ext.alloc ?_ _ | refine Ext.drewN ?_ _ | refine Ext.drew ?_ | refine Ext.trans ?_ (by assumption)))⟩
      · exact Sl.of_own (base := w.heap.size + 1) (e := 26) (own_ext (by simpa using made_own _ (w.heap.size + 1) _ (by simp) HN.out.2) (((Ext.refl _).alloc _).drew)) (by simpa using HN.out.1)
      · exact Sl.of_own (base := w.heap.size + 1 + 1) (e := 26) (own_ext (by simpa using made_own _ (w.heap.size + 1 + 1) _ (by simp) HN.out.2) ((Ext.refl _).drew)) (by simpa using HN.out.1)
    · refine bodyPost_ret (v := .tuple #[.agg #[.int .i64 k, .slice (some ⟨w.heap.size + 1 + 1, 0, none⟩) k.toNat k.toNat, .slice (some ⟨w.heap.size + 1, 0, none⟩) k.toNat k.toNat], .int .i64 0]) (by simp [results, Try.results17, go_sem]) rfl ⟨_, _, rfl, ?_, ?_, (by repeat (first | exact Ext.refl _ | assumption | refine Ext.alloc ?_ _ | refine Ext.drewN ?_ _ | refine Ext.drew ?_ | refine Ext.trans ?_ (by assumption)))⟩
      · exact Sl.of_own (base := w.heap.size + 1 + 1) (e := 26) (own_ext (by simpa using made_own _ (w.heap.size + 1 + 1) _ (by simp) HN.out.2) ((Ext.refl _).drew)) (by simpa using HN.out.1)
      · exact Sl.of_own (base := w.heap.size + 1) (e := 26) (own_ext (by simpa using made_own _ (w.heap.size + 1) _ (by simp) HN.out.2) (((Ext.refl _).alloc _).drew)) (by simpa using HN.out.1)

theorem rnew_any (k : Int) (w : World) :
    Calls Try.prog 18 #[.int .i64 k] w fun e w' => ∃ u0 u1, e = .returned (.tuple #[.agg #[.int .i64 (nwN k), u0, u1], .int .i64 (nwE k)]) ∧ Sl .u64 w' u0 (nwL k) ∧ Sl .u64 w' u1 (nwL k) ∧ Ext w w' := by
  by_cases g0 : k < 16
  · have e1 : nwE k = 1 := by unfold nwE; rw [if_pos g0]
    have e2 : nwN k = 0 := by unfold nwN; rw [e1]; rfl
    have e3 : nwL k = [] := by unfold nwL; rw [e2]; rfl
    rw [e1, e2, e3]
    clear e1 e2 e3
    go_enter Try.func18, Try.ntmps18
    go_wp2_with fail
    exact bodyPost_ret (v := .tuple #[.agg #[.int .i64 0, .slice none 0 0, .slice none 0 0], .int .i64 1]) (by simp [results, Try.results18, go_sem]) rfl ⟨_, _, rfl, Sl.nil _ _, Sl.nil _ _, (by repeat (first | exact Ext.refl _ | assumption | refine Ext.alloc ?_ _ | refine Ext.drewN ?_ _ | refine Ext.drew ?_ | refine Ext.trans ?_ (by assumption)))⟩
  by_cases g1 : 4096 < k
  · have e1 : nwE k = 3 := by unfold nwE; rw [if_neg g0, if_pos g1]
    have e2 : nwN k = 0 := by unfold nwN; rw [e1]; rfl
    have e3 : nwL k = [] := by unfold nwL; rw [e2]; rfl
    rw [e1, e2, e3]
    have g2 : 16 ≤ k := by omega
    clear e1 e2 e3 g0
    go_enter Try.func18, Try.ntmps18
    go_wp2_with fail
    exact bodyPost_ret (v := .tuple #[.agg #[.int .i64 0, .slice none 0 0, .slice none 0 0], .int .i64 3]) (by simp [results, Try.results18, go_sem]) rfl ⟨_, _, rfl, Sl.nil _ _, Sl.nil _ _, (by repeat (first | exact Ext.refl _ | assumption | refine Ext.alloc ?_ _ | refine Ext.drewN ?_ _ | refine Ext.drew ?_ | refine Ext.trans ?_ (by assumption)))⟩
  · have e1 : nwE k = 0 := by unfold nwE; rw [if_neg g0, if_neg g1]
    have e2 : nwN k = k := by unfold nwN; rw [e1]; rfl
    have e3 : nwL k = List.replicate k.toNat 0 := by unfold nwL; rw [e2]
    rw [e1, e2, e3]
    have g2 : 16 ≤ k := by omega
    have g3 : k ≤ 4096 := by omega
    have hmk := mk_any k (by omega) (by omega)
    have HN := Lib.hid (And.intro (show k.toNat * 8 ≤ 140737488355328 by omega) (show k.toNat ≤ maxLen by unfold maxLen; omega))
    clear e1 e2 e3 g0 g1
    go_enter Try.func18, Try.ntmps18
    go_wp2_with fail
    go_region
    all_goals go_wp2
    · refine bodyPost_ret (v := .tuple #[.agg #[.int .i64 k, .slice (some ⟨w.heap.size + 1, 0, none⟩) k.toNat k.toNat, .slice (some ⟨w.heap.size + 1 + 1, 0, none⟩) k.toNat k.toNat], .int .i64 0]) (by simp [results, Try.results18, go_sem]) rfl ⟨_, _, rfl, ?_, ?_, (by repeat (first | exact Ext.refl _ | assumption | refine Ext.alloc ?_ _ | refine Ext.drewN ?_ _ | refine Ext.drew ?_ | refine Ext.trans ?_ (by assumption)))⟩
      · exact Sl.of_own (base := w.heap.size + 1) (e := 26) (own_ext (by simpa using made_own _ (w.heap.size + 1) _ (by simp) HN.out.2) (((Ext.refl _).alloc _).drew)) (by simpa using HN.out.1)
      · exact Sl.of_own (base := w.heap.size + 1 + 1) (e := 26) (own_ext (by simpa using made_own _ (w.heap.size + 1 + 1) _ (by simp) HN.out.2) ((Ext.refl _).drew)) (by simpa using HN.out.1)
    · refine bodyPost_ret (v := .tuple #[.agg #[.int .i64 k, .slice (some ⟨w.heap.size + 1 + 1, 0, none⟩) k.toNat k.toNat, .slice (some ⟨w.heap.size + 1, 0, none⟩) k.toNat k.toNat], .int .i64 0]) (by simp [results, Try.results18, go_sem]) rfl ⟨_, _, rfl, ?_, ?_, (by repeat (first | exact Ext.refl _ | assumption | refine Ext.alloc ?_ _ | refine Ext.drewN ?_ _ | refine Ext.drew ?_ | refine Ext.trans ?_ (by assumption)))⟩
      · exact Sl.of_own (base := w.heap.size + 1 + 1) (e := 26) (own_ext (by simpa using made_own _ (w.heap.size + 1 + 1) _ (by simp) HN.out.2) ((Ext.refl _).drew)) (by simpa using HN.out.1)
      · exact Sl.of_own (base := w.heap.size + 1) (e := 26) (own_ext (by simpa using made_own _ (w.heap.size + 1) _ (by simp) HN.out.2) (((Ext.refl _).alloc _).drew)) (by simpa using HN.out.1)


/-- Two memories, compared. -/
def sameB (n m : Int) (xs ys xs' ys' : List Int) : Bool := decide (n = m) && (decide (xs = xs') && decide (ys = ys'))
theorem same_any (n m : Int) (v0 v1 u0 u1 : Value) (xs ys xs' ys' : List Int) (w : World) (h0 : Sl .u64 w v0 xs) (h1 : Sl .u64 w v1 ys) (k0 : Sl .u64 w u0 xs') (k1 : Sl .u64 w u1 ys') :
    Calls Try.prog 30 #[.agg #[.int .i64 n, v0, v1], .agg #[.int .i64 m, u0, u1]] w fun e w' => e = .returned (.bool (sameB n m xs ys xs' ys')) ∧ Ext w w' := by
  have HA : Hid (∀ w', Ext w w' → Calls Try.prog 34 #[v0, u0] w' fun e w'' => e = .returned (.bool (decide (xs = xs'))) ∧ ∃ m, w'' = w'.drewN m) := fun w' he => Aw.equal_any _ _ _ _ _ (h0.ext he) (k0.ext he)
  have HB : Hid (∀ w', Ext w w' → Calls Try.prog 34 #[v1, u1] w' fun e w'' => e = .returned (.bool (decide (ys = ys'))) ∧ ∃ m, w'' = w'.drewN m) := fun w' he => Aw.equal_any _ _ _ _ _ (h1.ext he) (k1.ext he)
  unfold sameB
  generalize decide (xs = xs') = b0 at HA ⊢
  generalize decide (ys = ys') = b1 at HB ⊢
  clear h0 h1 k0 k1
  have hw : ∃ c, decide (n = m) = c ∧ (n == m) = c := ⟨n == m, by by_cases h : n = m <;> simp [h], rfl⟩
  obtain ⟨c, hc, hc2⟩ := hw
  rw [hc]
  clear hc
  cases c with
  | false =>
    go_enter Try.func30, Try.ntmps30
    go_wp2_with fail
    go_ret
    exact ⟨rfl, (by repeat (first | exact Ext.refl _ | assumption | refine Ext.alloc ?_ _ | refine Ext.drewN ?_ _ | refine Ext.drew ?_ | refine Ext.trans ?_ (by assumption)))⟩
  | true =>
    cases b0 with
    | false =>
      go_enter Try.func30, Try.ntmps30
      go_wp2_with fail
      refine (HA.out _ (((Ext.refl w).alloc _).alloc _)).mono ?_; rintro e w1 ⟨rfl, j, rfl⟩
      go_wp2_with fail
      go_ret
      exact ⟨rfl, (by repeat (first | exact Ext.refl _ | assumption | refine Ext.alloc ?_ _ | refine Ext.drewN ?_ _ | refine Ext.drew ?_ | refine Ext.trans ?_ (by assumption)))⟩
    | true =>
      cases b1
      all_goals
        go_enter Try.func30, Try.ntmps30
        go_wp2_with fail
        refine (HA.out _ (((Ext.refl w).alloc _).alloc _)).mono ?_; rintro e w1 ⟨rfl, j, rfl⟩
        go_wp2_with fail
        refine (HB.out _ (by repeat (first | exact Ext.refl _ | assumption | refine Ext.alloc ?_ _ | refine Ext.drewN ?_ _ | refine Ext.drew ?_ | refine Ext.trans ?_ (by assumption)))).mono ?_; rintro e w1 ⟨rfl, j2, rfl⟩
        go_wp2_with fail
        go_ret
        exact ⟨rfl, (by repeat (first | exact Ext.refl _ | assumption | refine Ext.alloc ?_ _ | refine Ext.drewN ?_ _ | refine Ext.drew ?_ | refine Ext.trans ?_ (by assumption)))⟩

theorem rsame_any (n m : Int) (v0 v1 u0 u1 : Value) (xs ys xs' ys' : List Int) (w : World) (h0 : Sl .u64 w v0 xs) (h1 : Sl .u64 w v1 ys) (k0 : Sl .u64 w u0 xs') (k1 : Sl .u64 w u1 ys') :
    Calls Try.prog 16 #[.agg #[.int .i64 n, v0, v1], .agg #[.int .i64 m, u0, u1]] w fun e w' => e = .returned (.bool (sameB n m xs ys xs' ys')) ∧ Ext w w' := by
  have HA : Hid (∀ w', Ext w w' → Calls Try.prog 33 #[v0, u0] w' fun e w'' => e = .returned (.bool (decide (xs = xs'))) ∧ ∃ m, w'' = w'.drewN m) := fun w' he => Aw.words_any _ _ _ _ _ (h0.ext he) (k0.ext he)
  have HB : Hid (∀ w', Ext w w' → Calls Try.prog 33 #[v1, u1] w' fun e w'' => e = .returned (.bool (decide (ys = ys'))) ∧ ∃ m, w'' = w'.drewN m) := fun w' he => Aw.words_any _ _ _ _ _ (h1.ext he) (k1.ext he)
  have hs : sameB n m xs ys xs' ys' = (decide (xs = xs') && (decide (ys = ys') && decide (n = m))) := by
    unfold sameB
    cases decide (n = m) <;> cases decide (xs = xs') <;> cases decide (ys = ys') <;> rfl
  rw [hs]
  clear hs
  generalize decide (xs = xs') = b0 at HA ⊢
  generalize decide (ys = ys') = b1 at HB ⊢
  clear h0 h1 k0 k1
  have hw : ∃ c, decide (n = m) = c ∧ (n == m) = c := ⟨n == m, by by_cases h : n = m <;> simp [h], rfl⟩
  obtain ⟨c, hc, hc2⟩ := hw
  rw [hc]
  clear hc
  cases b0
  all_goals cases b1
  all_goals cases c
  all_goals
    go_enter Try.func16, Try.ntmps16
    go_wp2_with fail
    refine (HA.out _ (((Ext.refl w).alloc _).alloc _)).mono ?_; rintro e w1 ⟨rfl, j, rfl⟩
    go_wp2_with fail
    refine (HB.out _ (by repeat (first | exact Ext.refl _ | assumption | refine Ext.alloc ?_ _ | refine Ext.drewN ?_ _ | refine Ext.drew ?_ | refine Ext.trans ?_ (by assumption)))).mono ?_; rintro e w1 ⟨rfl, j2, rfl⟩
    go_wp2_with fail
    go_ret
    exact ⟨rfl, (by repeat (first | exact Ext.refl _ | assumption | refine Ext.alloc ?_ _ | refine Ext.drewN ?_ _ | refine Ext.drew ?_ | refine Ext.trans ?_ (by assumption)))⟩
end Go.Proofs.Ytjobhdcjjegpfaa.Ar
