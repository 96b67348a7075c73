/- The reference's Pointers of a head of sixteen fields at most. -/
import Derived.Test.YtjhmlbhfnogdiaaHg
namespace Go.Proofs.Ytjhmlbhfnogdiaa.Ps
open Go.RowKit
open Go.Proofs.Ytjhmlbhfnogdiaa Go.Proofs.Ytjhmlbhfnogdiaa.Hd Go.Proofs.Ytjhmlbhfnogdiaa.Gr Go.Proofs.Ytjhmlbhfnogdiaa.Hg
set_option linter.unusedVariables false

/-- The fields that are pointers, in order. -/
def ptrs (l : Nat) (m : Int) : List Int := ((List.range l).filter fun (i : Nat) => bit m (i : Int)).map fun (i : Nat) => (i : Int)
theorem ptrs_succ (l : Nat) (m : Int) : ptrs (l + 1) m = ptrs l m ++ (if bit m (l : Int) = true then [(l : Int)] else []) := by
  unfold ptrs
  rw [List.range_succ, List.filter_append, List.map_append]
  by_cases h : bit m (l : Int) = true <;> simp [h]
theorem ptrs_len (l : Nat) (m : Int) : (ptrs l m).length ≤ l := by
  unfold ptrs
  rw [List.length_map]
  exact Nat.le_trans (List.length_filter_le _ _) (by simp)
theorem ptrs_mem {l : Nat} {m x : Int} (h : x ∈ ptrs l m) : ∃ i : Nat, x = i ∧ i < l ∧ bit m (i : Int) = true := by
  unfold ptrs at h
  simp only [List.mem_map, List.mem_filter, List.mem_range] at h
  obtain ⟨i, ⟨h1, h2⟩, rfl⟩ := h
  exact ⟨i, rfl, h1, h2⟩
theorem mem_ptrs {l : Nat} {m : Int} {i : Nat} (h : i < l) (hb : bit m (i : Int) = true) : (i : Int) ∈ ptrs l m := by
  unfold ptrs
  simp only [List.mem_map, List.mem_filter, List.mem_range]
  exact ⟨i, ⟨h, hb⟩, rfl⟩

set_option maxHeartbeats 4000000 in
theorem rptrs_any (t m : Int) (l : Nat) (hl : l ≤ 16) (m0 : 0 ≤ m) (m1 : m ≤ 65535) (w : World) :
    Calls Try.prog 25 #[.agg #[.int .i64 t, .int .i64 l, .int .u64 m]] w fun e w' => ∃ o, e = .returned o ∧ Sl .i64 w' o (ptrs l m) ∧ Ext w w' := by
  have HP : Hid (∀ (i : Nat) w, i < l → Calls Try.prog 66 #[.agg #[.int .i64 t, .int .i64 l, .int .u64 m], .int .i64 i] w fun e w' => e = .returned (.bool (bit m i)) ∧ Ext w w') := fun i w hi => rpointer_in t l m i (by omega) (by omega) m0 m1 w
  obtain ⟨i0, hi, hz0, hz1, hz2⟩ := info_i
  obtain ⟨wA, hwA⟩ : ∃ wA, wA = w.alloc (.cells #[.int .i64 t, .int .i64 l, .int .u64 m] 28) := ⟨_, rfl⟩
  have hx : Ext w wA := hwA ▸ (Ext.refl w).alloc _
  have hb : Blk wA w.heap.size #[.int .i64 t, .int .i64 l, .int .u64 m] 28 := hwA ▸ Blk.new w _ _
  go_enter Try.func25, Try.ntmps25
  go_wp2_with fail
  rw [← hwA]
  clear hwA
  go_loopw [3, 4] (fun a i wr => ∃ (k : Nat), i = .int .i64 k ∧ k ≤ l ∧ wr.ownsRow wA.heap.size 3 1 a (ptrs k m).length ((ptrs k m).map (Value.int .i64)) ∧ Ext wA wr) (fun _ i _ => l - (intOf i).toNat)
  case atStart => exact ⟨0, rfl, Nat.zero_le _, World.ownsRow_nil _ _ _ _, Ext.refl _⟩
  case round =>
    obtain ⟨k, rfl, hk, hown, hXk⟩ := hrel
    obtain ⟨wk, hwk⟩ : ∃ wk, wk = wr := ⟨_, rfl⟩
    subst hwk
    have HXk := Lib.hid hXk
    have HOWN := Lib.hid hown
    have hbk := hb.ext hXk
    have d0 : wk.cell? ⟨w.heap.size, 0, none⟩ = some (.int .i64 t) := hbk.cell (i := 0) rfl
    have d1 : wk.cell? ⟨w.heap.size, 1, none⟩ = some (.int .i64 l) := hbk.cell (i := 1) rfl
    have d2 : wk.cell? ⟨w.heap.size, 2, none⟩ = some (.int .u64 m) := hbk.cell (i := 2) rfl
    clear hXk hown hbk
    by_cases hklt : k < l
    · have hps := ptrs_succ k m
      have hpl := ptrs_len k m
      have HC := Lib.hid (fun w => HP.out k w hklt)
      obtain ⟨b, hbb⟩ : ∃ b, bit m (k : Int) = b := ⟨_, rfl⟩
      rw [hbb] at HC hps
      have HPS := Lib.hid hps
      have HPL := Lib.hid hpl
      clear hbb hps hpl
      cases b with
      | false =>
        have HE : Hid (ptrs (k + 1) m = ptrs k m) := by show _ = _; rw [HPS.out]; simp
        go_wp2_with fail
        refine (HC.out _).mono ?_; rintro e w1 ⟨rfl, hx1⟩
        have HX1 := Lib.hid hx1
        clear hx1
        go_wp2_with fail
        go_roundw
        case rel => exact ⟨k + 1, by go_num, hklt, by rw [HE.out]; exact own_ext HOWN.out HX1.out, HXk.out.trans HX1.out⟩
        case measure => simp [intOf]; omega
      | true =>
        have HE : Hid (ptrs (k + 1) m = ptrs k m ++ [(k : Int)]) := by show _ = _; rw [HPS.out]; simp
        go_wp2_with fail
        refine (HC.out _).mono ?_; rintro e w1 ⟨rfl, hx1⟩
        have hE1 : Ext w1 (w1.alloc (.cells #[.int .i64 k] 3)) := (Ext.refl w1).alloc _
        have hrow : Row (w1.alloc (.cells #[.int .i64 k] 3)) 1 8 (.slice (some ⟨w1.heap.size, 0, none⟩) 1 1) 1 [.int .i64 k] := ⟨rfl, by omega, by omega, .inr ⟨_, 1, rfl, Nat.le_refl _, by unfold maxLen; omega, cell_one_new _ _ _⟩⟩
        obtain ⟨v', w2, hrun, hown2, hg2, _⟩ := append_own (ty := 42) uI hi hz0 hz1 hz2 rfl (by decide) (own_ext HOWN.out (hx1.trans hE1)) (HXk.out.trans (hx1.trans hE1)).size hrow (by simp [Value.oneCell']) (by have := HPL.out; omega) (by decide)
        have HF : Hid (w2.ownsRow wA.heap.size 3 1 v' (ptrs (k + 1) m).length ((ptrs (k + 1) m).map (Value.int .i64)) ∧ Ext wA w2) := by
          rw [HE.out, List.length_append, List.map_append]
          exact ⟨hown2, (HXk.out.trans (hx1.trans hE1)).grown hg2 (fun k hk => (HOWN.out.lt k hk).1)⟩
        have HR := Lib.hid hrun
        clear hrun hown2 hg2 hrow hE1 hx1
        go_wp2_with (at_builtin; refine Lib.wpList_append_run _ rfl _ _ _ _ rfl _ _ rfl rfl v' w2 HR.out ?_)
        go_roundw
        case rel => exact ⟨k + 1, by go_num, hklt, HF.out.1, HF.out.2⟩
        case measure => simp [intOf]; omega
    · obtain rfl : k = l := by omega
      have hpl := ptrs_len k m
      have HF : Hid (∀ a, wk.ownsRow wA.heap.size 3 1 a (ptrs k m).length ((ptrs k m).map (Value.int .i64)) → Sl .i64 wk a (ptrs k m)) := fun a h => Row.of_own h (by omega) (by omega)
      have HZ := Lib.hid (hx.trans HXk.out)
      clear hpl
      go_wp2_with fail
      go_ret
      exact ⟨_, rfl, HF.out _ HOWN.out, HZ.out⟩
end Go.Proofs.Ytjhmlbhfnogdiaa.Ps
