/- What Pointers of package head computes (a range over a function): the places of the pointers, in order. -/
import Derived.RangeFuncBox
import Derived.RangeFuncNested
import Derived.RangeFuncWrites
import Derived.RangeFuncBound
import Derived.RangeFuncCalls
import Derived.RangeFuncLeaves
import Derived.Shelf.Abstract
import Derived.Shelf.RegionOpen
import Derived.OwnWalkIn
import Derived.TacticsInMore
import Derived.LoopNIn
import Derived.LoopIn
import Derived.Maps.OwnIn
import Derived.Test.YtjhmlbhfnogdiaaPs
import Derived.Test.YtjhmlbhfnogdiaaBk
namespace Go.Proofs.Ytjhmlbhfnogdiaa.Hq
open Go.RowKit Go.Shelf
open Go.Proofs.Ytjhmlbhfnogdiaa Go.Proofs.Ytjhmlbhfnogdiaa.Hd Go.Proofs.Ytjhmlbhfnogdiaa.Gr Go.Proofs.Ytjhmlbhfnogdiaa.Hg Go.Proofs.Ytjhmlbhfnogdiaa.Ps
set_option linter.unusedVariables false
attribute [local go_sem] Oper.semAt_some

theorem Ext.grownBy {w w' : World} (h : Ext w w') : w.grownBy w' none := ⟨h.os, h.tape, h.output, Below.size h, fun k hk _ => Below.block h k hk⟩

def Is (l : Nat) (m : Int) (ys : List Nat) : Prop := ys.map (fun x : Nat => (x : Int)) = ptrs l m

/-- What is asked of what the iterator keeps: the box of its head. -/
def Kp (n₀ B : Nat) (cs : Array Value) (W W' : World) : Prop := Below n₀ W W' ∧ (Blk W B cs 28 → Blk W' B cs 28)

set_option maxRecDepth 100000 in
set_option maxHeartbeats 4000000 in
/-- The closure, for every loop body that keeps what was there. -/
theorem ptr1 (n : Nat) (hn : 1 ≤ n) (ly Bs n₀ : Nat) (t m : Int) (l : Nat) (hl : l ≤ 16) (m0 : 0 ≤ m) (m1 : m ≤ 65535) (J Jx : List Nat → World → Prop)
    (hJ : ∀ s A B, J s A → Ext A B → J s B)
    (hY : ∀ pre x W, J pre W → pre.length < l → YieldAt Fence.wide (n - 1) Try.prog ly #[.int .i64 (x : Nat)] W fun e W' =>
      (e = .returned (.bool true) ∧ J (pre ++ [x]) W' ∧ Kp n₀ Bs #[.int .i64 t, .int .i64 l, .int .u64 m] W W') ∨ (e = .returned (.bool false) ∧ Jx (pre ++ [x]) W'))
    (W : World) (hB : Blk W Bs #[.int .i64 t, .int .i64 l, .int .u64 m] 28) (h0 : J [] W) :
    CallsIn Fence.wide n Try.prog 78 #[.func (.yield ly) #[] #[], .pointer (some ⟨Bs, 0, none⟩)] W fun e W' => (∃ v, e = .returned v) ∧
      ((∃ ys : List Nat, (ys.length ≤ l ∧ Is l m ys) ∧ J ys W') ∨ (∃ pre, True ∧ Jx pre W')) := by
  obtain ⟨p0, p1, p2, _, _, _⟩ := hB.three
  have hls : (l : Int) ≤ 16 := by omega
  have HP : Hid (∀ (i : Nat) (w : World), i < l → Calls Try.prog 72 #[.agg #[.int .i64 t, .int .i64 l, .int .u64 m], .int .i64 i] w fun e w' => e = .returned (.bool (bit m (i : Int))) ∧ Ext w w') := fun i w hi => pointer_in t l m i (by omega) (by omega) (by omega) m0 m1 w
  have HY := Lib.hid hY
  have HJ := Lib.hid hJ
  have HB := Lib.hid hB
  clear hY hJ hB m0 m1 hl
  refine callsIn_of_wp Try.func78 rfl trivial ?_ rfl
  simp only [Try.ntmps78, List.size_toArray, List.length_cons, List.length_nil, Nat.reduceAdd, Nat.reduceSub, Array.replicate_succ, Array.replicate_zero, List.push_toArray, List.append_toArray, List.nil_append, List.cons_append]
  gi_wp2
  clear p0 p1 p2
  gi_loopw [6] (fun i wr => ∃ (j : Nat) (pre : List Nat), i = .int .i64 j ∧ j ≤ l ∧ pre.length ≤ j ∧ Is j m pre ∧ J pre wr ∧ Blk wr Bs #[.int .i64 t, .int .i64 l, .int .u64 m] 28) (fun i _ => l - (intOf i).toNat)
  case atStart => exact ⟨0, [], rfl, Nat.zero_le _, Nat.le_refl _, (by rfl), h0, HB.out⟩
  case round =>
    obtain ⟨j, pre, rfl, hj, hpl, hpm, hJr, hBr⟩ := hrel
    obtain ⟨p0, p1, p2, _, _, _⟩ := hBr.three
    have HJr := Lib.hid hJr
    have HBr := Lib.hid hBr
    have HPM := Lib.hid hpm
    have HPL := Lib.hid hpl
    clear hJr hBr hpm hpl
    by_cases hlt : j < l
    · obtain ⟨b, hb⟩ : ∃ b, bit m (j : Int) = b := ⟨_, rfl⟩
      have HPj := Lib.hid (fun w => HP.out j w hlt)
      rw [hb] at HPj
      have hsucc : Is (j + 1) m (pre ++ if b = true then [j] else []) := by
        have h := HPM.out
        unfold Is at h ⊢
        rw [ptrs_succ, List.map_append, h, hb]
        cases b <;> rfl
      have HS := Lib.hid hsucc
      clear hsucc
      gi_wp2_with fail
      refine ⟨trivial, (callsIn_wide.2 (HPj.out _)).mono ?_⟩
      rintro e w1 ⟨rfl, hx⟩
      have HJ1 := Lib.hid (HJ.out _ _ _ HJr.out hx)
      have HB1 := Lib.hid (HBr.out.ext hx)
      have Hb := Lib.hid hb
      clear hx hb p0 p1 p2
      cases b with
      | false =>
        gi_wp2
        refine ⟨fun _ h => (by cases h), ?_⟩
        gi_wp2
        go_roundw
        case rel => exact ⟨j + 1, pre, by go_num, hlt, Nat.le_succ_of_le HPL.out, (by simpa using HS.out), HJ1.out, HB1.out⟩
        case measure => simp [intOf]; omega
      | true =>
        obtain ⟨fn, tmps, assign, body, hy, hR⟩ := HY.out pre j w1 HJ1.out (Nat.lt_of_le_of_lt HPL.out hlt)
        have HRd := Lib.hid hR
        clear hR
        gi_wp2
        refine HRd.out.mono ?_
        rintro e W3 (⟨rfl, hJ3, hk3⟩ | ⟨rfl, hJx3⟩)
        · gi_wp2
          go_roundw
          case rel => exact ⟨j + 1, pre ++ [j], by go_num, hlt, by have := HPL.out; simp; omega, (by simpa using HS.out), hJ3, hk3.2 HB1.out⟩
          case measure => simp [intOf]; omega
        · gi_wp2
          refine bodyPost_ret (results_none rfl _ _ _) rfl ?_
          exact ⟨⟨_, rfl⟩, .inr ⟨_, trivial, hJx3⟩⟩
    · obtain rfl : j = l := by omega
      gi_wp2
      go_end0
      exact ⟨⟨_, rfl⟩, .inl ⟨pre, ⟨HPL.out, HPM.out⟩, HJr.out⟩⟩

theorem pointers_in (n : Nat) (t l m : Int) (w : World) :
    CallsIn Fence.wide n Try.prog 67 #[.agg #[.int .i64 t, .int .i64 l, .int .u64 m]] w fun e w' => e = .returned (.func (.func 78) #[] #[.pointer (some ⟨w.heap.size, 0, none⟩)]) ∧ w' = w.alloc (.cells #[.int .i64 t, .int .i64 l, .int .u64 m] 28) := by
  refine callsIn_of_wp Try.func67 rfl trivial ?_ rfl
  simp only [Try.ntmps67, List.size_toArray, List.length_cons, List.length_nil, Nat.reduceAdd, Nat.reduceSub, Array.replicate_succ, Array.replicate_zero, List.push_toArray, List.append_toArray, List.nil_append, List.cons_append]
  gi_wp2
  go_ret
  exact ⟨rfl, rfl⟩

theorem ptr_stops (n : Nat) (hn : 1 ≤ n) (Bs n₀ : Nat) (t m : Int) (l : Nat) (hl : l ≤ 16) (m0 : 0 ≤ m) (m1 : m ≤ 65535) (w : World) (hB : Blk w Bs #[.int .i64 t, .int .i64 l, .int .u64 m] 28) :
    SeqStopsK Fence.wide n Try.prog 78 #[.pointer (some ⟨Bs, 0, none⟩)] (fun x : Nat => #[Value.int .i64 x]) (Kp n₀ Bs #[.int .i64 t, .int .i64 l, .int .u64 m]) (fun ys => ys.length ≤ l ∧ Is l m ys) (fun _ => True) l w := fun ly J Jx W hW hJ _ hY h0 =>
  ptr1 n hn ly Bs n₀ t m l hl m0 m1 J Jx (fun s A B h he => hJ s A B none h (Ext.grownBy he) (fun r e => by cases e)) hY W (hB.ext hW) h0

theorem Blk.not_row {W : World} {B : Nat} {t e : TypeId} {cs : Array Value} (h : Blk W B cs t) (hte : t ≠ e) {base size k : Nat} {v : Value} {xs : List Value} (hr : W.ownsRow base e size v k xs) : some B ≠ v.ownBlock := by
  rcases hr.2 with ⟨rfl, _⟩ | ⟨g, cap, cur, rfl, _, hgb, _⟩
  · simp [Value.ownBlock]
  · intro e'
    obtain rfl : B = g := by simpa [Value.ownBlock] using e'
    have := (show W.heap[B]? = _ from h).symm.trans hgb
    simp at this
    exact hte this.2

theorem kp_t {n₀ B : Nat} {cs : Array Value} {X Y Z : World} (h : Kp n₀ B cs X Y) (k : Kp n₀ B cs Y Z) : Kp n₀ B cs X Z := ⟨h.1.trans k.1, fun hb => k.2 (h.2 hb)⟩
theorem kp_b {n₀ B : Nat} {cs : Array Value} {w : World} (hn : n₀ ≤ w.heap.size) (W : World) (l : Nat) (o o' : Obj) (hl : w.heap.size ≤ l) (h : W.heap[l]? = some o) (hc : o.isCells = false) (hw : o.isWalk = false) : Kp n₀ B cs W (W.putObj l o') :=
  ⟨belowK_b hn W l o o' hl h hc hw, fun hb => hb.kept (grownBy_putObj' W l o') (fun e => by
    obtain rfl : B = l := by simpa using e
    rw [show W.heap[B]? = _ from hb] at h; cases h; cases hc)⟩
theorem kp_refl {n₀ B : Nat} {cs : Array Value} (W : World) : Kp n₀ B cs W W := ⟨Below.refl _ _, id⟩

theorem info_int : ∃ i, Try.prog.info? 3 = some i ∧ i.zero = some (.int .i64 0) ∧ i.size = 1 ∧ i.bytes = 8 := by
  have h : (Try.prog.info? 3).map (fun i => (i.zero, i.size, i.bytes)) = some (some (.int .i64 0), 1, 8) := by kernel_rfl
  obtain ⟨i, hi, h0, h1, h2⟩ := info_parts h
  exact ⟨i, hi, h0, h1, h2⟩

set_option maxRecDepth 100000 in
set_option maxHeartbeats 4000000 in
theorem ptrs_in (n : Nat) (hn : 3 ≤ n) (t m : Int) (l : Nat) (hl : l ≤ 16) (m0 : 0 ≤ m) (m1 : m ≤ 65535) (w : World) :
    CallsIn Fence.wide n Try.prog 29 #[.agg #[.int .i64 t, .int .i64 l, .int .u64 m]] w fun e W' => ∃ (o : Value) (ys : List Nat), e = .returned o ∧ W'.ownsRow w.heap.size 3 1 o ys.length (ys.map fun x : Nat => Value.int .i64 x) ∧ (ys.length ≤ l ∧ Is l m ys) ∧ Below w.heap.size w W' := by
  have h1 : 1 ≤ n := by omega
  obtain ⟨i0, hi, hz0, hz1, hz2⟩ := info_int
  refine callsIn_of_wp_marks Try.func29 rfl trivial ?_ rfl
  simp only [Try.ntmps29, List.size_toArray, List.length_cons, List.length_nil, Nat.reduceAdd, Nat.reduceSub, Array.replicate_succ, Array.replicate_zero, List.push_toArray, List.append_toArray, List.nil_append, List.cons_append]
  have h21 : Fence.wide.fn 67 := trivial
  gi_wp2_with (gi_at_call 67; refine (pointers_in (n - 1) _ _ _ _).mono ?_; rintro e w' ⟨rfl, rfl⟩)
  have bO := Boxed.new (w.alloc (.cells #[.int .i64 t, .int .i64 l, .int .u64 m] 28)) 42 (.slice none 0 0)
  have bN := Blk.new ((w.alloc (.cells #[.int .i64 t, .int .i64 l, .int .u64 m] 28)).alloc (.cells #[.slice none 0 0] 42)) #[.int .i64 t, .int .i64 l, .int .u64 m] 28
  simp only [World.size_alloc] at bO bN
  have hB0 : Below w.heap.size w (((w.alloc (.cells #[.int .i64 t, .int .i64 l, .int .u64 m] 28)).alloc (.cells #[.slice none 0 0] 42)).alloc (.cells #[.int .i64 t, .int .i64 l, .int .u64 m] 28)) := (((Ext.refl w).alloc _).alloc _).alloc _
  refine wpIn_rangeFunc_ownG rfl h1 (gf := 78) (lb := #[.pointer (some ⟨w.heap.size + 1 + 1, 0, none⟩)]) rfl trivial (enters_of Try.func78 (by kernel_rfl) rfl)
    (ptr_stops (n - 1) (by omega) (w.heap.size + 1 + 1) w.heap.size t m l hl m0 m1 _ bN) kp_t (kp_b (by simp; omega)) (Below.refl _ _) (fun _ => rfl)
    (fun pre W => (∃ v, Boxed W (w.heap.size + 1) 42 v ∧ W.ownsRow w.heap.size 3 1 v pre.length (pre.map fun x : Nat => Value.int .i64 x) ∧ True) ∧ Below w.heap.size w W)
    (fun _ _ _ => False)
    (OwnFrom.and (Own.from (holdsRow_own w.heap.size (w.heap.size + 1) 42 3 1 (fun pre : List Nat => pre.length) (fun pre => pre.map fun x : Nat => Value.int .i64 x) (fun _ _ => True)) _) (ownFrom_below (Nat.le_refl _) (by simp; omega)))
    (fun _ _ _ _ _ hs _ _ => hs)
    ⟨⟨_, bO.alloc _, World.ownsRow_nil _ _ _ _, trivial⟩, hB0⟩
    (fun x => { tmps := #[.agg #[.int .i64 t, .int .i64 l, .int .u64 m], .pointer (some ⟨w.heap.size, 0, none⟩), .slice none 0 0, .pointer (some ⟨w.heap.size + 1, 0, none⟩), .int .i64 x, .agg #[.int .i64 t, .int .i64 l, .int .u64 m], .func (.func 78) #[] #[.pointer (some ⟨w.heap.size + 1 + 1, 0, none⟩)], .int .i64 x, undef, undef, undef, undef, undef], defers := [] }) ?assign ?body ?done ?stop
  case assign =>
    intro l x W K hK
    gi_wp2
    exact hK
  case body =>
    rintro ly pre x W ⟨⟨v, hv, hrow, _⟩, hB⟩ hlt
    have hc := hv.cell
    gi_wp2_with (gi_at_builtin; refine wpListIn_append_own _ rfl _ _ 42 rfl w.heap.size 3 i0 (.int .i64 0) 1 8 Try.underlying42 hi hz0 hz1 hz2 rfl (by decide) _ _ _ rfl (hrow.alloc _) ⟨W.heap.size, 0, none⟩ 1 1 [.int .i64 x] rfl rfl (cell_one_new _ _ _) (by simp [Value.oneCell']) (by unfold maxLen; omega) (by omega) (by have := hB.size; simp; omega) ?_; intro v' w2 hown' hgrow _; obtain ⟨g', cap', rfl⟩ := ownsRow_succ hown'; obtain ⟨hv1, hv2, hr2, hk2, hb2⟩ := hv.appended (by decide) hrow hB.size (by omega) hown' hgrow; have hc1 := hv1.cell; have hf1 := hv1.frozen; have hblk : Hid (Blk W (w.heap.size + 1 + 1) #[.int .i64 t, .int .i64 l, .int .u64 m] 28 → Blk (w2.setCell ⟨w.heap.size + 1, 0, none⟩ (.slice (some ⟨g', 0, none⟩) (pre.length + 1) cap')) (w.heap.size + 1 + 1) #[.int .i64 t, .int .i64 l, .int .u64 m] 28) := (fun hb => ((hb.alloc _).kept hgrow (Blk.not_row hb (by decide) hrow)).other (p := ⟨w.heap.size + 1, 0, none⟩) (by simp) _))
    refine ⟨hk2.from _, ⟨hb2, hblk.out⟩, ⟨_, hv2, by simpa using hr2, trivial⟩, hB.trans hb2⟩
  case done =>
    rintro D ys W hD hS ⟨⟨v, hv, hrow, _⟩, hB⟩ hK
    have hc := hv.cell
    gi_wp2
    refine ⟨by simp, .inl ⟨_, _, rfl, run_takeDeferred hK, ?_⟩⟩
    exact ⟨_, results_tmp rfl _ _ _, v, ys, rfl, ownsRow_putObj hrow _ hK rfl, hS, hB.trans (belowK_b (w := w) (Nat.le_refl _) W D _ _ (by simp at hD; omega) hK rfl rfl)⟩
  case stop =>
    rintro D c pre W _ _ h _
    exact h.elim

/-- Pointers, with no fence. -/
theorem ptrs_any (t m : Int) (l : Nat) (hl : l ≤ 16) (m0 : 0 ≤ m) (m1 : m ≤ 65535) (w : World) :
    Calls Try.prog 29 #[.agg #[.int .i64 t, .int .i64 l, .int .u64 m]] w fun e w' => ∃ o, e = .returned o ∧ Sl .i64 w' o (ptrs l m) ∧ Ext w w' := by
  refine ((callsIn_wide (n := 3)).1 (ptrs_in 3 (by omega) t m l hl m0 m1 w)).mono ?_
  rintro e w' ⟨o, ys, rfl, ho, hy, hx⟩
  refine ⟨o, rfl, ?_, hx⟩
  have h := Row.of_own (b := 8) ho (by omega) (by omega)
  rw [← hy.2]
  unfold Sl
  simpa [List.map_map, Function.comp_def] using h
end Go.Proofs.Ytjhmlbhfnogdiaa.Hq
