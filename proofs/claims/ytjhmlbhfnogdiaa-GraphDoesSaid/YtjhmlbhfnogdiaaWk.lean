/- What is done on a graph, as plain lists: the model; and the graph that goes on, in memory: refusing, a handle, a field. -/
import Derived.Test.YtjhmlbhfnogdiaaSm
import Derived.Test.YtjhmlbhfnogdiaaWi
namespace Go.Proofs.Ytjhmlbhfnogdiaa.Wk
open Go.RowKit
open Go.Proofs.Ytjhmlbhfnogdiaa Go.Proofs.Ytjhmlbhfnogdiaa.Hd Go.Proofs.Ytjhmlbhfnogdiaa.Gr Go.Proofs.Ytjhmlbhfnogdiaa.Hg Go.Proofs.Ytjhmlbhfnogdiaa.Ps Go.Proofs.Ytjhmlbhfnogdiaa.Rr
set_option linter.unusedVariables false

structure Opn where
  kind : Int
  h : Int
  i : Int
  k : Int
  v : Int
  new : Hd
abbrev Ans := Int × Int × Bool

def rowOf (g : Gph) (th : Nat) : List Int := g.2.getD th []
def handle (g : Gph) (th : Nat) (h : Int) : Option Int := if 0 ≤ h ∧ h < (rowOf g th).length then some ((rowOf g th).getD h.toNat 0) else none
def node (g : Gph) (n : Nat) : Nd := g.1.getD n nd0
/-- The place of a node whose field is there, and a pointer, or none; or why not. -/
def field (g : Gph) (th : Nat) (o : Opn) (p : Bool) : Except Int Nat :=
  match handle g th o.h with
  | none => .error 5
  | some n => if n = 0 then .error 6 else if o.i < 0 ∨ (node g (n - 1).toNat).1.2.1 ≤ o.i then .error 7 else if bit (node g (n - 1).toNat).1.2.2 o.i ≠ p then .error 8 else .ok (n - 1).toNat

def wcells (nv sv : Value) (th : Int) (o : Opn) (a : Ans) : Array Value :=
  #[nv, sv, .int .i64 th, .int .i64 o.kind, .int .i64 o.h, .int .i64 o.i, .int .i64 o.k, .int .u64 o.v, .int .i64 o.new.1, .int .i64 o.new.2.1, .int .u64 o.new.2.2, .int .i64 a.1, .int .u64 a.2.1, .bool a.2.2]
/-- Block B is the graph that goes on. -/
def Wk (B : Nat) (w : World) (g : Gph) (th : Int) (o : Opn) (a : Ans) : Prop :=
  ∃ na nc sa sc, Blk w B (wcells (.slice na g.1.length nc) (.slice sa g.2.length sc) th o a) 61 ∧ GrS B w (.slice na g.1.length nc) (.slice sa g.2.length sc) g
theorem Wk.ext {B : Nat} {w w' : World} {g : Gph} {th : Int} {o : Opn} {a : Ans} (h : Wk B w g th o a) (he : Ext w w') : Wk B w' g th o a := by
  obtain ⟨na, nc, sa, sc, hb, hs⟩ := h
  exact ⟨na, nc, sa, sc, hb.ext he, hs.ext he⟩
/-- Behind a step: the graph that goes on, and all else as it was. -/
def Pw (B : Nat) (w : World) (g : Gph) (th : Int) (o : Opn) (a : Ans) (w' : World) : Prop := Wk B w' g th o a ∧ w.grownBy w' (some B)
theorem Pw.trans {B : Nat} {w w1 w2 : World} {g g' : Gph} {th : Int} {o : Opn} {a a' : Ans} (h : w.grownBy w1 (some B)) (k : Pw B w1 g' th o a' w2) : Pw B w g' th o a' w2 := ⟨k.1, h.trans k.2⟩
theorem Pw.of_ext {B : Nat} {w w' : World} {g : Gph} {th : Int} {o : Opn} {a : Ans} (h : Wk B w g th o a) (he : Ext w w') : Pw B w g th o a w' := ⟨h.ext he, grown_of_ext he _⟩

theorem no_any (B : Nat) (g : Gph) (th : Int) (o : Opn) (a : Ans) (e : Int) (w : World) (h : Wk B w g th o a) :
    Calls Try.prog 62 #[.pointer (some ⟨B, 0, none⟩), .int .i64 e] w fun r w' => r = .returned (.bool false) ∧ Pw B w g th o (e, 0, false) w' := by
  obtain ⟨na, nc, sa, sc, hb, hs⟩ := h
  have c0 : w.cell? ⟨B, 11, none⟩ = some (.int .i64 a.1) := hb.cell (i := 11) rfl
  have c1 : w.cell? ⟨B, 12, none⟩ = some (.int .u64 a.2.1) := hb.cell (i := 12) rfl
  have c2 : w.cell? ⟨B, 13, none⟩ = some (.bool a.2.2) := hb.cell (i := 13) rfl
  have f0 := hb.free 11
  have f1 := hb.free 12
  have f2 := hb.free 13
  have hg : w.grownBy (((w.setCell ⟨B, 11, none⟩ (.int .i64 e)).setCell ⟨B, 12, none⟩ (.int .u64 0)).setCell ⟨B, 13, none⟩ (.bool false)) (some B) := ((grown_set _ _ _ _).trans (grown_set _ _ _ _)).trans (grown_set _ _ _ _)
  have HF : Hid (Pw B w g th o (e, 0, false) (((w.setCell ⟨B, 11, none⟩ (.int .i64 e)).setCell ⟨B, 12, none⟩ (.int .u64 0)).setCell ⟨B, 13, none⟩ (.bool false))) :=
    ⟨⟨na, nc, sa, sc, ((hb.set 11 _).set 12 _).set 13 _, hs.step hg⟩, hg⟩
  clear hb hs hg
  go_enter Try.func62, Try.ntmps62
  go_wp2_with fail
  go_ret
  exact ⟨rfl, HF.out⟩

theorem handle_some {g : Gph} {th : Nat} {h x : Int} (hh : handle g th h = some x) : 0 ≤ h ∧ h < (rowOf g th).length ∧ (rowOf g th).getD h.toNat 0 = x := by
  unfold handle at hh
  split at hh
  · rename_i hc; exact ⟨hc.1, hc.2, by simpa using hh⟩
  · cases hh
theorem handle_none {g : Gph} {th : Nat} {h : Int} (hh : handle g th h = none) : h < 0 ∨ (rowOf g th).length ≤ h := by
  unfold handle at hh
  split at hh
  · cases hh
  · omega

set_option maxHeartbeats 4000000 in
theorem handle_any (B : Nat) (g : Gph) (th : Nat) (o : Opn) (a : Ans) (h : Int) (w : World) (hW : Wk B w g th o a) (hth : th < g.2.length) :
    Calls Try.prog 57 #[.pointer (some ⟨B, 0, none⟩), .int .i64 h] w fun r w' =>
      (∃ x, handle g th h = some x ∧ r = .returned (.tuple #[.int .i64 x, .bool true]) ∧ Pw B w g th o a w') ∨ (handle g th h = none ∧ r = .returned (.tuple #[.int .i64 0, .bool false]) ∧ Pw B w g th o (5, 0, false) w') := by
  have HW := Lib.hid hW
  obtain ⟨na, nc, sa, sc, hb, hs⟩ := hW
  have c1 : w.cell? ⟨B, 1, none⟩ = some (.slice sa g.2.length sc) := hb.cell (i := 1) rfl
  have c2 : w.cell? ⟨B, 2, none⟩ = some (.int .i64 th) := hb.cell (i := 2) rfl
  have hgr := hs.here
  have mlen := hgr.2.len uS
  have msm := hgr.2.small
  obtain ⟨p, u, hp, hpc, hu⟩ := hgr.2.at_ uS szS (i := th) (by omega) (by omega)
  have e1 : (th : Int).toNat = th := by simp
  rw [e1] at hu
  have hu : Sl .i64 w u (rowOf g th) := hu
  obtain ⟨ua, uc, rfl⟩ := Row.form hu
  obtain ⟨rl, hrl⟩ : ∃ rl, (rowOf g th).length = rl := ⟨_, rfl⟩
  have HRL := Lib.hid hrl
  have husm := hu.small
  cases hh : handle g th h with
  | some x =>
    obtain ⟨h0, h1, h2⟩ := handle_some hh
    obtain ⟨pv, hpv, hpvc⟩ := hu.at_ uI szI (i := h) h0 h1
    rw [h2] at hpvc
    rw [hrl] at hpv h1 husm hpc
    have d1 : decide (h < 0) = false := decide_eq_false (by omega)
    have d2 : decide ((rl : Int) ≤ h) = false := decide_eq_false (by omega)
    clear hb hs hgr hu hh e1 h2 hrl
    go_enter Try.func57, Try.ntmps57
    go_wp2_with fail
    go_quiet (fail)
    go_wp2_with fail
    go_ret2
    exact .inl ⟨x, rfl, rfl, Pw.of_ext HW.out ((Ext.refl w).drewN _)⟩
  | none =>
    have hc := handle_none hh
    rw [hrl] at husm hpc hc
    by_cases h0 : h < 0
    · have d1 : decide (h < 0) = true := decide_eq_true h0
      clear hb hs hgr hu hh e1 hrl hc
      go_enter Try.func57, Try.ntmps57
      go_wp2_with fail
      go_quiet (fail)
      go_wp2_with fail
      refine (no_any B g th o a 5 _ (HW.out.ext ((Ext.refl w).drewN _))).mono ?_; rintro e w1 ⟨rfl, hp1⟩
      have HP := Lib.hid (Pw.trans (g := g) (a := a) (grown_of_ext ((Ext.refl w).drewN _) _) hp1)
      clear hp1
      go_wp2_with fail
      go_ret2
      exact .inr ⟨by first | rfl | trivial, rfl, HP.out⟩
    · have d1 : decide (h < 0) = false := decide_eq_false h0
      have d2 : decide ((rl : Int) ≤ h) = true := decide_eq_true (by omega)
      clear hb hs hgr hu hh e1 hrl hc
      go_enter Try.func57, Try.ntmps57
      go_wp2_with fail
      go_quiet (fail)
      go_wp2_with fail
      refine (no_any B g th o a 5 _ (HW.out.ext ((Ext.refl w).drewN _))).mono ?_; rintro e w1 ⟨rfl, hp1⟩
      have HP := Lib.hid (Pw.trans (g := g) (a := a) (grown_of_ext ((Ext.refl w).drewN _) _) hp1)
      clear hp1
      go_wp2_with fail
      go_ret2
      exact .inr ⟨by first | rfl | trivial, rfl, HP.out⟩

theorem right_node {g : Gph} (hr : rightG g = true) {n : Nat} (hn : n < g.1.length) : rightE (node g n).1.1 (node g n).1.2.1 (node g n).1.2.2 = 0 ∧ (node g n).1.1 ≠ 255 ∧ ((node g n).2.length : Int) = (node g n).1.2.1 ∧ okP g.1.length (node g n) = true := by
  unfold rightG at hr
  rw [Bool.and_eq_true] at hr
  have h := (all_getD nd0).1 hr.1 n hn
  unfold okN at h
  simp only [Bool.and_eq_true, beq_iff_eq, bne_iff_ne] at h
  exact ⟨h.1.1.1, h.1.1.2, h.1.2, h.2⟩
theorem pos_node {g : Gph} (hp : posG g) {n : Nat} (hn : n < g.1.length) : 0 ≤ (node g n).1.2.2 ∧ ∀ x ∈ (node g n).2, 0 ≤ x := hp _ (by
  unfold node
  simp [List.getD_eq_getElem?_getD, hn])
theorem right_head {g : Gph} (hr : rightG g = true) (hp : posG g) {n : Nat} (hn : n < g.1.length) : 0 ≤ (node g n).1.2.1 ∧ (node g n).1.2.1 ≤ 16 ∧ 0 ≤ (node g n).1.2.2 ∧ (node g n).1.2.2 ≤ 65535 := by
  obtain ⟨h1, h2, h3, _⟩ := right_node hr hn
  have h4 := (pos_node hp hn).1
  obtain ⟨_, _, h5, _, h6, h7⟩ := right_zero h1 h4
  exact ⟨h5, (h7 h2).2, h4, h6⟩
theorem right_row {g : Gph} (hr : rightG g = true) {th : Nat} (hth : th < g.2.length) {x : Int} (hx : x ∈ rowOf g th) : 0 ≤ x ∧ x ≤ g.1.length := by
  unfold rightG at hr
  rw [Bool.and_eq_true] at hr
  have h := List.all_eq_true.1 ((all_getD []).1 hr.2 th hth) x hx
  unfold okH at h
  simpa using h
theorem right_handle {g : Gph} (hr : rightG g = true) {th : Nat} (hth : th < g.2.length) {h x : Int} (hh : handle g th h = some x) : 0 ≤ x ∧ x ≤ g.1.length := by
  obtain ⟨h0, h1, h2⟩ := handle_some hh
  refine right_row hr hth ?_
  rw [← h2]
  have hlt : h.toNat < (rowOf g th).length := by omega
  simp [List.getD_eq_getElem?_getD, hlt]
theorem field_ok {g : Gph} {th : Nat} {o : Opn} {p : Bool} {n : Nat} (hr : rightG g = true) (hth : th < g.2.length) (hf : field g th o p = .ok n) :
    handle g th o.h = some ((n : Int) + 1) ∧ n < g.1.length ∧ 0 ≤ o.i ∧ o.i < (node g n).1.2.1 ∧ bit (node g n).1.2.2 o.i = p := by
  unfold field at hf
  split at hf
  · cases hf
  · rename_i x hx
    have hb := right_handle hr hth hx
    split at hf
    · cases hf
    · split at hf
      · cases hf
      · split at hf
        · cases hf
        · rename_i h1 h2 h3
          have e : (x - 1).toNat = n := by simpa using hf
          rw [e] at h2 h3
          refine ⟨by rw [hx]; congr 1; omega, by omega, by omega, by omega, ?_⟩
          exact Decidable.not_not.1 h3

set_option maxHeartbeats 8000000 in
theorem field_any (B : Nat) (g : Gph) (th : Nat) (o : Opn) (a : Ans) (p : Bool) (w : World) (hW : Wk B w g th o a) (hth : th < g.2.length) (hr : rightG g = true) (hp : posG g) :
    Calls Try.prog 52 #[.pointer (some ⟨B, 0, none⟩), .bool p] w fun r w' =>
      (∃ n : Nat, field g th o p = .ok n ∧ r = .returned (.tuple #[.int .i64 n, .bool true]) ∧ Pw B w g th o a w') ∨ (∃ e, field g th o p = .error e ∧ r = .returned (.tuple #[.int .i64 0, .bool false]) ∧ Pw B w g th o (e, 0, false) w') := by
  have HW := Lib.hid hW
  have HH := Lib.hid (handle_any B g th o a o.h w hW hth)
  have hf0 := @right_handle g hr th hth o.h
  have hE5 : handle g th o.h = none → field g th o p = .error 5 := fun h => by unfold field; rw [h]
  have hE6 : handle g th o.h = some 0 → field g th o p = .error 6 := fun h => by unfold field; rw [h]; rfl
  obtain ⟨na, nc, sa, sc, hb, hs⟩ := hW
  have c4 : w.cell? ⟨B, 4, none⟩ = some (.int .i64 o.h) := hb.cell (i := 4) rfl
  clear hb hs
  go_enter Try.func52, Try.ntmps52
  go_wp2_with fail
  refine HH.out.mono ?_
  rintro e w1 (⟨x, hx, rfl, hp1⟩ | ⟨hn, rfl, hp1⟩)
  · have hb0 := hf0 hx
    have HX := Lib.hid hx
    by_cases hz : x = 0
    · subst hz
      have HE := Lib.hid (hE6 hx)
      obtain ⟨hW', hgr⟩ := hp1
      have HGR := Lib.hid hgr
      clear hE5 hE6 hf0 hb0 hgr hx
      have HP0 := Lib.hid hW'
      clear hW'
      go_wp2_with fail
      refine (no_any B g th o a _ _ HP0.out).mono ?_; rintro e w2 ⟨rfl, hp2⟩
      have HP := Lib.hid (Pw.trans (g := g) (a := a) HGR.out hp2)
      clear hp2
      go_wp2_with fail
      go_ret2
      exact .inr ⟨_, HE.out, rfl, HP.out⟩
    · obtain ⟨j, rfl⟩ : ∃ j : Nat, x = (j : Int) + 1 := ⟨(x - 1).toNat, by omega⟩
      have hj : j < g.1.length := by omega
      obtain ⟨l0, l1, m0, m1⟩ := right_head hr hp hj
      have hFld : field g th o p = if o.i < 0 ∨ (node g j).1.2.1 ≤ o.i then .error 7 else if bit (node g j).1.2.2 o.i ≠ p then .error 8 else .ok j := by
        unfold field
        rw [hx]
        simp only [if_neg hz, show ((j : Int) + 1 - 1).toNat = j by omega]
      obtain ⟨hW1, hgr⟩ := hp1
      have HW1 := Lib.hid hW1
      obtain ⟨na, nc, sa, sc, hb, hs⟩ := hW1
      have c0 : w1.cell? ⟨B, 0, none⟩ = some (.slice na g.1.length nc) := hb.cell (i := 0) rfl
      have c5 : w1.cell? ⟨B, 5, none⟩ = some (.int .i64 o.i) := hb.cell (i := 5) rfl
      have hnl := hs.here.1.len
      have hsm := hs.here.1.small
      obtain ⟨b1, o1, s1, u, hix, e0, e1, e2, _, _⟩ := hs.here.1.at_ j hj
      replace e0 : w1.cell? ⟨b1, o1, s1⟩ = some (.int .i64 (node g j).1.1) := e0
      replace e1 : w1.cell? ⟨b1, o1 + 1, none⟩ = some (.int .i64 (node g j).1.2.1) := e1
      replace e2 : w1.cell? ⟨b1, o1 + 2, none⟩ = some (.int .u64 (node g j).1.2.2) := e2
      have hw1 : IntKind.i64.wrap ((j : Int) + 1 - 1) = (j : Int) := by rw [IntKind.wrap_i64]; omega
      have hz' : ((j : Int) + 1 == 0) = false := beq_eq_false_iff_ne.2 hz
      obtain ⟨wB, hwB⟩ : ∃ wB, wB = w1.alloc (.cells #[.int .i64 (node g j).1.1, .int .i64 (node g j).1.2.1, .int .u64 (node g j).1.2.2] 28) := ⟨_, rfl⟩
      have hxB : Ext w1 wB := hwB ▸ (Ext.refl w1).alloc _
      have hbB : Blk wB w1.heap.size #[.int .i64 (node g j).1.1, .int .i64 (node g j).1.2.1, .int .u64 (node g j).1.2.2] 28 := hwB ▸ Blk.new w1 _ _
      have d0 : wB.cell? ⟨w1.heap.size, 0, none⟩ = some (.int .i64 (node g j).1.1) := hbB.cell (i := 0) rfl
      have d1 : wB.cell? ⟨w1.heap.size, 1, none⟩ = some (.int .i64 (node g j).1.2.1) := hbB.cell (i := 1) rfl
      have d2 : wB.cell? ⟨w1.heap.size, 2, none⟩ = some (.int .u64 (node g j).1.2.2) := hbB.cell (i := 2) rfl
      have hPt := Hg.pointer_in (node g j).1.1 (node g j).1.2.1 (node g j).1.2.2 o.i
      generalize node g j = nd at *
      obtain ⟨⟨t, l, m⟩, f⟩ := nd
      dsimp only at *
      have HWB := Lib.hid (HW1.out.ext hxB)
      have HGB := Lib.hid (hgr.trans (grown_of_ext hxB (some B)))
      replace c5 := hxB.cell c5
      have c5' : wB.cell? ⟨B, 5, none⟩ = some (.int .i64 o.i) := c5
      have HFL := Lib.hid hFld
      clear hE5 hE6 hf0 hb0 hb hs hbB hgr hFld hx hz
      by_cases h1 : o.i < 0
      · have HE : Hid (field g th o p = .error 7) := by show _ = _; rw [HFL.out, if_pos (.inl h1)]
        have k1 : decide (o.i < 0) = true := decide_eq_true h1
        clear h1 hPt
        go_wp2_with fail
        rw [← hwB]
        clear hwB
        go_quiet (fail)
        go_wp2_with fail
        refine (no_any B g th o a 7 _ (HWB.out.ext ((Ext.refl wB).drewN _))).mono ?_; rintro e w2 ⟨rfl, hp2⟩
        have HP := Lib.hid (Pw.trans (g := g) (a := a) (HGB.out.trans (grown_of_ext ((Ext.refl wB).drewN _) _)) hp2)
        clear hp2
        go_wp2_with fail
        go_ret2
        exact .inr ⟨_, HE.out, rfl, HP.out⟩
      by_cases h2 : l ≤ o.i
      · have HE : Hid (field g th o p = .error 7) := by show _ = _; rw [HFL.out, if_pos (.inr h2)]
        have k1 : decide (o.i < 0) = false := decide_eq_false h1
        have k2 : decide (l ≤ o.i) = true := decide_eq_true h2
        clear h1 h2 hPt
        go_wp2_with fail
        rw [← hwB]
        clear hwB
        go_quiet (fail)
        go_wp2_with fail
        refine (no_any B g th o a 7 _ (HWB.out.ext ((Ext.refl wB).drewN _))).mono ?_; rintro e w2 ⟨rfl, hp2⟩
        have HP := Lib.hid (Pw.trans (g := g) (a := a) (HGB.out.trans (grown_of_ext ((Ext.refl wB).drewN _) _)) hp2)
        clear hp2
        go_wp2_with fail
        go_ret2
        exact .inr ⟨_, HE.out, rfl, HP.out⟩
      have k1 : decide (o.i < 0) = false := decide_eq_false h1
      have k2 : decide (l ≤ o.i) = false := decide_eq_false h2
      have HC := Lib.hid (fun W => hPt (by omega) (by omega) (by omega) m0 m1 W)
      have hFL2 : field g th o p = if bit m o.i ≠ p then .error 8 else .ok j := by rw [HFL.out, if_neg (by omega)]
      obtain ⟨bb, hbb⟩ : ∃ bb, bit m o.i = bb := ⟨_, rfl⟩
      rw [hbb] at HC hFL2
      have q5 : ∀ W, Ext wB W → W.cell? ⟨B, 5, none⟩ = some (.int .i64 o.i) := fun W h => h.cell c5
      have q0 : ∀ W, Ext wB W → W.cell? ⟨w1.heap.size, 0, none⟩ = some (.int .i64 t) := fun W h => h.cell d0
      have q1 : ∀ W, Ext wB W → W.cell? ⟨w1.heap.size, 1, none⟩ = some (.int .i64 l) := fun W h => h.cell d1
      have q2 : ∀ W, Ext wB W → W.cell? ⟨w1.heap.size, 2, none⟩ = some (.int .u64 m) := fun W h => h.cell d2
      by_cases hbp : bb = p
      case neg =>
        have HE : Hid (field g th o p = .error 8) := by show _ = _; rw [hFL2, if_pos hbp]
        clear h1 h2 hPt hFL2 hbb HFL
        cases bb <;> cases p <;> first | exact absurd rfl hbp | clear hbp
        all_goals
          go_wp2_with fail
          rw [← hwB]
          clear hwB
          go_quiet (fail)
          go_wp2_with fail
          go_region_held3 (fun W : World => Ext wB W) (first | exact ((Ext.refl wB).drewN _).drew | assumption | exact Ext.trans (by assumption) hxw) ((go_at_call 72; (with_reducible refine (HC.out _).mono ?_); rintro e wq ⟨rfl, hxw⟩))
          all_goals
            have hq : Ext wB wq := by assumption
            have HQ := Lib.hid hq
            clear q5 q0 q1 q2 hxw hq
            go_wp2_with fail
            refine (no_any B g th o a 8 _ (HWB.out.ext HQ.out)).mono ?_; rintro e w2 ⟨rfl, hp2⟩
            have HP := Lib.hid (Pw.trans (g := g) (a := a) (HGB.out.trans (grown_of_ext HQ.out _)) hp2)
            clear hp2
            go_wp2_with fail
            go_ret2
            exact .inr ⟨_, HE.out, rfl, HP.out⟩
      case pos =>
        have HE : Hid (field g th o p = .ok j) := by show _ = _; rw [hFL2, if_neg (by simpa using hbp)]
        clear h1 h2 hPt hFL2 hbb HFL
        subst hbp
        cases bb
        all_goals
          go_wp2_with fail
          rw [← hwB]
          clear hwB
          go_quiet (fail)
          go_wp2_with fail
          go_region_held3 (fun W : World => Ext wB W) (first | exact ((Ext.refl wB).drewN _).drew | assumption | exact Ext.trans (by assumption) hxw) ((go_at_call 72; (with_reducible refine (HC.out _).mono ?_); rintro e wq ⟨rfl, hxw⟩))
          all_goals
            have hq : Ext wB wq := by assumption
            have HQ := Lib.hid hq
            clear q5 q0 q1 q2 hxw hq
            go_wp2_with fail
            go_ret2
            exact .inl ⟨j, HE.out, rfl, ⟨HWB.out.ext HQ.out, HGB.out.trans (grown_of_ext HQ.out _)⟩⟩
  · have HE := Lib.hid (hE5 hn)
    have HP := Lib.hid hp1
    clear hp1 hE5 hE6 hf0
    go_wp2_with fail
    go_ret2
    exact .inr ⟨_, HE.out, rfl, HP.out⟩
end Go.Proofs.Ytjhmlbhfnogdiaa.Wk
