/- The reference's handle, field and no. -/
import Derived.Test.YtjhmlbhfnogdiaaOp
namespace Go.Proofs.Ytjhmlbhfnogdiaa.Dh
open Go.RowKit
open Go.Proofs.Ytjhmlbhfnogdiaa Go.Proofs.Ytjhmlbhfnogdiaa.Hd Go.Proofs.Ytjhmlbhfnogdiaa.Gr Go.Proofs.Ytjhmlbhfnogdiaa.Hg Go.Proofs.Ytjhmlbhfnogdiaa.Rr Go.Proofs.Ytjhmlbhfnogdiaa.Wk Go.Proofs.Ytjhmlbhfnogdiaa.Wf
set_option linter.unusedVariables false

def rh (g : Gph) (th : Nat) (h : Int) : Int × Int := match handle g th h with
  | some x => (x, 0)
  | none => (0, 5)

theorem rhandle_any (a b : Value) (g : Gph) (th : Nat) (h : Int) (w : World) (hG : Gr w a b g) (hth : th < g.2.length) :
    Calls Try.prog 42 #[.agg #[a, b], .int .i64 th, .int .i64 h] w fun e w' => e = .returned (.tuple #[.int .i64 (rh g th h).1, .int .i64 (rh g th h).2]) ∧ Ext w w' := by
  obtain ⟨a0, c0, rfl⟩ := hG.1.form
  obtain ⟨b0, d0, rfl⟩ := Gr.Ma.form hG.2
  obtain ⟨p, u, hix, hcp, hsl⟩ := Ma.at_ uS szS hG.2 (i := (th : Int)) (by omega) (by omega)
  have e1 : (th : Int).toNat = th := by simp
  rw [e1] at hsl
  obtain ⟨rp, qp, rfl⟩ := Row.form hsl
  have hlp := fun ty W => Sl.len (P := Try.prog) uI hsl ty W
  have hrow : g.2.getD th [] = rowOf g th := rfl
  obtain ⟨wA, hwA⟩ : ∃ wX, wX = w.alloc (.cells #[.slice a0 g.1.length c0, .slice b0 g.2.length d0] 25) := ⟨_, rfl⟩
  have hxA : Ext w wA := hwA ▸ (Ext.refl w).alloc _
  have hcA := hxA.cell hcp
  unfold rh
  by_cases h0 : h < 0
  · have hh : handle g th h = none := by unfold handle; rw [if_neg (by omega)]
    rw [hh]
    clear hsl hwA hcA hxA hrow
    go_enter Try.func42, Try.ntmps42
    go_wp2_with fail
    go_ret2
    exact ⟨rfl, (Ext.refl w).alloc _⟩
  by_cases h1 : ((g.2.getD th []).length : Int) ≤ h
  · have hh : handle g th h = none := by unfold handle; rw [if_neg (by rw [← hrow]; omega)]
    rw [hh]
    generalize (g.2.getD th []).length = n at *
    have d1 : decide ((n : Int) ≤ h) = true := decide_eq_true h1
    rw [hwA] at hcA
    clear hsl hxA hrow hwA
    go_enter Try.func42, Try.ntmps42
    go_wp2_with fail
    go_ret2
    exact ⟨rfl, (Ext.refl w).alloc _⟩
  · have hh : handle g th h = some ((rowOf g th).getD h.toNat 0) := by unfold handle; rw [if_pos (by rw [← hrow]; omega)]
    rw [hh]
    obtain ⟨p2, hix2, hc2⟩ := Sl.at_ uI szI hsl (i := h) (by omega) (by omega)
    rw [hrow] at hc2
    generalize (rowOf g th).getD h.toNat 0 = x at *
    have hc2A := hxA.cell hc2
    generalize (g.2.getD th []).length = n at *
    have d1 : decide ((n : Int) ≤ h) = false := decide_eq_false h1
    rw [hwA] at hcA hc2A
    clear hsl hxA hrow hwA
    go_enter Try.func42, Try.ntmps42
    go_wp2_with fail
    go_ret2
    exact ⟨rfl, (Ext.refl w).alloc _⟩

theorem rno_any (a b : Value) (g : Gph) (e : Int) (w : World) (hG : Gr w a b g) :
    Calls Try.prog 35 #[.agg #[a, b], .int .i64 e] w fun r w' => r = .returned (.tuple #[.agg #[a, b], anv (e, 0, false)]) ∧ Ext w w' := by
  obtain ⟨a0, c0, rfl⟩ := hG.1.form
  obtain ⟨b0, d0, rfl⟩ := Gr.Ma.form hG.2
  clear hG
  unfold anv
  go_enter Try.func35, Try.ntmps35
  go_wp2_with fail
  exact bodyPost_ret (v := .tuple #[.agg #[.slice a0 g.1.length c0, .slice b0 g.2.length d0], .agg #[.int .i64 e, .int .u64 0, .bool false]]) (by simp [results, Try.results35, go_sem]) rfl ⟨rfl, (((Ext.refl w).alloc _).alloc _).alloc _⟩

def rf (g : Gph) (th : Nat) (o : Opn) (p : Bool) : Int × Int := match field g th o p with
  | .ok n => (n, 0)
  | .error e => (0, e)

set_option maxHeartbeats 2000000 in
theorem rfield_any (a b : Value) (g : Gph) (th : Nat) (o : Opn) (p : Bool) (w : World) (hG : Gr w a b g) (hr : rightG g = true) (hp : posG g) (hth : th < g.2.length) :
    Calls Try.prog 38 #[.agg #[a, b], .int .i64 th, opv o, .bool p] w fun e w' => e = .returned (.tuple #[.int .i64 (rf g th o p).1, .int .i64 (rf g th o p).2]) ∧ Ext w w' := by
  obtain ⟨a0, c0, rfl⟩ := hG.1.form
  obtain ⟨b0, d0, rfl⟩ := Gr.Ma.form hG.2
  obtain ⟨wA, hwA⟩ : ∃ wX, wX = (w.alloc (.cells #[.slice a0 g.1.length c0, .slice b0 g.2.length d0] 25)).alloc (.cells #[.int .i64 o.kind, .int .i64 o.h, .int .i64 o.i, .int .i64 o.k, .int .u64 o.v, .int .i64 o.new.1, .int .i64 o.new.2.1, .int .u64 o.new.2.2] 30) := ⟨_, rfl⟩
  have hxA : Ext w wA := hwA ▸ ((Ext.refl w).alloc _).alloc _
  have hbA : Blk wA w.heap.size #[.slice a0 g.1.length c0, .slice b0 g.2.length d0] 25 := hwA ▸ (Blk.new w _ _).alloc _
  have hoA : Blk wA (w.heap.size + 1) #[.int .i64 o.kind, .int .i64 o.h, .int .i64 o.i, .int .i64 o.k, .int .u64 o.v, .int .i64 o.new.1, .int .i64 o.new.2.1, .int .u64 o.new.2.2] 30 := hwA ▸ blk_at (by simp)
  have HH := Lib.hid (fun W (hx : Ext w W) => rhandle_any _ _ g th o.h W (hG.ext hx) hth)
  have HG := Lib.hid (hG.ext hxA)
  unfold rf opv
  unfold rh at HH
  have hsm := hG.1.small
  clear hG
  cases hh : handle g th o.h with
  | none =>
    have hf : field g th o p = .error 5 := by unfold field; rw [hh]
    rw [hf]
    rw [hh] at HH
    go_enter Try.func38, Try.ntmps38
    go_wp2_with fail
    rw [← hwA]
    refine (HH.out _ hxA).mono ?_; rintro e w1 ⟨rfl, hx⟩
    have HX := Lib.hid (hxA.trans hx)
    clear hx hxA hbA hoA hwA
    go_wp2_with fail
    go_ret2
    exact ⟨rfl, HX.out⟩
  | some x =>
    have hb := right_handle hr hth hh
    rw [hh] at HH
    by_cases hx0 : x = 0
    · have hf : field g th o p = .error 6 := by unfold field; rw [hh]; simp [hx0]
      rw [hf]
      subst hx0
      go_enter Try.func38, Try.ntmps38
      go_wp2_with fail
      rw [← hwA]
      refine (HH.out _ hxA).mono ?_; rintro e w1 ⟨rfl, hx⟩
      have HX := Lib.hid (hxA.trans hx)
      clear hx hxA hbA hoA hwA
      go_wp2_with fail
      go_ret2
      exact ⟨rfl, HX.out⟩
    obtain ⟨n, hn⟩ : ∃ n : Nat, x = (n : Int) + 1 := ⟨(x - 1).toNat, by omega⟩
    have hnl : n < g.1.length := by omega
    obtain ⟨l0, l1, m0, m1⟩ := right_head hr hp hnl
    have hf0 : field g th o p = if o.i < 0 ∨ (node g n).1.2.1 ≤ o.i then .error 7 else if bit (node g n).1.2.2 o.i ≠ p then .error 8 else .ok n := by
      unfold field; rw [hh]; simp only []
      rw [if_neg hx0, show (x - 1).toNat = n by omega]
    obtain ⟨⟨ra, rb⟩, hrr⟩ : ∃ r : Int × Int, (match field g th o p with | .ok n => ((n : Int), (0 : Int)) | .error e => (0, e)) = r := ⟨_, rfl⟩
    rw [hrr]
    have HF : Hid ((ra, rb) = if o.i < 0 ∨ (node g n).1.2.1 ≤ o.i then ((0 : Int), (7 : Int)) else if bit (node g n).1.2.2 o.i ≠ p then (0, 8) else ((n : Int), 0)) := by
      show _ = _
      rw [← hrr, hf0]
      by_cases q1 : o.i < 0 ∨ (node g n).1.2.1 ≤ o.i
      · rw [if_pos q1, if_pos q1]
      · rw [if_neg q1, if_neg q1]
        by_cases q2 : bit (node g n).1.2.2 o.i ≠ p
        · rw [if_pos q2, if_pos q2]
        · rw [if_neg q2, if_neg q2]
    clear hrr
    have HP := Lib.hid (fun (i : Nat) (h1 : (i : Int) < (node g n).1.2.1) w => rpointer_in (node g n).1.1 (node g n).1.2.1 (node g n).1.2.2 i h1 (by omega) m0 m1 w)
    have HAT : Hid (∀ W, Ext wA W → ∃ (b oo : Nat) (s : Option Nat) (u : Value), (∀ w', (Instr.indexAt 22 (.slice a0 g.1.length c0) (.int .i64 n)).run Try.prog w' = .ok (.pointer (some ⟨b, oo, s⟩)) w') ∧ W.cell? ⟨b, oo, s⟩ = some (.int .i64 (node g n).1.1) ∧ W.cell? ⟨b, oo + 1, none⟩ = some (.int .i64 (node g n).1.2.1) ∧ W.cell? ⟨b, oo + 2, none⟩ = some (.int .u64 (node g n).1.2.2)) := fun W hW => by
      obtain ⟨b, oo, s, u, h1, h2, h3, h4, _⟩ := (HG.out.ext hW).1.at_ n hnl
      exact ⟨b, oo, s, u, h1, h2, h3, h4⟩
    generalize (node g n).1 = nd at HF HP HAT l0 l1 m0 m1
    obtain ⟨t, l, m⟩ := nd
    dsimp only at HF HP HAT l0 l1 m0 m1
    subst hn
    have hwr : IntKind.i64.wrap ((n : Int) + 1 - 1) = n := by rw [IntKind.wrap_i64]; omega
    have hne : ((n : Int) + 1 == 0) = false := by rw [beq_eq_false_iff_ne]; omega
    clear hf0 hh hb hx0
    go_enter Try.func38, Try.ntmps38
    go_wp2_with fail
    rw [← hwA]
    refine (HH.out _ hxA).mono ?_; rintro e w1 ⟨rfl, hx⟩
    have HX := Lib.hid (hxA.trans hx)
    obtain ⟨bb, oo, s, u, hix, n0, n1, n2⟩ := HAT.out w1 hx
    have g0 : w1.cell? ⟨w.heap.size, 0, none⟩ = some (.slice a0 g.1.length c0) := (hbA.ext hx).cell (i := 0) rfl
    have o2 : w1.cell? ⟨w.heap.size + 1, 2, none⟩ = some (.int .i64 o.i) := (hoA.ext hx).cell (i := 2) rfl
    obtain ⟨w2, hw2⟩ : ∃ wX, wX = w1.alloc (.cells #[.int .i64 t, .int .i64 l, .int .u64 m] 28) := ⟨_, rfl⟩
    have hx2 : Ext w1 w2 := hw2 ▸ (Ext.refl w1).alloc _
    have o2' := hx2.cell o2
    rw [hw2] at o2'
    have HX2 := Lib.hid (HX.out.trans hx2)
    clear hx hxA hbA hoA hwA hx2
    by_cases i0 : o.i < 0
    · have h := HF.out
      rw [if_pos (.inl i0)] at h
      obtain ⟨rfl, rfl⟩ := Prod.mk.inj h
      clear h
      go_wp2_with fail
      go_ret2
      exact ⟨rfl, HX.out.alloc _⟩
    by_cases i1 : l ≤ o.i
    · have h := HF.out
      rw [if_pos (.inr i1)] at h
      obtain ⟨rfl, rfl⟩ := Prod.mk.inj h
      clear h
      go_wp2_with fail
      go_ret2
      exact ⟨rfl, HX.out.alloc _⟩
    have h := HF.out
    rw [if_neg (by omega)] at h
    obtain ⟨j, hj⟩ : ∃ j : Nat, o.i = j := ⟨o.i.toNat, by omega⟩
    have HPj := Lib.hid (HP.out j (by omega))
    rw [hj] at o2 o2' i0 i1 h
    obtain ⟨c, hc⟩ : ∃ c, bit m (j : Int) = c := ⟨_, rfl⟩
    rw [hc] at HPj h
    have HR := Lib.hid h
    clear hc hj HP HF h
    go_wp2_with fail
    rw [← hw2]
    refine (HPj.out _).mono ?_; rintro e w3 ⟨rfl, hx⟩
    have HX3 := Lib.hid (HX2.out.trans hx)
    clear hx hw2
    cases c <;> cases p
    all_goals
      have h := HR.out
      first
        | rw [if_pos (by decide)] at h
        | rw [if_neg (by decide)] at h
      obtain ⟨rfl, rfl⟩ := Prod.mk.inj h
      clear h
      go_wp2_with fail
      go_ret2
      exact ⟨rfl, HX3.out⟩
end Go.Proofs.Ytjhmlbhfnogdiaa.Dh
