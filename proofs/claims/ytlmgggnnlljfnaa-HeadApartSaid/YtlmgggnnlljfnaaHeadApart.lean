/- HeadApart holds for every input: two heads have one word just if they are the same. No condition. -/
import Derived.Test.YtlmgggnnlljfnaaRows
import Derived.Test.YtlmgggnnlljfnaaHw
namespace Go.Proofs.Ytlmgggnnlljfnaa.headApart
open Go.RowKit Go.Proofs.Ytlmgggnnlljfnaa

attribute [local go_sem] Hw.eqHead

set_option maxHeartbeats 4000000 in
theorem go (a b c d k f : Int) (c0 : 0 ≤ c) (f0 : 0 ≤ f) (w : World) : Calls Try.prog 3 #[.agg #[.int .i64 a, .int .i64 b, .int .u64 c], .agg #[.int .i64 d, .int .i64 k, .int .u64 f]] w fun e w' => e = .returned (.bool true) ∧ Ext w w' := by
  have HA : Hid (∀ w, Calls Try.prog 9 #[.agg #[.int .i64 a, .int .i64 b, .int .u64 c]] w fun e w' => e = .returned (.tuple #[.int .u64 (Hw.wordV a b c), .int .i64 (Hd.rightE a b c)]) ∧ Ext w w') := fun w => Hw.word_any a b c c0 w
  have HB : Hid (∀ w, Calls Try.prog 9 #[.agg #[.int .i64 d, .int .i64 k, .int .u64 f]] w fun e w' => e = .returned (.tuple #[.int .u64 (Hw.wordV d k f), .int .i64 (Hd.rightE d k f)]) ∧ Ext w w') := fun w => Hw.word_any d k f f0 w
  cases h1 : (Hd.rightE a b c != 0) with
  | true =>
    have hap : True := trivial
    generalize Hd.rightE a b c = r1 at HA h1
    generalize Hw.wordV a b c = v1 at HA
    generalize Hd.rightE d k f = r2 at HB
    generalize Hw.wordV d k f = v2 at HB
    go_enter Try.func3, Try.ntmps3
    go_wp2_with fail
    refine (Hw.shown_any _).mono ?_; rintro e0 w0 ⟨rfl, hx0⟩
    have HX0 : Hid (Ext w w0) := Ext.trans (by repeat (first | exact Ext.refl _ | assumption | refine Ext.alloc ?_ _ | refine Ext.drewN ?_ _ | refine Ext.drew ?_ | refine Ext.trans ?_ (by assumption))) hx0
    have p0 : w0.cell? ⟨w.heap.size, 0, none⟩ = some (.int .i64 a) := hx0.cell (by go_cell)
    have p1 : w0.cell? ⟨w.heap.size, 1, none⟩ = some (.int .i64 b) := hx0.cell (by go_cell)
    have p2 : w0.cell? ⟨w.heap.size, 2, none⟩ = some (.int .u64 c) := hx0.cell (by go_cell)
    have q0 : w0.cell? ⟨w.heap.size + 1, 0, none⟩ = some (.int .i64 d) := hx0.cell (by go_cell)
    have q1 : w0.cell? ⟨w.heap.size + 1, 1, none⟩ = some (.int .i64 k) := hx0.cell (by go_cell)
    have q2 : w0.cell? ⟨w.heap.size + 1, 2, none⟩ = some (.int .u64 f) := hx0.cell (by go_cell)
    go_wp2_with fail
    refine (HA.out _).mono ?_; rintro e1 w1 ⟨rfl, hx1⟩
    replace p0 := hx1.cell p0
    replace p1 := hx1.cell p1
    replace p2 := hx1.cell p2
    replace q0 := hx1.cell q0
    replace q1 := hx1.cell q1
    replace q2 := hx1.cell q2
    go_wp2_with fail
    refine (HB.out _).mono ?_; rintro e2 w2 ⟨rfl, hx2⟩
    replace p0 := hx2.cell p0
    replace p1 := hx2.cell p1
    replace p2 := hx2.cell p2
    replace q0 := hx2.cell q0
    replace q1 := hx2.cell q1
    replace q2 := hx2.cell q2
    go_wp2_with fail
    all_goals
      go_ret
      exact ⟨by first | rfl | (simp; done) | (simp [*]; done) | (simp_all; done), (HX0.out.trans hx1).trans hx2⟩
  | false =>
    have z1 : Hd.rightE a b c = 0 := by simpa using h1
    have hn := Hw.word_ne z1 c0
    cases h2 : (Hd.rightE d k f != 0) with
    | true =>
      have hap : True := trivial
      clear z1
      generalize Hd.rightE a b c = r1 at HA h1
      generalize Hw.wordV a b c = v1 at HA hn
      generalize Hd.rightE d k f = r2 at HB h2
      generalize Hw.wordV d k f = v2 at HB
      go_enter Try.func3, Try.ntmps3
      go_wp2_with fail
      refine (Hw.shown_any _).mono ?_; rintro e0 w0 ⟨rfl, hx0⟩
      have HX0 : Hid (Ext w w0) := Ext.trans (by repeat (first | exact Ext.refl _ | assumption | refine Ext.alloc ?_ _ | refine Ext.drewN ?_ _ | refine Ext.drew ?_ | refine Ext.trans ?_ (by assumption))) hx0
      have p0 : w0.cell? ⟨w.heap.size, 0, none⟩ = some (.int .i64 a) := hx0.cell (by go_cell)
      have p1 : w0.cell? ⟨w.heap.size, 1, none⟩ = some (.int .i64 b) := hx0.cell (by go_cell)
      have p2 : w0.cell? ⟨w.heap.size, 2, none⟩ = some (.int .u64 c) := hx0.cell (by go_cell)
      have q0 : w0.cell? ⟨w.heap.size + 1, 0, none⟩ = some (.int .i64 d) := hx0.cell (by go_cell)
      have q1 : w0.cell? ⟨w.heap.size + 1, 1, none⟩ = some (.int .i64 k) := hx0.cell (by go_cell)
      have q2 : w0.cell? ⟨w.heap.size + 1, 2, none⟩ = some (.int .u64 f) := hx0.cell (by go_cell)
      go_wp2_with fail
      refine (HA.out _).mono ?_; rintro e1 w1 ⟨rfl, hx1⟩
      replace p0 := hx1.cell p0
      replace p1 := hx1.cell p1
      replace p2 := hx1.cell p2
      replace q0 := hx1.cell q0
      replace q1 := hx1.cell q1
      replace q2 := hx1.cell q2
      go_wp2_with fail
      refine (HB.out _).mono ?_; rintro e2 w2 ⟨rfl, hx2⟩
      replace p0 := hx2.cell p0
      replace p1 := hx2.cell p1
      replace p2 := hx2.cell p2
      replace q0 := hx2.cell q0
      replace q1 := hx2.cell q1
      replace q2 := hx2.cell q2
      go_wp2_with fail
      all_goals
        go_ret
        exact ⟨by first | rfl | (simp; done) | (simp [*]; done) | (simp_all; done), (HX0.out.trans hx1).trans hx2⟩
    | false =>
      have z2 : Hd.rightE d k f = 0 := by simpa using h2
      have hap := Hw.apart z1 z2 c0 f0
      clear z1 z2
      generalize Hd.rightE a b c = r1 at HA h1
      generalize Hw.wordV a b c = v1 at HA hn hap
      generalize Hd.rightE d k f = r2 at HB h2
      generalize Hw.wordV d k f = v2 at HB hap
      go_enter Try.func3, Try.ntmps3
      go_wp2_with fail
      refine (Hw.shown_any _).mono ?_; rintro e0 w0 ⟨rfl, hx0⟩
      have HX0 : Hid (Ext w w0) := Ext.trans (by repeat (first | exact Ext.refl _ | assumption | refine Ext.alloc ?_ _ | refine Ext.drewN ?_ _ | refine Ext.drew ?_ | refine Ext.trans ?_ (by assumption))) hx0
      have p0 : w0.cell? ⟨w.heap.size, 0, none⟩ = some (.int .i64 a) := hx0.cell (by go_cell)
      have p1 : w0.cell? ⟨w.heap.size, 1, none⟩ = some (.int .i64 b) := hx0.cell (by go_cell)
      have p2 : w0.cell? ⟨w.heap.size, 2, none⟩ = some (.int .u64 c) := hx0.cell (by go_cell)
      have q0 : w0.cell? ⟨w.heap.size + 1, 0, none⟩ = some (.int .i64 d) := hx0.cell (by go_cell)
      have q1 : w0.cell? ⟨w.heap.size + 1, 1, none⟩ = some (.int .i64 k) := hx0.cell (by go_cell)
      have q2 : w0.cell? ⟨w.heap.size + 1, 2, none⟩ = some (.int .u64 f) := hx0.cell (by go_cell)
      go_wp2_with fail
      refine (HA.out _).mono ?_; rintro e1 w1 ⟨rfl, hx1⟩
      replace p0 := hx1.cell p0
      replace p1 := hx1.cell p1
      replace p2 := hx1.cell p2
      replace q0 := hx1.cell q0
      replace q1 := hx1.cell q1
      replace q2 := hx1.cell q2
      go_wp2_with fail
      refine (HB.out _).mono ?_; rintro e2 w2 ⟨rfl, hx2⟩
      replace p0 := hx2.cell p0
      replace p1 := hx2.cell p1
      replace p2 := hx2.cell p2
      replace q0 := hx2.cell q0
      replace q1 := hx2.cell q1
      replace q2 := hx2.cell q2
      go_wp2_with fail
      all_goals
        go_ret
        exact ⟨by first | rfl | (simp; done) | (simp [*]; done) | (simp_all; done), (HX0.out.trans hx1).trans hx2⟩

theorem head_of {w : World} {v : Value} (h : Rd.V Try.prog w 24 v) : ∃ a b c : Int, v = .agg #[.int .i64 a, .int .i64 b, .int .u64 c] ∧ 0 ≤ c := by
  have k : Try.prog.cellsOf 3 = 1 := by kernel_rfl
  have k2 : Try.prog.cellsOf 22 = 1 := by kernel_rfl
  obtain ⟨cs, rfl, hs⟩ := h.struct Try.underlying24
  obtain ⟨hl, _⟩ := hs.struct Try.underlying24
  rw [show Try.prog.cellsOf 24 = 3 by kernel_rfl] at hl
  match cs, hl with
  | [c0, c1, c2], _ =>
    obtain ⟨a, hs0, wa⟩ := (Rd.R.field Try.underlying24 hs 0 rfl 0 1 3 rfl rfl k).int Try.underlying3
    obtain rfl : c0 = .int .i64 a := by simpa using hs0
    obtain ⟨b, hs1, wb⟩ := (Rd.R.field Try.underlying24 hs 1 rfl 1 1 3 rfl rfl k).int Try.underlying3
    obtain rfl : c1 = .int .i64 b := by simpa using hs1
    obtain ⟨m, hs2, wm⟩ := (Rd.R.field Try.underlying24 hs 2 rfl 2 1 22 rfl rfl k2).int Try.underlying22
    obtain rfl : c2 = .int .u64 m := by simpa using hs2
    exact ⟨a, b, m, rfl, (Rd.u64_bd wm).1⟩

theorem walk (v0 : Value) (v1 : Value) (W : World) (r0 : Rd.V Try.prog W 24 v0) (r1 : Rd.V Try.prog W 24 v1) : Calls Try.prog 3 #[v0, v1] W fun e w' => e = .returned (.bool true) ∧ Below W.heap.size W w' := by
  obtain ⟨a, b, c, rfl, c0⟩ := head_of r0
  obtain ⟨d, k, f, rfl, f0⟩ := head_of r1
  exact (go a b c d k f c0 f0 W).mono fun e w' ⟨he, hw⟩ => ⟨he, hw.below⟩

open Go.ChangeShapes Go.WideShapes Go.ChangeAt Go.RowKit
theorem own : ownKnob Try.prog.godebug = none := by kernel_rfl
theorem laidOut : laidOutB Try.prog = true := by kernel_rfl

set_option maxRecDepth 100000 in
theorem lifted (os : Os) (started : os.Started) (H : Type) (enc : TypeId × Value → H) :
    ReturnsInHanded {} Try.checked os 3 .any (Rows.headApartSpec.pre6 enc Try.prog Try.f3 Rows.headApartRow.domain false) (Rows.headApartSpec.post enc Try.prog Try.f3 false true false false) := by
  refine returnsInHanded_of_change_sized (C := Try.checked) own started (by kernel_rfl) Try.func3
    (ChangeSpec.witness6 (enc := enc) (C := Try.checked) false ⟨#[], #[.agg #[.int .i64 0, .int .i64 0, .int .u64 0], .agg #[.int .i64 0, .int .i64 0, .int .u64 0]], []⟩ 12 (by kernel_rfl) (by kernel_rfl) (by kernel_rfl) (by kernel_rfl)) ?_
  intro W base args ds gs before hval0 hW _ hsz0 _
  have hval : ∀ (j : Nat) t v, Try.f3.params[j]? = some t → args[j]? = some v → Value.okWide Try.prog W .any base t v := hval0
  have hW' := hW
  obtain ⟨p, q, hA0, hV, rfl, _, _⟩ := hW
  have hA : DataW.TrodAll enc Try.prog W 0 (fun _ => true) true Try.f3.params.toList args.toList ds p := hA0
  obtain ⟨rfl, rfl⟩ := trodVars_none hV
  have hsz : (DataW.weightsEach Try.prog (Try.f3.params.toList ++ []) (ds ++ [])).all (· ≤ reachBytes) = true := hsz0
  rw [Try.params3] at hA hval hsz
  have hA2 := hA
  obtain ⟨v0, vs0, d0, ds0, p0, q0, hargs, rfl, rfl, h0, r0⟩ := trodAll_cons hA2
  obtain ⟨v1, vs1, d1, ds1, p1, q1, rfl, rfl, rfl, h1, r1⟩ := trodAll_cons r0
  obtain ⟨rfl, rfl, rfl⟩ := trodAll_nil r1
  obtain rfl : args = #[v0, v1] := by cases args; simp_all
  have hR := Rd.trodAll_V hA (fun n hn => by simpa using List.all_eq_true.1 hsz n (by simpa using hn)) (fun j t v hj hv => hval j t v (by simpa using hj) (by simpa using hv))
  clear hA0 hval0 hA2
  refine (walk v0 v1 W (hR 0 24 v0 rfl rfl) (hR 1 24 v1 rfl rfl)).mono fun e W' ⟨he, bel⟩ => ?_
  subst he
  exact ⟨_, rfl, _, _, _, [], _, [], hW', trodAll_mk1 (shut_bool Try.underlying4 _), Rd.trodAll_below laidOut bel (List.forall_mem_cons.2 ⟨⟨by kernel_rfl, of_decide_eq_true (by kernel_rfl)⟩, List.forall_mem_cons.2 ⟨⟨by kernel_rfl, of_decide_eq_true (by kernel_rfl)⟩, fun _ h => by cases h⟩⟩) hA, rfl, bel.frame _, fun h => by cases h⟩

theorem over : Rows.headApartRow.holds Try.pinned (OpenSpec.ofChange Rows.headApartSpec) :=
  OpenClaim.holds_of_wide 3 Try.f3 rfl rfl rfl rfl rfl rfl rfl ⟨rfl, rfl, rfl, rfl, rfl⟩ rfl rfl rfl rfl rfl (by kernel_rfl) Try.func3 (by kernel_rfl)
    (of_decide_eq_true (by kernel_rfl)) (by unfold Func.isWrapper; first | (rw [if_pos (by decide +kernel)]; kernel_rfl) | (rw [if_neg (by decide +kernel)]; exact ⟨rfl, rfl⟩))
    (fun os started H enc _ => lifted os started H enc)

theorem proved : Rows.HeadApartSaid := over
#print axioms proved
end Go.Proofs.Ytlmgggnnlljfnaa.headApart
