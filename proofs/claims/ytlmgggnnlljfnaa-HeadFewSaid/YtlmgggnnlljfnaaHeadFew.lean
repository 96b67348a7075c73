/- HeadFew holds for every input: a right object has at most sixteen fields, and two words more; a filler one more than it tells. No condition. -/
import Derived.Test.YtlmgggnnlljfnaaRows
import Derived.Test.YtlmgggnnlljfnaaHf
import Derived.Deep.RegionHeld3
namespace Go.Proofs.Ytlmgggnnlljfnaa.headFew
open Go.RowKit Go.Proofs.Ytlmgggnnlljfnaa Go.Proofs.Ytlmgggnnlljfnaa.Hd

set_option maxRecDepth 100000 in
set_option maxHeartbeats 4000000 in
theorem go (t l m : Int) (m0 : 0 ≤ m) (w : World) : Calls Try.prog 7 #[.agg #[.int .i64 t, .int .i64 l, .int .u64 m]] w fun e w' => e = .returned (.bool true) ∧ Ext w w' := by
  have HA : Hid (∀ w, Calls Try.prog 10 #[.agg #[.int .i64 t, .int .i64 l, .int .u64 m]] w fun e w' => e = .returned (.int .i64 (rightE t l m)) ∧ Ext w w') := fun w => right_any t l m w
  cases h1 : (rightE t l m != 0) with
  | true =>
    generalize rightE t l m = r1 at HA h1
    go_enter Try.func7, Try.ntmps7
    go_wp2_with fail
    refine (Hw.shown_any _).mono ?_; rintro e0 w0 ⟨rfl, hx0⟩
    have HX0 : Hid (Ext w w0) := Ext.trans (by repeat (first | exact Ext.refl _ | assumption | refine Ext.alloc ?_ _ | refine Ext.drewN ?_ _ | refine Ext.drew ?_ | refine Ext.trans ?_ (by assumption))) hx0
    have p0 : w0.cell? ⟨w.heap.size, 0, none⟩ = some (.int .i64 t) := hx0.cell (by go_cell)
    have p1 : w0.cell? ⟨w.heap.size, 1, none⟩ = some (.int .i64 l) := hx0.cell (by go_cell)
    have p2 : w0.cell? ⟨w.heap.size, 2, none⟩ = some (.int .u64 m) := hx0.cell (by go_cell)
    clear hx0
    go_wp2_with fail
    refine (HA.out _).mono ?_; rintro e1 w1 ⟨rfl, hx1⟩
    replace p0 := hx1.cell p0
    replace p1 := hx1.cell p1
    replace p2 := hx1.cell p2
    have HX1 := Lib.hid (HX0.out.trans hx1)
    clear hx1 HX0
    go_wp2_with fail
    go_ret
    exact ⟨by first | rfl | (simp; done), HX1.out⟩
  | false =>
    have z1 : rightE t l m = 0 := by simpa using h1
    have hz := Hw.right_zero z1 m0
    obtain ⟨l, rfl⟩ := Int.eq_ofNat_of_zero_le hz.2.2.1
    have hl : l ≤ 65535 := by omega
    have hl2 : (l : Int) ≤ 65535 := by omega
    have hs : t ≠ 255 → l ≤ 16 := fun h => by have := (hz.2.2.2.2.2 h).2; omega
    have hm0 : t = 255 → m = 0 := fun h => by
      subst h
      unfold rightE most shiftN at z1
      rw [if_neg (by omega), if_pos rfl, if_neg (by omega), if_pos rfl] at z1
      have e1 : m / 2 ^ 0 = m := by simp
      rw [e1] at z1
      by_cases hm : m = 0
      · exact hm
      · rw [if_neg hm] at z1; omega
    have hm : 64 ≤ l → m = 0 := fun h => hm0 (Classical.byContradiction fun ht => by have := hs ht; omega)
    rw [z1] at HA
    clear h1 z1
    have HP : Hid (∀ w, Calls Try.prog 17 #[.agg #[.int .i64 t, .int .i64 l, .int .u64 m]] w fun e w' => ∃ (a : Option Addr) (n c : Nat), e = .returned (.slice a n c) ∧ (n ≤ l ∧ (m = 0 → n = 0)) ∧ Ext w w') := fun w => Hf.ptrs_any t m l hl m0 hz.2.2.2.2.1 hm w
    have HW := Lib.hid (fun w => Hf.words_any t m l hl hs w)
    have HM0 := Lib.hid hm0
    have HS := Lib.hid hs
    clear hm hm0 hs hz hl
    cases ht : (t == 255) with
    | true =>
      have htt := beq_iff_eq.1 ht
      have HWD : Hid (∀ w, Calls Try.prog 16 #[.agg #[.int .i64 t, .int .i64 l, .int .u64 m]] w fun e w' => e = .returned (.int .i64 (l + 1)) ∧ Ext w w') := fun w => by have := HW.out w; rw [if_pos htt] at this; exact this
      have HMZ := Lib.hid (HM0.out htt)
      have d1 : decide (1 ≤ (l : Int) + 1) = true := decide_eq_true (by omega)
      have d2 : decide ((l : Int) + 1 ≤ 65536) = true := decide_eq_true (by omega)
      clear HW htt HM0
      go_enter Try.func7, Try.ntmps7
      go_wp2_with fail
      refine (Hw.shown_any _).mono ?_; rintro e0 w0 ⟨rfl, hx0⟩
      have HX0 : Hid (Ext w w0) := Ext.trans (by repeat (first | exact Ext.refl _ | assumption | refine Ext.alloc ?_ _ | refine Ext.drewN ?_ _ | refine Ext.drew ?_ | refine Ext.trans ?_ (by assumption))) hx0
      have p0 : w0.cell? ⟨w.heap.size, 0, none⟩ = some (.int .i64 t) := hx0.cell (by go_cell)
      have p1 : w0.cell? ⟨w.heap.size, 1, none⟩ = some (.int .i64 l) := hx0.cell (by go_cell)
      have p2 : w0.cell? ⟨w.heap.size, 2, none⟩ = some (.int .u64 m) := hx0.cell (by go_cell)
      clear hx0
      go_wp2_with fail
      refine (HA.out _).mono ?_; rintro e1 w1 ⟨rfl, hx1⟩
      replace p0 := hx1.cell p0
      replace p1 := hx1.cell p1
      replace p2 := hx1.cell p2
      have HX1 := Lib.hid (HX0.out.trans hx1)
      clear hx1 HX0
      go_wp2_with fail
      refine (HWD.out _).mono ?_; rintro e2 w2 ⟨rfl, hx2⟩
      replace p0 := hx2.cell p0
      replace p1 := hx2.cell p1
      replace p2 := hx2.cell p2
      have HX2 := Lib.hid (HX1.out.trans hx2)
      clear hx2 HX1
      go_wp2_with fail
      refine (HP.out _).mono ?_; rintro e3 w3 ⟨a, n, c, rfl, ⟨_, hn⟩, hx3⟩
      obtain rfl := hn HMZ.out
      have HX3 := Lib.hid (HX2.out.trans hx3)
      clear hx3
      go_wp2_with fail
      go_ret
      exact ⟨by first | rfl | (simp; done), HX3.out⟩
    | false =>
      have hne := beq_eq_false_iff_ne.1 ht
      obtain ⟨q, hq⟩ : ∃ q : Int, (l : Int) + 2 = q := ⟨_, rfl⟩
      have HWD : Hid (∀ w, Calls Try.prog 16 #[.agg #[.int .i64 t, .int .i64 l, .int .u64 m]] w fun e w' => e = .returned (.int .i64 q) ∧ Ext w w') := fun w => by have := HW.out w; rw [if_neg hne, hq] at this; exact this
      have h16 := HS.out hne
      have h16' : (l : Int) ≤ 16 := by omega
      have d1 : decide (2 ≤ q) = true := decide_eq_true (by omega)
      have d2 : decide (q ≤ 18) = true := decide_eq_true (by omega)
      have d3 : IntKind.i64.wrap ((l : Int) + 2) = q := by rw [hq, IntKind.wrap_i64]; omega
      clear HW hne HM0 h16 hq
      go_enter Try.func7, Try.ntmps7
      go_wp2_with fail
      refine (Hw.shown_any _).mono ?_; rintro e0 w0 ⟨rfl, hx0⟩
      have HX0 : Hid (Ext w w0) := Ext.trans (by repeat (first | exact Ext.refl _ | assumption | refine Ext.alloc ?_ _ | refine Ext.drewN ?_ _ | refine Ext.drew ?_ | refine Ext.trans ?_ (by assumption))) hx0
      have p0 : w0.cell? ⟨w.heap.size, 0, none⟩ = some (.int .i64 t) := hx0.cell (by go_cell)
      have p1 : w0.cell? ⟨w.heap.size, 1, none⟩ = some (.int .i64 l) := hx0.cell (by go_cell)
      have p2 : w0.cell? ⟨w.heap.size, 2, none⟩ = some (.int .u64 m) := hx0.cell (by go_cell)
      clear hx0
      go_wp2_with fail
      refine (HA.out _).mono ?_; rintro e1 w1 ⟨rfl, hx1⟩
      replace p0 := hx1.cell p0
      replace p1 := hx1.cell p1
      replace p2 := hx1.cell p2
      have HX1 := Lib.hid (HX0.out.trans hx1)
      clear hx1 HX0
      go_wp2_with fail
      refine (HWD.out _).mono ?_; rintro e2 w2 ⟨rfl, hx2⟩
      replace p0 := hx2.cell p0
      replace p1 := hx2.cell p1
      replace p2 := hx2.cell p2
      have HX2 := Lib.hid (HX1.out.trans hx2)
      clear hx2 HX1
      go_wp2_with fail
      have hd0 : ∀ W, Ext w2 W → W.cell? ⟨w.heap.size, 0, none⟩ = some (.int .i64 t) := fun W h => h.cell p0
      have hd1 : ∀ W, Ext w2 W → W.cell? ⟨w.heap.size, 1, none⟩ = some (.int .i64 l) := fun W h => h.cell p1
      have hd2 : ∀ W, Ext w2 W → W.cell? ⟨w.heap.size, 2, none⟩ = some (.int .u64 m) := fun W h => h.cell p2
      go_region_held3 (fun W : World => Ext w2 W) (first | exact (Ext.refl w2).drew | assumption | exact Ext.trans (by assumption) hx3) ((go_at_call 17; (with_reducible refine (HP.out _).mono ?_); rintro e3 w3 ⟨a, n, c, rfl, ⟨hn, _⟩, hx3⟩; have d4 : decide ((n : Int) ≤ (l : Int)) = true := (decide_eq_true (by omega))))
      all_goals
        go_wp2_with fail
        go_ret
        exact ⟨by first | rfl | (simp; done), HX2.out.trans (by assumption)⟩

theorem head_of {w : World} {v : Value} (h : Rd.V Try.prog w 24 v) : ∃ a b c : Int, v = .agg #[.int .i64 a, .int .i64 b, .int .u64 c] ∧ 0 ≤ c := by
  have k : Try.prog.cellsOf 3 = 1 := by kernel_rfl
  have k2 : Try.prog.cellsOf 22 = 1 := by kernel_rfl
  obtain ⟨cs, rfl, hs⟩ := h.struct Try.underlying24
  obtain ⟨hl, _⟩ := hs.struct Try.underlying24
  rw [show Try.prog.cellsOf 24 = 3 by kernel_rfl] at hl
  match cs, hl with
  | [c0, c1, c2], _ =>
    obtain ⟨a, hs0, wa⟩ := (Rd.R.field Try.underlying24 hs 0 rfl 0 1 3 rfl rfl k).int Try.underlying3
    obtain rfl : c0 = .int .i64 a := by simpa using hs0
    obtain ⟨b, hs1, wb⟩ := (Rd.R.field Try.underlying24 hs 1 rfl 1 1 3 rfl rfl k).int Try.underlying3
    obtain rfl : c1 = .int .i64 b := by simpa using hs1
    obtain ⟨m, hs2, wm⟩ := (Rd.R.field Try.underlying24 hs 2 rfl 2 1 22 rfl rfl k2).int Try.underlying22
    obtain rfl : c2 = .int .u64 m := by simpa using hs2
    exact ⟨a, b, m, rfl, (Rd.u64_bd wm).1⟩

theorem walk (v0 : Value) (W : World) (r0 : Rd.V Try.prog W 24 v0) : Calls Try.prog 7 #[v0] W fun e w' => e = .returned (.bool true) ∧ Below W.heap.size W w' := by
  obtain ⟨a, b, c, rfl, c0⟩ := head_of r0
  exact (go a b c c0 W).mono fun e w' ⟨he, hw⟩ => ⟨he, hw.below⟩

open Go.ChangeShapes Go.WideShapes Go.ChangeAt Go.RowKit
theorem own : ownKnob Try.prog.godebug = none := by kernel_rfl
theorem laidOut : laidOutB Try.prog = true := by kernel_rfl

set_option maxRecDepth 100000 in
theorem lifted (os : Os) (started : os.Started) (H : Type) (enc : TypeId × Value → H) :
    ReturnsInHanded {} Try.checked os 7 .any (Rows.headFewSpec.pre6 enc Try.prog Try.f7 Rows.headFewRow.domain false) (Rows.headFewSpec.post enc Try.prog Try.f7 false true false false) := by
  refine returnsInHanded_of_change_sized (C := Try.checked) own started (by kernel_rfl) Try.func7
    (ChangeSpec.witness6 (enc := enc) (C := Try.checked) false ⟨#[], #[.agg #[.int .i64 0, .int .i64 0, .int .u64 0]], []⟩ 12 (by kernel_rfl) (by kernel_rfl) (by kernel_rfl) (by kernel_rfl)) ?_
  intro W base args ds gs before hval0 hW _ hsz0 _
  have hval : ∀ (j : Nat) t v, Try.f7.params[j]? = some t → args[j]? = some v → Value.okWide Try.prog W .any base t v := hval0
  have hW' := hW
  obtain ⟨p, q, hA0, hV, rfl, _, _⟩ := hW
  have hA : DataW.TrodAll enc Try.prog W 0 (fun _ => true) true Try.f7.params.toList args.toList ds p := hA0
  obtain ⟨rfl, rfl⟩ := trodVars_none hV
  have hsz : (DataW.weightsEach Try.prog (Try.f7.params.toList ++ []) (ds ++ [])).all (· ≤ reachBytes) = true := hsz0
  rw [Try.params7] at hA hval hsz
  have hA2 := hA
  obtain ⟨v0, vs0, d0, ds0, p0, q0, hargs, rfl, rfl, h0, r0⟩ := trodAll_cons hA2
  obtain ⟨rfl, rfl, rfl⟩ := trodAll_nil r0
  obtain rfl : args = #[v0] := by cases args; simp_all
  have hR := Rd.trodAll_V hA (fun n hn => by simpa using List.all_eq_true.1 hsz n (by simpa using hn)) (fun j t v hj hv => hval j t v (by simpa using hj) (by simpa using hv))
  clear hA0 hval0 hA2
  refine (walk v0 W (hR 0 24 v0 rfl rfl)).mono fun e W' ⟨he, bel⟩ => ?_
  subst he
  exact ⟨_, rfl, _, _, _, [], _, [], hW', trodAll_mk1 (shut_bool Try.underlying4 _), Rd.trodAll_below laidOut bel (List.forall_mem_cons.2 ⟨⟨by kernel_rfl, of_decide_eq_true (by kernel_rfl)⟩, fun _ h => by cases h⟩) hA, rfl, bel.frame _, fun h => by cases h⟩

theorem over : Rows.headFewRow.holds Try.pinned (OpenSpec.ofChange Rows.headFewSpec) :=
  OpenClaim.holds_of_wide 7 Try.f7 rfl rfl rfl rfl rfl rfl rfl ⟨rfl, rfl, rfl, rfl, rfl⟩ rfl rfl rfl rfl rfl (by kernel_rfl) Try.func7 (by kernel_rfl)
    (of_decide_eq_true (by kernel_rfl)) (by unfold Func.isWrapper; first | (rw [if_pos (by decide +kernel)]; kernel_rfl) | (rw [if_neg (by decide +kernel)]; exact ⟨rfl, rfl⟩))
    (fun os started H enc _ => lifted os started H enc)

theorem proved : Rows.HeadFewSaid := over
#print axioms proved
end Go.Proofs.Ytlmgggnnlljfnaa.headFew
