/- SizeFits holds for every input: what fits ends within; with fewer words it fits, too; a word more than there is room for doesn't. No condition. -/
import Derived.Test.YtlldfglmoeeocaaRows
import Derived.Test.YtlldfglmoeeocaaRd
import Derived.Test.YtlldfglmoeeocaaSs
namespace Go.Proofs.Ytlldfglmoeeocaa.sizeFits
open Go.RowKit Go.Proofs.Ytlldfglmoeeocaa

set_option maxHeartbeats 4000000 in
/-- What fits, of some words: the walk. -/
theorem yes (a n k v : Int) (r : Bool) (h1 : 0 ≤ a) (h2 : 0 < n) (h3 : a + n ≤ k) (k1 : k ≤ 9223372036854775807)
    (G1 : Hid (∀ w, Calls Try.prog 16 #[.int .i64 a, .int .i64 n, .int .i64 k] w fun e w' => e = .returned (.bool true) ∧ Sw.Ext w w'))
    (G2 : Hid (∀ w, Calls Try.prog 16 #[.int .i64 a, .int .i64 (n - 1), .int .i64 k] w fun e w' => e = .returned (.bool true) ∧ Sw.Ext w w'))
    (G3 : Hid (∀ w, Calls Try.prog 16 #[.int .i64 a, .int .i64 v, .int .i64 k] w fun e w' => e = .returned (.bool r) ∧ Sw.Ext w w')) (hv : IntKind.i64.wrap (n + 1) = v)
    (hr : (r = false ∧ (n == k - a) = true) ∨ (r = true ∧ (n == k - a) = false)) (w : World) :
    Calls Try.prog 8 #[.int .i64 a, .int .i64 n, .int .i64 k] w fun e w' => e = .returned (.bool true) ∧ Sw.Ext w w' := by
  have hz : (n == 0) = false := beq_eq_false_iff_ne.2 (by omega)
  rcases hr with ⟨rfl, q⟩ | ⟨rfl, q⟩
  all_goals
    go_enter Try.func8, Try.ntmps8
    go_wp2_with (go_at_call 10; refine (Ss.shown_any _).mono ?_; rintro e w' ⟨rfl, rfl⟩)
    refine (G1.out _).mono ?_; rintro e w' ⟨rfl, hb1⟩
    go_wp2_with fail
    refine (G2.out _).mono ?_; rintro e w' ⟨rfl, hb2⟩
    go_wp2_with fail
    refine (G3.out _).mono ?_; rintro e w' ⟨rfl, hb3⟩
    go_wp2_with fail
    (go_ret; exact ⟨(by first | rfl | (simp; done) | (simp; omega)), (by repeat (first | exact Sw.Ext.refl _ | assumption | refine Sw.Ext.alloc ?_ _ | refine Sw.Ext.drewN ?_ _ | refine Sw.Ext.drew ?_ | refine Sw.Ext.trans ?_ (by assumption)))⟩)

set_option maxHeartbeats 4000000 in
/-- No words fit: the walk. -/
theorem zero (a k : Int) (r : Bool) (h1 : 0 ≤ a) (h3 : a ≤ k) (k1 : k ≤ 9223372036854775807)
    (G1 : Hid (∀ w, Calls Try.prog 16 #[.int .i64 a, .int .i64 0, .int .i64 k] w fun e w' => e = .returned (.bool true) ∧ Sw.Ext w w'))
    (G3 : Hid (∀ w, Calls Try.prog 16 #[.int .i64 a, .int .i64 1, .int .i64 k] w fun e w' => e = .returned (.bool r) ∧ Sw.Ext w w'))
    (hr : (r = false ∧ (0 == k - a) = true) ∨ (r = true ∧ (0 == k - a) = false)) (w : World) :
    Calls Try.prog 8 #[.int .i64 a, .int .i64 0, .int .i64 k] w fun e w' => e = .returned (.bool true) ∧ Sw.Ext w w' := by
  rcases hr with ⟨rfl, q⟩ | ⟨rfl, q⟩
  all_goals
    go_enter Try.func8, Try.ntmps8
    go_wp2_with (go_at_call 10; refine (Ss.shown_any _).mono ?_; rintro e w' ⟨rfl, rfl⟩)
    refine (G1.out _).mono ?_; rintro e w' ⟨rfl, hb1⟩
    go_wp2_with fail
    refine (G3.out _).mono ?_; rintro e w' ⟨rfl, hb3⟩
    go_wp2_with fail
    (go_ret; exact ⟨(by first | rfl | (simp; done) | (simp; omega)), (by repeat (first | exact Sw.Ext.refl _ | assumption | refine Sw.Ext.alloc ?_ _ | refine Sw.Ext.drewN ?_ _ | refine Sw.Ext.drew ?_ | refine Sw.Ext.trans ?_ (by assumption)))⟩)

set_option maxHeartbeats 4000000 in
/-- What doesn't fit: the walk. -/
theorem no (a n k : Int) (k0 : -9223372036854775808 ≤ k) (k1 : k ≤ 9223372036854775807)
    (G1 : Hid (∀ w, Calls Try.prog 16 #[.int .i64 a, .int .i64 n, .int .i64 k] w fun e w' => e = .returned (.bool false) ∧ Sw.Ext w w'))
    (hr : a < 0 ∨ (0 ≤ a ∧ n < 0) ∨ (0 ≤ a ∧ 0 ≤ n ∧ k < 0) ∨ (0 ≤ a ∧ 0 ≤ n ∧ 0 ≤ k ∧ k < a) ∨ (0 ≤ a ∧ 0 ≤ n ∧ 0 ≤ k ∧ a ≤ k ∧ k - a < n)) (w : World) :
    Calls Try.prog 8 #[.int .i64 a, .int .i64 n, .int .i64 k] w fun e w' => e = .returned (.bool true) ∧ Sw.Ext w w' := by
  rcases hr with h | ⟨h, h2⟩ | ⟨h, h2, h3⟩ | ⟨h, h2, h3, h4⟩ | ⟨h, h2, h3, h4, h5⟩
  all_goals
    go_enter Try.func8, Try.ntmps8
    go_wp2_with (go_at_call 10; refine (Ss.shown_any _).mono ?_; rintro e w' ⟨rfl, rfl⟩)
    refine (G1.out _).mono ?_; rintro e w' ⟨rfl, hb1⟩
    go_wp2_with fail
    (go_ret; exact ⟨(by first | rfl | (simp; done) | (simp; omega)), (by repeat (first | exact Sw.Ext.refl _ | assumption | refine Sw.Ext.alloc ?_ _ | refine Sw.Ext.drewN ?_ _ | refine Sw.Ext.drew ?_ | refine Sw.Ext.trans ?_ (by assumption)))⟩)

theorem go (a n k : Int) (a0 : -9223372036854775808 ≤ a) (a1 : a ≤ 9223372036854775807) (b0 : -9223372036854775808 ≤ n) (b1 : n ≤ 9223372036854775807) (k0 : -9223372036854775808 ≤ k) (k1 : k ≤ 9223372036854775807) (w : World) : Calls Try.prog 8 #[.int .i64 a, .int .i64 n, .int .i64 k] w fun e w' => e = .returned (.bool true) ∧ Sw.Ext w w' := by
  have g : ∀ m r, -9223372036854775808 ≤ m → m ≤ 9223372036854775807 → Sz.fits a m k = r → Hid (∀ w, Calls Try.prog 16 #[.int .i64 a, .int .i64 m, .int .i64 k] w fun e w' => e = .returned (.bool r) ∧ Sw.Ext w w') := fun m r h1 h2 h3 w => h3 ▸ Sw.fits_any a m k a0 a1 h1 h2 k1 w
  cases h : Sz.fits a n k with
  | false =>
    have hn := Sz.fits_iff (a := a) (n := n) (w := k)
    rw [h] at hn
    simp only [Bool.false_eq_true, false_iff] at hn
    exact no a n k k0 k1 (g n _ b0 b1 h) (by omega) w
  | true =>
    have h' := Sz.fits_iff.1 h
    by_cases z : n = 0
    · subst z
      refine zero a k (Sz.fits a 1 k) (by omega) (by omega) k1 (g 0 _ b0 b1 h) (g 1 _ (by omega) (by omega) rfl) ?_ w
      by_cases q : 0 = k - a
      · exact .inl ⟨Sz.eq_false_of Sz.fits_iff (by omega), beq_iff_eq.2 q⟩
      · exact .inr ⟨Sz.fits_iff.2 (by omega), beq_eq_false_iff_ne.2 q⟩
    · have wv := IntKind.wrap_i64 (n + 1)
      refine yes a n k (IntKind.i64.wrap (n + 1)) (Sz.fits a (IntKind.i64.wrap (n + 1)) k) (by omega) (by omega) (by omega) k1 (g n _ b0 b1 h) (g (n - 1) _ (by omega) (by omega) (Sz.fits_iff.2 (by omega))) (g _ _ (by omega) (by omega) rfl) rfl ?_ w
      by_cases q : n = k - a
      · exact .inl ⟨Sz.eq_false_of Sz.fits_iff (by omega), beq_iff_eq.2 q⟩
      · exact .inr ⟨Sz.fits_iff.2 (by omega), beq_eq_false_iff_ne.2 q⟩

theorem walk (v0 : Value) (v1 : Value) (v2 : Value) (W : World) (r0 : Rd.V Try.prog W 3 v0) (r1 : Rd.V Try.prog W 3 v1) (r2 : Rd.V Try.prog W 3 v2) : Calls Try.prog 8 #[v0, v1, v2] W fun e w' => e = .returned (.bool true) ∧ Below W.heap.size W w' := by
  obtain ⟨a, rfl, ha⟩ := r0.int Try.underlying3
  obtain ⟨n, rfl, hn⟩ := r1.int Try.underlying3
  obtain ⟨k, rfl, hk⟩ := r2.int Try.underlying3
  have h1 := Rd.i64_bd ha
  have h2 := Rd.i64_bd hn
  have h3 := Rd.i64_bd hk
  exact (go a n k h1.1 h1.2 h2.1 h2.2 h3.1 h3.2 W).mono fun e w' ⟨he, hw⟩ => ⟨he, hw.below⟩

open Go.ChangeShapes Go.WideShapes Go.ChangeAt Go.RowKit
theorem own : ownKnob Try.prog.godebug = none := by kernel_rfl
theorem laidOut : laidOutB Try.prog = true := by kernel_rfl

set_option maxRecDepth 100000 in
theorem lifted (os : Os) (started : os.Started) (H : Type) (enc : TypeId × Value → H) :
    ReturnsInHanded {} Try.checked os 8 .any (Rows.sizeFitsSpec.pre6 enc Try.prog Try.f8 Rows.sizeFitsRow.domain false) (Rows.sizeFitsSpec.post enc Try.prog Try.f8 false true false false) := by
  refine returnsInHanded_of_change_sized (C := Try.checked) own started (by kernel_rfl) Try.func8
    (ChangeSpec.witness6 (enc := enc) (C := Try.checked) false ⟨#[], #[.int .i64 0, .int .i64 0, .int .i64 0], []⟩ 12 (by kernel_rfl) (by kernel_rfl) (by kernel_rfl) (by kernel_rfl)) ?_
  intro W base args ds gs before hval0 hW _ hsz0 _
  have hval : ∀ (j : Nat) t v, Try.f8.params[j]? = some t → args[j]? = some v → Value.okWide Try.prog W .any base t v := hval0
  have hW' := hW
  obtain ⟨p, q, hA0, hV, rfl, _, _⟩ := hW
  have hA : DataW.TrodAll enc Try.prog W 0 (fun _ => true) true Try.f8.params.toList args.toList ds p := hA0
  obtain ⟨rfl, rfl⟩ := trodVars_none hV
  have hsz : (DataW.weightsEach Try.prog (Try.f8.params.toList ++ []) (ds ++ [])).all (· ≤ reachBytes) = true := hsz0
  rw [Try.params8] at hA hval hsz
  have hA2 := hA
  obtain ⟨v0, vs0, d0, ds0, p0, q0, hargs, rfl, rfl, h0, r0⟩ := trodAll_cons hA2
  obtain ⟨v1, vs1, d1, ds1, p1, q1, rfl, rfl, rfl, h1, r1⟩ := trodAll_cons r0
  obtain ⟨v2, vs2, d2, ds2, p2, q2, rfl, rfl, rfl, h2, r2⟩ := trodAll_cons r1
  obtain ⟨rfl, rfl, rfl⟩ := trodAll_nil r2
  obtain rfl : args = #[v0, v1, v2] := by cases args; simp_all
  have hR := Rd.trodAll_V hA (fun n hn => by simpa using List.all_eq_true.1 hsz n (by simpa using hn)) (fun j t v hj hv => hval j t v (by simpa using hj) (by simpa using hv))
  clear hA0 hval0 hA2
  refine (walk v0 v1 v2 W (hR 0 3 v0 rfl rfl) (hR 1 3 v1 rfl rfl) (hR 2 3 v2 rfl rfl)).mono fun e W' ⟨he, bel⟩ => ?_
  subst he
  exact ⟨_, rfl, _, _, _, [], _, [], hW', trodAll_mk1 (shut_bool Try.underlying4 _), Rd.trodAll_below laidOut bel (List.forall_mem_cons.2 ⟨⟨by kernel_rfl, of_decide_eq_true (by kernel_rfl)⟩, List.forall_mem_cons.2 ⟨⟨by kernel_rfl, of_decide_eq_true (by kernel_rfl)⟩, List.forall_mem_cons.2 ⟨⟨by kernel_rfl, of_decide_eq_true (by kernel_rfl)⟩, fun _ h => by cases h⟩⟩⟩) hA, rfl, bel.frame _, fun h => by cases h⟩

theorem over : Rows.sizeFitsRow.holds Try.pinned (OpenSpec.ofChange Rows.sizeFitsSpec) :=
  OpenClaim.holds_of_wide 8 Try.f8 rfl rfl rfl rfl rfl rfl rfl ⟨rfl, rfl, rfl, rfl, rfl⟩ rfl rfl rfl rfl rfl (by kernel_rfl) Try.func8 (by kernel_rfl)
    (of_decide_eq_true (by kernel_rfl)) (by unfold Func.isWrapper; first | (rw [if_pos (by decide +kernel)]; kernel_rfl) | (rw [if_neg (by decide +kernel)]; exact ⟨rfl, rfl⟩))
    (fun os started H enc _ => lifted os started H enc)

theorem proved : Rows.SizeFitsSaid := over
#print axioms proved
end Go.Proofs.Ytlldfglmoeeocaa.sizeFits
