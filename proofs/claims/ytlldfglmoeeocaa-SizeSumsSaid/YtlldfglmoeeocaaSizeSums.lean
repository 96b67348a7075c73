/- SizeSums holds for every input: a sum that is told is no less than either, it hangs on no order, and with 0 it is the number. No condition. -/
import Derived.Test.YtlldfglmoeeocaaRows
import Derived.Test.YtlldfglmoeeocaaRd
import Derived.Test.YtlldfglmoeeocaaSs
namespace Go.Proofs.Ytlldfglmoeeocaa.sizeSums
open Go.RowKit Go.Proofs.Ytlldfglmoeeocaa

theorem core (a b s t z : Int) (a0 : -9223372036854775808 ≤ a) (a1 : a ≤ 9223372036854775807) (is has iz : Bool) (G1 : Hid (∀ w, Calls Try.prog 15 #[.int .i64 a, .int .i64 b] w fun e w' => e = .returned (.tuple #[.int .i64 s, .bool is]) ∧ Sw.Ext w w'))
    (G2 : Hid (∀ w, Calls Try.prog 15 #[.int .i64 b, .int .i64 a] w fun e w' => e = .returned (.tuple #[.int .i64 t, .bool has]) ∧ Sw.Ext w w'))
    (G3 : Hid (∀ w, Calls Try.prog 15 #[.int .i64 a, .int .i64 0] w fun e w' => e = .returned (.tuple #[.int .i64 z, .bool iz]) ∧ Sw.Ext w w'))
    (f1 : (s == t) = true ∧ ((is = false ∧ has = false ∧ (s == 0) = true) ∨ (is = true ∧ has = true ∧ a ≤ s ∧ b ≤ s ∧ s ≤ 9223372036854775807 ∧ 0 ≤ a ∧ (s - a == b) = true)))
    (f2 : (iz = false ∧ a < 0) ∨ (iz = true ∧ 0 ≤ a ∧ (z == a) = true)) (w : World) :
    Calls Try.prog 7 #[.int .i64 a, .int .i64 b] w fun e w' => e = .returned (.bool true) ∧ Sw.Ext w w' := by
  obtain ⟨g, ⟨rfl, rfl, p1⟩ | ⟨rfl, rfl, p1, p2, p3, p4, p5⟩⟩ := f1 <;> rcases f2 with ⟨rfl, q1⟩ | ⟨rfl, q1, q2⟩
  all_goals
    go_enter Try.func7, Try.ntmps7
    go_wp2_with (go_at_call 10; refine (Ss.shown_any _).mono ?_; rintro e w' ⟨rfl, rfl⟩); refine (G1.out _).mono ?_; rintro e w' ⟨rfl, hb1⟩; go_wp2_with fail; refine (G2.out _).mono ?_; rintro e w' ⟨rfl, hb2⟩; go_wp2_with fail; refine (G3.out _).mono ?_; rintro e w' ⟨rfl, hb3⟩; go_wp2_with fail
    (go_ret; exact ⟨(by first | rfl | (simp; done) | (simp; omega)), (by repeat (first | exact Sw.Ext.refl _ | assumption | refine Sw.Ext.alloc ?_ _ | refine Sw.Ext.drewN ?_ _ | refine Sw.Ext.drew ?_ | refine Sw.Ext.trans ?_ (by assumption)))⟩)

theorem go (a b : Int) (a0 : -9223372036854775808 ≤ a) (a1 : a ≤ 9223372036854775807) (b0 : -9223372036854775808 ≤ b) (b1 : b ≤ 9223372036854775807) (w : World) : Calls Try.prog 7 #[.int .i64 a, .int .i64 b] w fun e w' => e = .returned (.bool true) ∧ Sw.Ext w w' := by
  refine core a b _ _ _ a0 a1 _ _ _ (fun w => Sw.add_any a b a0 a1 b0 b1 w) (fun w => Sw.add_any b a b0 b1 a0 a1 w) (fun w => Sw.add_any a 0 a0 a1 (by omega) (by omega) w) ?_ ?_ w
  · cases h : Sz.addOk a b with
    | true =>
      have h' := Sz.addOk_iff.1 h
      have k : Sz.addOk b a = true := Sz.addOk_iff.2 (by omega)
      rw [Sz.addS_ok h, Sz.addS_ok k, k]
      exact ⟨beq_iff_eq.2 (by omega), .inr ⟨rfl, rfl, by omega, by omega, by omega, by omega, beq_iff_eq.2 (by omega)⟩⟩
    | false =>
      have k : Sz.addOk b a = false := Sz.eq_false_of Sz.addOk_iff (fun h2 => by have := Sz.addOk_iff (a := a) (b := b); rw [h] at this; simp at this; omega)
      rw [Sz.addS_no h, Sz.addS_no k, k]
      exact ⟨rfl, .inl ⟨rfl, rfl, rfl⟩⟩
  · by_cases h : 0 ≤ a
    · have k : Sz.addOk a 0 = true := Sz.addOk_iff.2 (by omega)
      rw [k, Sz.addS_ok k]
      exact .inr ⟨rfl, h, beq_iff_eq.2 (by omega)⟩
    · have k : Sz.addOk a 0 = false := Sz.eq_false_of Sz.addOk_iff (by omega)
      rw [k]
      exact .inl ⟨rfl, by omega⟩

theorem walk (v0 : Value) (v1 : Value) (W : World) (r0 : Rd.V Try.prog W 3 v0) (r1 : Rd.V Try.prog W 3 v1) : Calls Try.prog 7 #[v0, v1] W fun e w' => e = .returned (.bool true) ∧ Below W.heap.size W w' := by
  obtain ⟨a, rfl, ha⟩ := r0.int Try.underlying3
  obtain ⟨b, rfl, hb⟩ := r1.int Try.underlying3
  have h1 := Rd.i64_bd ha
  have h2 := Rd.i64_bd hb
  exact (go a b h1.1 h1.2 h2.1 h2.2 W).mono fun e w' ⟨he, hw⟩ => ⟨he, hw.below⟩

open Go.ChangeShapes Go.WideShapes Go.ChangeAt Go.RowKit
theorem own : ownKnob Try.prog.godebug = none := by kernel_rfl
theorem laidOut : laidOutB Try.prog = true := by kernel_rfl

set_option maxRecDepth 100000 in
theorem lifted (os : Os) (started : os.Started) (H : Type) (enc : TypeId × Value → H) :
    ReturnsInHanded {} Try.checked os 7 .any (Rows.sizeSumsSpec.pre6 enc Try.prog Try.f7 Rows.sizeSumsRow.domain false) (Rows.sizeSumsSpec.post enc Try.prog Try.f7 false true false false) := by
  refine returnsInHanded_of_change_sized (C := Try.checked) own started (by kernel_rfl) Try.func7
    (ChangeSpec.witness6 (enc := enc) (C := Try.checked) false ⟨#[], #[.int .i64 0, .int .i64 0], []⟩ 12 (by kernel_rfl) (by kernel_rfl) (by kernel_rfl) (by kernel_rfl)) ?_
  intro W base args ds gs before hval0 hW _ hsz0 _
  have hval : ∀ (j : Nat) t v, Try.f7.params[j]? = some t → args[j]? = some v → Value.okWide Try.prog W .any base t v := hval0
  have hW' := hW
  obtain ⟨p, q, hA0, hV, rfl, _, _⟩ := hW
  have hA : DataW.TrodAll enc Try.prog W 0 (fun _ => true) true Try.f7.params.toList args.toList ds p := hA0
  obtain ⟨rfl, rfl⟩ := trodVars_none hV
  have hsz : (DataW.weightsEach Try.prog (Try.f7.params.toList ++ []) (ds ++ [])).all (· ≤ reachBytes) = true := hsz0
  rw [Try.params7] at hA hval hsz
  have hA2 := hA
  obtain ⟨v0, vs0, d0, ds0, p0, q0, hargs, rfl, rfl, h0, r0⟩ := trodAll_cons hA2
  obtain ⟨v1, vs1, d1, ds1, p1, q1, rfl, rfl, rfl, h1, r1⟩ := trodAll_cons r0
  obtain ⟨rfl, rfl, rfl⟩ := trodAll_nil r1
  obtain rfl : args = #[v0, v1] := by cases args; simp_all
  have hR := Rd.trodAll_V hA (fun n hn => by simpa using List.all_eq_true.1 hsz n (by simpa using hn)) (fun j t v hj hv => hval j t v (by simpa using hj) (by simpa using hv))
  clear hA0 hval0 hA2
  refine (walk v0 v1 W (hR 0 3 v0 rfl rfl) (hR 1 3 v1 rfl rfl)).mono fun e W' ⟨he, bel⟩ => ?_
  subst he
  exact ⟨_, rfl, _, _, _, [], _, [], hW', trodAll_mk1 (shut_bool Try.underlying4 _), Rd.trodAll_below laidOut bel (List.forall_mem_cons.2 ⟨⟨by kernel_rfl, of_decide_eq_true (by kernel_rfl)⟩, List.forall_mem_cons.2 ⟨⟨by kernel_rfl, of_decide_eq_true (by kernel_rfl)⟩, fun _ h => by cases h⟩⟩) hA, rfl, bel.frame _, fun h => by cases h⟩

theorem over : Rows.sizeSumsRow.holds Try.pinned (OpenSpec.ofChange Rows.sizeSumsSpec) :=
  OpenClaim.holds_of_wide 7 Try.f7 rfl rfl rfl rfl rfl rfl rfl ⟨rfl, rfl, rfl, rfl, rfl⟩ rfl rfl rfl rfl rfl (by kernel_rfl) Try.func7 (by kernel_rfl)
    (of_decide_eq_true (by kernel_rfl)) (by unfold Func.isWrapper; first | (rw [if_pos (by decide +kernel)]; kernel_rfl) | (rw [if_neg (by decide +kernel)]; exact ⟨rfl, rfl⟩))
    (fun os started H enc _ => lifted os started H enc)

theorem proved : Rows.SizeSumsSaid := over
#print axioms proved
end Go.Proofs.Ytlldfglmoeeocaa.sizeSums
