/- SizeObjects holds for every input: an object has two words more than fields, if they are few enough. No condition. -/
import Derived.Test.YtlldfglmoeeocaaRows
import Derived.Test.YtlldfglmoeeocaaRd
import Derived.Test.YtlldfglmoeeocaaSs
namespace Go.Proofs.Ytlldfglmoeeocaa.sizeObjects
open Go.RowKit Go.Proofs.Ytlldfglmoeeocaa

theorem go (n : Int) (n1 : n ≤ 9223372036854775807) (w : World) : Calls Try.prog 4 #[.int .i64 n] w fun e w' => e = .returned (.bool true) ∧ Sw.Ext w w' := by
  by_cases h1 : n < 0
  · have e1 : Sz.objS n = 0 := by unfold Sz.objS; rw [if_pos h1]
    have e2 : Sz.objE n = 1 := by unfold Sz.objE; rw [if_pos h1]
    go_enter Try.func4, Try.ntmps4
    go_wp2_with (first | (go_at_call 10; refine (Ss.shown_any _).mono ?_; rintro e w' ⟨rfl, rfl⟩) | (go_at_call 12; refine (Sw.object_any _ _).mono ?_; rintro e w' ⟨rfl, rfl⟩))
    (go_ret; exact ⟨(by first | rfl | (simp; done) | (simp; omega)), (by repeat (first | exact Sw.Ext.refl _ | assumption | refine Sw.Ext.alloc ?_ _ | refine Sw.Ext.drewN ?_ _ | refine Sw.Ext.drew ?_ | refine Sw.Ext.trans ?_ (by assumption)))⟩)
  · by_cases h2 : 16 < n
    · have e1 : Sz.objS n = 0 := by unfold Sz.objS; rw [if_neg h1, if_pos h2]
      have e2 : Sz.objE n = 3 := by unfold Sz.objE; rw [if_neg h1, if_pos h2]
      go_enter Try.func4, Try.ntmps4
      go_wp2_with (first | (go_at_call 10; refine (Ss.shown_any _).mono ?_; rintro e w' ⟨rfl, rfl⟩) | (go_at_call 12; refine (Sw.object_any _ _).mono ?_; rintro e w' ⟨rfl, rfl⟩))
      (go_ret; exact ⟨(by first | rfl | (simp; done) | (simp; omega)), (by repeat (first | exact Sw.Ext.refl _ | assumption | refine Sw.Ext.alloc ?_ _ | refine Sw.Ext.drewN ?_ _ | refine Sw.Ext.drew ?_ | refine Sw.Ext.trans ?_ (by assumption)))⟩)
    · have e1 : Sz.objS n = n + 2 := by unfold Sz.objS; rw [if_neg h1, if_neg h2]
      have e2 : Sz.objE n = 0 := by unfold Sz.objE; rw [if_neg h1, if_neg h2]
      have h1' : 0 ≤ n := by omega
      have h2' : n ≤ 16 := by omega
      clear h1 h2
      go_enter Try.func4, Try.ntmps4
      go_wp2_with (first | (go_at_call 10; refine (Ss.shown_any _).mono ?_; rintro e w' ⟨rfl, rfl⟩) | (go_at_call 12; refine (Sw.object_any _ _).mono ?_; rintro e w' ⟨rfl, rfl⟩))
      (go_ret; exact ⟨(by first | rfl | (simp; done) | (simp; omega)), (by repeat (first | exact Sw.Ext.refl _ | assumption | refine Sw.Ext.alloc ?_ _ | refine Sw.Ext.drewN ?_ _ | refine Sw.Ext.drew ?_ | refine Sw.Ext.trans ?_ (by assumption)))⟩)

theorem walk (v0 : Value) (W : World) (r0 : Rd.V Try.prog W 3 v0) : Calls Try.prog 4 #[v0] W fun e w' => e = .returned (.bool true) ∧ Below W.heap.size W w' := by
  obtain ⟨n, rfl, hn⟩ := r0.int Try.underlying3
  exact (go n (Rd.i64_bd hn).2 W).mono fun e w' ⟨he, hw⟩ => ⟨he, hw.below⟩

open Go.ChangeShapes Go.WideShapes Go.ChangeAt Go.RowKit
theorem own : ownKnob Try.prog.godebug = none := by kernel_rfl
theorem laidOut : laidOutB Try.prog = true := by kernel_rfl

set_option maxRecDepth 100000 in
theorem lifted (os : Os) (started : os.Started) (H : Type) (enc : TypeId × Value → H) :
    ReturnsInHanded {} Try.checked os 4 .any (Rows.sizeObjectsSpec.pre6 enc Try.prog Try.f4 Rows.sizeObjectsRow.domain false) (Rows.sizeObjectsSpec.post enc Try.prog Try.f4 false true false false) := by
  refine returnsInHanded_of_change_sized (C := Try.checked) own started (by kernel_rfl) Try.func4
    (ChangeSpec.witness6 (enc := enc) (C := Try.checked) false ⟨#[], #[.int .i64 0], []⟩ 12 (by kernel_rfl) (by kernel_rfl) (by kernel_rfl) (by kernel_rfl)) ?_
  intro W base args ds gs before hval0 hW _ hsz0 _
  have hval : ∀ (j : Nat) t v, Try.f4.params[j]? = some t → args[j]? = some v → Value.okWide Try.prog W .any base t v := hval0
  have hW' := hW
  obtain ⟨p, q, hA0, hV, rfl, _, _⟩ := hW
  have hA : DataW.TrodAll enc Try.prog W 0 (fun _ => true) true Try.f4.params.toList args.toList ds p := hA0
  obtain ⟨rfl, rfl⟩ := trodVars_none hV
  have hsz : (DataW.weightsEach Try.prog (Try.f4.params.toList ++ []) (ds ++ [])).all (· ≤ reachBytes) = true := hsz0
  rw [Try.params4] at hA hval hsz
  have hA2 := hA
  obtain ⟨v0, vs0, d0, ds0, p0, q0, hargs, rfl, rfl, h0, r0⟩ := trodAll_cons hA2
  obtain ⟨rfl, rfl, rfl⟩ := trodAll_nil r0
  obtain rfl : args = #[v0] := by cases args; simp_all
  have hR := Rd.trodAll_V hA (fun n hn => by simpa using List.all_eq_true.1 hsz n (by simpa using hn)) (fun j t v hj hv => hval j t v (by simpa using hj) (by simpa using hv))
  clear hA0 hval0 hA2
  refine (walk v0 W (hR 0 3 v0 rfl rfl)).mono fun e W' ⟨he, bel⟩ => ?_
  subst he
  exact ⟨_, rfl, _, _, _, [], _, [], hW', trodAll_mk1 (shut_bool Try.underlying4 _), Rd.trodAll_below laidOut bel (List.forall_mem_cons.2 ⟨⟨by kernel_rfl, of_decide_eq_true (by kernel_rfl)⟩, fun _ h => by cases h⟩) hA, rfl, bel.frame _, fun h => by cases h⟩

theorem over : Rows.sizeObjectsRow.holds Try.pinned (OpenSpec.ofChange Rows.sizeObjectsSpec) :=
  OpenClaim.holds_of_wide 4 Try.f4 rfl rfl rfl rfl rfl rfl rfl ⟨rfl, rfl, rfl, rfl, rfl⟩ rfl rfl rfl rfl rfl (by kernel_rfl) Try.func4 (by kernel_rfl)
    (of_decide_eq_true (by kernel_rfl)) (by unfold Func.isWrapper; first | (rw [if_pos (by decide +kernel)]; kernel_rfl) | (rw [if_neg (by decide +kernel)]; exact ⟨rfl, rfl⟩))
    (fun os started H enc _ => lifted os started H enc)

theorem proved : Rows.SizeObjectsSaid := over
#print axioms proved
end Go.Proofs.Ytlldfglmoeeocaa.sizeObjects
