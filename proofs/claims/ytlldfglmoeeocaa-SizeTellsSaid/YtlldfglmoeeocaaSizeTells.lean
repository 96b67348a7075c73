/- SizeTells holds for every input: sums that don't go round, how many words an object takes, what fits, and addresses, are as the document says. No condition. -/
import Derived.Test.YtlldfglmoeeocaaRows
import Derived.Test.YtlldfglmoeeocaaRd
import Derived.Test.YtlldfglmoeeocaaSs
import Derived.Test.YtlldfglmoeeocaaSr
namespace Go.Proofs.Ytlldfglmoeeocaa.sizeTells
open Go.RowKit Go.Proofs.Ytlldfglmoeeocaa

set_option maxHeartbeats 4000000 in
theorem go (a b k ad : Int) (a0 : -9223372036854775808 ≤ a) (a1 : a ≤ 9223372036854775807) (b0 : -9223372036854775808 ≤ b) (b1 : b ≤ 9223372036854775807) (k0 : -9223372036854775808 ≤ k) (k1 : k ≤ 9223372036854775807)
    (d0 : 0 ≤ ad) (d1 : ad ≤ 18446744073709551615) (w : World) :
    Calls Try.prog 9 #[.agg #[.int .i64 a, .int .i64 b, .int .i64 k, .int .u64 ad]] w fun e w' => e = .returned (.bool true) ∧ Sw.Ext w w' := by
  have ho : ((Sz.other a == 1) = true ∧ (a == 0) = true) ∨ ((Sz.other a == 1) = false ∧ (Sz.other a == 0) = true ∧ (a != 0) = true) := by
    unfold Sz.other
    by_cases z : a = 0
    · exact .inl ⟨by rw [if_pos z]; rfl, beq_iff_eq.2 z⟩
    · exact .inr ⟨by rw [if_neg z]; rfl, by rw [if_neg z]; rfl, bne_iff_ne.2 z⟩
  rcases ho with ⟨p1, p2⟩ | ⟨p1, p2, p3⟩
  all_goals
    go_enter Try.func9, Try.ntmps9
    go_wp2_with (first | (go_at_call 10; refine (Ss.shown_any _).mono ?_; rintro e w' ⟨rfl, rfl⟩) | (go_at_call 15; refine (Sw.add_any _ _ (by omega) (by omega) (by omega) (by omega) _).mono ?_; rintro e w' ⟨rfl, hb⟩) | (go_at_call 17; refine (Sr.add_any _ _ (by omega) (by omega) (by omega) (by omega) _).mono ?_; rintro e w' ⟨rfl, rfl⟩) | (go_at_call 12; refine (Sw.object_any _ _).mono ?_; rintro e w' ⟨rfl, rfl⟩) | (go_at_call 18; refine (Sr.object_any _ _).mono ?_; rintro e w' ⟨rfl, rfl⟩) | (go_at_call 14; refine (Sw.where_any _ (by omega) (by omega) _).mono ?_; rintro e w' ⟨rfl, hb⟩) | (go_at_call 19; refine (Sr.where_any _ (by omega) (by omega) _).mono ?_; rintro e w' ⟨rfl, rfl⟩) | (go_at_call 13; refine (Sw.other_any _ _).mono ?_; rintro e w' ⟨rfl, rfl⟩) | (go_at_call 16; refine (Sw.fits_any _ _ _ (by omega) (by omega) (by omega) (by omega) (by omega) _).mono ?_; rintro e w' ⟨rfl, hb⟩) | (go_at_call 20; refine (Sr.fits_any _ _ _ (by omega) (by omega) _).mono ?_; rintro e w' ⟨rfl, rfl⟩) | (go_at_call 11; refine (Sw.addr_any _ _ _).mono ?_; rintro e w' ⟨rfl, rfl⟩) | (go_at_call 21; refine (Sr.addr_any _ _ _).mono ?_; rintro e w' ⟨rfl, rfl⟩))
    (go_ret; exact ⟨(by first | rfl | (simp; done) | (simp; omega)), (by repeat (first | exact Sw.Ext.refl _ | assumption | refine Sw.Ext.alloc ?_ _ | refine Sw.Ext.drewN ?_ _ | refine Sw.Ext.drew ?_ | refine Sw.Ext.trans ?_ (by assumption)))⟩)

theorem walk (v0 : Value) (W : World) (r0 : Rd.V Try.prog W 41 v0) : Calls Try.prog 9 #[v0] W fun e w' => e = .returned (.bool true) ∧ Below W.heap.size W w' := by
  have k : Try.prog.cellsOf 3 = 1 := by kernel_rfl
  have k2 : Try.prog.cellsOf 25 = 1 := by kernel_rfl
  obtain ⟨cs, rfl, hs⟩ := r0.struct Try.underlying41
  obtain ⟨hl, _⟩ := hs.struct Try.underlying41
  rw [show Try.prog.cellsOf 41 = 4 by kernel_rfl] at hl
  match cs, hl with
  | [c0, c1, c2, c3], _ =>
    obtain ⟨a, hs0, wa⟩ := (Rd.R.field Try.underlying41 hs 0 rfl 0 1 3 rfl rfl k).int Try.underlying3
    obtain rfl : c0 = .int .i64 a := by simpa using hs0
    obtain ⟨b, hs1, wb⟩ := (Rd.R.field Try.underlying41 hs 1 rfl 1 1 3 rfl rfl k).int Try.underlying3
    obtain rfl : c1 = .int .i64 b := by simpa using hs1
    obtain ⟨m, hs2, wm⟩ := (Rd.R.field Try.underlying41 hs 2 rfl 2 1 3 rfl rfl k).int Try.underlying3
    obtain rfl : c2 = .int .i64 m := by simpa using hs2
    obtain ⟨d, hs3, wd⟩ := (Rd.R.field Try.underlying41 hs 3 rfl 3 1 25 rfl rfl k2).int Try.underlying25
    obtain rfl : c3 = .int .u64 d := by simpa using hs3
    have h1 := Rd.i64_bd wa
    have h2 := Rd.i64_bd wb
    have h3 := Rd.i64_bd wm
    have h4 := Rd.u64_bd wd
    exact (go a b m d h1.1 h1.2 h2.1 h2.2 h3.1 h3.2 h4.1 h4.2 W).mono fun e w' ⟨he, hw⟩ => ⟨he, hw.below⟩

open Go.ChangeShapes Go.WideShapes Go.ChangeAt Go.RowKit
theorem own : ownKnob Try.prog.godebug = none := by kernel_rfl
theorem laidOut : laidOutB Try.prog = true := by kernel_rfl

set_option maxRecDepth 100000 in
theorem lifted (os : Os) (started : os.Started) (H : Type) (enc : TypeId × Value → H) :
    ReturnsInHanded {} Try.checked os 9 .any (Rows.sizeTellsSpec.pre6 enc Try.prog Try.f9 Rows.sizeTellsRow.domain false) (Rows.sizeTellsSpec.post enc Try.prog Try.f9 false true false false) := by
  refine returnsInHanded_of_change_sized (C := Try.checked) own started (by kernel_rfl) Try.func9
    (ChangeSpec.witness6 (enc := enc) (C := Try.checked) false ⟨#[], #[.agg #[.int .i64 0, .int .i64 0, .int .i64 0, .int .u64 0]], []⟩ 12 (by kernel_rfl) (by kernel_rfl) (by kernel_rfl) (by kernel_rfl)) ?_
  intro W base args ds gs before hval0 hW _ hsz0 _
  have hval : ∀ (j : Nat) t v, Try.f9.params[j]? = some t → args[j]? = some v → Value.okWide Try.prog W .any base t v := hval0
  have hW' := hW
  obtain ⟨p, q, hA0, hV, rfl, _, _⟩ := hW
  have hA : DataW.TrodAll enc Try.prog W 0 (fun _ => true) true Try.f9.params.toList args.toList ds p := hA0
  obtain ⟨rfl, rfl⟩ := trodVars_none hV
  have hsz : (DataW.weightsEach Try.prog (Try.f9.params.toList ++ []) (ds ++ [])).all (· ≤ reachBytes) = true := hsz0
  rw [Try.params9] at hA hval hsz
  have hA2 := hA
  obtain ⟨v0, vs0, d0, ds0, p0, q0, hargs, rfl, rfl, h0, r0⟩ := trodAll_cons hA2
  obtain ⟨rfl, rfl, rfl⟩ := trodAll_nil r0
  obtain rfl : args = #[v0] := by cases args; simp_all
  have hR := Rd.trodAll_V hA (fun n hn => by simpa using List.all_eq_true.1 hsz n (by simpa using hn)) (fun j t v hj hv => hval j t v (by simpa using hj) (by simpa using hv))
  clear hA0 hval0 hA2
  refine (walk v0 W (hR 0 41 v0 rfl rfl)).mono fun e W' ⟨he, bel⟩ => ?_
  subst he
  exact ⟨_, rfl, _, _, _, [], _, [], hW', trodAll_mk1 (shut_bool Try.underlying4 _), Rd.trodAll_below laidOut bel (List.forall_mem_cons.2 ⟨⟨by kernel_rfl, of_decide_eq_true (by kernel_rfl)⟩, fun _ h => by cases h⟩) hA, rfl, bel.frame _, fun h => by cases h⟩

theorem over : Rows.sizeTellsRow.holds Try.pinned (OpenSpec.ofChange Rows.sizeTellsSpec) :=
  OpenClaim.holds_of_wide 9 Try.f9 rfl rfl rfl rfl rfl rfl rfl ⟨rfl, rfl, rfl, rfl, rfl⟩ rfl rfl rfl rfl rfl (by kernel_rfl) Try.func9 (by kernel_rfl)
    (of_decide_eq_true (by kernel_rfl)) (by unfold Func.isWrapper; first | (rw [if_pos (by decide +kernel)]; kernel_rfl) | (rw [if_neg (by decide +kernel)]; exact ⟨rfl, rfl⟩))
    (fun os started H enc _ => lifted os started H enc)

theorem proved : Rows.SizeTellsSaid := over
#print axioms proved
end Go.Proofs.Ytlldfglmoeeocaa.sizeTells
