/- SizeBack holds for every input: an address leads to the place that has it, and a place's address leads there. No condition. -/
import Derived.Test.YtlldfglmoeeocaaRows
import Derived.Test.YtlldfglmoeeocaaRd
import Derived.Test.YtlldfglmoeeocaaSs
namespace Go.Proofs.Ytlldfglmoeeocaa.sizeBack
open Go.RowKit Go.Proofs.Ytlldfglmoeeocaa

set_option maxHeartbeats 4000000 in
/-- The walk: the place's address and where it leads, the address' place and its address. -/
theorem core (s a ad x p q u v y : Int) (i1 i2 : Bool) (G1 : Hid (∀ w, Calls Try.prog 11 #[.int .i64 s, .int .i64 a] w fun e w' => e = .returned (.int .u64 x) ∧ w = w'))
    (G2 : Hid (∀ w, Calls Try.prog 14 #[.int .u64 x] w fun e w' => e = .returned (.tuple #[.int .i64 p, .int .i64 q, .bool i1]) ∧ Sw.Ext w w'))
    (G3 : Hid (∀ w, Calls Try.prog 14 #[.int .u64 ad] w fun e w' => e = .returned (.tuple #[.int .i64 u, .int .i64 v, .bool i2]) ∧ Sw.Ext w w'))
    (G4 : Hid (∀ w, Calls Try.prog 11 #[.int .i64 u, .int .i64 v] w fun e w' => e = .returned (.int .u64 y) ∧ w = w'))
    (f1 : (i1 = true ∧ (s == 0) = true ∧ 0 ≤ a ∧ a < 4294967296 ∧ (p != s) = false ∧ (q != a) = false) ∨ (i1 = true ∧ (s == 0) = false ∧ (s == 1) = true ∧ 0 ≤ a ∧ a < 4294967296 ∧ (p != s) = false ∧ (q != a) = false) ∨
      (i1 = false ∧ (x != 0) = false ∧ (((s == 0) = false ∧ (s == 1) = false) ∨ ((s == 0) = true ∧ a < 0) ∨ ((s == 0) = true ∧ 0 ≤ a ∧ 4294967296 ≤ a) ∨ ((s == 0) = false ∧ (s == 1) = true ∧ a < 0) ∨ ((s == 0) = false ∧ (s == 1) = true ∧ 0 ≤ a ∧ 4294967296 ≤ a))))
    (f2 : i2 = false ∨ (i2 = true ∧ (y == ad) = true)) (w : World) :
    Calls Try.prog 6 #[.int .i64 s, .int .i64 a, .int .u64 ad] w fun e w' => e = .returned (.bool true) ∧ Sw.Ext w w' := by
  rcases f2 with rfl | ⟨rfl, t1⟩
  · rcases f1 with ⟨rfl, p1, p2, p3, p4, p5⟩ | ⟨rfl, p1, p2, p3, p4, p5, p6⟩ | ⟨rfl, p0, ⟨p1, p2⟩ | ⟨p1, p2⟩ | ⟨p1, p2, p3⟩ | ⟨p1, p2, p3⟩ | ⟨p1, p2, p3, p4⟩⟩
    all_goals
      go_enter Try.func6, Try.ntmps6
      go_wp2_with (go_at_call 10; refine (Ss.shown_any _).mono ?_; rintro e w' ⟨rfl, rfl⟩); refine (G1.out _).mono ?_; rintro e w' ⟨rfl, rfl⟩; go_wp2_with fail; refine (G2.out _).mono ?_; rintro e w' ⟨rfl, hb1⟩; go_wp2_with fail; refine (G3.out _).mono ?_; rintro e w' ⟨rfl, hb2⟩
      go_wp2_with fail
      (go_ret; exact ⟨(by first | rfl | (simp; done) | (simp; omega)), (by repeat (first | exact Sw.Ext.refl _ | assumption | refine Sw.Ext.alloc ?_ _ | refine Sw.Ext.drewN ?_ _ | refine Sw.Ext.drew ?_ | refine Sw.Ext.trans ?_ (by assumption)))⟩)
  · rcases f1 with ⟨rfl, p1, p2, p3, p4, p5⟩ | ⟨rfl, p1, p2, p3, p4, p5, p6⟩ | ⟨rfl, p0, ⟨p1, p2⟩ | ⟨p1, p2⟩ | ⟨p1, p2, p3⟩ | ⟨p1, p2, p3⟩ | ⟨p1, p2, p3, p4⟩⟩
    all_goals
      go_enter Try.func6, Try.ntmps6
      go_wp2_with (go_at_call 10; refine (Ss.shown_any _).mono ?_; rintro e w' ⟨rfl, rfl⟩); refine (G1.out _).mono ?_; rintro e w' ⟨rfl, rfl⟩; go_wp2_with fail; refine (G2.out _).mono ?_; rintro e w' ⟨rfl, hb1⟩; go_wp2_with fail; refine (G3.out _).mono ?_; rintro e w' ⟨rfl, hb2⟩
      go_wp2_with fail
      refine (G4.out _).mono ?_; rintro e w' ⟨rfl, rfl⟩
      go_wp2_with fail
      (go_ret; exact ⟨(by first | rfl | (simp; done) | (simp; omega)), (by repeat (first | exact Sw.Ext.refl _ | assumption | refine Sw.Ext.alloc ?_ _ | refine Sw.Ext.drewN ?_ _ | refine Sw.Ext.drew ?_ | refine Sw.Ext.trans ?_ (by assumption)))⟩)

theorem go (s a ad : Int) (h0 : 0 ≤ ad) (h1 : ad ≤ 18446744073709551615) (w : World) : Calls Try.prog 6 #[.int .i64 s, .int .i64 a, .int .u64 ad] w fun e w' => e = .returned (.bool true) ∧ Sw.Ext w w' := by
  have bd := Sz.addr_bd s a
  refine core s a ad (Sz.addr s a) _ _ _ _ (Sz.addr (Sz.whS ad) (Sz.whA ad)) _ _ (Sw.addr_any s a) (fun w => Sw.where_any _ (by omega) (by omega) w) (fun w => Sw.where_any ad h0 h1 w) (Sw.addr_any _ _) ?_ ?_ w
  · cases h : Sz.addrOk s a with
    | true =>
      obtain ⟨k1, k2, k3⟩ := Sz.wh_addr h
      have h' := Sz.addrOk_iff.1 h
      rw [k1, k2, k3]
      by_cases z : s = 0
      · exact .inl ⟨rfl, beq_iff_eq.2 z, by omega, by omega, by simp, by simp⟩
      · exact .inr (.inl ⟨rfl, beq_eq_false_iff_ne.2 z, beq_iff_eq.2 (by omega), by omega, by omega, by simp, by simp⟩)
    | false =>
      have k1 := Sz.wh_zero h
      have hn := Sz.addrOk_iff (s := s) (a := a)
      rw [h] at hn
      simp only [Bool.false_eq_true, false_iff] at hn
      refine .inr (.inr ⟨k1, by rw [Sz.addr_no h]; rfl, ?_⟩)
      by_cases z : s = 0
      · have z' : (s == 0) = true := beq_iff_eq.2 z
        by_cases g : a < 0
        · exact .inr (.inl ⟨z', g⟩)
        · exact .inr (.inr (.inl ⟨z', by omega, by omega⟩))
      · have z' : (s == 0) = false := beq_eq_false_iff_ne.2 z
        by_cases o : s = 1
        · have o' : (s == 1) = true := beq_iff_eq.2 o
          by_cases g : a < 0
          · exact .inr (.inr (.inr (.inl ⟨z', o', g⟩)))
          · exact .inr (.inr (.inr (.inr ⟨z', o', by omega, by omega⟩)))
        · exact .inl ⟨z', beq_eq_false_iff_ne.2 o⟩
  · cases h : Sz.whOk ad with
    | false => exact .inl rfl
    | true => exact .inr ⟨rfl, beq_iff_eq.2 (Sz.addr_wh h).2⟩

theorem walk (v0 : Value) (v1 : Value) (v2 : Value) (W : World) (r0 : Rd.V Try.prog W 3 v0) (r1 : Rd.V Try.prog W 3 v1) (r2 : Rd.V Try.prog W 25 v2) : Calls Try.prog 6 #[v0, v1, v2] W fun e w' => e = .returned (.bool true) ∧ Below W.heap.size W w' := by
  obtain ⟨s, rfl, _⟩ := r0.int Try.underlying3
  obtain ⟨a, rfl, _⟩ := r1.int Try.underlying3
  obtain ⟨ad, rfl, h⟩ := r2.int Try.underlying25
  have hb := Rd.u64_bd h
  exact (go s a ad hb.1 hb.2 W).mono fun e w' ⟨he, hw⟩ => ⟨he, hw.below⟩

open Go.ChangeShapes Go.WideShapes Go.ChangeAt Go.RowKit
theorem own : ownKnob Try.prog.godebug = none := by kernel_rfl
theorem laidOut : laidOutB Try.prog = true := by kernel_rfl

set_option maxRecDepth 100000 in
theorem lifted (os : Os) (started : os.Started) (H : Type) (enc : TypeId × Value → H) :
    ReturnsInHanded {} Try.checked os 6 .any (Rows.sizeBackSpec.pre6 enc Try.prog Try.f6 Rows.sizeBackRow.domain false) (Rows.sizeBackSpec.post enc Try.prog Try.f6 false true false false) := by
  refine returnsInHanded_of_change_sized (C := Try.checked) own started (by kernel_rfl) Try.func6
    (ChangeSpec.witness6 (enc := enc) (C := Try.checked) false ⟨#[], #[.int .i64 0, .int .i64 0, .int .u64 0], []⟩ 12 (by kernel_rfl) (by kernel_rfl) (by kernel_rfl) (by kernel_rfl)) ?_
  intro W base args ds gs before hval0 hW _ hsz0 _
  have hval : ∀ (j : Nat) t v, Try.f6.params[j]? = some t → args[j]? = some v → Value.okWide Try.prog W .any base t v := hval0
  have hW' := hW
  obtain ⟨p, q, hA0, hV, rfl, _, _⟩ := hW
  have hA : DataW.TrodAll enc Try.prog W 0 (fun _ => true) true Try.f6.params.toList args.toList ds p := hA0
  obtain ⟨rfl, rfl⟩ := trodVars_none hV
  have hsz : (DataW.weightsEach Try.prog (Try.f6.params.toList ++ []) (ds ++ [])).all (· ≤ reachBytes) = true := hsz0
  rw [Try.params6] at hA hval hsz
  have hA2 := hA
  obtain ⟨v0, vs0, d0, ds0, p0, q0, hargs, rfl, rfl, h0, r0⟩ := trodAll_cons hA2
  obtain ⟨v1, vs1, d1, ds1, p1, q1, rfl, rfl, rfl, h1, r1⟩ := trodAll_cons r0
  obtain ⟨v2, vs2, d2, ds2, p2, q2, rfl, rfl, rfl, h2, r2⟩ := trodAll_cons r1
  obtain ⟨rfl, rfl, rfl⟩ := trodAll_nil r2
  obtain rfl : args = #[v0, v1, v2] := by cases args; simp_all
  have hR := Rd.trodAll_V hA (fun n hn => by simpa using List.all_eq_true.1 hsz n (by simpa using hn)) (fun j t v hj hv => hval j t v (by simpa using hj) (by simpa using hv))
  clear hA0 hval0 hA2
  refine (walk v0 v1 v2 W (hR 0 3 v0 rfl rfl) (hR 1 3 v1 rfl rfl) (hR 2 25 v2 rfl rfl)).mono fun e W' ⟨he, bel⟩ => ?_
  subst he
  exact ⟨_, rfl, _, _, _, [], _, [], hW', trodAll_mk1 (shut_bool Try.underlying4 _), Rd.trodAll_below laidOut bel (List.forall_mem_cons.2 ⟨⟨by kernel_rfl, of_decide_eq_true (by kernel_rfl)⟩, List.forall_mem_cons.2 ⟨⟨by kernel_rfl, of_decide_eq_true (by kernel_rfl)⟩, List.forall_mem_cons.2 ⟨⟨by kernel_rfl, of_decide_eq_true (by kernel_rfl)⟩, fun _ h => by cases h⟩⟩⟩) hA, rfl, bel.frame _, fun h => by cases h⟩

theorem over : Rows.sizeBackRow.holds Try.pinned (OpenSpec.ofChange Rows.sizeBackSpec) :=
  OpenClaim.holds_of_wide 6 Try.f6 rfl rfl rfl rfl rfl rfl rfl ⟨rfl, rfl, rfl, rfl, rfl⟩ rfl rfl rfl rfl rfl (by kernel_rfl) Try.func6 (by kernel_rfl)
    (of_decide_eq_true (by kernel_rfl)) (by unfold Func.isWrapper; first | (rw [if_pos (by decide +kernel)]; kernel_rfl) | (rw [if_neg (by decide +kernel)]; exact ⟨rfl, rfl⟩))
    (fun os started H enc _ => lifted os started H enc)

theorem proved : Rows.SizeBackSaid := over
#print axioms proved
end Go.Proofs.Ytlldfglmoeeocaa.sizeBack
