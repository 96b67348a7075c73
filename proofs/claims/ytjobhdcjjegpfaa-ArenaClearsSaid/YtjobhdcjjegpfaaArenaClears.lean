/- ArenaClears holds for every input: a space that is cleared has nothing but 0; the other one is as it was. No condition. -/
import Derived.Test.YtjobhdcjjegpfaaRows
import Derived.Test.YtjobhdcjjegpfaaAn
namespace Go.Proofs.Ytjobhdcjjegpfaa.arenaClears
open Go.RowKit Go.Proofs.Ytjobhdcjjegpfaa Go.Proofs.Ytjobhdcjjegpfaa.Ar
set_option linter.unusedVariables false

theorem ld_cl {n : Int} {xs ys : List Int} (hr : Ap.Rt n xs ys) {a : Int} (ho : Ap.okAt n a 1 = true) (s : Int) :
    Ap.ldV n (Ap.cl 0 n xs s) (Ap.cl 1 n ys s) a = if Sz.whS a = s then 0 else Ap.ldV n xs ys a := by
  have h1 := Ap.ok1_iff.1 ho
  have h3 := (Sz.wh_bd a).2.2.1
  unfold Ap.ldV
  rw [if_pos ho, if_pos ho]
  unfold Ap.spOf
  rcases Ap.whS_01 (a := a) with e | e
  · rw [if_pos e, if_pos e, e]
    unfold Ap.cl
    by_cases h : s = 0
    · subst h; rw [if_pos rfl, if_pos rfl]
      have : (Sz.whA a).toNat < n.toNat := by omega
      simp [List.getD_eq_getElem?_getD, this]
    · rw [if_neg h, if_neg (fun e => h e.symm)]
  · have e0 : ¬ Sz.whS a = 0 := by omega
    rw [if_neg e0, if_neg e0, e]
    unfold Ap.cl
    by_cases h : s = 1
    · subst h; rw [if_pos rfl, if_pos rfl]
      have : (Sz.whA a).toNat < n.toNat := by omega
      simp [List.getD_eq_getElem?_getD, this]
    · rw [if_neg h, if_neg (fun e => h e.symm)]

set_option maxHeartbeats 8000000 in
theorem go (n : Int) (v0 v1 : Value) (xs ys : List Int) (sp a : Int) (aL : 0 ≤ a) (aH : a ≤ 18446744073709551615) (w : World) (h0 : Sl .u64 w v0 xs) (h1 : Sl .u64 w v1 ys) :
    Calls Try.prog 6 #[.agg #[.int .i64 n, v0, v1], .int .i64 sp, .int .u64 a] w fun e w' => e = .returned (.bool true) ∧ Ext w w' := by
  obtain ⟨b0, c0, rfl⟩ := Row.form h0
  obtain ⟨b1, c1, rfl⟩ := Row.form h1
  have HF := Lib.hid (fun (w' : World) (he : Ext w w') => An.few_any n _ _ xs ys w' (h0.ext he) (h1.ext he))
  cases hf : An.fewB n xs.length ys.length with
  | false =>
    rw [hf] at HF
    clear h0 h1 hf
    go_enter Try.func6, Try.ntmps6
    go_wp2_with fail
    refine (An.shown_any _).mono ?_; rintro e w1 ⟨rfl, hx⟩
    have HE1 := Lib.hid (Ext.trans (by repeat (first | exact Ext.refl _ | assumption | refine Ext.alloc ?_ _ | refine Ext.drewN ?_ _ | refine Ext.drew ?_ | refine Ext.trans ?_ (by assumption))) hx : Ext w w1)
    have HBm1 := Lib.hid (show Blk w1 (w.heap.size) #[.int .i64 n, .slice b0 xs.length c0, .slice b1 ys.length c1] 25 from (blk_at (by simp)).ext hx)
    obtain ⟨p0, p1, p2, _, _, _⟩ := HBm1.out.three
    clear hx
    go_wp2_with fail
    refine (HF.out _ HE1.out).mono ?_; rintro e w2 ⟨rfl, hx⟩
    have HE2 := Lib.hid (HE1.out.trans hx)
    have HBm2 := Lib.hid (HBm1.out.ext hx)
    obtain ⟨p0, p1, p2, _, _, _⟩ := HBm2.out.three
    clear hx
    go_wp2_with fail
    go_ret
    exact ⟨by first | rfl | (simp; done), HE2.out⟩
  | true =>
    obtain ⟨hr, h200⟩ := An.few_right hf
    rw [hf] at HF
    have HK := Lib.hid (fun (w' : World) (he : Ext w w') => clear_any n _ _ xs ys sp hr w' (h0.ext he) (h1.ext he))
    have HL := Lib.hid (fun (w' : World) (he : Ext w w') => load_any n _ _ xs ys a aL aH hr w' (h0.ext he) (h1.ext he))
    have HW := Lib.hid (fun w => Sr.where_any a aL aH w)
    have hr2 := hr.cl sp
    have HL2 : Hid (∀ (w' : World) (v0 v1 : Value), Sl .u64 w' v0 (Ap.cl 0 n xs sp) → Sl .u64 w' v1 (Ap.cl 1 n ys sp) → Calls Try.prog 14 #[.agg #[.int .i64 n, v0, v1], .int .u64 a] w' _) := fun w' v0 v1 g0 g1 => load_any n v0 v1 _ _ a aL aH hr2 w' g0 g1
    have HR2 : Hid (∀ (w' : World) (v0 v1 : Value), Sl .u64 w' v0 (Ap.cl 0 n xs sp) → Sl .u64 w' v1 (Ap.cl 1 n ys sp) → Calls Try.prog 20 #[.agg #[.int .i64 n, v0, v1]] w' (fun e w'' => e = .returned (.bool true) ∧ Ext w' w'')) := fun w' v0 v1 g0 g1 => by
      have := rright_any n v0 v1 _ _ w' g0 g1
      rwa [rightB_iff.2 hr2] at this
    have hcase : (Sz.whOk a = false) ∨ (Sz.whOk a = true ∧ (Ap.ldE n a != 0) = true) ∨ (Sz.whOk a = true ∧ (Ap.ldE n a != 0) = false ∧ (Sz.whS a == sp) = true ∧ Ap.ldV n (Ap.cl 0 n xs sp) (Ap.cl 1 n ys sp) a = 0) ∨
        (Sz.whOk a = true ∧ (Ap.ldE n a != 0) = false ∧ (Sz.whS a == sp) = false ∧ Ap.ldV n (Ap.cl 0 n xs sp) (Ap.cl 1 n ys sp) a = Ap.ldV n xs ys a) := by
      cases hw : Sz.whOk a with
      | false => exact .inl rfl
      | true =>
        right
        cases ho : Ap.okAt n a 1 with
        | false => left; exact ⟨rfl, by unfold Ap.ldE; rw [ho]; rfl⟩
        | true =>
          right
          have e1 : (Ap.ldE n a != 0) = false := by unfold Ap.ldE; rw [if_pos ho]; rfl
          by_cases h : Sz.whS a = sp
          · left; exact ⟨rfl, e1, beq_iff_eq.2 h, by rw [ld_cl hr ho, if_pos h]⟩
          · right; exact ⟨rfl, e1, beq_eq_false_iff_ne.2 h, by rw [ld_cl hr ho, if_neg h]⟩
    have S0 := Lib.hid h0
    have S1 := Lib.hid h1
    clear h0 h1 hr hr2 hf
    generalize Ap.ldV n (Ap.cl 0 n xs sp) (Ap.cl 1 n ys sp) a = z at HL2 hcase
    generalize Ap.cl 0 n xs sp = x0 at HK HL2 HR2
    generalize Ap.cl 1 n ys sp = x1 at HK HL2 HR2
    generalize Ap.ldV n xs ys a = x at HL hcase
    generalize Ap.ldE n a = r at HL HL2 hcase
    generalize Sz.whOk a = is at HW hcase
    generalize Sz.whS a = s at HW hcase
    generalize Sz.whA a = q at HW
    rcases hcase with rfl | ⟨rfl, hc⟩ | ⟨rfl, hc, hs, rfl⟩ | ⟨rfl, hc, hs, rfl⟩
    all_goals try have hs2 : (s != sp) = true := by rw [bne, hs]; rfl
    all_goals
      go_enter Try.func6, Try.ntmps6
      go_wp2_with fail
      refine (An.shown_any _).mono ?_; rintro e w1 ⟨rfl, hx⟩
      have HE1 := Lib.hid (Ext.trans (by repeat (first | exact Ext.refl _ | assumption | refine Ext.alloc ?_ _ | refine Ext.drewN ?_ _ | refine Ext.drew ?_ | refine Ext.trans ?_ (by assumption))) hx : Ext w w1)
      have HBm1 := Lib.hid (show Blk w1 (w.heap.size) #[.int .i64 n, .slice b0 xs.length c0, .slice b1 ys.length c1] 25 from (blk_at (by simp)).ext hx)
      obtain ⟨p0, p1, p2, _, _, _⟩ := HBm1.out.three
      clear hx
      go_wp2_with fail
      refine (HF.out _ HE1.out).mono ?_; rintro e w2 ⟨rfl, hx⟩
      have HE2 := Lib.hid (HE1.out.trans hx)
      have HBm2 := Lib.hid (HBm1.out.ext hx)
      obtain ⟨p0, p1, p2, _, _, _⟩ := HBm2.out.three
      clear hx
      go_wp2_with fail
      refine (HK.out _ HE2.out).mono ?_; rintro e w3 ⟨u0, u1, rfl, hu0, hu1, hx⟩
      have HE3 := Lib.hid (HE2.out.trans hx)
      have HBm3 := Lib.hid (HBm2.out.ext hx)
      obtain ⟨dk0, fk0, rfl⟩ := Row.form (hu0.sl (S0.out.ext HE3.out))
      obtain ⟨dk1, fk1, rfl⟩ := Row.form (hu1.sl (S1.out.ext HE3.out))
      have Uk0 := Lib.hid (hu0.sl (S0.out.ext HE3.out))
      have Uk1 := Lib.hid (hu1.sl (S1.out.ext HE3.out))
      obtain ⟨p0, p1, p2, _, _, _⟩ := HBm3.out.three
      obtain ⟨q0, q1, q2, _, _, _⟩ := (HBm3.out.alloc (.cells #[.int .i64 n, .slice dk0 x0.length fk0, .slice dk1 x1.length fk1] 25)).three
      clear hx hu0 hu1
      go_wp2_with fail
      have HBk3 := Lib.hid (Blk.new w3 #[.int .i64 n, .slice dk0 x0.length fk0, .slice dk1 x1.length fk1] 25)
      refine (HL.out _ (HE3.out.alloc _)).mono ?_; rintro e w4 ⟨rfl, hx⟩
      have HE4 := Lib.hid ((HE3.out.alloc _).trans hx)
      have HBm4 := Lib.hid ((HBm3.out.alloc _).ext hx)
      have HBk4 := Lib.hid (HBk3.out.ext hx)
      have HXk4 := Lib.hid (((Ext.refl _).alloc _).trans hx)
      obtain ⟨p0, p1, p2, _, _, _⟩ := HBm4.out.three
      obtain ⟨p0, p1, p2, _, _, _⟩ := HBk4.out.three
      clear hx
      go_wp2_with fail
      refine (HL2.out _ _ _ (Uk0.out.ext HXk4.out) (Uk1.out.ext HXk4.out)).mono ?_; rintro e w5 ⟨rfl, hx⟩
      have HE5 := Lib.hid (HE4.out.trans hx)
      have HBm5 := Lib.hid (HBm4.out.ext hx)
      have HBk5 := Lib.hid (HBk4.out.ext hx)
      have HXk5 := Lib.hid (HXk4.out.trans hx)
      obtain ⟨p0, p1, p2, _, _, _⟩ := HBm5.out.three
      obtain ⟨p0, p1, p2, _, _, _⟩ := HBk5.out.three
      clear hx
      go_wp2_with fail
      refine (HW.out _).mono ?_; rintro e wz ⟨rfl, rfl⟩
      go_wp2_with fail
      refine (HR2.out _ _ _ (Uk0.out.ext HXk5.out) (Uk1.out.ext HXk5.out)).mono ?_; rintro e w6 ⟨rfl, hx⟩
      have HE6 := Lib.hid (HE5.out.trans hx)
      have HBm6 := Lib.hid (HBm5.out.ext hx)
      have HBk6 := Lib.hid (HBk5.out.ext hx)
      have HXk6 := Lib.hid (HXk5.out.trans hx)
      obtain ⟨p0, p1, p2, _, _, _⟩ := HBm6.out.three
      obtain ⟨p0, p1, p2, _, _, _⟩ := HBk6.out.three
      clear hx
      go_wp2_with fail
      go_ret
      exact ⟨by first | rfl | (simp; done), HE6.out⟩

theorem walk (v0 : Value) (v1 : Value) (v2 : Value) (W : World) (r0 : Rd.V Try.prog W 25 v0) (r1 : Rd.V Try.prog W 3 v1) (r2 : Rd.V Try.prog W 26 v2) : Calls Try.prog 6 #[v0, v1, v2] W fun e w' => e = .returned (.bool true) ∧ Below W.heap.size W w' := by
  obtain ⟨cs, rfl, hs⟩ := r0.struct Try.underlying25
  obtain ⟨n, v0, v1, xs, ys, rfl, h0, h1, wx, wy, wn⟩ := An.mem_R hs
  obtain ⟨sp, rfl, wsp⟩ := r1.int Try.underlying3
  obtain ⟨a, rfl, wa⟩ := r2.int Try.underlying26
  have ba := Rd.u64_bd wa
  exact (go n v0 v1 xs ys sp a ba.1 ba.2 W h0 h1).mono fun e w' ⟨he, hw⟩ => ⟨he, hw.below⟩

open Go.ChangeShapes Go.WideShapes Go.ChangeAt Go.RowKit
theorem own : ownKnob Try.prog.godebug = none := by kernel_rfl
theorem laidOut : laidOutB Try.prog = true := by kernel_rfl

set_option maxRecDepth 100000 in
theorem lifted (os : Os) (started : os.Started) (H : Type) (enc : TypeId × Value → H) :
    ReturnsInHanded {} Try.checked os 6 .any (Rows.arenaClearsSpec.pre6 enc Try.prog Try.f6 Rows.arenaClearsRow.domain false) (Rows.arenaClearsSpec.post enc Try.prog Try.f6 false true false false) := by
  refine returnsInHanded_of_change_sized (C := Try.checked) own started (by kernel_rfl) Try.func6
    (ChangeSpec.witness6 (enc := enc) (C := Try.checked) false ⟨#[], #[.agg #[.int .i64 0, .slice none 0 0, .slice none 0 0], .int .i64 0, .int .u64 0], []⟩ 12 (by kernel_rfl) (by kernel_rfl) (by kernel_rfl) (by kernel_rfl)) ?_
  intro W base args ds gs before hval0 hW _ hsz0 _
  have hval : ∀ (j : Nat) t v, Try.f6.params[j]? = some t → args[j]? = some v → Value.okWide Try.prog W .any base t v := hval0
  have hW' := hW
  obtain ⟨p, q, hA0, hV, rfl, _, _⟩ := hW
  have hA : DataW.TrodAll enc Try.prog W 0 (fun _ => true) true Try.f6.params.toList args.toList ds p := hA0
  obtain ⟨rfl, rfl⟩ := trodVars_none hV
  have hsz : (DataW.weightsEach Try.prog (Try.f6.params.toList ++ []) (ds ++ [])).all (· ≤ reachBytes) = true := hsz0
  rw [Try.params6] at hA hval hsz
  have hA2 := hA
  obtain ⟨v0, vs0, d0, ds0, p0, q0, hargs, rfl, rfl, h0, r0⟩ := trodAll_cons hA2
  obtain ⟨v1, vs1, d1, ds1, p1, q1, rfl, rfl, rfl, h1, r1⟩ := trodAll_cons r0
  obtain ⟨v2, vs2, d2, ds2, p2, q2, rfl, rfl, rfl, h2, r2⟩ := trodAll_cons r1
  obtain ⟨rfl, rfl, rfl⟩ := trodAll_nil r2
  obtain rfl : args = #[v0, v1, v2] := by cases args; simp_all
  have hR := Rd.trodAll_V hA (fun n hn => by simpa using List.all_eq_true.1 hsz n (by simpa using hn)) (fun j t v hj hv => hval j t v (by simpa using hj) (by simpa using hv))
  clear hA0 hval0 hA2
  refine (walk v0 v1 v2 W (hR 0 25 v0 rfl rfl) (hR 1 3 v1 rfl rfl) (hR 2 26 v2 rfl rfl)).mono fun e W' ⟨he, bel⟩ => ?_
  subst he
  exact ⟨_, rfl, _, _, _, [], _, [], hW', trodAll_mk1 (shut_bool Try.underlying4 _), Rd.trodAll_below laidOut bel (List.forall_mem_cons.2 ⟨⟨by kernel_rfl, of_decide_eq_true (by kernel_rfl)⟩, List.forall_mem_cons.2 ⟨⟨by kernel_rfl, of_decide_eq_true (by kernel_rfl)⟩, List.forall_mem_cons.2 ⟨⟨by kernel_rfl, of_decide_eq_true (by kernel_rfl)⟩, fun _ h => by cases h⟩⟩⟩) hA, rfl, bel.frame _, fun h => by cases h⟩

theorem over : Rows.arenaClearsRow.holds Try.pinned (OpenSpec.ofChange Rows.arenaClearsSpec) :=
  OpenClaim.holds_of_wide 6 Try.f6 rfl rfl rfl rfl rfl rfl rfl ⟨rfl, rfl, rfl, rfl, rfl⟩ rfl rfl rfl rfl rfl (by kernel_rfl) Try.func6 (by kernel_rfl)
    (of_decide_eq_true (by kernel_rfl)) (by unfold Func.isWrapper; first | (rw [if_pos (by decide +kernel)]; kernel_rfl) | (rw [if_neg (by decide +kernel)]; exact ⟨rfl, rfl⟩))
    (fun os started H enc _ => lifted os started H enc)

theorem proved : Rows.ArenaClearsSaid := over
#print axioms proved
end Go.Proofs.Ytjobhdcjjegpfaa.arenaClears
