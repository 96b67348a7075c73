/- ArenaSwaps holds for every input: a word is swapped just where it is what was told; a second time just if the new one is that, too. No condition. -/
import Derived.Test.YtjobhdcjjegpfaaRows
import Derived.Test.YtjobhdcjjegpfaaAn
namespace Go.Proofs.Ytjobhdcjjegpfaa.arenaSwaps
open Go.RowKit Go.Proofs.Ytjobhdcjjegpfaa Go.Proofs.Ytjobhdcjjegpfaa.Ar
set_option linter.unusedVariables false

theorem ld_sw {n : Int} {xs ys : List Int} (hr : Ap.Rt n xs ys) {a old new : Int} (ho : Ap.okAt n a 1 = true) :
    Ap.ldV n (Ap.sw 0 n xs ys xs a old new) (Ap.sw 1 n xs ys ys a old new) a = if Ap.ldV n xs ys a = old then new else Ap.ldV n xs ys a := by
  unfold Ap.sw Ap.swD
  rw [ho, Bool.true_and]
  by_cases h : Ap.ldV n xs ys a = old
  · rw [if_pos (beq_iff_eq.2 h), if_pos (beq_iff_eq.2 h), if_pos h, Ap.ld_st hr ho, if_pos rfl]
  · rw [if_neg (fun e => h (beq_iff_eq.1 e)), if_neg (fun e => h (beq_iff_eq.1 e)), if_neg h]

set_option maxHeartbeats 8000000 in
theorem go (n : Int) (v0 v1 : Value) (xs ys : List Int) (a old new : Int) (a0 : 0 ≤ a) (a1 : a ≤ 18446744073709551615) (old0 : 0 ≤ old) (old1 : old ≤ 18446744073709551615) (new0 : 0 ≤ new) (new1 : new ≤ 18446744073709551615) (w : World) (h0 : Sl .u64 w v0 xs) (h1 : Sl .u64 w v1 ys) :
    Calls Try.prog 8 #[.agg #[.int .i64 n, v0, v1, .int .u64 a, .int .u64 old, .int .u64 new]] w fun e w' => e = .returned (.bool true) ∧ Ext w w' := by
  obtain ⟨b0, c0, rfl⟩ := Row.form h0
  obtain ⟨b1, c1, rfl⟩ := Row.form h1
  have HF := Lib.hid (fun (w' : World) (he : Ext w w') => An.few_any n _ _ xs ys w' (h0.ext he) (h1.ext he))
  cases hf : An.fewB n xs.length ys.length with
  | false =>
    rw [hf] at HF
    clear h0 h1 hf
    go_enter Try.func8, Try.ntmps8
    go_wp2_with fail
    refine (An.shown_any _).mono ?_; rintro e w1 ⟨rfl, hx⟩
    have HE1 := Lib.hid (Ext.trans (by repeat (first | exact Ext.refl _ | assumption | refine Ext.alloc ?_ _ | refine Ext.drewN ?_ _ | refine Ext.drew ?_ | refine Ext.trans ?_ (by assumption))) hx : Ext w w1)
    have HBm1 := Lib.hid (show Blk w1 (w.heap.size + 1) #[.int .i64 n, .slice b0 xs.length c0, .slice b1 ys.length c1] 25 from (blk_at (by simp)).ext hx)
    obtain ⟨p0, p1, p2, _, _, _⟩ := HBm1.out.three
    clear hx
    go_wp2_with fail
    refine (HF.out _ HE1.out).mono ?_; rintro e w2 ⟨rfl, hx⟩
    have HE2 := Lib.hid (HE1.out.trans hx)
    have HBm2 := Lib.hid (HBm1.out.ext hx)
    obtain ⟨p0, p1, p2, _, _, _⟩ := HBm2.out.three
    clear hx
    go_wp2_with fail
    go_ret
    exact ⟨by first | rfl | (simp; done), HE2.out⟩
  | true =>
    obtain ⟨hr, h200⟩ := An.few_right hf
    rw [hf] at HF
    have HL := Lib.hid (fun (w' : World) (he : Ext w w') => load_any n _ _ xs ys a a0 a1 hr w' (h0.ext he) (h1.ext he))
    have HS := Lib.hid (fun (w' : World) (he : Ext w w') => swap_any n _ _ xs ys a old new a0 a1 hr w' (h0.ext he) (h1.ext he))
    have S0 := Lib.hid h0
    have S1 := Lib.hid h1
    have HR := Lib.hid hr
    clear h0 h1 hr hf
    cases ho : Ap.okAt n a 1 with
    | false =>
      have e1 : Ap.ldE n a = 2 := by unfold Ap.ldE; rw [ho]; rfl
      have e2 : Ap.swD n xs ys a old = false := by unfold Ap.swD; rw [ho]; rfl
      rw [e1] at HS HL
      rw [e2] at HS
      clear e1 e2 ho
      generalize Ap.sw 0 n xs ys xs a old new = xs' at HS
      generalize Ap.sw 1 n xs ys ys a old new = ys' at HS
      go_enter Try.func8, Try.ntmps8
      go_wp2_with fail
      refine (An.shown_any _).mono ?_; rintro e w1 ⟨rfl, hx⟩
      have HE1 := Lib.hid (Ext.trans (by repeat (first | exact Ext.refl _ | assumption | refine Ext.alloc ?_ _ | refine Ext.drewN ?_ _ | refine Ext.drew ?_ | refine Ext.trans ?_ (by assumption))) hx : Ext w w1)
      have HBm1 := Lib.hid (show Blk w1 (w.heap.size + 1) #[.int .i64 n, .slice b0 xs.length c0, .slice b1 ys.length c1] 25 from (blk_at (by simp)).ext hx)
      obtain ⟨p0, p1, p2, _, _, _⟩ := HBm1.out.three
      clear hx
      go_wp2_with fail
      refine (HF.out _ HE1.out).mono ?_; rintro e w2 ⟨rfl, hx⟩
      have HE2 := Lib.hid (HE1.out.trans hx)
      have HBm2 := Lib.hid (HBm1.out.ext hx)
      obtain ⟨p0, p1, p2, _, _, _⟩ := HBm2.out.three
      clear hx
      go_wp2_with fail
      refine (HL.out _ HE2.out).mono ?_; rintro e w3 ⟨rfl, hx⟩
      have HE3 := Lib.hid (HE2.out.trans hx)
      have HBm3 := Lib.hid (HBm2.out.ext hx)
      obtain ⟨p0, p1, p2, _, _, _⟩ := HBm3.out.three
      clear hx
      go_wp2_with fail
      refine (HS.out _ HE3.out).mono ?_; rintro e w4 ⟨u0, u1, rfl, hu0, hu1, hx⟩
      have HE4 := Lib.hid (HE3.out.trans hx)
      have HBm4 := Lib.hid (HBm3.out.ext hx)
      obtain ⟨dk0, fk0, rfl⟩ := Row.form (hu0.sl (S0.out.ext HE4.out))
      obtain ⟨dk1, fk1, rfl⟩ := Row.form (hu1.sl (S1.out.ext HE4.out))
      have Uk0 := Lib.hid (hu0.sl (S0.out.ext HE4.out))
      have Uk1 := Lib.hid (hu1.sl (S1.out.ext HE4.out))
      obtain ⟨p0, p1, p2, _, _, _⟩ := HBm4.out.three
      obtain ⟨q0, q1, q2, _, _, _⟩ := (HBm4.out.alloc (.cells #[.int .i64 n, .slice dk0 xs'.length fk0, .slice dk1 ys'.length fk1] 25)).three
      clear hx hu0 hu1
      go_wp2_with fail
      have HBk4 := Lib.hid (Blk.new w4 #[.int .i64 n, .slice dk0 xs'.length fk0, .slice dk1 ys'.length fk1] 25)
      go_ret
      exact ⟨by first | rfl | (simp; done), (HE4.out.alloc _)⟩
    | true =>
      have e1 : Ap.ldE n a = 0 := by unfold Ap.ldE; rw [if_pos ho]
      rw [e1] at HS HL
      have hr2 := HR.out.sw a old new
      have HS2 : Hid (∀ (w' : World) (v0 v1 : Value), Sl .u64 w' v0 (Ap.sw 0 n xs ys xs a old new) → Sl .u64 w' v1 (Ap.sw 1 n xs ys ys a old new) → Calls Try.prog 24 #[.agg #[.int .i64 n, v0, v1], .int .u64 a, .int .u64 old, .int .u64 new] w' _) := fun w' v0 v1 g0 g1 => swap_any n v0 v1 _ _ a old new a0 a1 hr2 w' g0 g1
      have HL2 : Hid (∀ (w' : World) (v0 v1 : Value), Sl .u64 w' v0 (Ap.sw 0 n xs ys xs a old new) → Sl .u64 w' v1 (Ap.sw 1 n xs ys ys a old new) → Calls Try.prog 14 #[.agg #[.int .i64 n, v0, v1], .int .u64 a] w' _) := fun w' v0 v1 g0 g1 => load_any n v0 v1 _ _ a a0 a1 hr2 w' g0 g1
      rw [e1] at HS2 HL2
      have e2 := ld_sw HR.out (old := old) (new := new) ho
      have e3 : Ap.swD n (Ap.sw 0 n xs ys xs a old new) (Ap.sw 1 n xs ys ys a old new) a old = (Ap.ldV n (Ap.sw 0 n xs ys xs a old new) (Ap.sw 1 n xs ys ys a old new) a == old) := by unfold Ap.swD; rw [ho, Bool.true_and]
      have e4 : Ap.swD n xs ys a old = (Ap.ldV n xs ys a == old) := by unfold Ap.swD; rw [ho, Bool.true_and]
      rw [e3] at HS2
      rw [e4] at HS
      generalize hx2 : Ap.sw 0 n (Ap.sw 0 n xs ys xs a old new) (Ap.sw 1 n xs ys ys a old new) (Ap.sw 0 n xs ys xs a old new) a old new = xs2 at HS2
      generalize hy2 : Ap.sw 1 n (Ap.sw 0 n xs ys xs a old new) (Ap.sw 1 n xs ys ys a old new) (Ap.sw 1 n xs ys ys a old new) a old new = ys2 at HS2
      have hcase : ((Ap.ldV n xs ys a == old) = true ∧ Ap.ldV n (Ap.sw 0 n xs ys xs a old new) (Ap.sw 1 n xs ys ys a old new) a = new) ∨ ((Ap.ldV n xs ys a == old) = false ∧ Ap.ldV n (Ap.sw 0 n xs ys xs a old new) (Ap.sw 1 n xs ys ys a old new) a = Ap.ldV n xs ys a) := by
        by_cases h : Ap.ldV n xs ys a = old
        · exact .inl ⟨beq_iff_eq.2 h, by rw [e2, if_pos h]⟩
        · exact .inr ⟨beq_eq_false_iff_ne.2 h, by rw [e2, if_neg h]⟩
      clear e1 e2 e3 e4 hr2 ho hx2 hy2
      generalize Ap.ldV n (Ap.sw 0 n xs ys xs a old new) (Ap.sw 1 n xs ys ys a old new) a = y at HS2 HL2 hcase
      generalize Ap.sw 0 n xs ys xs a old new = xs' at HS HS2 HL2
      generalize Ap.sw 1 n xs ys ys a old new = ys' at HS HS2 HL2
      generalize Ap.ldV n xs ys a = x at HL HS hcase
      rcases hcase with ⟨hc, rfl⟩ | ⟨hc, rfl⟩
      all_goals
        obtain ⟨b, hb⟩ : ∃ b, (y == old) = b := ⟨_, rfl⟩
        go_enter Try.func8, Try.ntmps8
        go_wp2_with fail
        refine (An.shown_any _).mono ?_; rintro e w1 ⟨rfl, hx⟩
        have HE1 := Lib.hid (Ext.trans (by repeat (first | exact Ext.refl _ | assumption | refine Ext.alloc ?_ _ | refine Ext.drewN ?_ _ | refine Ext.drew ?_ | refine Ext.trans ?_ (by assumption))) hx : Ext w w1)
        have HBm1 := Lib.hid (show Blk w1 (w.heap.size + 1) #[.int .i64 n, .slice b0 xs.length c0, .slice b1 ys.length c1] 25 from (blk_at (by simp)).ext hx)
        obtain ⟨p0, p1, p2, _, _, _⟩ := HBm1.out.three
        clear hx
        go_wp2_with fail
        refine (HF.out _ HE1.out).mono ?_; rintro e w2 ⟨rfl, hx⟩
        have HE2 := Lib.hid (HE1.out.trans hx)
        have HBm2 := Lib.hid (HBm1.out.ext hx)
        obtain ⟨p0, p1, p2, _, _, _⟩ := HBm2.out.three
        clear hx
        go_wp2_with fail
        refine (HL.out _ HE2.out).mono ?_; rintro e w3 ⟨rfl, hx⟩
        have HE3 := Lib.hid (HE2.out.trans hx)
        have HBm3 := Lib.hid (HBm2.out.ext hx)
        obtain ⟨p0, p1, p2, _, _, _⟩ := HBm3.out.three
        clear hx
        go_wp2_with fail
        refine (HS.out _ HE3.out).mono ?_; rintro e w4 ⟨u0, u1, rfl, hu0, hu1, hx⟩
        have HE4 := Lib.hid (HE3.out.trans hx)
        have HBm4 := Lib.hid (HBm3.out.ext hx)
        obtain ⟨dk0, fk0, rfl⟩ := Row.form (hu0.sl (S0.out.ext HE4.out))
        obtain ⟨dk1, fk1, rfl⟩ := Row.form (hu1.sl (S1.out.ext HE4.out))
        have Uk0 := Lib.hid (hu0.sl (S0.out.ext HE4.out))
        have Uk1 := Lib.hid (hu1.sl (S1.out.ext HE4.out))
        obtain ⟨p0, p1, p2, _, _, _⟩ := HBm4.out.three
        obtain ⟨q0, q1, q2, _, _, _⟩ := (HBm4.out.alloc (.cells #[.int .i64 n, .slice dk0 xs'.length fk0, .slice dk1 ys'.length fk1] 25)).three
        clear hx hu0 hu1
        go_wp2_with fail
        have HBk4 := Lib.hid (Blk.new w4 #[.int .i64 n, .slice dk0 xs'.length fk0, .slice dk1 ys'.length fk1] 25)
        refine (HS2.out _ _ _ (Uk0.out.ext ((Ext.refl _).alloc _)) (Uk1.out.ext ((Ext.refl _).alloc _))).mono ?_; rintro e w5 ⟨u0, u1, rfl, hu0, hu1, hx⟩
        have HE5 := Lib.hid ((HE4.out.alloc _).trans hx)
        have HBm5 := Lib.hid ((HBm4.out.alloc _).ext hx)
        have HBk5 := Lib.hid (HBk4.out.ext hx)
        have HXk5 := Lib.hid (((Ext.refl _).alloc _).trans hx)
        obtain ⟨dg0, fg0, rfl⟩ := Row.form (hu0.sl (Uk0.out.ext HXk5.out))
        obtain ⟨dg1, fg1, rfl⟩ := Row.form (hu1.sl (Uk1.out.ext HXk5.out))
        have Ug0 := Lib.hid (hu0.sl (Uk0.out.ext HXk5.out))
        have Ug1 := Lib.hid (hu1.sl (Uk1.out.ext HXk5.out))
        obtain ⟨p0, p1, p2, _, _, _⟩ := HBm5.out.three
        obtain ⟨p0, p1, p2, _, _, _⟩ := HBk5.out.three
        obtain ⟨q0, q1, q2, _, _, _⟩ := (HBm5.out.alloc (.cells #[.int .i64 n, .slice dg0 xs2.length fg0, .slice dg1 ys2.length fg1] 25)).three
        obtain ⟨q0, q1, q2, _, _, _⟩ := (HBk5.out.alloc (.cells #[.int .i64 n, .slice dg0 xs2.length fg0, .slice dg1 ys2.length fg1] 25)).three
        clear hx hu0 hu1
        go_wp2_with fail
        have HBg5 := Lib.hid (Blk.new w5 #[.int .i64 n, .slice dg0 xs2.length fg0, .slice dg1 ys2.length fg1] 25)
        refine (HL2.out _ _ _ (Uk0.out.ext (HXk5.out.alloc _)) (Uk1.out.ext (HXk5.out.alloc _))).mono ?_; rintro e w6 ⟨rfl, hx⟩
        have HE6 := Lib.hid ((HE5.out.alloc _).trans hx)
        have HBm6 := Lib.hid ((HBm5.out.alloc _).ext hx)
        have HBk6 := Lib.hid ((HBk5.out.alloc _).ext hx)
        have HXk6 := Lib.hid ((HXk5.out.alloc _).trans hx)
        have HBg6 := Lib.hid (HBg5.out.ext hx)
        have HXg6 := Lib.hid (((Ext.refl _).alloc _).trans hx)
        obtain ⟨p0, p1, p2, _, _, _⟩ := HBm6.out.three
        obtain ⟨p0, p1, p2, _, _, _⟩ := HBk6.out.three
        obtain ⟨p0, p1, p2, _, _, _⟩ := HBg6.out.three
        clear hx
        go_wp2_with fail
        go_ret
        exact ⟨by first | rfl | (simp; done), HE6.out⟩

theorem walk (v0 : Value) (W : World) (r0 : Rd.V Try.prog W 55 v0) : Calls Try.prog 8 #[v0] W fun e w' => e = .returned (.bool true) ∧ Below W.heap.size W w' := by
  have k3 : Try.prog.cellsOf 25 = 3 := by kernel_rfl
  obtain ⟨cs, rfl, hs⟩ := r0.struct Try.underlying55
  obtain ⟨hl, _⟩ := hs.struct Try.underlying55
  rw [show Try.prog.cellsOf 55 = 6 by kernel_rfl] at hl
  match cs, hl with
  | [c0, c1, c2, c3, c4, c5], _ =>
    obtain ⟨n, v0, v1, xs, ys, hm, h0, h1, wx, wy, wn⟩ := An.mem_R (Rd.R.field Try.underlying55 hs 0 rfl 0 3 25 rfl rfl k3)
    simp at hm
    obtain ⟨rfl, rfl, rfl⟩ := hm
    obtain ⟨a, ha, wa⟩ := (Rd.R.field Try.underlying55 hs 1 rfl 3 1 26 rfl rfl (by kernel_rfl)).int Try.underlying26
    obtain rfl : c3 = .int .u64 a := by simpa using ha
    have ba := Rd.u64_bd wa
    obtain ⟨old, hold, wold⟩ := (Rd.R.field Try.underlying55 hs 2 rfl 4 1 26 rfl rfl (by kernel_rfl)).int Try.underlying26
    obtain rfl : c4 = .int .u64 old := by simpa using hold
    have bold := Rd.u64_bd wold
    obtain ⟨new, hnew, wnew⟩ := (Rd.R.field Try.underlying55 hs 3 rfl 5 1 26 rfl rfl (by kernel_rfl)).int Try.underlying26
    obtain rfl : c5 = .int .u64 new := by simpa using hnew
    have bnew := Rd.u64_bd wnew
    exact (go n c1 c2 xs ys a old new ba.1 ba.2 bold.1 bold.2 bnew.1 bnew.2 W h0 h1).mono fun e w' ⟨he, hw⟩ => ⟨he, hw.below⟩

open Go.ChangeShapes Go.WideShapes Go.ChangeAt Go.RowKit
theorem own : ownKnob Try.prog.godebug = none := by kernel_rfl
theorem laidOut : laidOutB Try.prog = true := by kernel_rfl

set_option maxRecDepth 100000 in
theorem lifted (os : Os) (started : os.Started) (H : Type) (enc : TypeId × Value → H) :
    ReturnsInHanded {} Try.checked os 8 .any (Rows.arenaSwapsSpec.pre6 enc Try.prog Try.f8 Rows.arenaSwapsRow.domain false) (Rows.arenaSwapsSpec.post enc Try.prog Try.f8 false true false false) := by
  refine returnsInHanded_of_change_sized (C := Try.checked) own started (by kernel_rfl) Try.func8
    (ChangeSpec.witness6 (enc := enc) (C := Try.checked) false ⟨#[], #[.agg #[.int .i64 0, .slice none 0 0, .slice none 0 0, .int .u64 0, .int .u64 0, .int .u64 0]], []⟩ 12 (by kernel_rfl) (by kernel_rfl) (by kernel_rfl) (by kernel_rfl)) ?_
  intro W base args ds gs before hval0 hW _ hsz0 _
  have hval : ∀ (j : Nat) t v, Try.f8.params[j]? = some t → args[j]? = some v → Value.okWide Try.prog W .any base t v := hval0
  have hW' := hW
  obtain ⟨p, q, hA0, hV, rfl, _, _⟩ := hW
  have hA : DataW.TrodAll enc Try.prog W 0 (fun _ => true) true Try.f8.params.toList args.toList ds p := hA0
  obtain ⟨rfl, rfl⟩ := trodVars_none hV
  have hsz : (DataW.weightsEach Try.prog (Try.f8.params.toList ++ []) (ds ++ [])).all (· ≤ reachBytes) = true := hsz0
  rw [Try.params8] at hA hval hsz
  have hA2 := hA
  obtain ⟨v0, vs0, d0, ds0, p0, q0, hargs, rfl, rfl, h0, r0⟩ := trodAll_cons hA2
  obtain ⟨rfl, rfl, rfl⟩ := trodAll_nil r0
  obtain rfl : args = #[v0] := by cases args; simp_all
  have hR := Rd.trodAll_V hA (fun n hn => by simpa using List.all_eq_true.1 hsz n (by simpa using hn)) (fun j t v hj hv => hval j t v (by simpa using hj) (by simpa using hv))
  clear hA0 hval0 hA2
  refine (walk v0 W (hR 0 55 v0 rfl rfl)).mono fun e W' ⟨he, bel⟩ => ?_
  subst he
  exact ⟨_, rfl, _, _, _, [], _, [], hW', trodAll_mk1 (shut_bool Try.underlying4 _), Rd.trodAll_below laidOut bel (List.forall_mem_cons.2 ⟨⟨by kernel_rfl, of_decide_eq_true (by kernel_rfl)⟩, fun _ h => by cases h⟩) hA, rfl, bel.frame _, fun h => by cases h⟩

theorem over : Rows.arenaSwapsRow.holds Try.pinned (OpenSpec.ofChange Rows.arenaSwapsSpec) :=
  OpenClaim.holds_of_wide 8 Try.f8 rfl rfl rfl rfl rfl rfl rfl ⟨rfl, rfl, rfl, rfl, rfl⟩ rfl rfl rfl rfl rfl (by kernel_rfl) Try.func8 (by kernel_rfl)
    (of_decide_eq_true (by kernel_rfl)) (by unfold Func.isWrapper; first | (rw [if_pos (by decide +kernel)]; kernel_rfl) | (rw [if_neg (by decide +kernel)]; exact ⟨rfl, rfl⟩))
    (fun os started H enc _ => lifted os started H enc)

theorem proved : Rows.ArenaSwapsSaid := over
#print axioms proved
end Go.Proofs.Ytjobhdcjjegpfaa.arenaSwaps
