/- ArenaBack holds for every input: what was stored is loaded; what is loaded elsewhere is as it was. No condition. -/
import Derived.Test.YtjobhdcjjegpfaaRows
import Derived.Test.YtjobhdcjjegpfaaAn
namespace Go.Proofs.Ytjobhdcjjegpfaa.arenaBack
open Go.RowKit Go.Proofs.Ytjobhdcjjegpfaa Go.Proofs.Ytjobhdcjjegpfaa.Ar
set_option linter.unusedVariables false

set_option maxHeartbeats 4000000 in
theorem go (n : Int) (v0 v1 : Value) (xs ys : List Int) (a v b : Int) (a0 : 0 ≤ a) (a1 : a ≤ 18446744073709551615) (bb0 : 0 ≤ b) (bb1 : b ≤ 18446744073709551615) (w : World) (h0 : Sl .u64 w v0 xs) (h1 : Sl .u64 w v1 ys) :
    Calls Try.prog 3 #[.agg #[.int .i64 n, v0, v1, .int .u64 a, .int .u64 v, .int .u64 b]] w fun e w' => e = .returned (.bool true) ∧ Ext w w' := by
  obtain ⟨b0, c0, rfl⟩ := Row.form h0
  obtain ⟨b1, c1, rfl⟩ := Row.form h1
  have HF := Lib.hid (fun (w' : World) (he : Ext w w') => An.few_any n _ _ xs ys w' (h0.ext he) (h1.ext he))
  cases hf : An.fewB n xs.length ys.length with
  | false =>
    rw [hf] at HF
    clear h0 h1 hf
    go_enter Try.func3, Try.ntmps3
    go_wp2_with fail
    refine (An.shown_any _).mono ?_; rintro e w1 ⟨rfl, hx1⟩
    have bm : Blk w1 (w.heap.size + 1) #[.int .i64 n, .slice b0 xs.length c0, .slice b1 ys.length c1] 25 := (blk_at (by simp)).ext hx1
    have HE1 := Lib.hid (Ext.trans (by repeat (first | exact Ext.refl _ | assumption | refine Ext.alloc ?_ _ | refine Ext.drewN ?_ _ | refine Ext.drew ?_ | refine Ext.trans ?_ (by assumption))) hx1 : Ext w w1)
    have HM1 := Lib.hid bm
    obtain ⟨p0, p1, p2, _, _, _⟩ := bm.three
    clear bm hx1
    go_wp2_with fail
    refine (HF.out _ HE1.out).mono ?_; rintro e w2 ⟨rfl, hx2⟩
    have HE2 := Lib.hid (HE1.out.trans hx2)
    have HM2 := Lib.hid (HM1.out.ext hx2)
    obtain ⟨p0, p1, p2, _, _, _⟩ := HM2.out.three
    clear hx2
    go_wp2_with fail
    go_ret
    exact ⟨by first | rfl | (simp; done), HE2.out⟩
  | true =>
    obtain ⟨hr, h200⟩ := An.few_right hf
    rw [hf] at HF
    have HS := Lib.hid (fun (w' : World) (he : Ext w w') => store_any n _ _ xs ys a v a0 a1 hr w' (h0.ext he) (h1.ext he))
    have HL := Lib.hid (fun (w' : World) (he : Ext w w') => load_any n _ _ xs ys b bb0 bb1 hr w' (h0.ext he) (h1.ext he))
    have S0 := Lib.hid h0
    have S1 := Lib.hid h1
    have HR := Lib.hid hr
    clear h0 h1 hr hf
    cases ho : Ap.okAt n a 1 with
    | false =>
      have e1 : Ap.ldE n a = 2 := by unfold Ap.ldE; rw [ho]; rfl
      rw [e1] at HS
      clear e1 ho HL
      go_enter Try.func3, Try.ntmps3
      go_wp2_with fail
      refine (An.shown_any _).mono ?_; rintro e w1 ⟨rfl, hx1⟩
      have bm : Blk w1 (w.heap.size + 1) #[.int .i64 n, .slice b0 xs.length c0, .slice b1 ys.length c1] 25 := (blk_at (by simp)).ext hx1
      have HE1 := Lib.hid (Ext.trans (by repeat (first | exact Ext.refl _ | assumption | refine Ext.alloc ?_ _ | refine Ext.drewN ?_ _ | refine Ext.drew ?_ | refine Ext.trans ?_ (by assumption))) hx1 : Ext w w1)
      have HM1 := Lib.hid bm
      obtain ⟨p0, p1, p2, _, _, _⟩ := bm.three
      clear bm hx1
      go_wp2_with fail
      refine (HF.out _ HE1.out).mono ?_; rintro e w2 ⟨rfl, hx2⟩
      have HE2 := Lib.hid (HE1.out.trans hx2)
      have HM2 := Lib.hid (HM1.out.ext hx2)
      obtain ⟨p0, p1, p2, _, _, _⟩ := HM2.out.three
      clear hx2
      go_wp2_with fail
      refine (HS.out _ HE2.out).mono ?_; rintro e w3 ⟨u0, u1, rfl, hu0, hu1, hx3⟩
      have HE3 := Lib.hid (HE2.out.trans hx3)
      obtain ⟨d0, f0, rfl⟩ := Row.form (hu0.sl (S0.out.ext HE3.out))
      obtain ⟨d1, f1, rfl⟩ := Row.form (hu1.sl (S1.out.ext HE3.out))
      clear hu0 hu1 hx3
      go_wp2_with fail
      go_ret
      exact ⟨by first | rfl | (simp; done), (by repeat (first | exact Ext.refl _ | assumption | refine Ext.alloc ?_ _ | refine Ext.drewN ?_ _ | refine Ext.drew ?_ | refine Ext.trans ?_ (by assumption)))⟩
    | true =>
      have e1 : Ap.ldE n a = 0 := by unfold Ap.ldE; rw [if_pos ho]
      rw [e1] at HS
      have hr2 := HR.out.st a v
      have eA : Ap.ldV n (Ap.st 0 n xs a v) (Ap.st 1 n ys a v) a = v := by rw [Ap.ld_st HR.out ho, if_pos rfl]
      have hcase : ((a == b) = true ∧ ∃ z, Ap.ldV n (Ap.st 0 n xs a v) (Ap.st 1 n ys a v) b = z) ∨ ((a == b) = false ∧ Ap.ldV n (Ap.st 0 n xs a v) (Ap.st 1 n ys a v) b = Ap.ldV n xs ys b) := by
        cases hab : (a == b) with
        | true => exact .inl ⟨rfl, _, rfl⟩
        | false => exact .inr ⟨rfl, by rw [Ap.ld_st HR.out ho, if_neg (fun e => beq_eq_false_iff_ne.1 hab e.symm)]⟩
      have HE := Lib.hid e1
      have HA := Lib.hid eA
      have HR2 := Lib.hid hr2
      clear e1 eA hr2 ho
      generalize Ap.st 0 n xs a v = xs' at HS HA HR2 hcase
      generalize Ap.st 1 n ys a v = ys' at HS HA HR2 hcase
      obtain ⟨r, hrb⟩ : ∃ r, Ap.ldE n b = r := ⟨_, rfl⟩
      rw [hrb] at HL
      have HRB := Lib.hid hrb
      clear hrb
      generalize Ap.ldV n xs ys b = y at HL hcase
      rcases hcase with ⟨hab, z, hz⟩ | ⟨hab, hz⟩
      all_goals
        have HZ := Lib.hid hz
        clear hz
        go_enter Try.func3, Try.ntmps3
        go_wp2_with fail
        refine (An.shown_any _).mono ?_; rintro e w1 ⟨rfl, hx1⟩
        have bm : Blk w1 (w.heap.size + 1) #[.int .i64 n, .slice b0 xs.length c0, .slice b1 ys.length c1] 25 := (blk_at (by simp)).ext hx1
        have HE1 := Lib.hid (Ext.trans (by repeat (first | exact Ext.refl _ | assumption | refine Ext.alloc ?_ _ | refine Ext.drewN ?_ _ | refine Ext.drew ?_ | refine Ext.trans ?_ (by assumption))) hx1 : Ext w w1)
        have HM1 := Lib.hid bm
        obtain ⟨p0, p1, p2, _, _, _⟩ := bm.three
        clear bm hx1
        go_wp2_with fail
        refine (HF.out _ HE1.out).mono ?_; rintro e w2 ⟨rfl, hx2⟩
        have HE2 := Lib.hid (HE1.out.trans hx2)
        have HM2 := Lib.hid (HM1.out.ext hx2)
        obtain ⟨p0, p1, p2, _, _, _⟩ := HM2.out.three
        clear hx2
        go_wp2_with fail
        refine (HS.out _ HE2.out).mono ?_; rintro e w3 ⟨u0, u1, rfl, hu0, hu1, hx3⟩
        have HE3 := Lib.hid (HE2.out.trans hx3)
        obtain ⟨d0, f0, rfl⟩ := Row.form (hu0.sl (S0.out.ext HE3.out))
        obtain ⟨d1, f1, rfl⟩ := Row.form (hu1.sl (S1.out.ext HE3.out))
        have U0 := Lib.hid (hu0.sl (S0.out.ext HE3.out))
        have U1 := Lib.hid (hu1.sl (S1.out.ext HE3.out))
        have HM3 := Lib.hid (HM2.out.ext hx3)
        clear hu0 hu1 hx3
        go_wp2_with fail
        have HK3 := Lib.hid (Blk.new w3 #[.int .i64 n, .slice d0 xs'.length f0, .slice d1 ys'.length f1] 25)
        refine (load_any n _ _ xs' ys' a a0 a1 HR2.out _ (U0.out.ext ((Ext.refl w3).alloc _)) (U1.out.ext ((Ext.refl w3).alloc _))).mono ?_; rintro e w4 ⟨rfl, hx4⟩
        rw [HA.out, HE.out]
        have hE4 : Ext w3 w4 := Ext.trans (by repeat (first | exact Ext.refl _ | assumption | refine Ext.alloc ?_ _ | refine Ext.drewN ?_ _ | refine Ext.drew ?_ | refine Ext.trans ?_ (by assumption))) hx4
        have HE4 := Lib.hid hE4
        have HK4 := Lib.hid (HK3.out.ext hx4)
        obtain ⟨p0, p1, p2, _, _, _⟩ := (HM3.out.ext hE4).three
        obtain ⟨s0, s1, s2, _, _, _⟩ := HK4.out.three
        clear hx4 hE4
        go_wp2_with fail
        refine (HL.out _ (HE3.out.trans HE4.out)).mono ?_; rintro e w5 ⟨rfl, hx5⟩
        have HE5 := Lib.hid (HE4.out.trans hx5)
        obtain ⟨s0, s1, s2, _, _, _⟩ := (HK4.out.ext hx5).three
        clear hx5
        go_wp2_with fail
        refine (load_any n _ _ xs' ys' b bb0 bb1 HR2.out _ (U0.out.ext HE5.out) (U1.out.ext HE5.out)).mono ?_; rintro e w6 ⟨rfl, hx6⟩
        rw [HZ.out, HRB.out]
        have HE6 := Lib.hid (HE3.out.trans (HE5.out.trans hx6))
        clear hx6
        go_wp2_with fail
        go_ret
        exact ⟨by first | rfl | (simp; done), HE6.out⟩

theorem walk (v0 : Value) (W : World) (r0 : Rd.V Try.prog W 28 v0) : Calls Try.prog 3 #[v0] W fun e w' => e = .returned (.bool true) ∧ Below W.heap.size W w' := by
  have k3 : Try.prog.cellsOf 25 = 3 := by kernel_rfl
  have k1 : Try.prog.cellsOf 26 = 1 := by kernel_rfl
  obtain ⟨cs, rfl, hs⟩ := r0.struct Try.underlying28
  obtain ⟨hl, _⟩ := hs.struct Try.underlying28
  rw [show Try.prog.cellsOf 28 = 6 by kernel_rfl] at hl
  match cs, hl with
  | [c0, c1, c2, c3, c4, c5], _ =>
    obtain ⟨n, v0, v1, xs, ys, hm, h0, h1, wx, wy, wn⟩ := An.mem_R (Rd.R.field Try.underlying28 hs 0 rfl 0 3 25 rfl rfl k3)
    simp at hm
    obtain ⟨rfl, rfl, rfl⟩ := hm
    obtain ⟨a, ha, wa⟩ := (Rd.R.field Try.underlying28 hs 1 rfl 3 1 26 rfl rfl k1).int Try.underlying26
    obtain rfl : c3 = .int .u64 a := by simpa using ha
    obtain ⟨v, hv, wv⟩ := (Rd.R.field Try.underlying28 hs 2 rfl 4 1 26 rfl rfl k1).int Try.underlying26
    obtain rfl : c4 = .int .u64 v := by simpa using hv
    obtain ⟨b, hb, wb⟩ := (Rd.R.field Try.underlying28 hs 3 rfl 5 1 26 rfl rfl k1).int Try.underlying26
    obtain rfl : c5 = .int .u64 b := by simpa using hb
    have ba := Rd.u64_bd wa
    have bb := Rd.u64_bd wb
    exact (go n c1 c2 xs ys a v b ba.1 ba.2 bb.1 bb.2 W h0 h1).mono fun e w' ⟨he, hw⟩ => ⟨he, hw.below⟩

open Go.ChangeShapes Go.WideShapes Go.ChangeAt Go.RowKit
theorem own : ownKnob Try.prog.godebug = none := by kernel_rfl
theorem laidOut : laidOutB Try.prog = true := by kernel_rfl

set_option maxRecDepth 100000 in
theorem lifted (os : Os) (started : os.Started) (H : Type) (enc : TypeId × Value → H) :
    ReturnsInHanded {} Try.checked os 3 .any (Rows.arenaBackSpec.pre6 enc Try.prog Try.f3 Rows.arenaBackRow.domain false) (Rows.arenaBackSpec.post enc Try.prog Try.f3 false true false false) := by
  refine returnsInHanded_of_change_sized (C := Try.checked) own started (by kernel_rfl) Try.func3
    (ChangeSpec.witness6 (enc := enc) (C := Try.checked) false ⟨#[], #[.agg #[.int .i64 0, .slice none 0 0, .slice none 0 0, .int .u64 0, .int .u64 0, .int .u64 0]], []⟩ 12 (by kernel_rfl) (by kernel_rfl) (by kernel_rfl) (by kernel_rfl)) ?_
  intro W base args ds gs before hval0 hW _ hsz0 _
  have hval : ∀ (j : Nat) t v, Try.f3.params[j]? = some t → args[j]? = some v → Value.okWide Try.prog W .any base t v := hval0
  have hW' := hW
  obtain ⟨p, q, hA0, hV, rfl, _, _⟩ := hW
  have hA : DataW.TrodAll enc Try.prog W 0 (fun _ => true) true Try.f3.params.toList args.toList ds p := hA0
  obtain ⟨rfl, rfl⟩ := trodVars_none hV
  have hsz : (DataW.weightsEach Try.prog (Try.f3.params.toList ++ []) (ds ++ [])).all (· ≤ reachBytes) = true := hsz0
  rw [Try.params3] at hA hval hsz
  have hA2 := hA
  obtain ⟨v0, vs0, d0, ds0, p0, q0, hargs, rfl, rfl, h0, r0⟩ := trodAll_cons hA2
  obtain ⟨rfl, rfl, rfl⟩ := trodAll_nil r0
  obtain rfl : args = #[v0] := by cases args; simp_all
  have hR := Rd.trodAll_V hA (fun n hn => by simpa using List.all_eq_true.1 hsz n (by simpa using hn)) (fun j t v hj hv => hval j t v (by simpa using hj) (by simpa using hv))
  clear hA0 hval0 hA2
  refine (walk v0 W (hR 0 28 v0 rfl rfl)).mono fun e W' ⟨he, bel⟩ => ?_
  subst he
  exact ⟨_, rfl, _, _, _, [], _, [], hW', trodAll_mk1 (shut_bool Try.underlying4 _), Rd.trodAll_below laidOut bel (List.forall_mem_cons.2 ⟨⟨by kernel_rfl, of_decide_eq_true (by kernel_rfl)⟩, fun _ h => by cases h⟩) hA, rfl, bel.frame _, fun h => by cases h⟩

theorem over : Rows.arenaBackRow.holds Try.pinned (OpenSpec.ofChange Rows.arenaBackSpec) :=
  OpenClaim.holds_of_wide 3 Try.f3 rfl rfl rfl rfl rfl rfl rfl ⟨rfl, rfl, rfl, rfl, rfl⟩ rfl rfl rfl rfl rfl (by kernel_rfl) Try.func3 (by kernel_rfl)
    (of_decide_eq_true (by kernel_rfl)) (by unfold Func.isWrapper; first | (rw [if_pos (by decide +kernel)]; kernel_rfl) | (rw [if_neg (by decide +kernel)]; exact ⟨rfl, rfl⟩))
    (fun os started H enc _ => lifted os started H enc)

theorem proved : Rows.ArenaBackSaid := over
#print axioms proved
end Go.Proofs.Ytjobhdcjjegpfaa.arenaBack
