/- ArenaNew holds for every input: new memory, and which memory is right, is as the document says. No condition. -/
import Derived.Test.YtjobhdcjjegpfaaRows
import Derived.Test.YtjobhdcjjegpfaaAn
import Derived.Deep.RegionHeld3
namespace Go.Proofs.Ytjobhdcjjegpfaa.arenaNew
open Go.RowKit Go.Proofs.Ytjobhdcjjegpfaa Go.Proofs.Ytjobhdcjjegpfaa.Ar
set_option linter.unusedVariables false

theorem same_yes (n : Int) (xs ys : List Int) : sameB n n xs ys xs ys = true := by simp [sameB]
theorem keep {w W W' : World} {b : Nat} {x y z : Value} (h : W.cell? ⟨b, 0, none⟩ = some x ∧ W.cell? ⟨b, 1, none⟩ = some y ∧ W.cell? ⟨b, 2, none⟩ = some z ∧ Ext w W) (he : Ext W W') :
    W'.cell? ⟨b, 0, none⟩ = some x ∧ W'.cell? ⟨b, 1, none⟩ = some y ∧ W'.cell? ⟨b, 2, none⟩ = some z ∧ Ext w W' := ⟨he.cell h.1, he.cell h.2.1, he.cell h.2.2.1, h.2.2.2.trans he⟩
set_option maxHeartbeats 8000000 in
theorem go (k n : Int) (v0 v1 : Value) (xs ys : List Int) (w : World) (h0 : Sl .u64 w v0 xs) (h1 : Sl .u64 w v1 ys) :
    Calls Try.prog 5 #[.int .i64 k, .agg #[.int .i64 n, v0, v1]] w fun e w' => e = .returned (.bool true) ∧ Ext w w' := by
  obtain ⟨b0, c0, rfl⟩ := Row.form h0
  obtain ⟨b1, c1, rfl⟩ := Row.form h1
  by_cases hb : 400 < k ∧ k ≤ 4096
  · have d1 : decide (400 < k) = true := decide_eq_true hb.1
    have d2 : decide (k ≤ 4096) = true := decide_eq_true hb.2
    clear h0 h1 hb
    go_enter Try.func5, Try.ntmps5
    go_wp2_with fail
    refine (An.shown_any _).mono ?_; rintro e w1 ⟨rfl, hx⟩
    have HE1 := Lib.hid (Ext.trans (by repeat (first | exact Ext.refl _ | assumption | refine Ext.alloc ?_ _ | refine Ext.drewN ?_ _ | refine Ext.drew ?_ | refine Ext.trans ?_ (by assumption))) hx : Ext w w1)
    have HB1 := Lib.hid (show Blk w1 w.heap.size #[.int .i64 n, .slice b0 xs.length c0, .slice b1 ys.length c1] 25 from (blk_at (by simp)).ext hx)
    clear hx
    go_wp2_with fail
    go_ret
    exact ⟨by first | rfl | (simp; done), HE1.out⟩
  · have hd : decide (400 < k) = false ∨ (decide (400 < k) = true ∧ decide (k ≤ 4096) = false) := by
      by_cases h1 : 400 < k
      · exact .inr ⟨decide_eq_true h1, decide_eq_false (fun h2 => hb ⟨h1, h2⟩)⟩
      · exact .inl (decide_eq_false h1)
    have HR := Lib.hid (fun (w' : World) (he : Ext w w') => right_any n _ _ xs ys w' (h0.ext he) (h1.ext he))
    have HQ := Lib.hid (fun (w' : World) (he : Ext w w') => rright_any n _ _ xs ys w' (h0.ext he) (h1.ext he))
    generalize rightB n xs.length ys.length = b at HR HQ
    have S0 := Lib.hid h0
    have S1 := Lib.hid h1
    clear h0 h1 hb
    have hheld : ∀ W : World, (W.cell? ⟨w.heap.size, 0, none⟩ = some (.int .i64 n) ∧ W.cell? ⟨w.heap.size, 1, none⟩ = some (.slice b0 xs.length c0) ∧ W.cell? ⟨w.heap.size, 2, none⟩ = some (.slice b1 ys.length c1) ∧ Ext w W) → Ext w W := fun W h => h.2.2.2
    rcases hd with d1 | ⟨d1, d2⟩
    all_goals
      go_enter Try.func5, Try.ntmps5
      go_wp2_with fail
      refine (An.shown_any _).mono ?_; rintro e w1 ⟨rfl, hx⟩
      have HE1 := Lib.hid (Ext.trans (by repeat (first | exact Ext.refl _ | assumption | refine Ext.alloc ?_ _ | refine Ext.drewN ?_ _ | refine Ext.drew ?_ | refine Ext.trans ?_ (by assumption))) hx : Ext w w1)
      have HB1 := Lib.hid (show Blk w1 w.heap.size #[.int .i64 n, .slice b0 xs.length c0, .slice b1 ys.length c1] 25 from (blk_at (by simp)).ext hx)
      clear hx
      go_wp2_with fail
      refine (new_any k _).mono ?_; rintro e w2 ⟨u0, u1, rfl, hu0, hu1, hx⟩
      have HE2 := Lib.hid (HE1.out.trans hx)
      have HB2 := Lib.hid (HB1.out.ext hx)
      obtain ⟨d0, f0, rfl⟩ := Row.form hu0
      obtain ⟨d1, f1, rfl⟩ := Row.form hu1
      have U0 := Lib.hid hu0
      have U1 := Lib.hid hu1
      clear hx hu0 hu1
      go_wp2_with fail
      have HP2 := Lib.hid (Blk.new w2 #[.int .i64 (nwN k), .slice d0 (nwL k).length f0, .slice d1 (nwL k).length f1] 25)
      refine (rnew_any k _).mono ?_; rintro e w3 ⟨y0, y1, rfl, hy0, hy1, hx⟩
      have hx3 : Ext w2 w3 := Ext.trans (by repeat (first | exact Ext.refl _ | assumption | refine Ext.alloc ?_ _ | refine Ext.drewN ?_ _ | refine Ext.drew ?_ | refine Ext.trans ?_ (by assumption))) hx
      have HE3 := Lib.hid (HE2.out.trans hx3)
      have HB3 := Lib.hid (HB2.out.ext hx3)
      have HP3 := Lib.hid (HP2.out.ext hx)
      have HX3 := Lib.hid hx3
      obtain ⟨e0, g0, rfl⟩ := Row.form hy0
      obtain ⟨e1, g1, rfl⟩ := Row.form hy1
      have Y0 := Lib.hid hy0
      have Y1 := Lib.hid hy1
      obtain ⟨p0, p1, p2, _, _, _⟩ := (HP3.out.alloc (.cells #[.int .i64 (nwN k), .slice e0 (nwL k).length g0, .slice e1 (nwL k).length g1] 25)).three
      clear hx hx3 hy0 hy1
      go_wp2_with fail
      refine (rsame_any (nwN k) (nwN k) _ _ _ _ (nwL k) (nwL k) (nwL k) (nwL k) _ (U0.out.ext (HX3.out.alloc _)) (U1.out.ext (HX3.out.alloc _)) (Y0.out.ext ((Ext.refl _).alloc _)) (Y1.out.ext ((Ext.refl _).alloc _))).mono ?_; rintro e w4 ⟨rfl, hx⟩
      rw [same_yes]
      have HE4 := Lib.hid ((HE3.out.alloc _).trans hx)
      have HB4 := Lib.hid ((HB3.out.alloc _).ext hx)
      obtain ⟨p0, p1, p2, _, _, _⟩ := HB4.out.three
      clear hx
      go_wp2_with fail
      go_region_held3 (fun W : World => W.cell? ⟨w.heap.size, 0, none⟩ = some (.int .i64 n) ∧ W.cell? ⟨w.heap.size, 1, none⟩ = some (.slice b0 xs.length c0) ∧ W.cell? ⟨w.heap.size, 2, none⟩ = some (.slice b1 ys.length c1) ∧ Ext w W) (first | exact ⟨p0, p1, p2, HE4.out.drew⟩ | (refine keep ?_ hxq; assumption)) (first | (go_at_call 19; refine (HR.out _ (hheld _ (by assumption))).mono ?_; rintro e wq ⟨rfl, hxq⟩) | (go_at_call 20; refine (HQ.out _ (hheld _ (by assumption))).mono ?_; rintro e wq ⟨rfl, hxq⟩))
      all_goals
        have hfin := hheld _ (by assumption)
        go_wp2_with fail
        go_ret
        exact ⟨by first | rfl | (simp; done), hfin⟩

theorem walk (v0 : Value) (v1 : Value) (W : World) (r0 : Rd.V Try.prog W 3 v0) (r1 : Rd.V Try.prog W 25 v1) : Calls Try.prog 5 #[v0, v1] W fun e w' => e = .returned (.bool true) ∧ Below W.heap.size W w' := by
  obtain ⟨k, rfl, wk⟩ := r0.int Try.underlying3
  obtain ⟨cs, rfl, hs⟩ := r1.struct Try.underlying25
  obtain ⟨n, v0, v1, xs, ys, rfl, h0, h1, wx, wy, wn⟩ := An.mem_R hs
  exact (go k n v0 v1 xs ys W h0 h1).mono fun e w' ⟨he, hw⟩ => ⟨he, hw.below⟩

open Go.ChangeShapes Go.WideShapes Go.ChangeAt Go.RowKit
theorem own : ownKnob Try.prog.godebug = none := by kernel_rfl
theorem laidOut : laidOutB Try.prog = true := by kernel_rfl

set_option maxRecDepth 100000 in
theorem lifted (os : Os) (started : os.Started) (H : Type) (enc : TypeId × Value → H) :
    ReturnsInHanded {} Try.checked os 5 .any (Rows.arenaNewSpec.pre6 enc Try.prog Try.f5 Rows.arenaNewRow.domain false) (Rows.arenaNewSpec.post enc Try.prog Try.f5 false true false false) := by
  refine returnsInHanded_of_change_sized (C := Try.checked) own started (by kernel_rfl) Try.func5
    (ChangeSpec.witness6 (enc := enc) (C := Try.checked) false ⟨#[], #[.int .i64 0, .agg #[.int .i64 0, .slice none 0 0, .slice none 0 0]], []⟩ 12 (by kernel_rfl) (by kernel_rfl) (by kernel_rfl) (by kernel_rfl)) ?_
  intro W base args ds gs before hval0 hW _ hsz0 _
  have hval : ∀ (j : Nat) t v, Try.f5.params[j]? = some t → args[j]? = some v → Value.okWide Try.prog W .any base t v := hval0
  have hW' := hW
  obtain ⟨p, q, hA0, hV, rfl, _, _⟩ := hW
  have hA : DataW.TrodAll enc Try.prog W 0 (fun _ => true) true Try.f5.params.toList args.toList ds p := hA0
  obtain ⟨rfl, rfl⟩ := trodVars_none hV
  have hsz : (DataW.weightsEach Try.prog (Try.f5.params.toList ++ []) (ds ++ [])).all (· ≤ reachBytes) = true := hsz0
  rw [Try.params5] at hA hval hsz
  have hA2 := hA
  obtain ⟨v0, vs0, d0, ds0, p0, q0, hargs, rfl, rfl, h0, r0⟩ := trodAll_cons hA2
  obtain ⟨v1, vs1, d1, ds1, p1, q1, rfl, rfl, rfl, h1, r1⟩ := trodAll_cons r0
  obtain ⟨rfl, rfl, rfl⟩ := trodAll_nil r1
  obtain rfl : args = #[v0, v1] := by cases args; simp_all
  have hR := Rd.trodAll_V hA (fun n hn => by simpa using List.all_eq_true.1 hsz n (by simpa using hn)) (fun j t v hj hv => hval j t v (by simpa using hj) (by simpa using hv))
  clear hA0 hval0 hA2
  refine (walk v0 v1 W (hR 0 3 v0 rfl rfl) (hR 1 25 v1 rfl rfl)).mono fun e W' ⟨he, bel⟩ => ?_
  subst he
  exact ⟨_, rfl, _, _, _, [], _, [], hW', trodAll_mk1 (shut_bool Try.underlying4 _), Rd.trodAll_below laidOut bel (List.forall_mem_cons.2 ⟨⟨by kernel_rfl, of_decide_eq_true (by kernel_rfl)⟩, List.forall_mem_cons.2 ⟨⟨by kernel_rfl, of_decide_eq_true (by kernel_rfl)⟩, fun _ h => by cases h⟩⟩) hA, rfl, bel.frame _, fun h => by cases h⟩

theorem over : Rows.arenaNewRow.holds Try.pinned (OpenSpec.ofChange Rows.arenaNewSpec) :=
  OpenClaim.holds_of_wide 5 Try.f5 rfl rfl rfl rfl rfl rfl rfl ⟨rfl, rfl, rfl, rfl, rfl⟩ rfl rfl rfl rfl rfl (by kernel_rfl) Try.func5 (by kernel_rfl)
    (of_decide_eq_true (by kernel_rfl)) (by unfold Func.isWrapper; first | (rw [if_pos (by decide +kernel)]; kernel_rfl) | (rw [if_neg (by decide +kernel)]; exact ⟨rfl, rfl⟩))
    (fun os started H enc _ => lifted os started H enc)

theorem proved : Rows.ArenaNewSaid := over
#print axioms proved
end Go.Proofs.Ytjobhdcjjegpfaa.arenaNew
