/- LogActs holds for every input: what is added and taken, which log has an entry, how many there are, and each once, is as the document says. No condition. -/
import Derived.Test.YtgfehdjahjpfhaaRows
import Derived.Test.YtgfehdjahjpfhaaSh10
import Derived.Test.YtgfehdjahjpfhaaRg
import Derived.Test.YtgfehdjahjpfhaaRi
namespace Go.Proofs.Ytgfehdjahjpfhaa.logActs
open Go.RowKit Go.Proofs.Ytgfehdjahjpfhaa Go.Proofs.Ytgfehdjahjpfhaa.En Go.Proofs.Ytgfehdjahjpfhaa.Ok Go.Proofs.Ytgfehdjahjpfhaa.Mr

/-- What First tells, of the program and of the reference. -/
theorem firsts_ (es : List E) : ∃ (f1 f2 : Int) (b : Bool) (rs : List E),
    (∀ v w, Es w v es → Calls Try.prog 15 #[v] w fun r w' => ∃ u, r = .returned (.tuple #[.agg #[.int .u64 f1, .int .i64 f2], u, .bool b]) ∧ Es w' u rs ∧ Ext w w') ∧
    (∀ v w, Es w v es → Calls Try.prog 18 #[v] w fun r w' => ∃ u, r = .returned (.tuple #[.agg #[.int .u64 f1, .int .i64 f2], u, .bool b]) ∧ Es w' u rs ∧ Ext w w') := by
  cases es with
  | nil => exact ⟨0, 0, false, [], fun v w h => (Rg.first_nil v w h).mono fun e w' ⟨h1, h2⟩ => ⟨v, h1, h.ext h2, h2⟩, fun v w h => (Rh.first_nil v w h).mono fun e w' ⟨h1, h2⟩ => ⟨v, h1, h.ext h2, h2⟩⟩
  | cons x r => exact ⟨x.1, x.2, true, r, fun v w h => Ft.first_any v x r w h, fun v w h => Rh.first_any v x r w h⟩

set_option maxHeartbeats 4000000 in
theorem go (v0 v3 : Value) (es : List E) (x : E) (most : Int) (rows : List (List E)) (hw : ∀ e ∈ es, wfE e) (w : World) (h : Es w v0 es) (hm : Me w v3 rows) :
    Calls Try.prog 9 #[.agg #[v0, .int .u64 x.1, .int .i64 x.2, .int .i64 most, v3]] w fun e w' => e = .returned (.bool true) ∧ Ext w w' := by
  obtain ⟨a0, c0, rfl⟩ := Row.form h
  obtain ⟨a3, c3, n3, rfl⟩ : ∃ a3 c3 n3, v3 = .slice a3 n3 c3 := by
    obtain ⟨vs, hl, hr, _⟩ := hm
    obtain ⟨a, cap, rfl⟩ := hr.form
    exact ⟨a, cap, _, rfl⟩
  have HO1 := Lib.hid (fun v w h => Oc.once_any v es hw w h)
  have H := Lib.hid h
  have HM := Lib.hid hm
  clear h hm hw
  have HS : Hid (∀ (u v : Value) (ys : List E) (W : World), Es W u ys → Es W v ys → Calls Try.prog 12 #[u, v] W fun e w' => e = .returned (.bool true) ∧ Ext W w') := fun u v ys W hu hv => (same_any u v ys ys W hu hv).mono fun e w' h => by
    obtain ⟨h1, hx⟩ := h
    exact ⟨by rw [h1, decide_eq_true rfl], hx⟩
  go_enter Try.func9, Try.ntmps9
  obtain ⟨f1, f2, fb, rs, HF1', HF2'⟩ := firsts_ es
  have HF1 := Lib.hid HF1'
  have HF2 := Lib.hid HF2'
  clear HF1' HF2'
  have HA1 := Lib.hid (fun v w h => Ad.add_any v es x most w h)
  have HA2 := Lib.hid (fun v w h => Rh.add_any v es x most w h)
  have HN1 := Lib.hid (fun v w h => Nx.next_any v rows w h)
  have HN2 := Lib.hid (fun v w h => Rg.next_any v rows w h)
  have HM1 := Lib.hid (fun v w h => many_any v rows w h)
  have HM2 := Lib.hid (fun v w h => Rg.many_any v rows w h)
  generalize Ad.addE es most = ae at HA1 HA2
  generalize Ad.addL es most x = al at HA1 HA2
  generalize Nx.nxI rows = ni at HN1 HN2
  generalize Nx.nxB rows = nb at HN1 HN2
  generalize many rows = mr at HM1 HM2
  obtain ⟨wE, hwE⟩ : ∃ wE, wE = ((w.alloc (.cells #[.slice a0 es.length c0, .int .u64 x.1, .int .i64 x.2, .int .i64 most, .slice a3 n3 c3] 44)).alloc (.cells #[.int .u64 x.1, .int .i64 x.2] 28)) := ⟨_, rfl⟩
  have hxE : Ext w wE := hwE ▸ ((Ext.refl w).alloc _).alloc _
  have hbE : Blk wE (w.heap.size + 1) #[.int .u64 x.1, .int .i64 x.2] 28 := by
    have := Blk.new (w.alloc (.cells #[.slice a0 es.length c0, .int .u64 x.1, .int .i64 x.2, .int .i64 most, .slice a3 n3 c3] 44)) #[.int .u64 x.1, .int .i64 x.2] 28
    rw [World.size_alloc] at this
    exact hwE ▸ this
  go_wp2_with fail
  rw [← hwE]
  clear hwE
  refine (Sh.shown_any _).mono ?_; rintro e w0 ⟨rfl, hx⟩
  have HX0 := Lib.hid (hxE.trans hx)
  have HB0 := Lib.hid (hbE.ext hx)
  have d0 : w0.cell? ⟨w.heap.size + 1, 0, none⟩ = some (.int .u64 x.1) := HB0.out.cell (i := 0) rfl
  have d1 : w0.cell? ⟨w.heap.size + 1, 1, none⟩ = some (.int .i64 x.2) := HB0.out.cell (i := 1) rfl
  clear hx hxE hbE
  go_wp2_with fail
  refine (HA1.out _ _ (H.out.ext HX0.out)).mono ?_; rintro e w1 ⟨p, rfl, hp, hx⟩
  have HX1 := Lib.hid (HX0.out.trans hx)
  have HP1 := Lib.hid hp
  replace d0 := hx.cell d0
  replace d1 := hx.cell d1
  clear hx hp
  go_wp2_with fail
  refine (HA2.out _ _ (H.out.ext HX1.out)).mono ?_; rintro e w2 ⟨q, rfl, hq, hx⟩
  have HX2 := Lib.hid (HX1.out.trans hx)
  have HP2 := Lib.hid (HP1.out.ext hx)
  have HQ2 := Lib.hid hq
  clear hx hq d0 d1
  go_wp2_with fail
  refine (HF1.out _ _ (H.out.ext HX2.out)).mono ?_; rintro e w3 ⟨r1, rfl, hr, hx⟩
  obtain ⟨ra, rc, rfl⟩ := Row.form hr
  obtain ⟨w4, hw4⟩ : ∃ w4, w4 = w3.alloc (.cells #[.int .u64 f1, .int .i64 f2] 28) := ⟨_, rfl⟩
  have hx4 : Ext w3 w4 := hw4 ▸ (Ext.refl w3).alloc _
  have hb4 : Blk w4 w3.heap.size #[.int .u64 f1, .int .i64 f2] 28 := hw4 ▸ Blk.new w3 _ _
  have HX4 := Lib.hid ((HX2.out.trans hx).trans hx4)
  have HP4 := Lib.hid (HP2.out.ext (hx.trans hx4))
  have HQ4 := Lib.hid (HQ2.out.ext (hx.trans hx4))
  have HR4 := Lib.hid (Es.ext hr hx4)
  have HB4 := Lib.hid hb4
  clear hx hr hx4 hb4
  go_wp2_with fail
  rw [← hw4]
  clear hw4
  refine (HF2.out _ _ (H.out.ext HX4.out)).mono ?_; rintro e w5 ⟨r2, rfl, hr, hx⟩
  obtain ⟨sa, sc, rfl⟩ := Row.form hr
  obtain ⟨w6, hw6⟩ : ∃ w6, w6 = w5.alloc (.cells #[.int .u64 f1, .int .i64 f2] 28) := ⟨_, rfl⟩
  have hx6 : Ext w5 w6 := hw6 ▸ (Ext.refl w5).alloc _
  have hb6 : Blk w6 w5.heap.size #[.int .u64 f1, .int .i64 f2] 28 := hw6 ▸ Blk.new w5 _ _
  have HX6 := Lib.hid ((HX4.out.trans hx).trans hx6)
  have HP6 := Lib.hid (HP4.out.ext (hx.trans hx6))
  have HQ6 := Lib.hid (HQ4.out.ext (hx.trans hx6))
  have HR6 := Lib.hid (HR4.out.ext (hx.trans hx6))
  have HS6 := Lib.hid (Es.ext hr hx6)
  have HB6 := Lib.hid (HB4.out.ext (hx.trans hx6))
  have HC6 := Lib.hid hb6
  clear hx hr hx6 hb6
  go_wp2_with fail
  rw [← hw6]
  clear hw6
  refine (HN1.out _ _ (HM.out.ext HX6.out)).mono ?_; rintro e w' ⟨rfl, rfl⟩
  go_wp2_with fail
  refine (HN2.out _ _ (HM.out.ext HX6.out)).mono ?_; rintro e w' ⟨rfl, rfl⟩
  go_wp2_with fail
  refine (HS.out _ _ _ _ HP6.out HQ6.out).mono ?_; rintro e w7 ⟨rfl, hx⟩
  have HX7 := Lib.hid (HX6.out.trans hx)
  have HR7 := Lib.hid (HR6.out.ext hx)
  have HS7 := Lib.hid (HS6.out.ext hx)
  have HB7 := Lib.hid (HB6.out.ext hx)
  have HC7 := Lib.hid (HC6.out.ext hx)
  clear hx
  go_wp2_with fail
  refine (HS.out _ _ _ _ HR7.out HS7.out).mono ?_; rintro e w8 ⟨rfl, hx⟩
  have HX8 := Lib.hid (HX7.out.trans hx)
  have HB8 := Lib.hid (HB7.out.ext hx)
  have HC8 := Lib.hid (HC7.out.ext hx)
  clear hx
  go_wp2_with fail
  refine (HO1.out _ _ (H.out.ext HX8.out)).mono ?_; rintro e w9 ⟨o1, rfl, ho1, hx⟩
  have HX9 := Lib.hid (HX8.out.trans hx)
  have HB9 := Lib.hid (HB8.out.ext hx)
  have HC9 := Lib.hid (HC8.out.ext hx)
  have HO9 := Lib.hid ho1
  clear hx ho1
  go_wp2_with fail
  refine (Ri.once_any _ es _ (H.out.ext HX9.out)).mono ?_; rintro e w10 ⟨o2, rfl, ho2, hx⟩
  have HX10 := Lib.hid (HX9.out.trans hx)
  have HB10 := Lib.hid (HB9.out.ext hx)
  have HC10 := Lib.hid (HC9.out.ext hx)
  have HO10 := Lib.hid (HO9.out.ext hx)
  have HP10 := Lib.hid ho2
  clear hx ho2
  go_wp2_with fail
  refine (HS.out _ _ _ _ HO10.out HP10.out).mono ?_; rintro e w11 ⟨rfl, hx⟩
  have HX11 := Lib.hid (HX10.out.trans hx)
  have hb := HB10.out.ext hx
  have hc := HC10.out.ext hx
  have d0 : w11.cell? ⟨w3.heap.size, 0, none⟩ = some (.int .u64 f1) := hb.cell (i := 0) rfl
  have d1 : w11.cell? ⟨w3.heap.size, 1, none⟩ = some (.int .i64 f2) := hb.cell (i := 1) rfl
  have e0 : w11.cell? ⟨w5.heap.size, 0, none⟩ = some (.int .u64 f1) := hc.cell (i := 0) rfl
  have e1 : w11.cell? ⟨w5.heap.size, 1, none⟩ = some (.int .i64 f2) := hc.cell (i := 1) rfl
  have hse : ∀ W : World, (Op.equalIn 10000 28 (.agg #[.int .u64 f1, .int .i64 f2]) (.agg #[.int .u64 f1, .int .i64 f2])).run Try.prog W = .ok true W := fun W => by rw [eqEntry]; simp
  clear hx hb hc
  go_wp2_with fail
  refine (HM1.out _ _ (HM.out.ext HX11.out)).mono ?_; rintro e w' ⟨rfl, rfl⟩
  go_wp2_with fail
  refine (HM2.out _ _ (HM.out.ext HX11.out)).mono ?_; rintro e w' ⟨rfl, rfl⟩
  go_wp2_with fail
  go_ret
  exact ⟨by first | rfl | (simp; done), HX11.out⟩

theorem walk (v0 : Value) (W : World) (r0 : Rd.V Try.prog W 44 v0) : Calls Try.prog 9 #[v0] W fun e w' => e = .returned (.bool true) ∧ Below W.heap.size W w' := by
  obtain ⟨cs, rfl, hs⟩ := r0.struct Try.underlying44
  obtain ⟨hl, _⟩ := hs.struct Try.underlying44
  rw [show Try.prog.cellsOf 44 = 5 by kernel_rfl] at hl
  match cs, hl with
  | [c0, c1, c2, c3, c4], _ =>
    have f0 := Rd.R.field Try.underlying44 hs 0 rfl 0 1 22 rfl rfl (by kernel_rfl)
    have f1 := Rd.R.field Try.underlying44 hs 1 rfl 1 2 28 rfl rfl (by kernel_rfl)
    have f2 := Rd.R.field Try.underlying44 hs 2 rfl 3 1 3 rfl rfl (by kernel_rfl)
    have f3 := Rd.R.field Try.underlying44 hs 3 rfl 4 1 35 rfl rfl (by kernel_rfl)
    obtain ⟨es, h0, hw⟩ := Es.of_R (show Rd.R _ W _ [c0] from f0)
    obtain ⟨a, ha, _⟩ := (Rd.R.field Try.underlying28 f1 0 rfl 0 1 26 rfl rfl (by kernel_rfl)).int Try.underlying26
    obtain rfl : c1 = .int .u64 a := by simpa using ha
    obtain ⟨b, hb, _⟩ := (Rd.R.field Try.underlying28 f1 1 rfl 1 1 3 rfl rfl (by kernel_rfl)).int Try.underlying3
    obtain rfl : c2 = .int .i64 b := by simpa using hb
    obtain ⟨i, hi, _⟩ := f2.int Try.underlying3
    obtain rfl : c3 = .int .i64 i := by simpa using hi
    obtain ⟨rows, h3, _⟩ := Me.of_R (show Rd.R _ W _ [c4] from f3)
    exact (go c0 c4 es (a, b) i rows hw W h0 h3).mono fun e w' ⟨he, hw⟩ => ⟨he, hw.below⟩

open Go.ChangeShapes Go.WideShapes Go.ChangeAt Go.RowKit
theorem own : ownKnob Try.prog.godebug = none := by kernel_rfl
theorem laidOut : laidOutB Try.prog = true := by kernel_rfl

set_option maxRecDepth 100000 in
theorem lifted (os : Os) (started : os.Started) (H : Type) (enc : TypeId × Value → H) :
    ReturnsInHanded {} Try.checked os 9 .any (Rows.logActsSpec.pre6 enc Try.prog Try.f9 Rows.logActsRow.domain false) (Rows.logActsSpec.post enc Try.prog Try.f9 false true false false) := by
  refine returnsInHanded_of_change_sized (C := Try.checked) own started (by kernel_rfl) Try.func9
    (ChangeSpec.witness6 (enc := enc) (C := Try.checked) false ⟨#[], #[.agg #[.slice none 0 0, .int .u64 0, .int .i64 0, .int .i64 0, .slice none 0 0]], []⟩ 12 (by kernel_rfl) (by kernel_rfl) (by kernel_rfl) (by kernel_rfl)) ?_
  intro W base args ds gs before hval0 hW _ hsz0 _
  have hval : ∀ (j : Nat) t v, Try.f9.params[j]? = some t → args[j]? = some v → Value.okWide Try.prog W .any base t v := hval0
  have hW' := hW
  obtain ⟨p, q, hA0, hV, rfl, _, _⟩ := hW
  have hA : DataW.TrodAll enc Try.prog W 0 (fun _ => true) true Try.f9.params.toList args.toList ds p := hA0
  obtain ⟨rfl, rfl⟩ := trodVars_none hV
  have hsz : (DataW.weightsEach Try.prog (Try.f9.params.toList ++ []) (ds ++ [])).all (· ≤ reachBytes) = true := hsz0
  rw [Try.params9] at hA hval hsz
  have hA2 := hA
  obtain ⟨v0, vs0, d0, ds0, p0, q0, hargs, rfl, rfl, h0, r0⟩ := trodAll_cons hA2
  obtain ⟨rfl, rfl, rfl⟩ := trodAll_nil r0
  obtain rfl : args = #[v0] := by cases args; simp_all
  have hR := Rd.trodAll_V hA (fun n hn => by simpa using List.all_eq_true.1 hsz n (by simpa using hn)) (fun j t v hj hv => hval j t v (by simpa using hj) (by simpa using hv))
  clear hA0 hval0 hA2
  refine (walk v0 W (hR 0 44 v0 rfl rfl)).mono fun e W' ⟨he, bel⟩ => ?_
  subst he
  exact ⟨_, rfl, _, _, _, [], _, [], hW', trodAll_mk1 (shut_bool Try.underlying4 _), Rd.trodAll_below laidOut bel (List.forall_mem_cons.2 ⟨⟨by kernel_rfl, of_decide_eq_true (by kernel_rfl)⟩, fun _ h => by cases h⟩) hA, rfl, bel.frame _, fun h => by cases h⟩

theorem over : Rows.logActsRow.holds Try.pinned (OpenSpec.ofChange Rows.logActsSpec) :=
  OpenClaim.holds_of_wide 9 Try.f9 rfl rfl rfl rfl rfl rfl rfl ⟨rfl, rfl, rfl, rfl, rfl⟩ rfl rfl rfl rfl rfl (by kernel_rfl) Try.func9 (by kernel_rfl)
    (of_decide_eq_true (by kernel_rfl)) (by unfold Func.isWrapper; first | (rw [if_pos (by decide +kernel)]; kernel_rfl) | (rw [if_neg (by decide +kernel)]; exact ⟨rfl, rfl⟩))
    (fun os started H enc _ => lifted os started H enc)

theorem proved : Rows.LogActsSaid := over
#print axioms proved
end Go.Proofs.Ytgfehdjahjpfhaa.logActs
