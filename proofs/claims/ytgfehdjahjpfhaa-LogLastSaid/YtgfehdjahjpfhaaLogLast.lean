/- LogLast holds for every input: each once: the entry that was added last stands last. No condition. -/
import Derived.Test.YtgfehdjahjpfhaaRows
import Derived.Test.YtgfehdjahjpfhaaSh10
import Derived.Test.YtgfehdjahjpfhaaGw
import Derived.Deep.RegionHeld3
namespace Go.Proofs.Ytgfehdjahjpfhaa.logLast
open Go.RowKit Go.Proofs.Ytgfehdjahjpfhaa Go.Proofs.Ytgfehdjahjpfhaa.En Go.Proofs.Ytgfehdjahjpfhaa.Ok Go.Proofs.Ytgfehdjahjpfhaa.Gw

theorem fold_last (x : E) (xs : List E) : ∀ out : List E, xs.foldl Ok.step (x :: out.filter fun e => decide (e ≠ x)) = x :: (xs.foldl Ok.step out).filter fun e => decide (e ≠ x) := by
  induction xs with
  | nil => intro out; rfl
  | cons y r ih =>
    intro out
    simp only [List.foldl_cons]
    rw [← ih (Ok.step out y)]
    congr 1
    unfold Ok.step
    by_cases hy : y = x
    · subst hy
      rw [if_pos (by simp)]
      split <;> simp
    · by_cases hm : y ∈ out
      · rw [if_pos hm, if_pos (by simp [hm, hy])]
      · rw [if_neg hm, if_neg (by simp [hm, hy])]
        simp [hy]
theorem once_last (es : List E) (x : E) : once (es ++ [x]) = ((once es).filter fun e => decide (e ≠ x)) ++ [x] := by
  unfold once firsts
  have h := fold_last x es.reverse []
  rw [List.reverse_append, List.reverse_singleton, List.singleton_append, List.foldl_cons]
  have e : Ok.step [] x = x :: ([] : List E).filter fun e => decide (e ≠ x) := rfl
  rw [e, h, List.reverse_cons, List.filter_reverse]

/-- How many of the first k aren't x. -/
def cnt (p : List E) (x : E) (k : Nat) : Nat := ((p.take k).filter fun e => decide (e ≠ x)).length
def oth (p : List E) (x : E) : List E := p.filter fun e => decide (e ≠ x)
theorem cnt_eq (p : List E) (x : E) {k : Nat} (h : k < p.length) (hx : p.getD k (0, 0) = x) : cnt p x (k + 1) = cnt p x k := by
  have e : p.getD k (0, 0) = p[k] := by simp [List.getD_eq_getElem?_getD, h]
  rw [e] at hx
  unfold cnt
  rw [List.take_succ_eq_append_getElem h, List.filter_append, List.length_append, hx]
  simp
theorem cnt_ne (p : List E) (x : E) {k : Nat} (h : k < p.length) (hx : p.getD k (0, 0) ≠ x) : cnt p x (k + 1) = cnt p x k + 1 ∧ (oth p x)[cnt p x k]? = some (p.getD k (0, 0)) := by
  have e : p.getD k (0, 0) = p[k] := by simp [List.getD_eq_getElem?_getD, h]
  rw [e] at hx ⊢
  constructor
  · unfold cnt
    rw [List.take_succ_eq_append_getElem h, List.filter_append, List.length_append]
    simp [hx]
  · unfold oth cnt
    have e2 : p.filter (fun e => decide (e ≠ x)) = (p.take k).filter (fun e => decide (e ≠ x)) ++ (p.drop k).filter (fun e => decide (e ≠ x)) := by rw [← List.filter_append, List.take_append_drop]
    rw [e2, List.getElem?_append_right (Nat.le_refl _), Nat.sub_self, List.drop_eq_getElem_cons h, List.filter_cons_of_pos (by simpa using hx)]
    rfl
theorem cnt_end (p : List E) (x : E) : cnt p x p.length = (oth p x).length := by unfold cnt oth; rw [List.take_length]
theorem cnt_le (p : List E) (x : E) (k : Nat) : cnt p x k ≤ p.length := by
  unfold cnt
  exact Nat.le_trans (List.length_filter_le _ _) (by simp; omega)

theorem Es.of_eq {w : World} {v : Value} {xs ys : List E} (h : Es w v xs) (e : xs = ys) : Es w v ys := e ▸ h
theorem entry_wf {w : World} {v : Value} (h : Rd.V Try.prog w 28 v) : ∃ x : E, v = .agg #[.int .u64 x.1, .int .i64 x.2] ∧ wfE x := by
  obtain ⟨l, rfl, hs⟩ := h.struct Try.underlying28
  obtain ⟨hl, _⟩ := hs.struct Try.underlying28
  rw [show Try.prog.cellsOf 28 = 2 by kernel_rfl] at hl
  match l, hl with
  | [c0, c1], _ =>
    obtain ⟨x, hx, hx2⟩ := (Rd.R.field Try.underlying28 hs 0 rfl 0 1 26 rfl rfl (by kernel_rfl)).int Try.underlying26
    obtain rfl : c0 = .int .u64 x := by simpa using hx
    obtain ⟨y, hy, hy2⟩ := (Rd.R.field Try.underlying28 hs 1 rfl 1 1 3 rfl rfl (by kernel_rfl)).int Try.underlying3
    obtain rfl : c1 = .int .i64 y := by simpa using hy
    exact ⟨(x, y), rfl, hx2, hy2⟩

set_option maxHeartbeats 4000000 in
theorem go (v : Value) (es : List E) (x : E) (hw : ∀ e ∈ es, wfE e) (hwx : wfE x) (hb : (es.length + 1) * 16 ≤ 140737488355328) (w : World) (h : Es w v es) : Calls Try.prog 4 #[v, .agg #[.int .u64 x.1, .int .i64 x.2]] w fun e w' => e = .returned (.bool true) ∧ Ext w w' := by
  have HO1 := Lib.hid (fun v w h => Oc.once_any v (es ++ [x]) (fun e he => (List.mem_append.1 he).elim (hw e) (fun h => by simp at h; subst h; exact hwx)) w h)
  have HO2 := Lib.hid (fun v w h => Oc.once_any v es hw w h)
  have H := Lib.hid h
  clear h
  obtain ⟨wA, hwA⟩ : ∃ wA, wA = w.alloc (.cells #[.int .u64 x.1, .int .i64 x.2] 28) := ⟨_, rfl⟩
  have hxA : Ext w wA := hwA ▸ (Ext.refl w).alloc _
  have hbA : Blk wA w.heap.size #[.int .u64 x.1, .int .i64 x.2] 28 := hwA ▸ Blk.new w _ _
  go_enter Try.func4, Try.ntmps4
  go_wp2_with fail
  rw [← hwA]
  refine (Sh.shown_any _).mono ?_; rintro e w0 ⟨rfl, hx0⟩
  have HX0 := Lib.hid (hxA.trans hx0)
  have hb0 := hbA.ext hx0
  have e0 : w0.cell? ⟨w.heap.size, 0, none⟩ = some (.int .u64 x.1) := hb0.cell (i := 0) rfl
  have e1 : w0.cell? ⟨w.heap.size, 1, none⟩ = some (.int .i64 x.2) := hb0.cell (i := 1) rfl
  have HB0 := Lib.hid hb0
  clear hwA hxA hbA hx0 hb0
  go_wp2_with fail
  obtain ⟨⟨v1, w1, v2, w2, a1, x1, a2, x2, z1⟩, ⟨v3, w3, v4, w4, a3, x3, a4, x4, z2⟩, ⟨v5, w5, v6, w6, a5, x5, a6, x6, z3⟩⟩ := drawn_ (H.out.ext HX0.out) x hb
  have HC : Hid (∀ W, Ext w0 W → W.cell? ⟨w.heap.size, 0, none⟩ = some (.int .u64 x.1) ∧ W.cell? ⟨w.heap.size, 1, none⟩ = some (.int .i64 x.2) ∧ Ext w0 W) := fun W h => ⟨h.cell e0, h.cell e1, h⟩
  clear e0 e1
  go_region_held3 (fun W : World => W.cell? ⟨w.heap.size, 0, none⟩ = some (.int .u64 x.1) ∧ W.cell? ⟨w.heap.size, 1, none⟩ = some (.int .i64 x.2) ∧ Ext w0 W)
    (exact HC.out _ (by repeat (first | exact Ext.refl _ | assumption | refine Ext.alloc ?_ _ | refine Ext.drewN ?_ _ | refine Ext.drew ?_ | refine Ext.trans ?_ (by assumption))))
    (first
      | ((with_reducible refine Ad.step_append_run ?_ (.tmp 11) (.tmp 12) 22 ?_ _ _ ?_ ?_ _ _ a1 ?_); rfl; rfl; rfl; rfl)
      | ((with_reducible refine Ad.step_append_run ?_ (.tmp 11) (.tmp 12) 22 ?_ _ _ ?_ ?_ _ _ a3 ?_); rfl; rfl; rfl; rfl)
      | ((with_reducible refine Ad.step_append_run ?_ (.tmp 11) (.tmp 12) 22 ?_ _ _ ?_ ?_ _ _ a5 ?_); rfl; rfl; rfl; rfl)
      | ((with_reducible refine Ad.step_append_run ?_ (.tmp 13) (.tmp 15) 22 ?_ _ _ ?_ ?_ _ _ a2 ?_); rfl; rfl; rfl; rfl)
      | ((with_reducible refine Ad.step_append_run ?_ (.tmp 13) (.tmp 15) 22 ?_ _ _ ?_ ?_ _ _ a4 ?_); rfl; rfl; rfl; rfl)
      | ((with_reducible refine Ad.step_append_run ?_ (.tmp 13) (.tmp 15) 22 ?_ _ _ ?_ ?_ _ _ a6 ?_); rfl; rfl; rfl; rfl)
      | (go_at_call 11; (with_reducible refine (HO1.out _ _ (by assumption)).mono ?_); rintro e wo ⟨o, rfl, ho, hxo⟩))
  all_goals
    have hX : Ext w0 wo := by first | exact x2.trans hxo | exact x4.trans hxo | exact x6.trans hxo
    have HXo := Lib.hid (HX0.out.trans hX)
    have HO := Lib.hid (Es.of_eq ho (once_last es x))
    have HBo := Lib.hid (HB0.out.ext hX)
    clear a1 a2 a3 a4 a5 a6 x1 x2 x3 x4 x5 x6 z1 z2 z3 ho hxo HC
    go_wp2_with fail
    refine (HO2.out v _ (H.out.ext HXo.out)).mono ?_; rintro e wp ⟨u, rfl, hu, hxp⟩
    obtain ⟨p, hp⟩ : ∃ p, once es = p := ⟨_, rfl⟩
    have hO2 := (Es.of_eq HO.out (by rw [hp]; rfl : _ = oth p x ++ [x])).ext hxp
    have holen := hO2.len
    have hosm := hO2.small
    have hulen := hu.len
    rw [hp] at hu hulen
    have husm := hu.small
    have HU := Lib.hid hu
    have HO2' := Lib.hid hO2
    have HB := Lib.hid (HBo.out.ext hxp)
    have HX := Lib.hid (HXo.out.trans hxp)
    obtain ⟨x1, x2⟩ := x
    clear hp hu hO2 HO HBo hX HXo HB0 HO1 hxp
    obtain ⟨q, hq⟩ : ∃ q, (oth p (x1, x2)).length = q := ⟨_, rfl⟩
    have hql : (oth p (x1, x2) ++ [(x1, x2)]).length = q + 1 := by simp [hq]
    rw [hql] at holen hosm
    obtain ⟨q1, hq1⟩ : ∃ q1 : Int, (q : Int) + 1 = q1 := ⟨_, rfl⟩
    replace holen : ∀ ty w', (Builtin.len_ #[22] ty #[o]).run Try.prog w' = .ok (.int .i64 q1) w' := fun ty w' => by rw [holen ty w', ← hq1]; rfl
    have HQ := Lib.hid hq
    have HQ1 := Lib.hid hq1
    have hq2 : q1 ≤ 140737488355328 := by omega
    clear hq hql hq1 hosm
    go_wp2_with fail
    go_loopw [8, 9] (fun a i wr => ∃ (k : Nat), i = .int .i64 k ∧ a = .int .i64 (cnt p (x1, x2) k : Nat) ∧ k ≤ p.length ∧ Ext wp wr) (fun _ i _ => p.length - (intOf i).toNat)
    case atStart => exact ⟨0, rfl, by simp [cnt], Nat.zero_le _, Ext.refl _⟩
    case round =>
      obtain ⟨k, rfl, rfl, hk, hXk⟩ := hrel
      obtain ⟨wk, hwk⟩ : ∃ wk, wk = wr := ⟨_, rfl⟩
      subst hwk
      have HXk := Lib.hid hXk
      have hBk := HB.out.ext hXk
      have e0 : wk.cell? ⟨w.heap.size, 0, none⟩ = some (.int .u64 x1) := hBk.cell (i := 0) rfl
      have e1 : wk.cell? ⟨w.heap.size, 1, none⟩ = some (.int .i64 x2) := hBk.cell (i := 1) rfl
      clear hXk hBk
      by_cases hklt : k < p.length
      · obtain ⟨b2, o2, s2, hp2, ha2, hb2⟩ := (HU.out.ext HXk.out).at_ k hklt
        have heqv := cnt_eq p (x1, x2) hklt
        have hnev := cnt_ne p (x1, x2) hklt
        have hcl := cnt_le p (x1, x2) k
        obtain ⟨c, hc⟩ : ∃ c, cnt p (x1, x2) k = c := ⟨_, rfl⟩
        have hcs2 : (c : Int) ≤ 140737488355328 := by omega
        obtain ⟨y, hy⟩ : ∃ y, p.getD k (0, 0) = y := ⟨_, rfl⟩
        rw [hy] at ha2 hb2 heqv hnev
        obtain ⟨y1, y2⟩ := y
        obtain ⟨b, hb⟩ : ∃ b, decide ((y1, y2) = (x1, x2)) = b := ⟨_, rfl⟩
        have heq := eqEntry y1 y2 x1 x2
        rw [show (y1 == x1 && y2 == x2) = decide ((y1, y2) = (x1, x2)) from eq_iff (y1, y2) (x1, x2), hb] at heq
        rw [hc] at heqv hnev ⊢
        have HEQ := Lib.hid heqv
        have HNE := Lib.hid hnev
        have HBB := Lib.hid hb
        dsimp only at ha2 hb2
        clear heqv hnev hy hb hc hcl
        cases b with
        | true =>
          have HC : Hid (cnt p (x1, x2) (k + 1) = c) := HEQ.out (of_decide_eq_true HBB.out)
          go_wp2_with fail
          go_quiet (fail)
          go_wp2_with fail
          go_roundw
          case rel => exact ⟨k + 1, by go_num, by rw [HC.out], hklt, HXk.out.drewN _⟩
          case measure => simp [intOf]; omega
        | false =>
          obtain ⟨hn1, hn2⟩ := HNE.out (of_decide_eq_false HBB.out)
          have HC : Hid (cnt p (x1, x2) (k + 1) = c + 1) := hn1
          have hcq : c < q := by rw [← HQ.out]; exact (List.getElem?_eq_some_iff.1 hn2).1
          obtain ⟨b3, o3, s3, hp3, ha3, hb3⟩ := (HO2'.out.ext HXk.out).at_ c (by simp; rw [HQ.out]; omega)
          have hg3 : (oth p (x1, x2) ++ [(x1, x2)]).getD c (0, 0) = (y1, y2) := by
            rw [List.getD_eq_getElem?_getD, List.getElem?_append_left (by rw [HQ.out]; exact hcq), hn2]; rfl
          rw [hg3] at ha3 hb3
          dsimp only at ha3 hb3
          have hse : ∀ W : World, (Op.equalIn 10000 28 (.agg #[.int .u64 y1, .int .i64 y2]) (.agg #[.int .u64 y1, .int .i64 y2])).run Try.prog W = .ok true W := fun W => by rw [eqEntry]; simp
          have hd : decide (q1 ≤ (c : Int)) = false := decide_eq_false (by have := HQ1.out; omega)
          clear hn1 hn2 hg3
          go_wp2_with fail
          go_quiet (fail)
          go_wp2_with fail
          go_quiet (fail)
          go_wp2_with fail
          go_roundw
          case rel => exact ⟨k + 1, by go_num, by rw [HC.out]; go_num, hklt, HXk.out.drewN _⟩
          case measure => simp [intOf]; omega
      · obtain rfl : k = p.length := by omega
        rw [cnt_end, HQ.out]
        obtain ⟨b3, o3, s3, hp3, ha3, hb3⟩ := (HO2'.out.ext HXk.out).at_ q (by simp; rw [HQ.out]; omega)
        have hg3 : (oth p (x1, x2) ++ [(x1, x2)]).getD q (0, 0) = (x1, x2) := by
          rw [List.getD_eq_getElem?_getD, List.getElem?_append_right (by rw [HQ.out]; exact Nat.le_refl _), HQ.out, Nat.sub_self]; rfl
        rw [hg3] at ha3 hb3
        dsimp only at ha3 hb3
        have hse : ∀ W : World, (Op.equalIn 10000 28 (.agg #[.int .u64 x1, .int .i64 x2]) (.agg #[.int .u64 x1, .int .i64 x2])).run Try.prog W = .ok true W := fun W => by rw [eqEntry]; simp
        have hd : IntKind.i64.wrap ((q : Int) + 1) = q1 := by rw [HQ1.out, IntKind.wrap_i64]; have := HQ1.out; omega
        clear hg3
        go_wp2_with fail
        go_quiet (fail)
        go_wp2_with fail
        go_ret
        exact ⟨by first | rfl | (simp; done), HX.out.trans (HXk.out.drewN _)⟩

theorem bound {w : World} {v : Value} {es : List E} (h : Rd.R Try.prog w 22 [v]) (hE : Es w v es) : (es.length + 1) * 16 ≤ 140737488355328 := by
  have hr : reachBytes = 140737488351232 := by decide
  have hb : Try.prog.bytesOf 28 = 16 := by kernel_rfl
  obtain ⟨a0, c0, hf⟩ := Row.form hE
  rcases h.slice uT with h | ⟨a, len, cap, hv, hl, _, hz, _⟩
  · obtain rfl : v = .slice none 0 0 := by simpa using h
    simp only [Value.slice.injEq] at hf
    omega
  · obtain rfl : v = .slice (some a) len cap := by simpa using hv
    simp only [Value.slice.injEq] at hf
    rw [hb] at hz
    omega

theorem walk (v0 : Value) (v1 : Value) (W : World) (r0 : Rd.V Try.prog W 22 v0) (r1 : Rd.V Try.prog W 28 v1) : Calls Try.prog 4 #[v0, v1] W fun e w' => e = .returned (.bool true) ∧ Below W.heap.size W w' := by
  obtain ⟨_, _, _, rfl, h⟩ := r0.slice Try.underlying22
  obtain ⟨es, hE, hw⟩ := Es.of_R h
  obtain ⟨x, rfl, hwx⟩ := entry_wf r1
  exact (go _ es x hw hwx (bound h hE) W hE).mono fun e w' ⟨he, hw⟩ => ⟨he, hw.below⟩

open Go.ChangeShapes Go.WideShapes Go.ChangeAt Go.RowKit
theorem own : ownKnob Try.prog.godebug = none := by kernel_rfl
theorem laidOut : laidOutB Try.prog = true := by kernel_rfl

set_option maxRecDepth 100000 in
theorem lifted (os : Os) (started : os.Started) (H : Type) (enc : TypeId × Value → H) :
    ReturnsInHanded {} Try.checked os 4 .any (Rows.logLastSpec.pre6 enc Try.prog Try.f4 Rows.logLastRow.domain false) (Rows.logLastSpec.post enc Try.prog Try.f4 false true false false) := by
  refine returnsInHanded_of_change_sized (C := Try.checked) own started (by kernel_rfl) Try.func4
    (ChangeSpec.witness6 (enc := enc) (C := Try.checked) false ⟨#[], #[.slice none 0 0, .agg #[.int .u64 0, .int .i64 0]], []⟩ 12 (by kernel_rfl) (by kernel_rfl) (by kernel_rfl) (by kernel_rfl)) ?_
  intro W base args ds gs before hval0 hW _ hsz0 _
  have hval : ∀ (j : Nat) t v, Try.f4.params[j]? = some t → args[j]? = some v → Value.okWide Try.prog W .any base t v := hval0
  have hW' := hW
  obtain ⟨p, q, hA0, hV, rfl, _, _⟩ := hW
  have hA : DataW.TrodAll enc Try.prog W 0 (fun _ => true) true Try.f4.params.toList args.toList ds p := hA0
  obtain ⟨rfl, rfl⟩ := trodVars_none hV
  have hsz : (DataW.weightsEach Try.prog (Try.f4.params.toList ++ []) (ds ++ [])).all (· ≤ reachBytes) = true := hsz0
  rw [Try.params4] at hA hval hsz
  have hA2 := hA
  obtain ⟨v0, vs0, d0, ds0, p0, q0, hargs, rfl, rfl, h0, r0⟩ := trodAll_cons hA2
  obtain ⟨v1, vs1, d1, ds1, p1, q1, rfl, rfl, rfl, h1, r1⟩ := trodAll_cons r0
  obtain ⟨rfl, rfl, rfl⟩ := trodAll_nil r1
  obtain rfl : args = #[v0, v1] := by cases args; simp_all
  have hR := Rd.trodAll_V hA (fun n hn => by simpa using List.all_eq_true.1 hsz n (by simpa using hn)) (fun j t v hj hv => hval j t v (by simpa using hj) (by simpa using hv))
  clear hA0 hval0 hA2
  refine (walk v0 v1 W (hR 0 22 v0 rfl rfl) (hR 1 28 v1 rfl rfl)).mono fun e W' ⟨he, bel⟩ => ?_
  subst he
  exact ⟨_, rfl, _, _, _, [], _, [], hW', trodAll_mk1 (shut_bool Try.underlying4 _), Rd.trodAll_below laidOut bel (List.forall_mem_cons.2 ⟨⟨by kernel_rfl, of_decide_eq_true (by kernel_rfl)⟩, List.forall_mem_cons.2 ⟨⟨by kernel_rfl, of_decide_eq_true (by kernel_rfl)⟩, fun _ h => by cases h⟩⟩) hA, rfl, bel.frame _, fun h => by cases h⟩

theorem over : Rows.logLastRow.holds Try.pinned (OpenSpec.ofChange Rows.logLastSpec) :=
  OpenClaim.holds_of_wide 4 Try.f4 rfl rfl rfl rfl rfl rfl rfl ⟨rfl, rfl, rfl, rfl, rfl⟩ rfl rfl rfl rfl rfl (by kernel_rfl) Try.func4 (by kernel_rfl)
    (of_decide_eq_true (by kernel_rfl)) (by unfold Func.isWrapper; first | (rw [if_pos (by decide +kernel)]; kernel_rfl) | (rw [if_neg (by decide +kernel)]; exact ⟨rfl, rfl⟩))
    (fun os started H enc _ => lifted os started H enc)

theorem proved : Rows.LogLastSaid := over
#print axioms proved
end Go.Proofs.Ytgfehdjahjpfhaa.logLast
