/- LogOnce holds for every input: each entry is told once, and all are; once more nothing changes. No condition. -/
import Derived.Test.YtgfehdjahjpfhaaRows
import Derived.Test.YtgfehdjahjpfhaaSh10
namespace Go.Proofs.Ytgfehdjahjpfhaa.logOnce
open Go.RowKit Go.Proofs.Ytgfehdjahjpfhaa Go.Proofs.Ytgfehdjahjpfhaa.En Go.Proofs.Ytgfehdjahjpfhaa.Ok

theorem fold_of_nodup (xs : List E) : ∀ out : List E, (out ++ xs).Nodup → xs.foldl Ok.step out = out ++ xs := by
  induction xs with
  | nil => intro out _; simp
  | cons x r ih =>
    intro out h
    have hx : x ∉ out := fun hm => by
      have := (List.nodup_append.1 h).2.2 x hm x (by simp)
      exact this rfl
    simp only [List.foldl_cons]
    have e : Ok.step out x = out ++ [x] := by unfold Ok.step; rw [if_neg hx]
    rw [e, ih _ (by simpa using h)]
    simp
theorem firsts_of_nodup {xs : List E} (h : xs.Nodup) : firsts xs = xs := by
  have := fold_of_nodup xs [] (by simpa using h)
  simpa [firsts] using this
theorem nodup_rev {xs : List E} (h : xs.Nodup) : xs.reverse.Nodup := List.pairwise_reverse.2 (List.Pairwise.imp (fun hne e => hne e.symm) h)
theorem once_nodup (es : List E) : (once es).Nodup := nodup_rev (firsts_nodup _)
theorem once_once (es : List E) : once (once es) = once es := by
  have h := firsts_of_nodup (nodup_rev (once_nodup es))
  show (firsts (once es).reverse).reverse = _
  rw [h, List.reverse_reverse]
theorem once_mem (es : List E) (e : E) : e ∈ once es ↔ e ∈ es := by
  unfold once
  rw [List.mem_reverse, firsts_mem, List.mem_reverse]
theorem once_len (es : List E) : (once es).length ≤ es.length := by
  have := firsts_len es.reverse
  rw [List.length_reverse] at this
  simpa [once] using this

/-- How often x is among the first k. -/
def cnt (o : List E) (x : E) (k : Nat) : Nat := ((o.take k).filter fun e => decide (e = x)).length
theorem cnt_succ (o : List E) (x : E) {k : Nat} (h : k < o.length) : cnt o x (k + 1) = cnt o x k + (if o.getD k (0, 0) = x then 1 else 0) := by
  have e : o.getD k (0, 0) = o[k] := by simp [List.getD_eq_getElem?_getD, h]
  unfold cnt
  rw [List.take_succ_eq_append_getElem h, List.filter_append, List.length_append, e]
  by_cases hx : o[k] = x <;> simp [hx]
theorem filter_one : ∀ (l : List E) (x : E), l.Nodup → (l.filter fun e => decide (e = x)).length = if x ∈ l then 1 else 0
  | [], _, _ => by simp
  | y :: l, x, h => by
    have h1 := List.nodup_cons.1 h
    have ih := filter_one l x h1.2
    by_cases hy : y = x
    · subst hy
      rw [List.filter_cons_of_pos (by simp), List.length_cons, ih, if_neg h1.1, if_pos (by simp)]
    · rw [List.filter_cons_of_neg (by simpa using hy), ih]
      by_cases hx : x ∈ l
      · rw [if_pos hx, if_pos (by simp [hx])]
      · rw [if_neg hx, if_neg (by simp [hx]; exact fun e => hy e.symm)]
theorem cnt_end {o : List E} {x : E} (h : o.Nodup) (hx : x ∈ o) : cnt o x o.length = 1 := by
  unfold cnt
  rw [List.take_length, filter_one o x h, if_pos hx]
theorem cnt_le (o : List E) (x : E) (k : Nat) : cnt o x k ≤ k := by
  unfold cnt
  exact Nat.le_trans (List.length_filter_le _ _) (by simp; omega)

set_option maxHeartbeats 4000000 in
theorem go (v : Value) (es : List E) (hw : ∀ e ∈ es, wfE e) (w : World) (h : Es w v es) : Calls Try.prog 3 #[v] w fun e w' => e = .returned (.bool true) ∧ Ext w w' := by
  have hlen := h.len
  have hsm := h.small
  have H := Lib.hid h
  have HO1 := Lib.hid (fun v w h => Oc.once_any v es hw w h)
  have HO2 := Lib.hid (fun v w h => Oc.once_any v (once es) (fun e he => hw e ((once_mem es e).1 he)) w h)
  rw [once_once] at HO2
  have hln := once_len es
  obtain ⟨o, ho⟩ : ∃ o, once es = o := ⟨_, rfl⟩
  have HON : Hid (o.Nodup ∧ ∀ e ∈ es, e ∈ o) := ⟨ho ▸ once_nodup es, fun e he => ho ▸ (once_mem es e).2 he⟩
  rw [ho] at HO1 HO2 hln
  have hln2 : (o.length : Int) ≤ es.length := by omega
  have hln3 : decide ((es.length : Int) < o.length) = false := decide_eq_false (by omega)
  clear h ho hw hln
  go_enter Try.func3, Try.ntmps3
  go_wp2_with (go_at_call 10; refine (Sh.shown_any _).mono ?_; rintro e w0 ⟨rfl, hx0⟩)
  refine (HO1.out v _ (H.out.ext hx0)).mono ?_; rintro e w1 ⟨u, rfl, hu, hx1⟩
  have hulen := hu.len
  have husm := hu.small
  have HX1 := Lib.hid (hx0.trans hx1)
  have HU := Lib.hid hu
  clear hx0 hx1 hu
  go_wp2_with fail
  refine (HO2.out u _ HU.out).mono ?_; rintro e w2 ⟨u2, rfl, hu2, hx2⟩
  have HX2 := Lib.hid (HX1.out.trans hx2)
  have HU1 := Lib.hid (HU.out.ext hx2)
  have HU2 := Lib.hid hu2
  clear hx2 hu2
  go_wp2_with fail
  refine (same_any u2 u o o _ HU2.out HU1.out).mono ?_; rintro e w3 ⟨he, hx3⟩
  rw [decide_eq_true rfl] at he
  subst he
  have HX3 := Lib.hid (HX2.out.trans hx3)
  have HU3 := Lib.hid (HU1.out.ext hx3)
  clear hx3
  go_wp2_with fail
  go_loopw [5] (fun i wr => ∃ j : Nat, i = .int .i64 j ∧ j ≤ es.length ∧ Ext w3 wr) (fun i _ => es.length - (intOf i).toNat)
  case atStart => exact ⟨0, rfl, Nat.zero_le _, Ext.refl _⟩
  case round =>
    obtain ⟨j, rfl, hj, hXr⟩ := hrel
    obtain ⟨wn, hwn⟩ : ∃ wn, wn = wr := ⟨_, rfl⟩
    subst hwn
    have HXn := Lib.hid hXr
    clear hXr
    by_cases hlt : j < es.length
    · obtain ⟨b1, o1, s1, hp1, ha1, hb1⟩ := (H.out.ext (HX3.out.trans HXn.out)).at_ j hlt
      have hmem : es.getD j (0, 0) ∈ o := HON.out.2 _ (by simp [List.getD_eq_getElem?_getD, hlt])
      obtain ⟨x, hx⟩ : ∃ x, es.getD j (0, 0) = x := ⟨_, rfl⟩
      rw [hx] at ha1 hb1 hmem
      have HMEM := Lib.hid hmem
      clear hx hmem
      obtain ⟨x1, x2⟩ := x
      dsimp only at ha1 hb1
      go_wp2_with fail
      go_loopw [6, 7] (fun a i wr => ∃ (k : Nat), i = .int .i64 k ∧ a = .int .i64 (cnt o (x1, x2) k : Nat) ∧ k ≤ o.length ∧ Ext wn wr) (fun _ i _ => o.length - (intOf i).toNat)
      case atStart => exact ⟨0, rfl, by simp [cnt], Nat.zero_le _, Ext.refl _⟩
      case round =>
        obtain ⟨k, rfl, rfl, hk, hXk⟩ := hrel
        obtain ⟨wk, hwk⟩ : ∃ wk, wk = wr := ⟨_, rfl⟩
        subst hwk
        have HXk := Lib.hid hXk
        clear hXk
        by_cases hklt : k < o.length
        · obtain ⟨b2, o2, s2, hp2, ha2, hb2⟩ := (HU3.out.ext (HXn.out.trans HXk.out)).at_ k hklt
          replace ha1 := HXk.out.cell ha1
          replace hb1 := HXk.out.cell hb1
          have hcs := cnt_succ o (x1, x2) hklt
          have hcl := cnt_le o (x1, x2) k
          obtain ⟨c, hc⟩ : ∃ c, cnt o (x1, x2) k = c := ⟨_, rfl⟩
          have hcs2 : (c : Int) ≤ 140737488355328 := by omega
          obtain ⟨y, hy⟩ : ∃ y, o.getD k (0, 0) = y := ⟨_, rfl⟩
          rw [hy] at ha2 hb2 hcs
          obtain ⟨y1, y2⟩ := y
          obtain ⟨b, hb⟩ : ∃ b, decide ((y1, y2) = (x1, x2)) = b := ⟨_, rfl⟩
          have heq := eqEntry y1 y2 x1 x2
          rw [show (y1 == x1 && y2 == x2) = decide ((y1, y2) = (x1, x2)) from eq_iff (y1, y2) (x1, x2), hb] at heq
          rw [hc] at hcs ⊢
          have HCS := Lib.hid hcs
          have HB := Lib.hid hb
          dsimp only at ha2 hb2
          clear hcs hy hb hc hcl
          cases b with
          | false =>
            have HC : Hid (cnt o (x1, x2) (k + 1) = c) := by show _ = _; rw [HCS.out, if_neg (of_decide_eq_false HB.out), Nat.add_zero]
            go_wp2_with fail
            go_quiet (fail)
            go_wp2_with fail
            go_roundw
            case rel => exact ⟨k + 1, by go_num, by rw [HC.out], hklt, HXk.out.drewN _⟩
            case measure => simp [intOf]; omega
          | true =>
            have HC : Hid (cnt o (x1, x2) (k + 1) = c + 1) := by show _ = _; rw [HCS.out, if_pos (of_decide_eq_true HB.out)]
            go_wp2_with fail
            go_quiet (fail)
            go_wp2_with fail
            go_roundw
            case rel => exact ⟨k + 1, by go_num, by rw [HC.out]; go_num, hklt, HXk.out.drewN _⟩
            case measure => simp [intOf]; omega
        · obtain rfl : k = o.length := by omega
          rw [cnt_end HON.out.1 HMEM.out]
          go_wp2_with fail
          go_roundw
          case rel => exact ⟨j + 1, by go_num, hlt, HXn.out.trans HXk.out⟩
          case measure => simp [intOf]; omega
    · obtain rfl : j = es.length := by omega
      go_wp2_with fail
      go_ret
      exact ⟨by first | rfl | (simp; done), HX3.out.trans HXn.out⟩

theorem walk (v0 : Value) (W : World) (r0 : Rd.V Try.prog W 22 v0) : Calls Try.prog 3 #[v0] W fun e w' => e = .returned (.bool true) ∧ Below W.heap.size W w' := by
  obtain ⟨_, _, _, rfl, h⟩ := r0.slice Try.underlying22
  obtain ⟨es, h, hw⟩ := Es.of_R h
  exact (go _ es hw W h).mono fun e w' ⟨he, hw⟩ => ⟨he, hw.below⟩

open Go.ChangeShapes Go.WideShapes Go.ChangeAt Go.RowKit
theorem own : ownKnob Try.prog.godebug = none := by kernel_rfl
theorem laidOut : laidOutB Try.prog = true := by kernel_rfl

set_option maxRecDepth 100000 in
theorem lifted (os : Os) (started : os.Started) (H : Type) (enc : TypeId × Value → H) :
    ReturnsInHanded {} Try.checked os 3 .any (Rows.logOnceSpec.pre6 enc Try.prog Try.f3 Rows.logOnceRow.domain false) (Rows.logOnceSpec.post enc Try.prog Try.f3 false true false false) := by
  refine returnsInHanded_of_change_sized (C := Try.checked) own started (by kernel_rfl) Try.func3
    (ChangeSpec.witness6 (enc := enc) (C := Try.checked) false ⟨#[], #[.slice none 0 0], []⟩ 12 (by kernel_rfl) (by kernel_rfl) (by kernel_rfl) (by kernel_rfl)) ?_
  intro W base args ds gs before hval0 hW _ hsz0 _
  have hval : ∀ (j : Nat) t v, Try.f3.params[j]? = some t → args[j]? = some v → Value.okWide Try.prog W .any base t v := hval0
  have hW' := hW
  obtain ⟨p, q, hA0, hV, rfl, _, _⟩ := hW
  have hA : DataW.TrodAll enc Try.prog W 0 (fun _ => true) true Try.f3.params.toList args.toList ds p := hA0
  obtain ⟨rfl, rfl⟩ := trodVars_none hV
  have hsz : (DataW.weightsEach Try.prog (Try.f3.params.toList ++ []) (ds ++ [])).all (· ≤ reachBytes) = true := hsz0
  rw [Try.params3] at hA hval hsz
  have hA2 := hA
  obtain ⟨v0, vs0, d0, ds0, p0, q0, hargs, rfl, rfl, h0, r0⟩ := trodAll_cons hA2
  obtain ⟨rfl, rfl, rfl⟩ := trodAll_nil r0
  obtain rfl : args = #[v0] := by cases args; simp_all
  have hR := Rd.trodAll_V hA (fun n hn => by simpa using List.all_eq_true.1 hsz n (by simpa using hn)) (fun j t v hj hv => hval j t v (by simpa using hj) (by simpa using hv))
  clear hA0 hval0 hA2
  refine (walk v0 W (hR 0 22 v0 rfl rfl)).mono fun e W' ⟨he, bel⟩ => ?_
  subst he
  exact ⟨_, rfl, _, _, _, [], _, [], hW', trodAll_mk1 (shut_bool Try.underlying4 _), Rd.trodAll_below laidOut bel (List.forall_mem_cons.2 ⟨⟨by kernel_rfl, of_decide_eq_true (by kernel_rfl)⟩, fun _ h => by cases h⟩) hA, rfl, bel.frame _, fun h => by cases h⟩

theorem over : Rows.logOnceRow.holds Try.pinned (OpenSpec.ofChange Rows.logOnceSpec) :=
  OpenClaim.holds_of_wide 3 Try.f3 rfl rfl rfl rfl rfl rfl rfl ⟨rfl, rfl, rfl, rfl, rfl⟩ rfl rfl rfl rfl rfl (by kernel_rfl) Try.func3 (by kernel_rfl)
    (of_decide_eq_true (by kernel_rfl)) (by unfold Func.isWrapper; first | (rw [if_pos (by decide +kernel)]; kernel_rfl) | (rw [if_neg (by decide +kernel)]; exact ⟨rfl, rfl⟩))
    (fun os started H enc _ => lifted os started H enc)

theorem proved : Rows.LogOnceSaid := over
#print axioms proved
end Go.Proofs.Ytgfehdjahjpfhaa.logOnce
