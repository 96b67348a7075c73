/- LogMany, where what comes in is of bounded bulk: of logs that are put one behind the other as many entries are told as of both. -/
import Derived.Test.YtgfehdjahjpfhaaRows
import Derived.Test.YtgfehdjahjpfhaaSh10
import Derived.Test.YtgfehdjahjpfhaaRb10
namespace Go.Proofs.Ytgfehdjahjpfhaa.logMany
open Go.RowKit Go.Proofs.Ytgfehdjahjpfhaa Go.Proofs.Ytgfehdjahjpfhaa.En Go.Proofs.Ytgfehdjahjpfhaa.Mr

theorem many_sum2 : ∀ (rows : List (List E)) (n : Int), 0 ≤ n → n + (rows.map List.length).sum ≤ 4194304 → rows.foldl (fun n r => IntKind.i64.wrap (n + r.length)) n = n + ((rows.map List.length).sum : Nat)
  | [], n, _, _ => by simp
  | r :: rows, n, h0, h1 => by
    simp only [List.map_cons, List.sum_cons, List.foldl_cons] at h1 ⊢
    have e : IntKind.i64.wrap (n + (r.length : Int)) = n + r.length := by rw [IntKind.wrap_i64]; omega
    rw [e, many_sum2 rows (n + r.length) (by omega) (by omega)]
    omega
theorem many_eq2 {rows : List (List E)} (h : (rows.map List.length).sum ≤ 4194304) : many rows = ((rows.map List.length).sum : Nat) := by
  have := many_sum2 rows 0 (by omega) (by omega)
  unfold many
  rw [this]; omega
theorem len_le {w : World} {v : Value} {rows : List (List E)} {B : Nat} (h : Rb.R Try.prog w 35 [v] B) (hM : Me w v rows) : rows.length ≤ B := by
  obtain ⟨vs, hl, hr, _⟩ := hM
  obtain ⟨a0, c0, hf⟩ := hr.form
  rcases h.slice uT2 with h | ⟨a, len, cap, bs, hv, _, _, hle, _⟩
  · obtain rfl : v = .slice none 0 0 := by simpa using h
    simp only [Value.slice.injEq] at hf
    omega
  · obtain rfl : v = .slice (some a) len cap := by simpa using hv
    simp only [Value.slice.injEq] at hf
    omega

theorem info_row : ∃ i, Try.prog.info? 22 = some i ∧ i.zero = some (.slice none 0 0) ∧ i.size = 1 ∧ i.bytes = 24 := by
  have h : (Try.prog.info? 22).map (fun i => (i.zero, i.size, i.bytes)) = some (some (.slice none 0 0), 1, 24) := by kernel_rfl
  obtain ⟨i, hi, h0, h1, h2⟩ := info_parts h
  exact ⟨i, hi, h0, h1, h2⟩

/-- 'append(append([][]Entry{}, a...), b...)'. -/
theorem joined {w : World} {v u : Value} {xs ys : List (List E)} (hv : Me w v xs) (hu : Me w u ys) (hx : xs.length ≤ 1048576) (hy : ys.length ≤ 1048576) :
    ∃ v1 w1 v2 w2, (Builtin.append_ #[35, 35] 35 #[.slice (some ⟨w.heap.size, 0, none⟩) 0 0, v]).run Try.prog (w.alloc (.cells #[] 22)) = .ok v1 w1 ∧
      (Builtin.append_ #[35, 35] 35 #[v1, u]).run Try.prog w1 = .ok v2 w2 ∧ Me w2 v2 (xs ++ ys) ∧ Ext w w2 := by
  obtain ⟨i0, hi, hz0, hz1, hz2⟩ := info_row
  obtain ⟨vs, hvl, hvr, hv1, hve⟩ := hv
  obtain ⟨us, hul, hur, hu1, hue⟩ := hu
  have hE : Ext w (w.alloc (.cells #[] 22)) := (Ext.refl w).alloc _
  obtain ⟨v1, w1, hrun1, hown1, hg1, _⟩ := append_own (ty := 35) uT2 hi hz0 hz1 hz2 rfl (by decide) (own_empty w 22 1) (by simp) (hvr.ext hE) hv1 (by omega) (by decide)
  rw [Nat.zero_add, List.nil_append] at hown1
  have hx1 : Ext w w1 := hE.grown hg1 (fun k hk => by simp [Value.ownBlock] at hk; omega)
  obtain ⟨v2, w2, hrun2, hown2, hg2, _⟩ := append_own (ty := 35) uT2 hi hz0 hz1 hz2 rfl (by decide) hown1 hx1.size (hur.ext hx1) hu1 (by omega) (by decide)
  have hx2 : Ext w w2 := hx1.grown hg2 (fun k hk => (hown1.lt k hk).1)
  refine ⟨v1, w1, v2, w2, hrun1, hrun2, ⟨vs ++ us, by simp [hvl, hul], by rw [List.length_append]; exact Row.of_own hown2 (by omega) (by omega), fun x hx => (List.mem_append.1 hx).elim (hv1 x) (hu1 x), fun i x r hix hir => ?_⟩, hx2⟩
  by_cases hlt : i < vs.length
  · rw [List.getElem?_append_left hlt] at hix
    rw [List.getElem?_append_left (by omega)] at hir
    exact (hve i x r hix hir).ext hx2
  · rw [List.getElem?_append_right (by omega)] at hix
    rw [List.getElem?_append_right (by omega), ← hvl] at hir
    exact (hue _ x r hix hir).ext hx2

set_option maxRecDepth 100000 in
theorem go (v u : Value) (xs ys : List (List E)) (w : World) (h : Me w v xs) (k : Me w u ys) (hx : xs.length ≤ 1048576) (hy : ys.length ≤ 1048576) (hb : (xs.map List.length).sum ≤ 1048576) (hc : (ys.map List.length).sum ≤ 1048576) : Calls Try.prog 6 #[v, u] w fun e w' => e = .returned (.bool true) ∧ Ext w w' := by
  obtain ⟨a0, c0, rfl⟩ : ∃ a c, v = .slice a xs.length c := by
    obtain ⟨vs, hl, hr, _⟩ := h
    obtain ⟨a, cap, rfl⟩ := hr.form
    exact ⟨a, cap, by rw [hl]⟩
  obtain ⟨a1, c1, rfl⟩ : ∃ a c, u = .slice a ys.length c := by
    obtain ⟨vs, hl, hr, _⟩ := k
    obtain ⟨a, cap, rfl⟩ := hr.form
    exact ⟨a, cap, by rw [hl]⟩
  have HM0 := Lib.hid (fun w => many_any (.slice none 0 0) [] w (Me.nil w))
  have HA := Lib.hid (fun w h => many_any (.slice a0 xs.length c0) xs w h)
  have HB := Lib.hid (fun w h => many_any (.slice a1 ys.length c1) ys w h)
  have H := Lib.hid h
  have KK := Lib.hid k
  have e0 : many [] = 0 := rfl
  rw [e0] at HM0
  rw [many_eq2 (by omega)] at HA HB
  have eJ : many (xs ++ ys) = (((xs.map List.length).sum + (ys.map List.length).sum : Nat) : Int) := by
    rw [many_eq2 (by simp; omega)]; simp
  rw [Int.natCast_add] at eJ
  have hs0 : (0 : Int) ≤ ((xs.map List.length).sum : Nat) := by omega
  have ht0 : (0 : Int) ≤ ((ys.map List.length).sum : Nat) := by omega
  have hs1 : (((xs.map List.length).sum : Nat) : Int) ≤ 1048576 := by omega
  have ht1 : (((ys.map List.length).sum : Nat) : Int) ≤ 1048576 := by omega
  generalize (((xs.map List.length).sum : Nat) : Int) = s at HA eJ hs0 hs1
  generalize (((ys.map List.length).sum : Nat) : Int) = t at HB eJ ht0 ht1
  obtain ⟨q, hq⟩ : ∃ q : Int, s + t = q := ⟨_, rfl⟩
  have eQ : many (xs ++ ys) = q := by rw [eJ, ← hq]
  have hw : IntKind.i64.wrap (s + t) = q := by rw [hq, IntKind.wrap_i64]; omega
  clear eJ h k e0
  go_enter Try.func6, Try.ntmps6
  go_wp2_with fail
  refine (Sh.shown_any _).mono ?_; rintro e w0 ⟨rfl, hx0⟩
  obtain ⟨v1, w1, v2, w2, hr1, hr2, hm, hx2⟩ := joined (H.out.ext hx0) (KK.out.ext hx0) hx hy
  have HJ := Lib.hid (many_any v2 _ w2 hm)
  rw [eQ] at HJ
  have HX := Lib.hid (hx0.trans hx2)
  clear hm hx2 eQ hb hc
  go_wp2_with (first
    | (at_builtin; refine BigFrame.wpList_want (by first | rfl | (simp [Region.wanted]; done)) fun K hK => Lib.wp_append_run _ (.tmp 9) (.tmp 10) 35 35 rfl _ _ rfl rfl v1 w1 hr1 (hK _ _ ?_))
    | (at_builtin; refine BigFrame.wpList_want (by first | rfl | (simp [Region.wanted]; done)) fun K hK => Lib.wp_append_run _ (.tmp 11) (.tmp 12) 35 35 rfl _ _ rfl rfl v2 w2 hr2 (hK _ _ ?_)))
  refine HJ.out.mono ?_; rintro e w' ⟨rfl, rfl⟩
  go_wp2_with fail
  refine (HA.out _ (H.out.ext HX.out)).mono ?_; rintro e w' ⟨rfl, rfl⟩
  go_wp2_with fail
  refine (HB.out _ (KK.out.ext HX.out)).mono ?_; rintro e w' ⟨rfl, rfl⟩
  go_wp2_with fail
  refine (HM0.out _).mono ?_; rintro e w' ⟨rfl, rfl⟩
  go_wp2_with fail
  go_ret
  exact ⟨by first | rfl | (simp; done), HX.out⟩

theorem walk (v0 : Value) (v1 : Value) (W : World) (r0 : Rb.V Try.prog W 35 v0 1048576) (r1 : Rb.V Try.prog W 35 v1 1048576) : Calls Try.prog 6 #[v0, v1] W fun e w' => e = .returned (.bool true) ∧ Below W.heap.size W w' := by
  obtain ⟨a0, n0, c0, rfl, h⟩ := r0.slice Try.underlying35
  obtain ⟨a1, n1, c1, rfl, k⟩ := r1.slice Try.underlying35
  obtain ⟨xs, hm, _⟩ := Me.of_R h.rd
  obtain ⟨ys, hn, _⟩ := Me.of_R k.rd
  exact (go _ _ xs ys W hm hn (len_le h hm) (len_le k hn) (Rb.me_le h hm) (Rb.me_le k hn)).mono fun e w' ⟨he, hw⟩ => ⟨he, hw.below⟩

open Go.ChangeShapes Go.WideShapes Go.ChangeAt Go.RowKit
theorem own : ownKnob Try.prog.godebug = none := by kernel_rfl
theorem laidOut : laidOutB Try.prog = true := by kernel_rfl

theorem contract (H : Type) (enc : TypeId × Value → H) (W : World) (base : Nat) (args : Array Value) (ds gs : List (DataW H)) (before : List MemPlace)
    (hval0 : ∀ (j : Nat) t v, Try.f6.params[j]? = some t → args[j]? = some v → Value.okWide Try.prog W .any base t v)
    (hW : DataW.Whole enc Try.prog Try.f6.params.toList Rows.logManySpec.vars false W args.toList ds gs before) (hk : Rows.uptoSmall H (ds ++ gs) = true)
    (hsz0 : (DataW.weightsEach Try.prog (Try.f6.params.toList ++ []) (ds ++ gs)).all (· ≤ reachBytes) = true) :
    Calls Try.prog 6 args W fun e W' => ∃ v, e = .returned v ∧ Rows.logManySpec.post enc Try.prog Try.f6 false true false false W args v W' := by
  have hval : ∀ (j : Nat) t v, Try.f6.params[j]? = some t → args[j]? = some v → Value.okWide Try.prog W .any base t v := hval0
  have hW' := hW
  obtain ⟨p, q, hA0, hV, rfl, _, _⟩ := hW
  have hA : DataW.TrodAll enc Try.prog W 0 (fun _ => true) true Try.f6.params.toList args.toList ds p := hA0
  obtain ⟨rfl, rfl⟩ := trodVars_none hV
  have hsz : (DataW.weightsEach Try.prog (Try.f6.params.toList ++ []) (ds ++ [])).all (· ≤ reachBytes) = true := hsz0
  have hkk := Rb.small hk
  rw [List.append_nil] at hkk
  rw [Try.params6] at hA hval hsz
  have hA2 := hA
  obtain ⟨v0, vs0, d0, ds0, p0, q0, hargs, rfl, rfl, h0, r0⟩ := trodAll_cons hA2
  obtain ⟨v1, vs1, d1, ds1, p1, q1, rfl, rfl, rfl, h1, r1⟩ := trodAll_cons r0
  obtain ⟨rfl, rfl, rfl⟩ := trodAll_nil r1
  obtain rfl : args = #[v0, v1] := by cases args; simp_all
  have hR := Rb.trodAll_V hA (fun n hn => by simpa using List.all_eq_true.1 hsz n (by simpa using hn)) hkk (fun j t v hj hv => hval j t v (by simpa using hj) (by simpa using hv))
  clear hA0 hval0 hA2
  refine (walk v0 v1 W (hR 0 35 v0 rfl rfl) (hR 1 35 v1 rfl rfl)).mono fun e W' ⟨he, bel⟩ => ?_
  subst he
  exact ⟨_, rfl, _, _, _, [], _, [], hW', trodAll_mk1 (shut_bool Try.underlying4 _), Rd.trodAll_below laidOut bel (List.forall_mem_cons.2 ⟨⟨by kernel_rfl, of_decide_eq_true (by kernel_rfl)⟩, List.forall_mem_cons.2 ⟨⟨by kernel_rfl, of_decide_eq_true (by kernel_rfl)⟩, fun _ h => by cases h⟩⟩) hA, rfl, bel.frame _, fun h => by cases h⟩

set_option maxRecDepth 100000 in
theorem lifted (os : Os) (started : os.Started) (H : Type) (enc : TypeId × Value → H) (F : Stop.Interp) :
    ReturnsInHanded {} Try.checked os 6 .any ((Rows.OpenSpec.upto Rows.logManySpec).pre6 enc Try.prog Try.f6 Rows.logManyUptoRow.domain false) (((Rows.OpenSpec.upto Rows.logManySpec).at F).post enc Try.prog Try.f6 false true false false) := by
  refine returnsInHanded_of_cond_sized (C := Try.checked) (s := Rows.OpenSpec.upto Rows.logManySpec) (k := Rows.uptoSmall) rfl own started (by kernel_rfl) Try.func6
    (OpenSpec.witness (enc := enc) (C := Try.checked) (s := Rows.OpenSpec.upto Rows.logManySpec) (k := Rows.uptoSmall) rfl false ⟨#[], #[.slice none 0 0, .slice none 0 0], []⟩ 12 (by kernel_rfl) (by kernel_rfl) (by kernel_rfl)
      (x := ([.nil, .nil], [], [])) (by kernel_rfl) rfl (by kernel_rfl)) ?_
  intro W base args ds gs before hval hW _ hk hsz _
  exact contract H enc W base args ds gs before hval hW hk hsz

theorem proved : Rows.LogManyUptoSaid :=
  OpenClaim.holds_of_cond 6 Try.f6 rfl rfl rfl rfl rfl rfl rfl ⟨rfl, rfl, rfl, rfl, rfl⟩ rfl rfl rfl rfl rfl (by kernel_rfl) Try.func6 (by kernel_rfl)
    (of_decide_eq_true (by kernel_rfl)) (by unfold Func.isWrapper; first | (rw [if_pos (by decide +kernel)]; kernel_rfl) | (rw [if_neg (by decide +kernel)]; exact ⟨rfl, rfl⟩))
    (fun os started H enc _ F => lifted os started H enc F)
#print axioms proved
end Go.Proofs.Ytgfehdjahjpfhaa.logMany
