/- The references of chapter 9 but the turning: Push, Pop, Get, Real, and all addresses of all rows. -/
import Derived.Test.YtmkpbdibhjjmpaaSt
import Derived.Test.YtmkpbdibhjjmpaaAl
import Derived.Test.YtmkpbdibhjjmpaaTu
namespace Go.Proofs.Ytmkpbdibhjjmpaa.Rf
open Go.RowKit
open Go.Proofs.Ytmkpbdibhjjmpaa
set_option linter.unusedVariables false

theorem push_any (v : Value) (xs : List Int) (a : Int) (w : World) (h : Sl .u64 w v xs) :
    Calls Try.prog 22 #[v, .int .u64 a] w fun e w' => ∃ u, e = .returned (.tuple #[u, .int .i64 (Sk.pushE xs)]) ∧ Sl .u64 w' u (Sk.pushL xs a) ∧ Ext w w' := by
  have hlen := h.len Sk.uT
  have hsm := h.small
  by_cases hc : 16 ≤ xs.length
  · have e1 : Sk.pushE xs = 4 := by unfold Sk.pushE; rw [if_pos hc]
    have e2 : Sk.pushL xs a = xs := by unfold Sk.pushL; rw [if_pos hc]
    rw [e1, e2]; clear e1 e2
    have H := Lib.hid h; clear h
    go_enter Try.func22, Try.ntmps22
    go_wp2
    go_ret2
    exact ⟨v, rfl, H.out, Ext.refl _⟩
  · have e1 : Sk.pushE xs = 0 := by unfold Sk.pushE; rw [if_neg hc]
    have e2 : Sk.pushL xs a = xs ++ [a] := by unfold Sk.pushL; rw [if_neg hc]
    rw [e1, e2]; clear e1 e2
    have hc' : xs.length < 16 := by omega
    clear hc
    have hx : Ext w (w.alloc (.cells #[] 23)) := (Ext.refl w).alloc _
    obtain ⟨i0, hi, hz0, hz1, hz2⟩ := Sk.info_u64
    obtain ⟨v1, w1, hrun1, hown1, hg1, _⟩ := append_own (ty := 22) Sk.uT hi hz0 hz1 hz2 rfl (by decide) (own_empty w 23 1) (by simp) (Row.ext h hx) (oneCells _ _) (by have := h.2.1; omega) (by decide)
    rw [Nat.zero_add, List.nil_append] at hown1
    have hx1 : Ext w w1 := hx.grown hg1 (fun k hk => by simp [Value.ownBlock] at hk; omega)
    have hxa : Ext w1 (w1.alloc (.cells #[.int .u64 a] 23)) := (Ext.refl w1).alloc _
    obtain ⟨v2, w2, hrun2, hown2, hg2, _⟩ := append_own (ty := 22) Sk.uT hi hz0 hz1 hz2 rfl (by decide) (own_ext hown1 hxa) (Nat.le_trans hx1.size hxa.size) (Sk.Sl.one w1 a) (oneCells _ _) (by simp; omega) (by decide)
    have HF : Hid (Sl .u64 w2 v2 (xs ++ [a]) ∧ Ext w w2) := ⟨Sl.of_own (base := w.heap.size) (e := 23) (by simpa using hown2) (by simp; omega), (hx1.alloc _).grown hg2 (fun k hk => (hown1.lt k hk).1)⟩
    clear hown1 hown2 hg1 hg2 hx hx1 hxa hi hz0 hz1 hz2 h
    have H1 := Lib.hid hrun1
    have H2 := Lib.hid hrun2
    clear hrun1 hrun2
    go_enter Try.func22, Try.ntmps22
    go_wp2_with (first | (at_builtin; refine Lib.wpList_append_run _ rfl _ _ _ _ rfl _ _ rfl rfl v1 w1 H1.out ?_) | (at_builtin; refine Lib.wpList_append_run _ rfl _ _ _ _ rfl _ _ rfl rfl v2 w2 H2.out ?_))
    go_ret2
    exact ⟨v2, rfl, HF.out⟩

theorem pop_any (v : Value) (xs : List Int) (w : World) (h : Sl .u64 w v xs) :
    Calls Try.prog 23 #[v] w fun e w' => ∃ u, e = .returned (.tuple #[u, .int .i64 (Sk.popE xs)]) ∧ Sl .u64 w' u xs.dropLast ∧ Ext w w' := by
  have hlen := h.len Sk.uT
  have hsm := h.small
  by_cases hc : xs.length = 0
  · have e1 : Sk.popE xs = 9 := by unfold Sk.popE; rw [if_pos hc]
    obtain rfl : xs = [] := List.eq_nil_of_length_eq_zero hc
    rw [e1]; clear e1 hc
    have H := Lib.hid h; clear h
    simp only [List.length_nil] at hlen hsm
    go_enter Try.func23, Try.ntmps23
    go_wp2
    go_ret2
    exact ⟨v, rfl, H.out, Ext.refl _⟩
  · have e1 : Sk.popE xs = 0 := by unfold Sk.popE; rw [if_neg hc]
    rw [e1]; clear e1
    obtain ⟨m, hm⟩ : ∃ m, xs.length = m + 1 := ⟨xs.length - 1, by omega⟩
    obtain ⟨u1, hsl, hr1⟩ := Row.slice_to Sk.uT Sk.sz h (k := m) (by omega)
    have hu1 : Sl .u64 w u1 xs.dropLast := Sl.of_row hr1 (by rw [Nat.mul_one, ← List.map_take, List.dropLast_eq_take, hm]; rfl)
    have hm' : (m : Int) ≤ 140737488355328 := by omega
    have hlen' : ∀ ty w', (Builtin.len_ #[22] ty #[v]).run Try.prog w' = .ok (.int .i64 (m + 1)) w' := fun ty w' => by rw [hlen ty w', hm]; rfl
    have hx : Ext w (w.alloc (.cells #[] 23)) := (Ext.refl w).alloc _
    obtain ⟨i0, hi, hz0, hz1, hz2⟩ := Sk.info_u64
    obtain ⟨v1, w1, hrun1, hown1, hg1, _⟩ := append_own (ty := 22) Sk.uT hi hz0 hz1 hz2 rfl (by decide) (own_empty w 23 1) (by simp) (Row.ext hu1 hx) (oneCells _ _) (by have := hu1.2.1; omega) (by decide)
    rw [Nat.zero_add, List.nil_append] at hown1
    have HF : Hid (Sl .u64 w1 v1 xs.dropLast ∧ Ext w w1) := ⟨Sl.of_own (base := w.heap.size) (e := 23) hown1 hu1.2.1, hx.grown hg1 (fun k hk => by simp [Value.ownBlock] at hk; omega)⟩
    have H1 := Lib.hid hrun1
    clear hown1 hg1 hx hi hz0 hz1 hz2 h hu1 hr1 hlen hsm hc hm hrun1
    go_enter Try.func23, Try.ntmps23
    go_wp2_with (at_builtin; refine Lib.wpList_append_run _ rfl _ _ _ _ rfl _ _ rfl rfl v1 w1 H1.out ?_)
    go_ret2
    exact ⟨v1, rfl, HF.out⟩

theorem get_any (v : Value) (xs : List Int) (i : Int) (w : World) (h : Sl .u64 w v xs) :
    Calls Try.prog 24 #[v, .int .i64 i] w fun e w' => e = .returned (.tuple #[.int .u64 (Sk.getV xs i), .int .i64 (Sk.getE xs i)]) ∧ w = w' := by
  have hlen := h.len Sk.uT
  have hsm := h.small
  by_cases h0 : 0 ≤ i
  · by_cases h1 : i < xs.length
    · have hin : Sk.inR xs i = true := Sk.inR_iff.2 ⟨h0, h1⟩
      have e1 : Sk.getV xs i = xs.getD i.toNat 0 := by unfold Sk.getV; rw [if_pos hin]
      have e2 : Sk.getE xs i = 0 := by unfold Sk.getE; rw [if_pos hin]
      obtain ⟨p, hp, hcell⟩ := h.at_ Sk.uT Sk.sz h0 h1
      rw [e1, e2]
      generalize xs.getD i.toNat 0 = x at hcell
      clear e1 e2 hin h
      go_enter Try.func24, Try.ntmps24
      go_wp2
      go_ret2
      exact ⟨rfl, rfl⟩
    · have hin : Sk.inR xs i = false := by cases hb : Sk.inR xs i; rfl; exact absurd (Sk.inR_iff.1 hb).2 h1
      have e1 : Sk.getV xs i = 0 := by unfold Sk.getV; rw [hin]; rfl
      have e2 : Sk.getE xs i = 5 := by unfold Sk.getE; rw [hin]; rfl
      rw [e1, e2]
      have h1' : (xs.length : Int) ≤ i := by omega
      clear e1 e2 hin h h1
      go_enter Try.func24, Try.ntmps24
      go_wp2
      go_ret2
      exact ⟨rfl, rfl⟩
  · have hin : Sk.inR xs i = false := by cases hb : Sk.inR xs i; rfl; exact absurd (Sk.inR_iff.1 hb).1 h0
    have e1 : Sk.getV xs i = 0 := by unfold Sk.getV; rw [hin]; rfl
    have e2 : Sk.getE xs i = 5 := by unfold Sk.getE; rw [hin]; rfl
    rw [e1, e2]
    have h0' : i < 0 := by omega
    clear e1 e2 hin h h0
    go_enter Try.func24, Try.ntmps24
    go_wp2
    go_ret2
    exact ⟨rfl, rfl⟩

theorem real_cases (xs : List Int) (i : Int) : ((Sk.getE xs i != 0) = true ∧ Sk.getE xs i = Sk.realE xs i ∧ Sk.getV xs i = 0) ∨ ((Sk.getE xs i != 0) = false ∧ (Sk.getV xs i == 0) = true ∧ Sk.realE xs i = 6 ∧ Sk.getV xs i = 0) ∨ ((Sk.getE xs i != 0) = false ∧ (Sk.getV xs i == 0) = false ∧ Sk.realE xs i = 0) := by
  unfold Sk.getE Sk.getV Sk.realE
  cases hb : Sk.inR xs i with
  | false => exact .inl ⟨rfl, rfl, rfl⟩
  | true =>
    by_cases hz : xs.getD i.toNat 0 = 0
    · exact .inr (.inl ⟨rfl, by rw [if_pos rfl, hz]; rfl, by rw [if_pos rfl, if_pos hz], by rw [if_pos rfl, hz]⟩)
    · exact .inr (.inr ⟨rfl, by rw [if_pos rfl]; exact beq_eq_false_iff_ne.2 hz, by rw [if_pos rfl, if_neg hz]⟩)

theorem real_any (v : Value) (xs : List Int) (i : Int) (w : World) (h : Sl .u64 w v xs) :
    Calls Try.prog 25 #[v, .int .i64 i] w fun e w' => e = .returned (.tuple #[.int .u64 (Sk.getV xs i), .int .i64 (Sk.realE xs i)]) ∧ w = w' := by
  have hc := Lib.hid (get_any v xs i w h)
  have hr := real_cases xs i
  generalize Sk.getV xs i = x at hc hr
  generalize Sk.getE xs i = y at hc hr
  generalize Sk.realE xs i = z at hr
  clear h
  rcases hr with ⟨p1, rfl, rfl⟩ | ⟨p1, p2, rfl, rfl⟩ | ⟨p1, p2, rfl⟩
  all_goals
    go_enter Try.func25, Try.ntmps25
    go_wp2_with fail
    refine hc.out.mono ?_; rintro e w' ⟨rfl, rfl⟩
    go_wp2_with fail
    go_ret2
    exact ⟨rfl, rfl⟩

/-- The program's All, with no fence. -/
theorem pall_any (v : Value) (rows : List (List It.U)) (w : World) (h : Ma .u64 w v (It.mat rows)) (hb : rows.flatten.length ≤ 1048576) :
    Calls Try.prog 17 #[v] w fun e w' => ∃ o, e = .returned o ∧ Sl .u64 w' o (Al.all (It.vals rows.flatten)) ∧ Ext w w' := by
  refine ((callsIn_wide (n := 3)).1 (Al.all_in Fence.wide 3 trivial trivial trivial rfl (by omega) v rows w h hb)).mono ?_
  rintro e w' ⟨o, rfl, ho, hx⟩
  exact ⟨o, rfl, Sl.of_own ho (by have := Al.all_len (It.vals rows.flatten); rw [It.vals_length] at this; omega), hx⟩

theorem flat_take (rows : List (List Int)) {j : Nat} (h : j < rows.length) : (rows.take (j + 1)).flatten = (rows.take j).flatten ++ rows.getD j [] := by
  rw [List.take_succ_eq_append_getElem h, List.flatten_append, List.getD_eq_getElem?_getD, List.getElem?_eq_getElem h, Option.getD_some]
  simp only [List.flatten_cons, List.flatten_nil, List.append_nil]
theorem all_take (pre r : List Int) {q : Nat} (h : q < r.length) : Al.all (pre ++ r.take (q + 1)) = Al.step (Al.all (pre ++ r.take q)) (r.getD q 0) := by
  rw [List.take_succ_eq_append_getElem h, ← List.append_assoc, Al.all_snoc]
  simp [List.getD_eq_getElem?_getD, h]
theorem flat_le (rows : List (List Int)) (j : Nat) (r : List Int) (hj : j < rows.length) (hr : rows.getD j [] = r) (q : Nat) : ((rows.take j).flatten ++ r.take q).length ≤ rows.flatten.length := by
  have h1 := flat_take rows hj
  have h3 : rows.flatten = (rows.take (j + 1)).flatten ++ (rows.drop (j + 1)).flatten := by rw [← List.flatten_append, List.take_append_drop]
  rw [h3, h1, hr]
  simp only [List.length_append, List.length_take]
  omega

set_option maxHeartbeats 2000000 in
theorem all_any (v : Value) (rows : List (List Int)) (w : World) (h : Ma .u64 w v rows) (hb : rows.flatten.length ≤ 1048576) :
    Calls Try.prog 26 #[v] w fun e w' => ∃ o, e = .returned o ∧ Sl .u64 w' o (Al.all rows.flatten) ∧ Ext w w' := by
  have hlen := h.len St.uT2
  have hsm := h.small
  obtain ⟨N, hN⟩ : ∃ N, rows.length = N := ⟨_, rfl⟩
  have HN := Lib.hid hN
  rw [hN] at hlen hsm
  have HM := Lib.hid h
  have HB := Lib.hid hb
  clear h hN hb
  go_enter Try.func26, Try.ntmps26
  go_wp2
  go_loopw [3, 4] (fun o i wr => ∃ j : Nat, i = .int .i64 j ∧ j ≤ N ∧ wr.ownsRow w.heap.size 23 1 o (Al.all (rows.take j).flatten).length ((Al.all (rows.take j).flatten).map (Value.int .u64)) ∧ Ext w wr) (fun _ i _ => N - (intOf i).toNat)
  case atStart => exact ⟨0, rfl, Nat.zero_le _, by simpa [Al.all] using World.ownsRow_nil w w.heap.size 23 1, Ext.refl _⟩
  case round =>
    obtain ⟨j, rfl, hj, hO, hXr⟩ := hrel
    obtain ⟨wo, hwo⟩ : ∃ wo, wo = wr := ⟨_, rfl⟩
    subst hwo
    have HO := Lib.hid hO
    have HXr := Lib.hid hXr
    clear hO hXr
    by_cases hlt : j < N
    · obtain ⟨p, u0, hp, hcp, hu0⟩ := St.rowsAt HM.out j (by have := HN.out; omega)
      obtain ⟨r, hr⟩ : ∃ r, rows.getD j [] = r := ⟨_, rfl⟩
      rw [hr] at hu0
      have HL : Hid (∀ q, ((rows.take j).flatten ++ r.take q).length ≤ 1048576) := fun q => Nat.le_trans (flat_le rows j r (by have := HN.out; omega) hr q) HB.out
      have HT : Hid ((rows.take (j + 1)).flatten = (rows.take j).flatten ++ r) := by show _ = _; rw [flat_take rows (by have := HN.out; omega), hr]
      obtain ⟨pre, hpre⟩ : ∃ pre, (rows.take j).flatten = pre := ⟨_, rfl⟩
      rw [hpre] at HO HL HT
      have hcpr := HXr.out.cell hcp
      have hulen := hu0.len Sk.uT
      have hrsm := hu0.small
      have HU0 := Lib.hid hu0
      have HCP := Lib.hid hcp
      clear hu0 hr hpre hcp
      go_wp2_with fail
      go_loopw [3, 5] (fun o i wq => ∃ q : Nat, i = .int .i64 q ∧ q ≤ r.length ∧ wq.ownsRow w.heap.size 23 1 o (Al.all (pre ++ r.take q)).length ((Al.all (pre ++ r.take q)).map (Value.int .u64)) ∧ Ext w wq) (fun _ i _ => r.length - (intOf i).toNat)
      case atStart => exact ⟨0, rfl, Nat.zero_le _, by simpa using HO.out, HXr.out⟩
      case round =>
        obtain ⟨q, rfl, hq, hO, hXq⟩ := hrel
        obtain ⟨wq, hwq⟩ : ∃ wq, wq = wr := ⟨_, rfl⟩
        subst hwq
        have HO2 := Lib.hid hO
        have HXq := Lib.hid hXq
        have hcpq := HXq.out.cell HCP.out
        clear hO hXq
        by_cases hqlt : q < r.length
        · obtain ⟨p2, hp2, hcp2⟩ := St.elems (HU0.out.ext HXq.out) q hqlt
          have HA : Hid (Al.all (pre ++ r.take (q + 1)) = Al.step (Al.all (pre ++ r.take q)) (r.getD q 0)) := all_take pre r hqlt
          have HLEN : Hid ((Al.all (pre ++ r.take q)).length ≤ 1048576) := Nat.le_trans (Al.all_len _) (HL.out q)
          obtain ⟨x, hx⟩ : ∃ x, r.getD q 0 = x := ⟨_, rfl⟩
          rw [hx] at hcp2 HA
          replace hcp2 := (show wq.cell? p2 = some (.int .u64 x) from hcp2)
          clear hx
          obtain ⟨L, hL⟩ : ∃ L, Al.all (pre ++ r.take q) = L := ⟨_, rfl⟩
          rw [hL] at HO2 HA HLEN
          clear hL
          obtain ⟨oa, oc, rfl⟩ := Row.form (Row.of_own (b := 8) HO2.out (by have := HLEN.out; omega) (by have := HLEN.out; omega))
          have HC : Hid (Calls Try.prog 18 #[.slice oa L.length oc, .int .u64 x] wq fun e w' => e = .returned (.bool (decide (x ∈ L))) ∧ wq = w') := (St.has_any _ L x _ (Sl.of_own HO2.out (by have := HLEN.out; omega))).mono fun e w' h => ⟨h.1, h.2.symm⟩
          by_cases hin : x = 0 ∨ x ∈ L
          · have HE : Hid (Al.step L x = L) := by show _ = _; unfold Al.step; rw [if_pos hin]
            have hb2 : ((x != 0) = false ∨ ((x != 0) = true ∧ decide (x ∈ L) = true)) := by
              by_cases h0 : x = 0
              · left; rw [h0]; rfl
              · right; exact ⟨by simpa using h0, decide_eq_true (hin.resolve_left h0)⟩
            generalize decide (x ∈ L) = bb at hb2 HC
            clear hin
            rcases hb2 with hb0 | ⟨hb0, rfl⟩
            · cases bb
              all_goals
                go_wp2_with fail
                refine HC.out.mono ?_; rintro e w1 ⟨rfl, rfl⟩
                go_wp2_with fail
                go_roundw
                case rel => exact ⟨q + 1, by go_num, hqlt, by rw [HA.out, HE.out]; exact HO2.out, HXq.out⟩
                case measure => simp [intOf]; omega
            · go_wp2_with fail
              refine HC.out.mono ?_; rintro e w1 ⟨rfl, rfl⟩
              go_wp2_with fail
              go_roundw
              case rel => exact ⟨q + 1, by go_num, hqlt, by rw [HA.out, HE.out]; exact HO2.out, HXq.out⟩
              case measure => simp [intOf]; omega
          · have HE : Hid (Al.step L x = L ++ [x]) := by show _ = _; unfold Al.step; rw [if_neg hin]
            have hb0 : (x != 0) = true := by simpa using fun h => hin (.inl h)
            have hb1 : decide (x ∈ L) = false := decide_eq_false fun h => hin (.inr h)
            rw [hb1] at HC
            clear hin hb1
            obtain ⟨i0, hi, hz0, hz1, hz2⟩ := Sk.info_u64
            have hDa : Ext wq (wq.alloc (.cells #[.int .u64 x] 23)) := (Ext.refl wq).alloc _
            obtain ⟨v', w', hrun, hown, hg, hat⟩ := append_own (ty := 22) Sk.uT hi hz0 hz1 hz2 rfl (by decide) (own_ext HO2.out hDa) (Nat.le_trans HXq.out.size hDa.size) (Sk.Sl.one wq x) (oneCells _ _) (by have := HLEN.out; simp; omega) (by decide)
            have HOWN : Hid (w'.ownsRow w.heap.size 23 1 v' (Al.all (pre ++ r.take (q + 1))).length ((Al.all (pre ++ r.take (q + 1))).map (Value.int .u64))) := by
              show World.ownsRow _ _ _ _ _ _ _
              rw [HA.out, HE.out]
              simpa using hown
            have HX3 : Hid (Ext w w') := (HXq.out.alloc _).grown hg (fun k hk => (HO2.out.lt k hk).1)
            have hrun' := Lib.hid hrun
            clear hrun hown hg hat hDa hi hz0 hz1 hz2
            go_wp2_with fail
            refine HC.out.mono ?_; rintro e w1 ⟨rfl, rfl⟩
            go_wp2_with (at_builtin; refine Lib.wpList_append_run _ rfl _ _ _ _ rfl _ _ rfl rfl v' w' hrun'.out ?_)
            go_roundw
            case rel => exact ⟨q + 1, by go_num, hqlt, HOWN.out, HX3.out⟩
            case measure => simp [intOf]; omega
        · obtain rfl : q = r.length := by omega
          have hO2 := HO2.out
          rw [List.take_length, ← HT.out] at hO2
          have HO3 := Lib.hid hO2
          clear hO2
          go_wp2_with fail
          go_roundw
          case rel => exact ⟨j + 1, by go_num, hlt, HO3.out, HXq.out⟩
          case measure => simp [intOf]; omega
    · obtain rfl : j = N := by omega
      go_wp2_with fail
      go_ret
      refine ⟨_, rfl, ?_, HXr.out⟩
      have h1 := HO.out
      rw [List.take_of_length_le (by have := HN.out; omega)] at h1
      exact Sl.of_own h1 (by have := Al.all_len rows.flatten; have := HB.out; omega)
end Go.Proofs.Ytmkpbdibhjjmpaa.Rf
