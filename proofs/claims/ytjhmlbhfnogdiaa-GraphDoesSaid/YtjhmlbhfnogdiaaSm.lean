/- The reference's Same: are two graphs the same. -/
import Derived.Test.YtjhmlbhfnogdiaaRr
import Derived.Deep.RegionHeld3
namespace Go.Proofs.Ytjhmlbhfnogdiaa.Sm
open Go.RowKit
open Go.Proofs.Ytjhmlbhfnogdiaa Go.Proofs.Ytjhmlbhfnogdiaa.Gr Go.Proofs.Ytjhmlbhfnogdiaa.Hg
set_option linter.unusedVariables false

theorem hd_iff (x y : Hd) : (x.1 == y.1 && (x.2.1 == y.2.1 && x.2.2 == y.2.2)) = decide (x = y) := by
  obtain ⟨a, b, c⟩ := x
  obtain ⟨d, e, f⟩ := y
  by_cases h1 : a = d <;> by_cases h2 : b = e <;> by_cases h3 : c = f <;> simp [h1, h2, h3]

theorem words_x (v u : Value) (xs ys : List Int) (w : World) (h : Sl .u64 w v xs) (k : Sl .u64 w u ys) :
    Calls Try.prog 26 #[v, u] w fun e w' => e = .returned (.bool (decide (xs = ys))) ∧ Ext w w' := (words_any v u xs ys w h k).mono fun e w' ⟨h, m, hm⟩ => ⟨h, hm ▸ (Ext.refl w).drewN m⟩
theorem ints_x (v u : Value) (xs ys : List Int) (w : World) (h : Sl .i64 w v xs) (k : Sl .i64 w u ys) :
    Calls Try.prog 27 #[v, u] w fun e w' => e = .returned (.bool (decide (xs = ys))) ∧ Ext w w' := (ints_any v u xs ys w h k).mono fun e w' ⟨h, m, hm⟩ => ⟨h, hm ▸ (Ext.refl w).drewN m⟩

set_option maxRecDepth 100000 in
set_option maxHeartbeats 8000000 in
theorem same_any (a b a' b' : Value) (g g' : Gph) (w : World) (h : Gr w a b g) (k : Gr w a' b' g') :
    Calls Try.prog 15 #[.agg #[a, b], .agg #[a', b']] w fun e w' => e = .returned (.bool (decide (g = g'))) ∧ Ext w w' := by
  obtain ⟨hn, hm⟩ := h
  obtain ⟨kn, km⟩ := k
  obtain ⟨a0, c0, rfl⟩ := hn.form
  obtain ⟨b0, d0, rfl⟩ := Gr.Ma.form hm
  obtain ⟨a1, c1, rfl⟩ := kn.form
  obtain ⟨b1, d1, rfl⟩ := Gr.Ma.form km
  have hsm := hn.small
  have msm := hm.small
  have ksm := kn.small
  have lsm := km.small
  obtain ⟨R, hR⟩ : ∃ R, decide (g = g') = R := ⟨_, rfl⟩
  have HG := Lib.hid hR
  have HN1 : Hid (g.1.length ≠ g'.1.length → R = false) := fun hne => by rw [← hR]; exact decide_eq_false fun e => hne (by rw [e])
  have HN2 : Hid (g.2.length ≠ g'.2.length → R = false) := fun hne => by rw [← hR]; exact decide_eq_false fun e => hne (by rw [e])
  rw [hR]
  have EN : Hid (g.1.length = g'.1.length → g.1.length = g'.1.length) := id
  obtain ⟨n, hnl⟩ : ∃ n, g.1.length = n := ⟨_, rfl⟩
  obtain ⟨m, hml⟩ : ∃ m, g.2.length = m := ⟨_, rfl⟩
  obtain ⟨n', knl⟩ : ∃ n, g'.1.length = n := ⟨_, rfl⟩
  obtain ⟨m', kml⟩ : ∃ m, g'.2.length = m := ⟨_, rfl⟩
  rw [hnl] at hn hsm HN1 ⊢
  rw [hml] at hm msm HN2 ⊢
  rw [knl] at kn ksm HN1 ⊢
  rw [kml] at km lsm HN2 ⊢
  have HN := Lib.hid hn
  have HM := Lib.hid hm
  have KN := Lib.hid kn
  have KM := Lib.hid km
  have HNL := Lib.hid (And.intro hnl knl)
  have HML := Lib.hid (And.intro hml kml)
  obtain ⟨wA, hwA⟩ : ∃ wA, wA = (w.alloc (.cells #[.slice a0 n c0, .slice b0 m d0] 25)).alloc (.cells #[.slice a1 n' c1, .slice b1 m' d1] 25) := ⟨_, rfl⟩
  have hxA : Ext w wA := hwA ▸ ((Ext.refl w).alloc _).alloc _
  have hbA : Blk wA w.heap.size #[.slice a0 n c0, .slice b0 m d0] 25 := hwA ▸ (Blk.new w _ _).alloc _
  have hbB : Blk wA (w.heap.size + 1) #[.slice a1 n' c1, .slice b1 m' d1] 25 := by
    have := Blk.new (w.alloc (.cells #[.slice a0 n c0, .slice b0 m d0] 25)) #[.slice a1 n' c1, .slice b1 m' d1] 25
    rw [World.size_alloc] at this
    exact hwA ▸ this
  have k0 : wA.cell? ⟨w.heap.size, 0, none⟩ = some (.slice a0 n c0) := hbA.cell (i := 0) rfl
  have k1 : wA.cell? ⟨w.heap.size, 1, none⟩ = some (.slice b0 m d0) := hbA.cell (i := 1) rfl
  have k2 : wA.cell? ⟨w.heap.size + 1, 0, none⟩ = some (.slice a1 n' c1) := hbB.cell (i := 0) rfl
  have k3 : wA.cell? ⟨w.heap.size + 1, 1, none⟩ = some (.slice b1 m' d1) := hbB.cell (i := 1) rfl
  clear hn hm kn km hR hnl hml knl kml hbA hbB EN
  by_cases hne : n = n'
  case neg =>
    have hB : Hid (R = false) := HN1.out hne
    have d : ((n : Int) != n') = true := by rw [bne_iff_ne]; omega
    clear hne
    go_enter Try.func15, Try.ntmps15
    go_wp2_with fail
    rw [← hwA]
    go_ret
    exact ⟨by rw [hB.out]; rfl, hxA⟩
  case pos =>
  subst hne
  by_cases hne : m = m'
  case neg =>
    have hB : Hid (R = false) := HN2.out hne
    have d : ((m : Int) != m') = true := by rw [bne_iff_ne]; omega
    clear hne
    go_enter Try.func15, Try.ntmps15
    go_wp2_with fail
    rw [← hwA]
    go_ret
    exact ⟨by rw [hB.out]; rfl, hxA⟩
  case pos =>
  subst hne
  go_enter Try.func15, Try.ntmps15
  go_wp2_with fail
  rw [← hwA]
  clear hwA
  go_loopw [5] (fun i wr => ∃ (k : Nat), i = .int .i64 k ∧ k ≤ n ∧ (∀ j, j < k → g.1.getD j nd0 = g'.1.getD j nd0) ∧ Ext wA wr) (fun i _ => n - (intOf i).toNat)
  case atStart => exact ⟨0, rfl, Nat.zero_le _, fun j hj => absurd hj (by omega), Ext.refl _⟩
  case round =>
    obtain ⟨k, rfl, hk, hall, hXk⟩ := hrel
    obtain ⟨wk, hwk⟩ : ∃ wk, wk = wr := ⟨_, rfl⟩
    subst hwk
    have HXk := Lib.hid hXk
    have HALL := Lib.hid hall
    replace k0 := hXk.cell k0
    replace k1 := hXk.cell k1
    replace k2 := hXk.cell k2
    replace k3 := hXk.cell k3
    clear hXk hall
    by_cases hklt : k < n
    · obtain ⟨p1, o1, s1, u, hix, e0, e1, e2, e3, hu⟩ := (HN.out.ext (hxA.trans HXk.out)).at_ k (by rw [HNL.out.1]; exact hklt)
      obtain ⟨p2, o2, s2, v, hjx, f0, f1, f2, f3, hv⟩ := (KN.out.ext (hxA.trans HXk.out)).at_ k (by rw [HNL.out.2]; exact hklt)
      have HF : Hid (g.1.getD k nd0 ≠ g'.1.getD k nd0 → R = false) := fun hne => by rw [← HG.out]; exact decide_eq_false fun e => hne (by rw [e])
      have HS : Hid (g.1.getD k nd0 = g'.1.getD k nd0 → ∀ j, j < k + 1 → g.1.getD j nd0 = g'.1.getD j nd0) := fun he j hj => by
        by_cases e : j = k
        · subst e; exact he
        · exact HALL.out j (by omega)
      generalize g.1.getD k nd0 = x at e0 e1 e2 hu HF HS
      generalize g'.1.getD k nd0 = y at f0 f1 f2 hv HF HS
      have HWS := Lib.hid (fun W (h : Ext wk W) => words_x u v x.2 y.2 W (hu.ext h) (hv.ext h))
      obtain ⟨⟨x1, x2, x3⟩, xf⟩ := x
      obtain ⟨⟨y1, y2, y3⟩, yf⟩ := y
      dsimp only at e0 e1 e2 f0 f1 f2 HWS
      have c0' : ∀ W, Ext wk W → W.cell? ⟨w.heap.size, 0, none⟩ = some (.slice a0 n c0) := fun W h => h.cell k0
      have c2' : ∀ W, Ext wk W → W.cell? ⟨w.heap.size + 1, 0, none⟩ = some (.slice a1 n c1) := fun W h => h.cell k2
      have c4 : ∀ W, Ext wk W → W.cell? ⟨p1, o1 + 3, none⟩ = some u := fun W h => h.cell e3
      have c5 : ∀ W, Ext wk W → W.cell? ⟨p2, o2 + 3, none⟩ = some v := fun W h => h.cell f3
      obtain ⟨bf, hbf⟩ : ∃ bf, decide (xf = yf) = bf := ⟨_, rfl⟩
      rw [hbf] at HWS
      have HBF := Lib.hid hbf
      clear hbf hu hv
      go_wp2_with fail
      go_region_held3 (fun W : World => Ext wk W) (first | exact (Ext.refl wk).drew | assumption | exact Ext.trans (by assumption) hxw) ((go_at_call 26; (with_reducible refine (HWS.out _ (by assumption)).mono ?_); rintro e wq ⟨rfl, hxw⟩))
      all_goals
        have hq : Ext wk wq := by assumption
        have HQ := Lib.hid hq
        replace k0 := hq.cell k0
        replace k1 := hq.cell k1
        replace k2 := hq.cell k2
        replace k3 := hq.cell k3
        replace e0 := hq.cell e0
        replace e1 := hq.cell e1
        replace e2 := hq.cell e2
        replace f0 := hq.cell f0
        replace f1 := hq.cell f1
        replace f2 := hq.cell f2
        clear c0' c2' c4 c5 hxw
        obtain ⟨bh, hbh⟩ : ∃ bh, decide ((x1, x2, x3) = (y1, y2, y3)) = bh := ⟨_, rfl⟩
        have heq := eqHead x1 x2 x3 y1 y2 y3
        rw [show (x1 == y1 && (x2 == y2 && x3 == y3)) = decide ((x1, x2, x3) = (y1, y2, y3)) from hd_iff (x1, x2, x3) (y1, y2, y3), hbh] at heq
        have HBH := Lib.hid hbh
        clear hbh hq
        cases bf with
        | false =>
          have hB : Hid (R = false) := HF.out (fun e => by
            have := of_decide_eq_false HBF.out
            exact this (by cases e; rfl))
          go_wp2_with fail
          go_quiet (fail)
          go_wp2_with fail
          go_ret
          exact ⟨by rw [hB.out]; rfl, (hxA.trans (HXk.out.trans HQ.out)).drewN _⟩
        | true =>
          cases bh with
          | false =>
            have hB : Hid (R = false) := HF.out (fun e => by
              have := of_decide_eq_false HBH.out
              exact this (by cases e; rfl))
            go_wp2_with fail
            go_quiet (fail)
            go_wp2_with fail
            go_ret
            exact ⟨by rw [hB.out]; rfl, (hxA.trans (HXk.out.trans HQ.out)).drewN _⟩
          | true =>
            have hNX : Hid (∀ j, j < k + 1 → g.1.getD j nd0 = g'.1.getD j nd0) := HS.out (by
              have e1 := of_decide_eq_true HBH.out
              have e2 := of_decide_eq_true HBF.out
              rw [e1, e2])
            go_wp2_with fail
            go_quiet (fail)
            go_wp2_with fail
            go_roundw
            case rel => exact ⟨k + 1, by go_num, hklt, hNX.out, (HXk.out.trans HQ.out).drewN _⟩
            case measure => simp [intOf]; omega
    · obtain rfl : k = n := by omega
      have HE1 : Hid (g.1 = g'.1) := List.ext_getElem (by rw [HNL.out.1, HNL.out.2]) fun i h1 h2 => by
        have := HALL.out i (by rw [HNL.out.1] at h1; exact h1)
        simpa [List.getD_eq_getElem?_getD, h1, h2] using this
      go_wp2_with fail
      go_loopw [7] (fun i wr => ∃ (z : Nat), i = .int .i64 z ∧ z ≤ m ∧ (∀ j, j < z → g.2.getD j [] = g'.2.getD j []) ∧ Ext wk wr) (fun i _ => m - (intOf i).toNat)
      case atStart => exact ⟨0, rfl, Nat.zero_le _, fun j hj => absurd hj (by omega), Ext.refl _⟩
      case round =>
        obtain ⟨z, rfl, hz, hallz, hXz⟩ := hrel
        obtain ⟨wz, hwz⟩ : ∃ wz, wz = wr := ⟨_, rfl⟩
        subst hwz
        have HXz := Lib.hid hXz
        have HALLz := Lib.hid hallz
        replace k0 := hXz.cell k0
        replace k1 := hXz.cell k1
        replace k2 := hXz.cell k2
        replace k3 := hXz.cell k3
        clear hXz hallz
        by_cases hzlt : z < m
        · obtain ⟨p, u, hp, hpc, hu⟩ := (HM.out.ext (hxA.trans (HXk.out.trans HXz.out))).at_ uS szS (i := z) (by omega) (by rw [HML.out.1]; omega)
          obtain ⟨q, v, hq, hqc, hv⟩ := (KM.out.ext (hxA.trans (HXk.out.trans HXz.out))).at_ uS szS (i := z) (by omega) (by rw [HML.out.2]; omega)
          have e1 : (z : Int).toNat = z := by simp
          rw [e1] at hu hv
          have HF : Hid (g.2.getD z [] ≠ g'.2.getD z [] → R = false) := fun hne => by rw [← HG.out]; exact decide_eq_false fun e => hne (by rw [e])
          have HS : Hid (g.2.getD z [] = g'.2.getD z [] → ∀ j, j < z + 1 → g.2.getD j [] = g'.2.getD j []) := fun he j hj => by
            by_cases e : j = z
            · subst e; exact he
            · exact HALLz.out j (by omega)
          generalize g.2.getD z [] = x at hu HF HS
          generalize g'.2.getD z [] = y at hv HF HS
          have HWS := Lib.hid (fun W (h : Ext wz W) => ints_x u v x y W (hu.ext h) (hv.ext h))
          have c1' : ∀ W, Ext wz W → W.cell? ⟨w.heap.size, 1, none⟩ = some (.slice b0 m d0) := fun W h => h.cell k1
          have c3' : ∀ W, Ext wz W → W.cell? ⟨w.heap.size + 1, 1, none⟩ = some (.slice b1 m d1) := fun W h => h.cell k3
          have c4 : ∀ W, Ext wz W → W.cell? p = some u := fun W h => h.cell hpc
          have c5 : ∀ W, Ext wz W → W.cell? q = some v := fun W h => h.cell hqc
          obtain ⟨bf, hbf⟩ : ∃ bf, decide (x = y) = bf := ⟨_, rfl⟩
          rw [hbf] at HWS
          have HBF := Lib.hid hbf
          clear hbf hu hv e1
          go_wp2_with fail
          go_region_held3 (fun W : World => Ext wz W) (first | exact (Ext.refl wz).drew | assumption | exact Ext.trans (by assumption) hxw) ((go_at_call 27; (with_reducible refine (HWS.out _ (by assumption)).mono ?_); rintro e wq ⟨rfl, hxw⟩))
          all_goals
            have hq : Ext wz wq := by assumption
            have HQ := Lib.hid hq
            clear c1' c3' c4 c5 hxw hq
            cases bf with
            | false =>
              have hB : Hid (R = false) := HF.out (of_decide_eq_false HBF.out)
              go_wp2_with fail
              go_ret
              exact ⟨by rw [hB.out]; rfl, hxA.trans (HXk.out.trans (HXz.out.trans HQ.out))⟩
            | true =>
              have hNX : Hid (∀ j, j < z + 1 → g.2.getD j [] = g'.2.getD j []) := HS.out (of_decide_eq_true HBF.out)
              go_wp2_with fail
              go_roundw
              case rel => exact ⟨z + 1, by go_num, hzlt, hNX.out, HXz.out.trans HQ.out⟩
              case measure => simp [intOf]; omega
        · obtain rfl : z = m := by omega
          have hB : Hid (R = true) := by
            show _ = _
            rw [← HG.out]
            refine decide_eq_true (Prod.ext HE1.out (List.ext_getElem (by rw [HML.out.1, HML.out.2]) fun i h1 h2 => ?_))
            have := HALLz.out i (by rw [HML.out.1] at h1; exact h1)
            simpa [List.getD_eq_getElem?_getD, h1, h2] using this
          go_wp2_with fail
          go_ret
          exact ⟨by rw [hB.out]; rfl, (hxA.trans HXk.out).trans HXz.out⟩
end Go.Proofs.Ytjhmlbhfnogdiaa.Sm
