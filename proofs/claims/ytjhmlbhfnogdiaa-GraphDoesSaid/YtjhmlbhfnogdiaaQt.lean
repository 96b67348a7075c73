/- The program's Right: which graphs are right. -/
import Derived.Test.YtjhmlbhfnogdiaaQr
import Derived.Test.YtjhmlbhfnogdiaaWf
namespace Go.Proofs.Ytjhmlbhfnogdiaa.Qt
open Go.RowKit
open Go.Proofs.Ytjhmlbhfnogdiaa Go.Proofs.Ytjhmlbhfnogdiaa.Hd Go.Proofs.Ytjhmlbhfnogdiaa.Gr Go.Proofs.Ytjhmlbhfnogdiaa.Hg Go.Proofs.Ytjhmlbhfnogdiaa.Ps Go.Proofs.Ytjhmlbhfnogdiaa.Rr Go.Proofs.Ytjhmlbhfnogdiaa.Qr Go.Proofs.Ytjhmlbhfnogdiaa.Wf
set_option linter.unusedVariables false

theorem run_store_fn {P : Program} {w : World} {a : Addr} {m : Mode} {f : Fn} {x y : Array Value} : (store a (.func f x y) m).run P w = stored P w a (.func f x y) m := run_store P w a _ m rfl
attribute [local go_sem] run_store_fn

set_option maxRecDepth 100000 in
set_option maxHeartbeats 8000000 in
theorem right_any (a b : Value) (g : Gph) (hw : posG g) (hwr : ∀ r ∈ g.2, ∀ i, r.getD i 0 ≤ 9223372036854775807) (w : World) (h : Gr w a b g) :
    Calls Try.prog 17 #[.agg #[a, b]] w fun e w' => e = .returned (.bool (rightG g)) ∧ Ext w w' := by
  obtain ⟨hn, hm⟩ := h
  obtain ⟨a0, c0, rfl⟩ := hn.form
  obtain ⟨b0, d0, rfl⟩ := Gr.Ma.form hm
  have hlen := hn.len
  have hsm := hn.small
  have mlen := hm.len uS
  have msm := hm.small
  obtain ⟨many, hmany⟩ : ∃ many, g.1.length = many := ⟨_, rfl⟩
  obtain ⟨thr, hthr⟩ : ∃ thr, g.2.length = thr := ⟨_, rfl⟩
  obtain ⟨R, hR⟩ : ∃ R, rightG g = R := ⟨_, rfl⟩
  rw [hmany] at hn
  rw [hthr] at hm
  have HN := Lib.hid hn
  have HM := Lib.hid hm
  have HG := Lib.hid hR
  have HMN := Lib.hid hmany
  have HTH := Lib.hid hthr
  have HW := Lib.hid hw
  have HWR := Lib.hid hwr
  clear hwr
  rw [hmany] at hlen hsm
  rw [hthr] at mlen msm
  rw [hR]
  have hmw : IntKind.u64.wrap (many : Int) = many := by rw [IntKind.wrap_u64]; omega
  obtain ⟨wA, hwA⟩ : ∃ wA, wA = (w.alloc (.cells #[.slice a0 many c0, .slice b0 thr d0] 25)).alloc (.cells #[(.func (.func 31) #[] #[.pointer (some ⟨w.heap.size, 0, none⟩)])] 76) := ⟨_, rfl⟩
  have hxA : Ext w wA := hwA ▸ ((Ext.refl w).alloc _).alloc _
  have hbA : Blk wA w.heap.size #[.slice a0 many c0, .slice b0 thr d0] 25 := hwA ▸ (Blk.new w _ _).alloc _
  have hbF : Blk wA (w.heap.size + 1) #[(.func (.func 31) #[] #[.pointer (some ⟨w.heap.size, 0, none⟩)])] 76 := hwA ▸ blk_at (by simp)
  rw [hmany, hthr]
  have k0 : wA.cell? ⟨w.heap.size, 0, none⟩ = some (.slice a0 many c0) := hbA.cell (i := 0) rfl
  have k1 : wA.cell? ⟨w.heap.size, 1, none⟩ = some (.slice b0 thr d0) := hbA.cell (i := 1) rfl
  have kq : wA.cell? ⟨w.heap.size + 1, 0, none⟩ = some (.func (.func 31) #[] #[.pointer (some ⟨w.heap.size, 0, none⟩)]) := hbF.cell (i := 0) rfl
  clear hn hm hR hmany hthr hw
  go_enter Try.func17, Try.ntmps17
  go_wp2_with fail
  rw [← hwA]
  clear hwA
  go_loopw [14] (fun i wr => ∃ (k : Nat), i = .int .i64 k ∧ k ≤ many ∧ (∀ j, j < k → okN many (g.1.getD j nd0) = true) ∧ Ext wA wr) (fun i _ => many - (intOf i).toNat)
  case atStart => exact ⟨0, rfl, Nat.zero_le _, fun j hj => absurd hj (by omega), Ext.refl _⟩
  case round =>
    obtain ⟨k, rfl, hk, hall, hXk⟩ := hrel
    obtain ⟨wk, hwk⟩ : ∃ wk, wk = wr := ⟨_, rfl⟩
    subst hwk
    have HXk := Lib.hid hXk
    have HALL := Lib.hid hall
    replace k0 := hXk.cell k0
    replace k1 := hXk.cell k1
    replace kq := hXk.cell kq
    clear hXk hall
    by_cases hklt : k < many
    · obtain ⟨b1, o1, s1, u, hix, e0, e1, e2, e3, hu⟩ := (HN.out.ext (hxA.trans HXk.out)).at_ k (by rw [HMN.out]; exact hklt)
      have hwn := HW.out (g.1.getD k nd0) (by
        have hlt : k < g.1.length := by rw [HMN.out]; exact hklt
        simp [List.getD_eq_getElem?_getD, hlt])
      have HF : Hid (okN many (g.1.getD k nd0) = false → R = false) := fun hf => by rw [← HG.out]; exact right_n (by rw [HMN.out]; exact hklt) (by rw [HMN.out]; exact hf)
      have HS : Hid (okN many (g.1.getD k nd0) = true → ∀ j, j < k + 1 → okN many (g.1.getD j nd0) = true) := fun hf j hj => by
        by_cases e : j = k
        · subst e; exact hf
        · exact HALL.out j (by omega)
      generalize g.1.getD k nd0 = nd at e0 e1 e2 hu hwn HF HS
      obtain ⟨⟨t, l, m⟩, f⟩ := nd
      dsimp only at e0 e1 e2 hu
      obtain ⟨m0, _⟩ := hwn
      dsimp only at m0
      have HR := Lib.hid (fun w => object_any t l m w)
      obtain ⟨ua, uc, rfl⟩ := Row.form hu
      obtain ⟨fl, hfl⟩ : ∃ fl, f.length = fl := ⟨_, rfl⟩
      have HFL := Lib.hid hfl
      have HU := Lib.hid hu
      have husm := hu.small
      rw [hfl] at e3 husm
      obtain ⟨r, hr⟩ : ∃ r, isObj (t, l, m) = r := ⟨_, rfl⟩
      have HRR := Lib.hid hr
      rw [hr] at HR
      obtain ⟨wB, hwB⟩ : ∃ wB, wB = wk.alloc (.cells #[.int .i64 t, .int .i64 l, .int .u64 m, .slice ua fl uc] 67) := ⟨_, rfl⟩
      have hxB : Ext wk wB := hwB ▸ (Ext.refl wk).alloc _
      have hbB : Blk wB wk.heap.size #[.int .i64 t, .int .i64 l, .int .u64 m, .slice ua fl uc] 67 := hwB ▸ Blk.new wk _ _
      clear hfl hr hu
      cases r with
      | false =>
        have hB : Hid (R = false) := HF.out (by
          have h := HRR.out
          unfold isObj at h
          unfold okN
          dsimp only at h ⊢
          rw [h]; rfl)
        go_wp2_with fail
        rw [← hwB]
        clear hwB
        refine (HR.out _).mono ?_; rintro e w1 ⟨rfl, hx1⟩
        have HX1 := Lib.hid ((hxA.trans HXk.out).trans (hxB.trans hx1))
        clear hx1 hxB hbB
        go_wp2_with fail
        go_ret
        exact ⟨by rw [hB.out]; rfl, HX1.out⟩
      | true =>
        cases hfe : ((fl : Int) != l) with
        | true =>
          have hB : Hid (R = false) := HF.out (by
            unfold okN
            dsimp only
            rw [HFL.out]
            rw [bne, Bool.not_eq_true'] at hfe
            rw [hfe]; simp)
          go_wp2_with fail
          rw [← hwB]
          clear hwB
          refine (HR.out _).mono ?_; rintro e w1 ⟨rfl, hx1⟩
          have HX1 := Lib.hid (hxB.trans hx1)
          have hb1 := hbB.ext hx1
          have f0 : w1.cell? ⟨wk.heap.size, 0, none⟩ = some (.int .i64 t) := hb1.cell (i := 0) rfl
          have f1 : w1.cell? ⟨wk.heap.size, 1, none⟩ = some (.int .i64 l) := hb1.cell (i := 1) rfl
          have f2 : w1.cell? ⟨wk.heap.size, 2, none⟩ = some (.int .u64 m) := hb1.cell (i := 2) rfl
          have f3 : w1.cell? ⟨wk.heap.size, 3, none⟩ = some (.slice ua fl uc) := hb1.cell (i := 3) rfl
          clear hx1 hxB hbB hb1
          go_wp2_with fail
          go_ret
          exact ⟨by rw [hB.out]; rfl, (hxA.trans HXk.out).trans HX1.out⟩
        | false =>
          have hfl2 : (fl : Int) = l := by simpa using hfe
          subst hfl2
          have hok : Hid (rightE t fl m = 0 ∧ t ≠ 255) := by
            have h := HRR.out
            unfold isObj at h
            show _ ∧ _
            simpa using h
          obtain ⟨_, _, _, _, hm16, hl16⟩ := right_zero hok.out.1 m0
          have hl16' : fl ≤ 16 := by have := (hl16 hok.out.2).2; omega
          have hN1 : Hid (okP many ((t, (fl : Int), m), f) = false → R = false) := fun h => HF.out (by
            unfold okN
            rw [h, Bool.and_false])
          have hN2 : Hid (okP many ((t, (fl : Int), m), f) = true → ∀ j, j < k + 1 → okN many (g.1.getD j nd0) = true) := fun h => HS.out (by
            unfold okN
            rw [h]
            dsimp only
            rw [HFL.out, hok.out.1]
            have := hok.out.2
            simp [this])
          have HP := Lib.hid (fun w => Hq.ptrs_any t m fl hl16' m0 hm16 w)
          go_wp2_with fail
          rw [← hwB]
          clear hwB
          refine (HR.out _).mono ?_; rintro e w1 ⟨rfl, hx1⟩
          have HX1 := Lib.hid (hxB.trans hx1)
          have hb1 := hbB.ext hx1
          have f0 : w1.cell? ⟨wk.heap.size, 0, none⟩ = some (.int .i64 t) := hb1.cell (i := 0) rfl
          have f1 : w1.cell? ⟨wk.heap.size, 1, none⟩ = some (.int .i64 fl) := hb1.cell (i := 1) rfl
          have f2 : w1.cell? ⟨wk.heap.size, 2, none⟩ = some (.int .u64 m) := hb1.cell (i := 2) rfl
          have f3 : w1.cell? ⟨wk.heap.size, 3, none⟩ = some (.slice ua fl uc) := hb1.cell (i := 3) rfl
          have HXB1 := Lib.hid hb1
          clear hx1 hxB hbB hb1 hl16
          go_wp2_with fail
          refine (HP.out _).mono ?_; rintro e w2 ⟨o, rfl, ho, hx2⟩
          have HX2 := Lib.hid (HX1.out.trans hx2)
          have holen := ho.len uI
          have hosm := ho.small
          have HO := Lib.hid ho
          have HXB2 := Lib.hid (HXB1.out.ext hx2)
          obtain ⟨q, hq⟩ : ∃ q, (ptrs fl m).length = q := ⟨_, rfl⟩
          rw [hq] at holen hosm
          have HQ := Lib.hid hq
          clear hx2 ho f0 f1 f2 f3 hq
          go_wp2_with fail
          go_loopw [35] (fun i wr => ∃ (j : Nat), i = .int .i64 j ∧ j ≤ q ∧ (∀ s, s < j → f.getD ((ptrs fl m).getD s 0).toNat 0 ≤ many) ∧ Ext w2 wr) (fun i _ => q - (intOf i).toNat)
          case atStart => exact ⟨0, rfl, Nat.zero_le _, fun s hs => absurd hs (by omega), Ext.refl _⟩
          case round =>
            obtain ⟨j, rfl, hj, hallj, hXj⟩ := hrel
            obtain ⟨wj, hwj⟩ : ∃ wj, wj = wr := ⟨_, rfl⟩
            subst hwj
            have HXj := Lib.hid hXj
            have HALLj := Lib.hid hallj
            have hb3 := HXB2.out.ext hXj
            have f3 : wj.cell? ⟨wk.heap.size, 3, none⟩ = some (.slice ua fl uc) := hb3.cell (i := 3) rfl
            clear hXj hallj hb3
            by_cases hjlt : j < q
            · obtain ⟨pa, hpa, hpc⟩ := (HO.out.ext HXj.out).at_ uI szI (i := j) (by omega) (by rw [HQ.out]; omega)
              have hmem : (ptrs fl m).getD (j : Int).toNat 0 ∈ ptrs fl m := by
                have hlt : j < (ptrs fl m).length := by rw [HQ.out]; exact hjlt
                simp [List.getD_eq_getElem?_getD, hlt]
              obtain ⟨p, hpe, hpl, hpb⟩ := ptrs_mem hmem
              rw [hpe] at hpc
              have HPE : Hid ((ptrs fl m).getD j 0 = (p : Int)) := by show _ = _; simpa using hpe
              obtain ⟨pv, hpv, hpvc⟩ := (HU.out.ext (HX2.out.trans HXj.out)).at_ uU szU (i := p) (by omega) (by rw [HFL.out]; omega)
              rw [HFL.out] at hpv
              replace hpvc : wj.cell? pv = some (.int .u64 (f.getD p 0)) := by simpa using hpvc
              obtain ⟨x, hx⟩ : ∃ x, f.getD p 0 = x := ⟨_, rfl⟩
              rw [hx] at hpvc
              have HXX := Lib.hid hx
              clear hmem hpe hpb hx
              have kq' := (HX2.out.trans HXj.out).cell kq
              have HIN := Lib.hid (fun W (h : Ext wj W) => in_any x many w.heap.size a0 many c0 rfl hsm W (h.cell ((HX2.out.trans HXj.out).cell k0)) hlen)
              by_cases hgt : (many : Int) < x
              · have hB : Hid (R = false) := hN1.out (by
                  unfold okP
                  dsimp only
                  refine all_false (i := j) 0 (by simpa using by rw [HQ.out]; exact hjlt) ?_
                  rw [show ((fl : Int)).toNat = fl by simp, HPE.out, show ((p : Int)).toNat = p by simp, HXX.out]
                  exact decide_eq_false (by omega))
                have dgt : decide (x ≤ (many : Int)) = false := decide_eq_false (by omega)
                rw [dgt] at HIN
                go_wp2_with fail
                go_quiet ((go_at_call 31; exact Calls.quiet_of_same ((HIN.out _ ((Ext.refl _).drewN _)).mono fun e w1 h => ⟨h.1, h.2.symm⟩)))
                go_wp2_with fail
                go_ret
                exact ⟨by rw [hB.out]; rfl, ((hxA.trans HXk.out).trans HX2.out).trans (HXj.out.drewN _)⟩
              · have dgt : decide (x ≤ (many : Int)) = true := decide_eq_true (by omega)
                rw [dgt] at HIN
                have hNX : Hid (∀ s, s < j + 1 → f.getD ((ptrs fl m).getD s 0).toNat 0 ≤ many) := fun s hs => by
                  by_cases e : s = j
                  · subst e
                    rw [HPE.out, show ((p : Int)).toNat = p by simp, HXX.out]; omega
                  · exact HALLj.out s (by omega)
                go_wp2_with fail
                go_quiet ((go_at_call 31; exact Calls.quiet_of_same ((HIN.out _ ((Ext.refl _).drewN _)).mono fun e w1 h => ⟨h.1, h.2.symm⟩)))
                go_wp2_with fail
                go_roundw
                case rel => exact ⟨j + 1, by go_num, hjlt, hNX.out, HXj.out.drewN _⟩
                case measure => simp [intOf]; omega
            · obtain rfl : j = q := by omega
              have hNX : Hid (∀ j, j < k + 1 → okN many (g.1.getD j nd0) = true) := hN2.out (by
                unfold okP
                dsimp only
                rw [show ((fl : Int)).toNat = fl by simp]
                exact (all_getD 0).2 fun s hs => decide_eq_true (HALLj.out s (by rw [HQ.out] at hs; exact hs)))
              go_wp2_with fail
              go_roundw
              case rel => exact ⟨k + 1, by go_num, hklt, hNX.out, HXk.out.trans (HX2.out.trans HXj.out)⟩
              case measure => simp [intOf]; omega
    · obtain rfl : k = many := by omega
      go_wp2_with fail
      go_loopw [52] (fun i wr => ∃ (z : Nat), i = .int .i64 z ∧ z ≤ thr ∧ (∀ j, j < z → (g.2.getD j []).all (okH k) = true) ∧ Ext wk wr) (fun i _ => thr - (intOf i).toNat)
      case atStart => exact ⟨0, rfl, Nat.zero_le _, fun j hj => absurd hj (by omega), Ext.refl _⟩
      case round =>
        obtain ⟨z, rfl, hz, hallz, hXz⟩ := hrel
        obtain ⟨wz, hwz⟩ : ∃ wz, wz = wr := ⟨_, rfl⟩
        subst hwz
        have HXz := Lib.hid hXz
        have HALLz := Lib.hid hallz
        replace k0 := hXz.cell k0
        replace k1 := hXz.cell k1
        replace kq := hXz.cell kq
        clear hXz hallz
        by_cases hzlt : z < thr
        · obtain ⟨p, u, hp, hpc, hu⟩ := (HM.out.ext (hxA.trans (HXk.out.trans HXz.out))).at_ uS szS (i := z) (by omega) (by rw [HTH.out]; omega)
          have e1 : (z : Int).toNat = z := by simp
          rw [e1] at hu
          obtain ⟨ua, uc, rfl⟩ := Row.form hu
          have HCT := Lib.hid (contains_any _ (g.2.getD z []) (k : Int) w.heap.size (w.heap.size + 1) a0 k c0 rfl hsm (HWR.out _ (by
            have hlt : z < g.2.length := by rw [HTH.out]; exact hzlt
            simp [List.getD_eq_getElem?_getD, hlt])) wz hu k0 kq hlen)
          have HBD : Hid (∀ x, bad (k : Int) x = !okH k x) := fun x => by
            unfold bad okH
            by_cases h0 : x < 0
            · rw [decide_eq_true h0, decide_eq_false (p := 0 ≤ x) (by omega)]; rfl
            · rw [decide_eq_false h0, decide_eq_true (p := 0 ≤ x) (by omega), Bool.false_or, Bool.true_and]
          obtain ⟨bq, hbq⟩ : ∃ bq, (g.2.getD z []).any (bad (k : Int)) = bq := ⟨_, rfl⟩
          rw [hbq] at HCT
          have HBQ := Lib.hid hbq
          clear hbq hu e1
          cases bq with
          | true =>
            have hB : Hid (R = false) := by
              show _ = _
              rw [← HG.out]
              unfold rightG
              rw [HMN.out]
              have h1 : (g.2.getD z []).all (okH k) = false := by
                obtain ⟨x, hx, hbx⟩ := List.any_eq_true.1 HBQ.out
                rw [HBD.out] at hbx
                rw [List.all_eq_false]
                exact ⟨x, hx, by simpa using hbx⟩
              rw [all_false (l := g.2) (p := fun r => r.all (okH k)) [] (by rw [HTH.out]; exact hzlt) h1, Bool.and_false]
            go_wp2_with fail
            refine HCT.out.mono ?_; rintro e w' ⟨rfl, rfl⟩
            go_wp2_with fail
            go_ret
            exact ⟨by rw [hB.out]; rfl, (hxA.trans HXk.out).trans HXz.out⟩
          | false =>
            have hNX : Hid (∀ j, j < z + 1 → (g.2.getD j []).all (okH k) = true) := fun j hj => by
              by_cases e : j = z
              · subst e
                rw [List.all_eq_true]
                intro x hx
                have := List.any_eq_false.1 HBQ.out x hx
                rw [HBD.out] at this
                simpa using this
              · exact HALLz.out j (by omega)
            go_wp2_with fail
            refine HCT.out.mono ?_; rintro e w' ⟨rfl, rfl⟩
            go_wp2_with fail
            go_roundw
            case rel => exact ⟨z + 1, by go_num, hzlt, hNX.out, HXz.out⟩
            case measure => simp [intOf]; omega
        · obtain rfl : z = thr := by omega
          have hB : Hid (R = true) := by
            show _ = _
            rw [← HG.out]
            unfold rightG
            rw [HMN.out]
            rw [(all_getD nd0).2 fun s hs => HALL.out s (by rw [HMN.out] at hs; exact hs), (all_getD []).2 fun s hs => HALLz.out s (by rw [HTH.out] at hs; exact hs)]
            rfl
          go_wp2_with fail
          go_ret
          exact ⟨by rw [hB.out]; rfl, (hxA.trans HXk.out).trans HXz.out⟩
end Go.Proofs.Ytjhmlbhfnogdiaa.Qt
