/- The reference's Right: which graphs are right; and 'few' of the statements. -/
import Derived.Test.YtjhmlbhfnogdiaaPs
namespace Go.Proofs.Ytjhmlbhfnogdiaa.Rr
open Go.RowKit
open Go.Proofs.Ytjhmlbhfnogdiaa Go.Proofs.Ytjhmlbhfnogdiaa.Hd Go.Proofs.Ytjhmlbhfnogdiaa.Gr Go.Proofs.Ytjhmlbhfnogdiaa.Hg Go.Proofs.Ytjhmlbhfnogdiaa.Ps
set_option linter.unusedVariables false

def okP (many : Int) (n : Nd) : Bool := (ptrs n.1.2.1.toNat n.1.2.2).all fun p => decide (n.2.getD p.toNat 0 ≤ many)
def okN (many : Int) (n : Nd) : Bool := (rightE n.1.1 n.1.2.1 n.1.2.2 == 0 && n.1.1 != 255 && (n.2.length : Int) == n.1.2.1) && okP many n
def okH (many : Int) (x : Int) : Bool := decide (0 ≤ x) && decide (x ≤ many)
def rightG (g : Gph) : Bool := g.1.all (okN g.1.length) && g.2.all fun r => r.all (okH g.1.length)

theorem all_getD {α : Type} {l : List α} {p : α → Bool} (d : α) : l.all p = true ↔ ∀ i, i < l.length → p (l.getD i d) = true := by
  rw [List.all_eq_true]
  constructor
  · intro h i hi
    exact h _ (by simp [List.getD_eq_getElem?_getD, hi])
  · intro h x hx
    obtain ⟨i, hi, rfl⟩ := List.mem_iff_getElem.1 hx
    have := h i hi
    simpa [List.getD_eq_getElem?_getD, hi] using this
theorem all_false {α : Type} {l : List α} {p : α → Bool} (d : α) {i : Nat} (hi : i < l.length) (h : p (l.getD i d) = false) : l.all p = false := by
  cases hb : l.all p with
  | false => rfl
  | true => rw [(all_getD d).1 hb i hi] at h; cases h
theorem right_n {g : Gph} {i : Nat} (hi : i < g.1.length) (h : okN g.1.length (g.1.getD i nd0) = false) : rightG g = false := by
  unfold rightG
  rw [all_false nd0 hi h]; rfl
theorem right_r {g : Gph} {i k : Nat} (hi : i < g.2.length) (hk : k < (g.2.getD i []).length) (h : okH g.1.length ((g.2.getD i []).getD k 0) = false) : rightG g = false := by
  unfold rightG
  rw [all_false (l := g.2) [] hi (all_false 0 hk h), Bool.and_false]

set_option maxRecDepth 100000 in
set_option maxHeartbeats 8000000 in
theorem right_any (a b : Value) (g : Gph) (hw : posG g) (w : World) (h : Gr w a b g) :
    Calls Try.prog 14 #[.agg #[a, b]] w fun e w' => e = .returned (.bool (rightG g)) ∧ Ext w w' := by
  obtain ⟨hn, hm⟩ := h
  obtain ⟨a0, c0, rfl⟩ := hn.form
  obtain ⟨b0, d0, rfl⟩ := Gr.Ma.form hm
  have hlen := hn.len
  have hsm := hn.small
  have mlen := hm.len uS
  have msm := hm.small
  obtain ⟨many, hmany⟩ : ∃ many, g.1.length = many := ⟨_, rfl⟩
  obtain ⟨thr, hthr⟩ : ∃ thr, g.2.length = thr := ⟨_, rfl⟩
  obtain ⟨R, hR⟩ : ∃ R, rightG g = R := ⟨_, rfl⟩
  rw [hmany] at hn
  rw [hthr] at hm
  have HN := Lib.hid hn
  have HM := Lib.hid hm
  have HG := Lib.hid hR
  have HMN := Lib.hid hmany
  have HTH := Lib.hid hthr
  have HW := Lib.hid hw
  rw [hmany] at hlen hsm
  rw [hthr] at mlen msm
  rw [hR]
  have hmw : IntKind.u64.wrap (many : Int) = many := by rw [IntKind.wrap_u64]; omega
  obtain ⟨wA, hwA⟩ : ∃ wA, wA = w.alloc (.cells #[.slice a0 many c0, .slice b0 thr d0] 25) := ⟨_, rfl⟩
  have hxA : Ext w wA := hwA ▸ (Ext.refl w).alloc _
  have hbA : Blk wA w.heap.size #[.slice a0 many c0, .slice b0 thr d0] 25 := hwA ▸ Blk.new w _ _
  rw [hmany, hthr]
  have k0 : wA.cell? ⟨w.heap.size, 0, none⟩ = some (.slice a0 many c0) := hbA.cell (i := 0) rfl
  have k1 : wA.cell? ⟨w.heap.size, 1, none⟩ = some (.slice b0 thr d0) := hbA.cell (i := 1) rfl
  clear hn hm hR hmany hthr hw
  go_enter Try.func14, Try.ntmps14
  go_wp2_with fail
  rw [← hwA]
  clear hwA
  go_loopw [4] (fun i wr => ∃ (k : Nat), i = .int .i64 k ∧ k ≤ many ∧ (∀ j, j < k → okN many (g.1.getD j nd0) = true) ∧ Ext wA wr) (fun i _ => many - (intOf i).toNat)
  case atStart => exact ⟨0, rfl, Nat.zero_le _, fun j hj => absurd hj (by omega), Ext.refl _⟩
  case round =>
    obtain ⟨k, rfl, hk, hall, hXk⟩ := hrel
    obtain ⟨wk, hwk⟩ : ∃ wk, wk = wr := ⟨_, rfl⟩
    subst hwk
    have HXk := Lib.hid hXk
    have HALL := Lib.hid hall
    replace k0 := hXk.cell k0
    replace k1 := hXk.cell k1
    clear hXk hall
    by_cases hklt : k < many
    · obtain ⟨b1, o1, s1, u, hix, e0, e1, e2, e3, hu⟩ := (HN.out.ext (hxA.trans HXk.out)).at_ k (by rw [HMN.out]; exact hklt)
      have hwn := HW.out (g.1.getD k nd0) (by
        have hlt : k < g.1.length := by rw [HMN.out]; exact hklt
        simp [List.getD_eq_getElem?_getD, hlt])
      have HF : Hid (okN many (g.1.getD k nd0) = false → R = false) := fun hf => by rw [← HG.out]; exact right_n (by rw [HMN.out]; exact hklt) (by rw [HMN.out]; exact hf)
      have HS : Hid (okN many (g.1.getD k nd0) = true → ∀ j, j < k + 1 → okN many (g.1.getD j nd0) = true) := fun hf j hj => by
        by_cases e : j = k
        · subst e; exact hf
        · exact HALL.out j (by omega)
      generalize g.1.getD k nd0 = nd at e0 e1 e2 hu hwn HF HS
      obtain ⟨⟨t, l, m⟩, f⟩ := nd
      dsimp only at e0 e1 e2 hu
      obtain ⟨m0, _⟩ := hwn
      dsimp only at m0
      have HR := Lib.hid (fun w => rright_any t l m m0 w)
      obtain ⟨ua, uc, rfl⟩ := Row.form hu
      obtain ⟨fl, hfl⟩ : ∃ fl, f.length = fl := ⟨_, rfl⟩
      have HFL := Lib.hid hfl
      have HU := Lib.hid hu
      have husm := hu.small
      rw [hfl] at e3 husm
      obtain ⟨r, hr⟩ : ∃ r, rightE t l m = r := ⟨_, rfl⟩
      have HRR := Lib.hid hr
      rw [hr] at HR
      obtain ⟨wB, hwB⟩ : ∃ wB, wB = wk.alloc (.cells #[.int .i64 t, .int .i64 l, .int .u64 m, .slice ua fl uc] 67) := ⟨_, rfl⟩
      have hxB : Ext wk wB := hwB ▸ (Ext.refl wk).alloc _
      have hbB : Blk wB wk.heap.size #[.int .i64 t, .int .i64 l, .int .u64 m, .slice ua fl uc] 67 := hwB ▸ Blk.new wk _ _
      clear hfl hr hu
      cases hr0 : (r != 0) with
      | true =>
        have hB : Hid (R = false) := HF.out (by
          unfold okN
          dsimp only
          rw [HRR.out]
          rw [bne, Bool.not_eq_true'] at hr0
          rw [hr0]; rfl)
        go_wp2_with fail
        rw [← hwB]
        clear hwB
        refine (HR.out _).mono ?_; rintro e w1 ⟨rfl, hx1⟩
        have HX1 := Lib.hid ((hxA.trans HXk.out).trans (hxB.trans hx1))
        clear hx1 hxB hbB
        go_wp2_with fail
        go_ret
        exact ⟨by rw [hB.out]; rfl, HX1.out⟩
      | false =>
        have hr0' : r = 0 := by simpa using hr0
        cases ht : (t == 255) with
        | true =>
          have hB : Hid (R = false) := HF.out (by
            unfold okN
            dsimp only
            rw [bne, ht]; simp)
          go_wp2_with fail
          rw [← hwB]
          clear hwB
          refine (HR.out _).mono ?_; rintro e w1 ⟨rfl, hx1⟩
          have HX1 := Lib.hid (hxB.trans hx1)
          have hb1 := hbB.ext hx1
          have f0 : w1.cell? ⟨wk.heap.size, 0, none⟩ = some (.int .i64 t) := hb1.cell (i := 0) rfl
          have f1 : w1.cell? ⟨wk.heap.size, 1, none⟩ = some (.int .i64 l) := hb1.cell (i := 1) rfl
          have f2 : w1.cell? ⟨wk.heap.size, 2, none⟩ = some (.int .u64 m) := hb1.cell (i := 2) rfl
          have f3 : w1.cell? ⟨wk.heap.size, 3, none⟩ = some (.slice ua fl uc) := hb1.cell (i := 3) rfl
          clear hx1 hxB hbB hb1
          go_wp2_with fail
          go_ret
          exact ⟨by rw [hB.out]; rfl, (hxA.trans HXk.out).trans HX1.out⟩
        | false =>
          cases hfe : ((fl : Int) != l) with
          | true =>
            have hB : Hid (R = false) := HF.out (by
              unfold okN
              dsimp only
              rw [HFL.out]
              rw [bne, Bool.not_eq_true'] at hfe
              rw [hfe]; simp)
            go_wp2_with fail
            rw [← hwB]
            clear hwB
            refine (HR.out _).mono ?_; rintro e w1 ⟨rfl, hx1⟩
            have HX1 := Lib.hid (hxB.trans hx1)
            have hb1 := hbB.ext hx1
            have f0 : w1.cell? ⟨wk.heap.size, 0, none⟩ = some (.int .i64 t) := hb1.cell (i := 0) rfl
            have f1 : w1.cell? ⟨wk.heap.size, 1, none⟩ = some (.int .i64 l) := hb1.cell (i := 1) rfl
            have f2 : w1.cell? ⟨wk.heap.size, 2, none⟩ = some (.int .u64 m) := hb1.cell (i := 2) rfl
            have f3 : w1.cell? ⟨wk.heap.size, 3, none⟩ = some (.slice ua fl uc) := hb1.cell (i := 3) rfl
            clear hx1 hxB hbB hb1
            go_wp2_with fail
            go_ret
            exact ⟨by rw [hB.out]; rfl, (hxA.trans HXk.out).trans HX1.out⟩
          | false =>
            have hfl2 : (fl : Int) = l := by simpa using hfe
            subst hfl2
            have hok : Hid (rightE t fl m = 0 ∧ t ≠ 255) := ⟨by rw [HRR.out, hr0'], by simpa using ht⟩
            obtain ⟨_, _, _, _, hm16, hl16⟩ := right_zero hok.out.1 m0
            have hl16' : fl ≤ 16 := by have := (hl16 hok.out.2).2; omega
            have hN1 : Hid (okP many ((t, (fl : Int), m), f) = false → R = false) := fun h => HF.out (by
              unfold okN
              rw [h, Bool.and_false])
            have hN2 : Hid (okP many ((t, (fl : Int), m), f) = true → ∀ j, j < k + 1 → okN many (g.1.getD j nd0) = true) := fun h => HS.out (by
              unfold okN
              rw [h]
              dsimp only
              rw [HRR.out, hr0', HFL.out, bne, ht]
              simp)
            have HP := Lib.hid (fun w => rptrs_any t m fl hl16' m0 hm16 w)
            go_wp2_with fail
            rw [← hwB]
            clear hwB
            refine (HR.out _).mono ?_; rintro e w1 ⟨rfl, hx1⟩
            have HX1 := Lib.hid (hxB.trans hx1)
            have hb1 := hbB.ext hx1
            have f0 : w1.cell? ⟨wk.heap.size, 0, none⟩ = some (.int .i64 t) := hb1.cell (i := 0) rfl
            have f1 : w1.cell? ⟨wk.heap.size, 1, none⟩ = some (.int .i64 fl) := hb1.cell (i := 1) rfl
            have f2 : w1.cell? ⟨wk.heap.size, 2, none⟩ = some (.int .u64 m) := hb1.cell (i := 2) rfl
            have f3 : w1.cell? ⟨wk.heap.size, 3, none⟩ = some (.slice ua fl uc) := hb1.cell (i := 3) rfl
            have HXB1 := Lib.hid hb1
            clear hx1 hxB hbB hb1 hl16
            go_wp2_with fail
            refine (HP.out _).mono ?_; rintro e w2 ⟨o, rfl, ho, hx2⟩
            have HX2 := Lib.hid (HX1.out.trans hx2)
            have holen := ho.len uI
            have hosm := ho.small
            have HO := Lib.hid ho
            have HXB2 := Lib.hid (HXB1.out.ext hx2)
            obtain ⟨q, hq⟩ : ∃ q, (ptrs fl m).length = q := ⟨_, rfl⟩
            rw [hq] at holen hosm
            have HQ := Lib.hid hq
            clear hx2 ho f0 f1 f2 f3 hq
            go_wp2_with fail
            go_loopw [7] (fun i wr => ∃ (j : Nat), i = .int .i64 j ∧ j ≤ q ∧ (∀ s, s < j → f.getD ((ptrs fl m).getD s 0).toNat 0 ≤ many) ∧ Ext w2 wr) (fun i _ => q - (intOf i).toNat)
            case atStart => exact ⟨0, rfl, Nat.zero_le _, fun s hs => absurd hs (by omega), Ext.refl _⟩
            case round =>
              obtain ⟨j, rfl, hj, hallj, hXj⟩ := hrel
              obtain ⟨wj, hwj⟩ : ∃ wj, wj = wr := ⟨_, rfl⟩
              subst hwj
              have HXj := Lib.hid hXj
              have HALLj := Lib.hid hallj
              have hb3 := HXB2.out.ext hXj
              have f3 : wj.cell? ⟨wk.heap.size, 3, none⟩ = some (.slice ua fl uc) := hb3.cell (i := 3) rfl
              clear hXj hallj hb3
              by_cases hjlt : j < q
              · obtain ⟨pa, hpa, hpc⟩ := (HO.out.ext HXj.out).at_ uI szI (i := j) (by omega) (by rw [HQ.out]; omega)
                have hmem : (ptrs fl m).getD (j : Int).toNat 0 ∈ ptrs fl m := by
                  have hlt : j < (ptrs fl m).length := by rw [HQ.out]; exact hjlt
                  simp [List.getD_eq_getElem?_getD, hlt]
                obtain ⟨p, hpe, hpl, hpb⟩ := ptrs_mem hmem
                rw [hpe] at hpc
                have HPE : Hid ((ptrs fl m).getD j 0 = (p : Int)) := by show _ = _; simpa using hpe
                obtain ⟨pv, hpv, hpvc⟩ := (HU.out.ext (HX2.out.trans HXj.out)).at_ uU szU (i := p) (by omega) (by rw [HFL.out]; omega)
                rw [HFL.out] at hpv
                replace hpvc : wj.cell? pv = some (.int .u64 (f.getD p 0)) := by simpa using hpvc
                obtain ⟨x, hx⟩ : ∃ x, f.getD p 0 = x := ⟨_, rfl⟩
                rw [hx] at hpvc
                have HXX := Lib.hid hx
                clear hmem hpe hpb hx
                by_cases hgt : (many : Int) < x
                · have hB : Hid (R = false) := hN1.out (by
                    unfold okP
                    dsimp only
                    refine all_false (i := j) 0 (by simpa using by rw [HQ.out]; exact hjlt) ?_
                    rw [show ((fl : Int)).toNat = fl by simp, HPE.out, show ((p : Int)).toNat = p by simp, HXX.out]
                    exact decide_eq_false (by omega))
                  have dgt : decide ((many : Int) < x) = true := decide_eq_true hgt
                  go_wp2_with fail
                  go_quiet (fail)
                  go_wp2_with fail
                  go_ret
                  exact ⟨by rw [hB.out]; rfl, ((hxA.trans HXk.out).trans HX2.out).trans (HXj.out.drewN _)⟩
                · have dgt : decide ((many : Int) < x) = false := decide_eq_false hgt
                  have hNX : Hid (∀ s, s < j + 1 → f.getD ((ptrs fl m).getD s 0).toNat 0 ≤ many) := fun s hs => by
                    by_cases e : s = j
                    · subst e
                      rw [HPE.out, show ((p : Int)).toNat = p by simp, HXX.out]; omega
                    · exact HALLj.out s (by omega)
                  go_wp2_with fail
                  go_quiet (fail)
                  go_wp2_with fail
                  go_roundw
                  case rel => exact ⟨j + 1, by go_num, hjlt, hNX.out, HXj.out.drewN _⟩
                  case measure => simp [intOf]; omega
              · obtain rfl : j = q := by omega
                have hNX : Hid (∀ j, j < k + 1 → okN many (g.1.getD j nd0) = true) := hN2.out (by
                  unfold okP
                  dsimp only
                  rw [show ((fl : Int)).toNat = fl by simp]
                  exact (all_getD 0).2 fun s hs => decide_eq_true (HALLj.out s (by rw [HQ.out] at hs; exact hs)))
                go_wp2_with fail
                go_roundw
                case rel => exact ⟨k + 1, by go_num, hklt, hNX.out, HXk.out.trans (HX2.out.trans HXj.out)⟩
                case measure => simp [intOf]; omega
    · obtain rfl : k = many := by omega
      go_wp2_with fail
      go_loopw [8] (fun i wr => ∃ (z : Nat), i = .int .i64 z ∧ z ≤ thr ∧ (∀ j, j < z → (g.2.getD j []).all (okH k) = true) ∧ Ext wk wr) (fun i _ => thr - (intOf i).toNat)
      case atStart => exact ⟨0, rfl, Nat.zero_le _, fun j hj => absurd hj (by omega), Ext.refl _⟩
      case round =>
        obtain ⟨z, rfl, hz, hallz, hXz⟩ := hrel
        obtain ⟨wz, hwz⟩ : ∃ wz, wz = wr := ⟨_, rfl⟩
        subst hwz
        have HXz := Lib.hid hXz
        have HALLz := Lib.hid hallz
        replace k0 := hXz.cell k0
        replace k1 := hXz.cell k1
        clear hXz hallz
        by_cases hzlt : z < thr
        · obtain ⟨p, u, hp, hpc, hu⟩ := (HM.out.ext (hxA.trans (HXk.out.trans HXz.out))).at_ uS szS (i := z) (by omega) (by rw [HTH.out]; omega)
          have e1 : (z : Int).toNat = z := by simp
          rw [e1] at hu
          obtain ⟨ua, uc, rfl⟩ := Row.form hu
          obtain ⟨rl, hrl⟩ : ∃ rl, (g.2.getD z []).length = rl := ⟨_, rfl⟩
          have HRL := Lib.hid hrl
          have husm := hu.small
          rw [hrl] at hu hpc husm
          have HU := Lib.hid hu
          clear hrl hu e1
          go_wp2_with fail
          go_loopw [9] (fun i wr => ∃ (y : Nat), i = .int .i64 y ∧ y ≤ rl ∧ (∀ j, j < y → okH k ((g.2.getD z []).getD j 0) = true) ∧ Ext wz wr) (fun i _ => rl - (intOf i).toNat)
          case atStart => exact ⟨0, rfl, Nat.zero_le _, fun j hj => absurd hj (by omega), Ext.refl _⟩
          case round =>
            obtain ⟨y, rfl, hy, hally, hXy⟩ := hrel
            obtain ⟨wy, hwy⟩ : ∃ wy, wy = wr := ⟨_, rfl⟩
            subst hwy
            have HXy := Lib.hid hXy
            have HALLy := Lib.hid hally
            replace k0 := hXy.cell k0
            replace k1 := hXy.cell k1
            replace hpc := hXy.cell hpc
            clear hXy hally
            by_cases hylt : y < rl
            · obtain ⟨pv, hpv, hpvc⟩ := (HU.out.ext HXy.out).at_ uI szI (i := y) (by omega) (by rw [HRL.out]; omega)
              have e1 : (y : Int).toNat = y := by simp
              rw [e1] at hpvc
              obtain ⟨x, hx⟩ : ∃ x, (g.2.getD z []).getD y 0 = x := ⟨_, rfl⟩
              rw [hx] at hpvc
              have HXX := Lib.hid hx
              clear hx e1
              by_cases hok : 0 ≤ x ∧ x ≤ (k : Int)
              · obtain ⟨h0, h1⟩ := hok
                have d1 : decide (x < 0) = false := decide_eq_false (by omega)
                have d2 : decide ((k : Int) < x) = false := decide_eq_false (by omega)
                have hNX : Hid (∀ j, j < y + 1 → okH k ((g.2.getD z []).getD j 0) = true) := fun j hj => by
                  by_cases e : j = y
                  · subst e
                    rw [HXX.out]
                    unfold okH
                    rw [decide_eq_true h0, decide_eq_true h1]; rfl
                  · exact HALLy.out j (by omega)
                go_wp2_with fail
                go_quiet (fail)
                go_wp2_with fail
                go_roundw
                case rel => exact ⟨y + 1, by go_num, hylt, hNX.out, HXy.out.drewN _⟩
                case measure => simp [intOf]; omega
              · have hB : Hid (R = false) := by
                  show _ = _
                  rw [← HG.out]
                  refine right_r (i := z) (k := y) (by rw [HTH.out]; exact hzlt) (by rw [HRL.out]; exact hylt) ?_
                  rw [HMN.out, HXX.out]
                  unfold okH
                  by_cases h0 : 0 ≤ x
                  · rw [decide_eq_false (p := x ≤ (k : Int)) (fun h1 => hok ⟨h0, h1⟩), Bool.and_false]
                  · rw [decide_eq_false h0, Bool.false_and]
                by_cases h0 : x < 0
                · have d1 : decide (x < 0) = true := decide_eq_true h0
                  clear hok
                  go_wp2_with fail
                  go_quiet (fail)
                  go_wp2_with fail
                  go_ret
                  exact ⟨by rw [hB.out]; rfl, (hxA.trans HXk.out).trans (HXz.out.trans (HXy.out.drewN _))⟩
                · have d1 : decide (x < 0) = false := decide_eq_false h0
                  have d2 : decide ((k : Int) < x) = true := decide_eq_true (by omega)
                  clear hok
                  go_wp2_with fail
                  go_quiet (fail)
                  go_wp2_with fail
                  go_ret
                  exact ⟨by rw [hB.out]; rfl, (hxA.trans HXk.out).trans (HXz.out.trans (HXy.out.drewN _))⟩
            · obtain rfl : y = rl := by omega
              have hNX : Hid (∀ j, j < z + 1 → (g.2.getD j []).all (okH k) = true) := fun j hj => by
                by_cases e : j = z
                · subst e
                  exact (all_getD 0).2 fun s hs => HALLy.out s (by rw [HRL.out] at hs; exact hs)
                · exact HALLz.out j (by omega)
              go_wp2_with fail
              go_roundw
              case rel => exact ⟨z + 1, by go_num, hzlt, hNX.out, HXz.out.trans HXy.out⟩
              case measure => simp [intOf]; omega
        · obtain rfl : z = thr := by omega
          have hB : Hid (R = true) := by
            show _ = _
            rw [← HG.out]
            unfold rightG
            rw [HMN.out]
            rw [(all_getD nd0).2 fun s hs => HALL.out s (by rw [HMN.out] at hs; exact hs), (all_getD []).2 fun s hs => HALLz.out s (by rw [HTH.out] at hs; exact hs)]
            rfl
          go_wp2_with fail
          go_ret
          exact ⟨by rw [hB.out]; rfl, (hxA.trans HXk.out).trans HXz.out⟩

/-- 'few': right, of 60 nodes at most, and 200 threads. -/
def fewG (g : Gph) : Bool := rightG g && decide (g.1.length ≤ 60) && decide (g.2.length ≤ 200)
theorem few_any (a b : Value) (g : Gph) (hw : posG g) (w : World) (h : Gr w a b g) :
    Calls Try.prog 12 #[.agg #[a, b]] w fun e w' => e = .returned (.bool (fewG g)) ∧ Ext w w' := by
  obtain ⟨a0, c0, rfl⟩ := h.1.form
  obtain ⟨b0, d0, rfl⟩ := Gr.Ma.form h.2
  obtain ⟨wA, hwA⟩ : ∃ wA, wA = w.alloc (.cells #[.slice a0 g.1.length c0, .slice b0 g.2.length d0] 25) := ⟨_, rfl⟩
  have hxA : Ext w wA := hwA ▸ (Ext.refl w).alloc _
  have hbA : Blk wA w.heap.size #[.slice a0 g.1.length c0, .slice b0 g.2.length d0] 25 := hwA ▸ Blk.new w _ _
  have HR := Lib.hid (right_any _ _ g hw wA (h.ext hxA))
  have hsm := h.1.small
  have msm := h.2.small
  unfold fewG
  have e1 : decide (g.1.length ≤ 60) = decide ((g.1.length : Int) ≤ 60) := by rw [decide_eq_decide]; omega
  have e2 : decide (g.2.length ≤ 200) = decide ((g.2.length : Int) ≤ 200) := by rw [decide_eq_decide]; omega
  rw [e1, e2]
  generalize g.1.length = n at *
  generalize g.2.length = m at *
  generalize rightG g = r at HR ⊢
  clear h e1 e2 hw
  cases r <;> cases d1 : decide ((n : Int) ≤ 60) <;> cases d2 : decide ((m : Int) ≤ 200)
  all_goals
    go_enter Try.func12, Try.ntmps12
    go_wp2_with fail
    rw [← hwA]
    clear hwA
    refine HR.out.mono ?_; rintro e w1 ⟨rfl, hx1⟩
    have HX := Lib.hid (hxA.trans hx1)
    have hb1 := hbA.ext hx1
    have k0 : w1.cell? ⟨w.heap.size, 0, none⟩ = some (.slice a0 n c0) := hb1.cell (i := 0) rfl
    have k1 : w1.cell? ⟨w.heap.size, 1, none⟩ = some (.slice b0 m d0) := hb1.cell (i := 1) rfl
    clear hx1 hxA hbA hb1
    go_wp2_with fail
    go_ret
    exact ⟨by first | rfl | (simp; done), HX.out⟩
end Go.Proofs.Ytjhmlbhfnogdiaa.Rr
