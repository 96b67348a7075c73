/- The program's Same: slices.Equal and slices.EqualFunc of nodes and of rows. -/
import Derived.Test.YtjhmlbhfnogdiaaOp
namespace Go.Proofs.Ytjhmlbhfnogdiaa.Qs
open Go.RowKit
open Go.Proofs.Ytjhmlbhfnogdiaa Go.Proofs.Ytjhmlbhfnogdiaa.Hd Go.Proofs.Ytjhmlbhfnogdiaa.Gr Go.Proofs.Ytjhmlbhfnogdiaa.Hg Go.Proofs.Ytjhmlbhfnogdiaa.Wf
set_option linter.unusedVariables false

theorem eq_u (v u : Value) (xs ys : List Int) (w : World) (h : Sl .u64 w v xs) (k : Sl .u64 w u ys) :
    Calls Try.prog 47 #[v, u] w fun e w' => e = .returned (.bool (decide (xs = ys))) ∧ ∃ m, w' = w.drewN m := by
  have hlen := h.len uU
  have klen := k.len uU
  have hsm := h.small
  have ksm := k.small
  by_cases hl : xs.length = ys.length
  · rw [← hl] at klen
    obtain ⟨n, hn⟩ : ∃ n, xs.length = n := ⟨_, rfl⟩
    have HX : Hid (∀ i : Nat, i < n → ∃ p : Addr, (∀ w', (Instr.indexAt 65 v (.int .i64 i)).run Try.prog w' = .ok (.pointer (some p)) w') ∧ w.cell? p = some (.int .u64 (xs.getD i 0))) := fun i hi => h.at_ uU szU (i := i) (by omega) (by omega)
    have HY : Hid (∀ i : Nat, i < n → ∃ p : Addr, (∀ w', (Instr.indexAt 65 u (.int .i64 i)).run Try.prog w' = .ok (.pointer (some p)) w') ∧ w.cell? p = some (.int .u64 (ys.getD i 0))) := fun i hi => k.at_ uU szU (i := i) (by omega) (by omega)
    have HN := Lib.hid hn
    have HL := Lib.hid hl
    rw [hn] at hlen klen hsm
    clear h k hn hl ksm
    go_enter Try.func47, Try.ntmps47
    go_wp2
    go_loopw [13] (fun i wr => ∃ j : Nat, i = .int .i64 j ∧ j ≤ n ∧ (∀ t : Nat, t < j → xs.getD t 0 = ys.getD t 0) ∧ ∃ nq, wr = w.drewN nq) (fun i _ => n - (intOf i).toNat)
    case atStart => exact ⟨0, rfl, Nat.zero_le _, fun t ht => by omega, 0, rfl⟩
    case round =>
      obtain ⟨j, rfl, hj, hall, nq, rfl⟩ := hrel
      have HA := Lib.hid hall
      clear hall
      by_cases hlt : j < n
      · obtain ⟨p, hp, hcp⟩ := HX.out j hlt
        obtain ⟨q, hq, hcq⟩ := HY.out j hlt
        obtain ⟨x, hx⟩ : ∃ x, xs.getD j 0 = x := ⟨_, rfl⟩
        obtain ⟨y, hy⟩ : ∃ y, ys.getD j 0 = y := ⟨_, rfl⟩
        rw [hx] at hcp
        rw [hy] at hcq
        have HXY := Lib.hid (And.intro hx hy)
        clear hx hy
        cases hxy : (x != y) with
        | true =>
          go_wp2
          go_quiet (fail)
          go_wp2
          go_ret
          refine ⟨?_, (by first | exact ⟨_, rfl⟩ | (rw [World.drewN_drewN]; exact ⟨_, rfl⟩))⟩
          have : xs ≠ ys := fun e => by have h2 := HXY.out; rw [e, h2.2] at h2; exact absurd h2.1 (fun h3 => by rw [h3] at hxy; simp at hxy)
          simp [this]
        | false =>
          go_wp2
          go_quiet (fail)
          go_wp2
          go_roundw
          case rel => exact ⟨j + 1, by go_num, hlt, fun t ht => by
            by_cases e : t = j
            · subst e; have h2 := HXY.out; rw [h2.1, h2.2]; simpa using hxy
            · exact HA.out t (by omega), (by first | exact ⟨_, rfl⟩ | (rw [World.drewN_drewN]; exact ⟨_, rfl⟩))⟩
          case measure => simp [intOf]; omega
      · have hjn : j = n := by omega
        subst hjn
        go_wp2
        go_ret
        refine ⟨?_, (by first | exact ⟨_, rfl⟩ | (rw [World.drewN_drewN]; exact ⟨_, rfl⟩))⟩
        have : xs = ys := List.ext_getElem HL.out fun i h1 h2 => by
          have := HA.out i (by have := HN.out; omega)
          simpa [h1, h2] using this
        simp [this]
  · have hne : ((xs.length : Int) != ys.length) = true := by rw [bne_iff_ne]; omega
    have hd : decide (xs = ys) = false := decide_eq_false (fun e => hl (by rw [e]))
    rw [hd]
    clear h k hl hd
    go_enter Try.func47, Try.ntmps47
    go_wp2
    go_ret
    exact ⟨rfl, 0, rfl⟩
theorem eq_i (v u : Value) (xs ys : List Int) (w : World) (h : Sl .i64 w v xs) (k : Sl .i64 w u ys) :
    Calls Try.prog 49 #[v, u] w fun e w' => e = .returned (.bool (decide (xs = ys))) ∧ ∃ m, w' = w.drewN m := by
  have hlen := h.len uI
  have klen := k.len uI
  have hsm := h.small
  have ksm := k.small
  by_cases hl : xs.length = ys.length
  · rw [← hl] at klen
    obtain ⟨n, hn⟩ : ∃ n, xs.length = n := ⟨_, rfl⟩
    have HX : Hid (∀ i : Nat, i < n → ∃ p : Addr, (∀ w', (Instr.indexAt 42 v (.int .i64 i)).run Try.prog w' = .ok (.pointer (some p)) w') ∧ w.cell? p = some (.int .i64 (xs.getD i 0))) := fun i hi => h.at_ uI szI (i := i) (by omega) (by omega)
    have HY : Hid (∀ i : Nat, i < n → ∃ p : Addr, (∀ w', (Instr.indexAt 42 u (.int .i64 i)).run Try.prog w' = .ok (.pointer (some p)) w') ∧ w.cell? p = some (.int .i64 (ys.getD i 0))) := fun i hi => k.at_ uI szI (i := i) (by omega) (by omega)
    have HN := Lib.hid hn
    have HL := Lib.hid hl
    rw [hn] at hlen klen hsm
    clear h k hn hl ksm
    go_enter Try.func49, Try.ntmps49
    go_wp2
    go_loopw [13] (fun i wr => ∃ j : Nat, i = .int .i64 j ∧ j ≤ n ∧ (∀ t : Nat, t < j → xs.getD t 0 = ys.getD t 0) ∧ ∃ nq, wr = w.drewN nq) (fun i _ => n - (intOf i).toNat)
    case atStart => exact ⟨0, rfl, Nat.zero_le _, fun t ht => by omega, 0, rfl⟩
    case round =>
      obtain ⟨j, rfl, hj, hall, nq, rfl⟩ := hrel
      have HA := Lib.hid hall
      clear hall
      by_cases hlt : j < n
      · obtain ⟨p, hp, hcp⟩ := HX.out j hlt
        obtain ⟨q, hq, hcq⟩ := HY.out j hlt
        obtain ⟨x, hx⟩ : ∃ x, xs.getD j 0 = x := ⟨_, rfl⟩
        obtain ⟨y, hy⟩ : ∃ y, ys.getD j 0 = y := ⟨_, rfl⟩
        rw [hx] at hcp
        rw [hy] at hcq
        have HXY := Lib.hid (And.intro hx hy)
        clear hx hy
        cases hxy : (x != y) with
        | true =>
          go_wp2
          go_quiet (fail)
          go_wp2
          go_ret
          refine ⟨?_, (by first | exact ⟨_, rfl⟩ | (rw [World.drewN_drewN]; exact ⟨_, rfl⟩))⟩
          have : xs ≠ ys := fun e => by have h2 := HXY.out; rw [e, h2.2] at h2; exact absurd h2.1 (fun h3 => by rw [h3] at hxy; simp at hxy)
          simp [this]
        | false =>
          go_wp2
          go_quiet (fail)
          go_wp2
          go_roundw
          case rel => exact ⟨j + 1, by go_num, hlt, fun t ht => by
            by_cases e : t = j
            · subst e; have h2 := HXY.out; rw [h2.1, h2.2]; simpa using hxy
            · exact HA.out t (by omega), (by first | exact ⟨_, rfl⟩ | (rw [World.drewN_drewN]; exact ⟨_, rfl⟩))⟩
          case measure => simp [intOf]; omega
      · have hjn : j = n := by omega
        subst hjn
        go_wp2
        go_ret
        refine ⟨?_, (by first | exact ⟨_, rfl⟩ | (rw [World.drewN_drewN]; exact ⟨_, rfl⟩))⟩
        have : xs = ys := List.ext_getElem HL.out fun i h1 h2 => by
          have := HA.out i (by have := HN.out; omega)
          simpa [h1, h2] using this
        simp [this]
  · have hne : ((xs.length : Int) != ys.length) = true := by rw [bne_iff_ne]; omega
    have hd : decide (xs = ys) = false := decide_eq_false (fun e => hl (by rw [e]))
    rw [hd]
    clear h k hl hd
    go_enter Try.func49, Try.ntmps49
    go_wp2
    go_ret
    exact ⟨rfl, 0, rfl⟩

theorem equ_x (v u : Value) (xs ys : List Int) (w : World) (h : Sl .u64 w v xs) (k : Sl .u64 w u ys) :
    Calls Try.prog 47 #[v, u] w fun e w' => e = .returned (.bool (decide (xs = ys))) ∧ Ext w w' := (eq_u v u xs ys w h k).mono fun e w' ⟨h, m, hm⟩ => ⟨h, hm ▸ (Ext.refl w).drewN m⟩
theorem eqi_x (v u : Value) (xs ys : List Int) (w : World) (h : Sl .i64 w v xs) (k : Sl .i64 w u ys) :
    Calls Try.prog 49 #[v, u] w fun e w' => e = .returned (.bool (decide (xs = ys))) ∧ Ext w w' := (eq_i v u xs ys w h k).mono fun e w' ⟨h, m, hm⟩ => ⟨h, hm ▸ (Ext.refl w).drewN m⟩

def ncv (x : Nd) (u : Value) : Value := .agg #[.int .i64 x.1.1, .int .i64 x.1.2.1, .int .u64 x.1.2.2, u]
set_option maxHeartbeats 1000000 in
/-- Are two nodes the same. -/
theorem node_eq (x y : Nd) (u v : Value) (w : World) (h : Sl .u64 w u x.2) (k : Sl .u64 w v y.2) :
    Calls Try.prog 46 #[ncv x u, ncv y v] w fun e w' => e = .returned (.bool (decide (x = y))) ∧ Ext w w' := by
  obtain ⟨⟨x1, x2, x3⟩, xf⟩ := x
  obtain ⟨⟨y1, y2, y3⟩, yf⟩ := y
  unfold ncv
  dsimp only at *
  obtain ⟨u0, uc, rfl⟩ := Row.form h
  obtain ⟨v0, vc, rfl⟩ := Row.form k
  have heq := eqHead x1 x2 x3 y1 y2 y3
  obtain ⟨bh, hbh⟩ : ∃ bh, decide ((x1, x2, x3) = (y1, y2, y3)) = bh := ⟨_, rfl⟩
  rw [show (x1 == y1 && (x2 == y2 && x3 == y3)) = decide ((x1, x2, x3) = (y1, y2, y3)) from Sm.hd_iff (x1, x2, x3) (y1, y2, y3), hbh] at heq
  have HW := Lib.hid (fun W (h' : Ext w W) => equ_x (.slice u0 xf.length uc) (.slice v0 yf.length vc) xf yf W (h.ext h') (k.ext h'))
  obtain ⟨bf, hbf⟩ : ∃ bf, decide (xf = yf) = bf := ⟨_, rfl⟩
  rw [hbf] at HW
  have HR : Hid (decide (((x1, x2, x3), xf) = ((y1, y2, y3), yf)) = (bh && bf)) := by
    show _ = _
    rw [← hbh, ← hbf]
    by_cases e1 : (x1, x2, x3) = (y1, y2, y3) <;> by_cases e2 : xf = yf <;> simp_all
  obtain ⟨wB, hwB⟩ : ∃ wX, wX = (w.alloc (.cells #[.int .i64 x1, .int .i64 x2, .int .u64 x3, .slice u0 xf.length uc] 67)).alloc (.cells #[.int .i64 y1, .int .i64 y2, .int .u64 y3, .slice v0 yf.length vc] 67) := ⟨_, rfl⟩
  have hxB : Ext w wB := hwB ▸ ((Ext.refl w).alloc _).alloc _
  rw [HR.out]
  clear h k hbh hbf
  go_enter Try.func46, Try.ntmps46
  cases bh with
  | false =>
    subst hwB
    go_wp2_with fail
    go_ret
    exact ⟨rfl, hxB⟩
  | true =>
    go_wp2_with fail
    rw [← hwB]
    refine (HW.out _ hxB).mono ?_; rintro e w2 ⟨rfl, hx⟩
    have HX := Lib.hid (hxB.trans hx)
    clear hx hxB hwB
    go_wp2_with fail
    go_ret
    exact ⟨by cases bf <;> rfl, HX.out⟩

set_option maxHeartbeats 4000000 in
theorem eqf_n (v u : Value) (xs ys : List Nd) (w : World) (h : No w v xs) (k : No w u ys) :
    Calls Try.prog 45 #[v, u, .func (.func 46) #[] #[]] w fun e w' => e = .returned (.bool (decide (xs = ys))) ∧ Ext w w' := by
  have hlen := h.len
  have klen := k.len
  have hsm := h.small
  by_cases hl : xs.length = ys.length
  case neg =>
    have hne : ((xs.length : Int) != ys.length) = true := by rw [bne_iff_ne]; omega
    have hd : decide (xs = ys) = false := decide_eq_false (fun e => hl (by rw [e]))
    rw [hd]
    clear h k hl hd
    go_enter Try.func45, Try.ntmps45
    go_wp2_with fail
    go_ret
    exact ⟨rfl, Ext.refl _⟩
  case pos =>
  rw [← hl] at klen
  obtain ⟨n, hn⟩ : ∃ n, xs.length = n := ⟨_, rfl⟩
  rw [hn] at hlen klen hsm
  have HN := Lib.hid (And.intro hn (hl ▸ hn))
  have H := Lib.hid h
  have K := Lib.hid k
  obtain ⟨R, hR⟩ : ∃ R, decide (xs = ys) = R := ⟨_, rfl⟩
  rw [hR]
  have HG := Lib.hid hR
  clear h k hn hl hR
  go_enter Try.func45, Try.ntmps45
  go_wp2_with fail
  go_loopw [17] (fun i wr => ∃ j : Nat, i = .int .i64 j ∧ j ≤ n ∧ (∀ t : Nat, t < j → xs.getD t nd0 = ys.getD t nd0) ∧ Ext w wr) (fun i _ => n - (intOf i).toNat)
  case atStart => exact ⟨0, rfl, Nat.zero_le _, fun t ht => by omega, Ext.refl _⟩
  case round =>
    obtain ⟨j, rfl, hj, hall, hXj⟩ := hrel
    obtain ⟨wj, hwj⟩ : ∃ wX, wX = wr := ⟨_, rfl⟩
    subst hwj
    have HXj := Lib.hid hXj
    have HALL := Lib.hid hall
    clear hXj hall
    by_cases hlt : j < n
    · obtain ⟨p1, o1, s1, a, hix, e0, e1, e2, e3, ha⟩ := (H.out.ext HXj.out).at_ j (by rw [HN.out.1]; exact hlt)
      obtain ⟨p2, o2, s2, b, hjx, f0, f1, f2, f3, hb⟩ := (K.out.ext HXj.out).at_ j (by rw [HN.out.2]; exact hlt)
      have HF : Hid (xs.getD j nd0 ≠ ys.getD j nd0 → R = false) := fun hne => by rw [← HG.out]; exact decide_eq_false fun e => hne (by rw [e])
      have HS : Hid (xs.getD j nd0 = ys.getD j nd0 → ∀ t, t < j + 1 → xs.getD t nd0 = ys.getD t nd0) := fun he t ht => by
        by_cases e : t = j
        · subst e; exact he
        · exact HALL.out t (by omega)
      generalize xs.getD j nd0 = x at e0 e1 e2 ha HF HS
      generalize ys.getD j nd0 = y at f0 f1 f2 hb HF HS
      have HC := Lib.hid (fun W (h : Ext wj W) => node_eq x y a b W (ha.ext h) (hb.ext h))
      obtain ⟨bq, hbq⟩ : ∃ bq, decide (x = y) = bq := ⟨_, rfl⟩
      rw [hbq] at HC
      have HBQ := Lib.hid hbq
      obtain ⟨a0, ac, rfl⟩ := Row.form ha
      obtain ⟨b0, bc, rfl⟩ := Row.form hb
      clear hbq ha hb
      unfold ncv at HC
      obtain ⟨⟨x1, x2, x3⟩, xf⟩ := x
      obtain ⟨⟨y1, y2, y3⟩, yf⟩ := y
      dsimp only at e0 e1 e2 f0 f1 f2 HC
      obtain ⟨w2, hw2⟩ : ∃ wX, wX = wj.alloc (.cells #[.int .i64 x1, .int .i64 x2, .int .u64 x3, .slice a0 xf.length ac] 67) := ⟨_, rfl⟩
      have hx2 : Ext wj w2 := hw2 ▸ (Ext.refl wj).alloc _
      replace f0 := hx2.cell f0
      replace f1 := hx2.cell f1
      replace f2 := hx2.cell f2
      replace f3 := hx2.cell f3
      obtain ⟨w3, hw3⟩ : ∃ wX, wX = w2.alloc (.cells #[.int .i64 y1, .int .i64 y2, .int .u64 y3, .slice b0 yf.length bc] 67) := ⟨_, rfl⟩
      have hx3 : Ext wj w3 := hx2.trans (hw3 ▸ (Ext.refl w2).alloc _)
      have hc := HC.out w3 hx3
      have HX3 := Lib.hid (HXj.out.trans hx3)
      subst hw3
      subst hw2
      have HCC := Lib.hid hc
      clear hc hx2 hx3 HC
      cases bq with
      | false =>
        have hB : Hid (R = false) := HF.out (of_decide_eq_false HBQ.out)
        go_wp2_with fail
        refine HCC.out.mono ?_; rintro e w4 ⟨rfl, hx4⟩
        have HX4 := Lib.hid (HX3.out.trans hx4)
        clear hx4
        go_wp2_with fail
        go_ret
        exact ⟨by rw [hB.out]; rfl, HX4.out⟩
      | true =>
        have hNX : Hid (∀ t, t < j + 1 → xs.getD t nd0 = ys.getD t nd0) := HS.out (of_decide_eq_true HBQ.out)
        go_wp2_with fail
        refine HCC.out.mono ?_; rintro e w4 ⟨rfl, hx4⟩
        have HX4 := Lib.hid (HX3.out.trans hx4)
        clear hx4
        go_wp2_with fail
        go_roundw
        case rel => exact ⟨j + 1, by go_num, hlt, hNX.out, HX4.out⟩
        case measure => simp [intOf]; omega
    · obtain rfl : j = n := by omega
      have hB : Hid (R = true) := by
        show _ = _
        rw [← HG.out]
        refine decide_eq_true (List.ext_getElem (by rw [HN.out.1, HN.out.2]) fun i h1 h2 => ?_)
        have := HALL.out i (by rw [HN.out.1] at h1; exact h1)
        simpa [List.getD_eq_getElem?_getD, h1, h2] using this
      go_wp2_with fail
      go_ret
      exact ⟨by rw [hB.out]; rfl, HXj.out⟩

set_option maxHeartbeats 4000000 in
theorem eqf_i (v u : Value) (xs ys : List (List Int)) (w : World) (h : Ma .i64 w v xs) (k : Ma .i64 w u ys) :
    Calls Try.prog 48 #[v, u, .func (.func 49) #[] #[]] w fun e w' => e = .returned (.bool (decide (xs = ys))) ∧ Ext w w' := by
  have hlen := fun ty W => Ma.len (P := Try.prog) uS h ty W
  have klen := fun ty W => Ma.len (P := Try.prog) uS k ty W
  have hsm := h.small
  by_cases hl : xs.length = ys.length
  case neg =>
    have hne : ((xs.length : Int) != ys.length) = true := by rw [bne_iff_ne]; omega
    have hd : decide (xs = ys) = false := decide_eq_false (fun e => hl (by rw [e]))
    rw [hd]
    clear h k hl hd
    go_enter Try.func48, Try.ntmps48
    go_wp2_with fail
    go_ret
    exact ⟨rfl, Ext.refl _⟩
  case pos =>
  rw [← hl] at klen
  obtain ⟨n, hn⟩ : ∃ n, xs.length = n := ⟨_, rfl⟩
  rw [hn] at hlen klen hsm
  have HN := Lib.hid (And.intro hn (hl ▸ hn))
  have H := Lib.hid h
  have K := Lib.hid k
  obtain ⟨R, hR⟩ : ∃ R, decide (xs = ys) = R := ⟨_, rfl⟩
  rw [hR]
  have HG := Lib.hid hR
  clear h k hn hl hR
  go_enter Try.func48, Try.ntmps48
  go_wp2_with fail
  go_loopw [17] (fun i wr => ∃ j : Nat, i = .int .i64 j ∧ j ≤ n ∧ (∀ t : Nat, t < j → xs.getD t [] = ys.getD t []) ∧ Ext w wr) (fun i _ => n - (intOf i).toNat)
  case atStart => exact ⟨0, rfl, Nat.zero_le _, fun t ht => by omega, Ext.refl _⟩
  case round =>
    obtain ⟨j, rfl, hj, hall, hXj⟩ := hrel
    obtain ⟨wj, hwj⟩ : ∃ wX, wX = wr := ⟨_, rfl⟩
    subst hwj
    have HXj := Lib.hid hXj
    have HALL := Lib.hid hall
    clear hXj hall
    by_cases hlt : j < n
    · obtain ⟨p1, a, hix, e0, ha⟩ := (H.out.ext HXj.out).at_ uS szS (i := j) (by omega) (by rw [HN.out.1]; omega)
      obtain ⟨p2, b, hjx, f0, hb⟩ := (K.out.ext HXj.out).at_ uS szS (i := j) (by omega) (by rw [HN.out.2]; omega)
      have ej : (j : Int).toNat = j := by simp
      rw [ej] at ha hb
      have HF : Hid (xs.getD j [] ≠ ys.getD j [] → R = false) := fun hne => by rw [← HG.out]; exact decide_eq_false fun e => hne (by rw [e])
      have HS : Hid (xs.getD j [] = ys.getD j [] → ∀ t, t < j + 1 → xs.getD t [] = ys.getD t []) := fun he t ht => by
        by_cases e : t = j
        · subst e; exact he
        · exact HALL.out t (by omega)
      generalize xs.getD j [] = x at ha HF HS
      generalize ys.getD j [] = y at hb HF HS
      have HC := Lib.hid (fun W (h : Ext wj W) => eqi_x a b x y W (ha.ext h) (hb.ext h))
      obtain ⟨bq, hbq⟩ : ∃ bq, decide (x = y) = bq := ⟨_, rfl⟩
      rw [hbq] at HC
      have HBQ := Lib.hid hbq
      obtain ⟨a0, ac, rfl⟩ := Row.form ha
      obtain ⟨b0, bc, rfl⟩ := Row.form hb
      clear hbq ha hb ej
      cases bq with
      | false =>
        have hB : Hid (R = false) := HF.out (of_decide_eq_false HBQ.out)
        go_wp2_with fail
        refine (HC.out _ (by first | exact Ext.refl _ | assumption)).mono ?_; rintro e w4 ⟨rfl, hx4⟩
        have HX4 := Lib.hid (HXj.out.trans hx4)
        clear hx4
        go_wp2_with fail
        go_ret
        exact ⟨by rw [hB.out]; rfl, HX4.out⟩
      | true =>
        have hNX : Hid (∀ t, t < j + 1 → xs.getD t [] = ys.getD t []) := HS.out (of_decide_eq_true HBQ.out)
        go_wp2_with fail
        refine (HC.out _ (by first | exact Ext.refl _ | assumption)).mono ?_; rintro e w4 ⟨rfl, hx4⟩
        have HX4 := Lib.hid (HXj.out.trans hx4)
        clear hx4
        go_wp2_with fail
        go_roundw
        case rel => exact ⟨j + 1, by go_num, hlt, hNX.out, HX4.out⟩
        case measure => simp [intOf]; omega
    · obtain rfl : j = n := by omega
      have hB : Hid (R = true) := by
        show _ = _
        rw [← HG.out]
        refine decide_eq_true (List.ext_getElem (by rw [HN.out.1, HN.out.2]) fun i h1 h2 => ?_)
        have := HALL.out i (by rw [HN.out.1] at h1; exact h1)
        simpa [List.getD_eq_getElem?_getD, h1, h2] using this
      go_wp2_with fail
      go_ret
      exact ⟨by rw [hB.out]; rfl, HXj.out⟩

/-- The program's Same. -/
theorem same_any (a b a' b' : Value) (g g' : Gph) (w : World) (h : Gr w a b g) (k : Gr w a' b' g') :
    Calls Try.prog 22 #[.agg #[a, b], .agg #[a', b']] w fun e w' => e = .returned (.bool (decide (g = g'))) ∧ Ext w w' := by
  obtain ⟨a0, c0, rfl⟩ := h.1.form
  obtain ⟨b0, d0, rfl⟩ := Gr.Ma.form h.2
  obtain ⟨a1, c1, rfl⟩ := k.1.form
  obtain ⟨b1, d1, rfl⟩ := Gr.Ma.form k.2
  have HN := Lib.hid (fun W (hx : Ext w W) => eqf_n _ _ g.1 g'.1 W (h.1.ext hx) (k.1.ext hx))
  have HM := Lib.hid (fun W (hx : Ext w W) => eqf_i _ _ g.2 g'.2 W (h.2.ext hx) (k.2.ext hx))
  obtain ⟨bn, hbn⟩ : ∃ bn, decide (g.1 = g'.1) = bn := ⟨_, rfl⟩
  obtain ⟨bm, hbm⟩ : ∃ bm, decide (g.2 = g'.2) = bm := ⟨_, rfl⟩
  rw [hbn] at HN
  rw [hbm] at HM
  have HR : Hid (decide (g = g') = (bn && bm)) := by
    show _ = _
    rw [← hbn, ← hbm]
    obtain ⟨g1, g2⟩ := g
    obtain ⟨h1, h2⟩ := g'
    by_cases e1 : g1 = h1 <;> by_cases e2 : g2 = h2 <;> simp [e1, e2]
  rw [HR.out]
  obtain ⟨wB, hwB⟩ : ∃ wX, wX = (w.alloc (.cells #[.slice a0 g.1.length c0, .slice b0 g.2.length d0] 25)).alloc (.cells #[.slice a1 g'.1.length c1, .slice b1 g'.2.length d1] 25) := ⟨_, rfl⟩
  have hxB : Ext w wB := hwB ▸ ((Ext.refl w).alloc _).alloc _
  have hb1 : Blk wB w.heap.size #[.slice a0 g.1.length c0, .slice b0 g.2.length d0] 25 := hwB ▸ (Blk.new w _ _).alloc _
  have hb2 : Blk wB (w.heap.size + 1) #[.slice a1 g'.1.length c1, .slice b1 g'.2.length d1] 25 := hwB ▸ Wf.blk_at (by simp)
  clear h k hbn hbm HR
  go_enter Try.func22, Try.ntmps22
  go_wp2_with fail
  rw [← hwB]
  refine (HN.out _ hxB).mono ?_; rintro e w2 ⟨rfl, hx⟩
  have HX := Lib.hid (hxB.trans hx)
  have k0 : w2.cell? ⟨w.heap.size, 1, none⟩ = some (.slice b0 g.2.length d0) := (hb1.ext hx).cell (i := 1) rfl
  have k1 : w2.cell? ⟨w.heap.size + 1, 1, none⟩ = some (.slice b1 g'.2.length d1) := (hb2.ext hx).cell (i := 1) rfl
  clear hx hxB hwB hb1 hb2
  cases bn with
  | false =>
    go_wp2_with fail
    go_ret
    exact ⟨rfl, HX.out⟩
  | true =>
    go_wp2_with fail
    refine (HM.out _ HX.out).mono ?_; rintro e w3 ⟨rfl, hx⟩
    have HX3 := Lib.hid (HX.out.trans hx)
    clear hx
    go_wp2_with fail
    go_ret
    exact ⟨by cases bm <;> rfl, HX3.out⟩
end Go.Proofs.Ytjhmlbhfnogdiaa.Qs
