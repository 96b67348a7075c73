/- A move, word by word; and one word more. No program in sight. -/
import Derived.Test.YtjobhdcjjegpfaaAp
namespace Go.Proofs.Ytjobhdcjjegpfaa.Aq
theorem lay_getD {L cs : List Int} {o : Nat} (h : o + cs.length ≤ L.length) (j : Nat) : (Ap.lay L o cs).getD j 0 = if o ≤ j ∧ j < o + cs.length then cs.getD (j - o) 0 else L.getD j 0 := by
  unfold Ap.lay
  have e1 : (L.take o).length = o := by rw [List.length_take]; omega
  simp only [List.getD_eq_getElem?_getD, List.getElem?_append, e1, List.getElem?_take, List.getElem?_drop]
  by_cases h1 : j < o
  · rw [if_pos h1, if_pos h1, if_neg (by omega)]
  · rw [if_neg h1]
    by_cases h2 : j - o < cs.length
    · rw [if_pos h2, if_pos (by omega)]
    · rw [if_neg h2, if_neg (by omega), show o + cs.length + (j - o - cs.length) = j by omega]
theorem wh_eq {a : Int} (h : Sz.whOk a = true) : a = (Sz.whS a + 1) * 4294967296 + Sz.whA a := by
  rw [Sz.whS_ok h, Sz.whA_ok h]; omega
theorem wh_add {a i : Int} (h : Sz.whOk a = true) (i0 : 0 ≤ i) (i1 : Sz.whA a + i ≤ 4294967295) : Sz.whOk (a + i) = true ∧ Sz.whS (a + i) = Sz.whS a ∧ Sz.whA (a + i) = Sz.whA a + i := by
  have e := Sz.whA_ok h
  have h' := Sz.whOk_iff.1 h
  rw [e] at i1
  have hq : Sz.whOk (a + i) = true := Sz.whOk_iff.2 (by omega)
  exact ⟨hq, by rw [Sz.whS_ok hq, Sz.whS_ok h]; omega, by rw [Sz.whA_ok hq, e]; omega⟩
theorem mv_oks {n a b c : Int} (hok : Ap.mvOk n a b c = true) : Ap.okAt n a c = true ∧ Ap.okAt n b c = true := by unfold Ap.mvOk at hok; rwa [Bool.and_eq_true] at hok
section
variable {n : Int} {xs ys : List Int} (hr : Ap.Rt n xs ys) {a b c : Int} (hok : Ap.mvOk n a b c = true)
include hr hok
/-- Space s behind the move, word by word. -/
theorem mv_at (s : Int) (zs : List Int) (hz : (zs.length : Int) = n) (j : Nat) : (Ap.mv s n xs ys zs a b c).getD j 0 =
    if Sz.whS b = s ∧ Sz.whA b ≤ j ∧ (j : Int) < Sz.whA b + c then (Ap.spOf a xs ys).getD ((Sz.whA a).toNat + (j - (Sz.whA b).toNat)) 0 else zs.getD j 0 := by
  obtain ⟨o1, o2⟩ := mv_oks hok
  have k1 := Ap.okAt_iff.1 o1
  have k2 := Ap.okAt_iff.1 o2
  have b1 := (Sz.wh_bd a).2.2.1
  have b2 := (Sz.wh_bd b).2.2.1
  have hl := Ap.src_len hr o1
  unfold Ap.mv
  by_cases hs : Sz.whS b = s
  · rw [if_pos ⟨hok, hs⟩, lay_getD (by omega)]
    by_cases hj : Sz.whA b ≤ j ∧ (j : Int) < Sz.whA b + c
    · rw [if_pos (by omega), if_pos ⟨hs, hj.1, hj.2⟩]
      unfold Ap.src
      simp only [List.getD_eq_getElem?_getD, List.getElem?_take, List.getElem?_drop]
      rw [if_pos (by omega)]
    · rw [if_neg (by omega), if_neg (fun h => hj h.2)]
  · rw [if_neg (fun h => hs h.2), if_neg (fun h => hs h.1)]
theorem mv_out (t : Int) (ht : ¬ (b ≤ t ∧ t - b < c)) : Ap.ldV n (Ap.mv 0 n xs ys xs a b c) (Ap.mv 1 n xs ys ys a b c) t = Ap.ldV n xs ys t := by
  obtain ⟨o1, o2⟩ := mv_oks hok
  have k2 := Ap.okAt_iff.1 o2
  unfold Ap.ldV
  by_cases ho : Ap.okAt n t 1 = true
  · rw [if_pos ho, if_pos ho]
    have k3 := Ap.ok1_iff.1 ho
    have e1 := wh_eq k2.1
    have e2 := wh_eq k3.1
    have b3 := (Sz.wh_bd t).2.2.1
    unfold Ap.spOf
    rcases Ap.whS_01 (a := t) with e | e
    · rw [if_pos e, if_pos e, mv_at hr hok 0 xs hr.2.2.1, if_neg]
      rintro ⟨h1, h2, h3⟩
      exact ht (by omega)
    · rw [if_neg (by omega), if_neg (by omega), mv_at hr hok 1 ys hr.2.2.2, if_neg]
      rintro ⟨h1, h2, h3⟩
      exact ht (by omega)
  · rw [if_neg ho, if_neg ho]
theorem mv_in {i : Int} (i0 : 0 ≤ i) (i1 : i < c) : Ap.ldE n (a + i) = 0 ∧ Ap.ldE n (b + i) = 0 ∧ Ap.ldV n (Ap.mv 0 n xs ys xs a b c) (Ap.mv 1 n xs ys ys a b c) (b + i) = Ap.ldV n xs ys (a + i) := by
  obtain ⟨o1, o2⟩ := mv_oks hok
  have k1 := Ap.okAt_iff.1 o1
  have k2 := Ap.okAt_iff.1 o2
  have n1 := hr.2.1
  have b1 := (Sz.wh_bd a).2.2.1
  have b2 := (Sz.wh_bd b).2.2.1
  obtain ⟨wa1, wa2, wa3⟩ := wh_add k1.1 i0 (by omega)
  obtain ⟨wb1, wb2, wb3⟩ := wh_add k2.1 i0 (by omega)
  have p1 : Ap.okAt n (a + i) 1 = true := Ap.ok1_iff.2 ⟨wa1, by omega⟩
  have p2 : Ap.okAt n (b + i) 1 = true := Ap.ok1_iff.2 ⟨wb1, by omega⟩
  refine ⟨by unfold Ap.ldE; rw [if_pos p1], by unfold Ap.ldE; rw [if_pos p2], ?_⟩
  unfold Ap.ldV
  rw [if_pos p1, if_pos p2, wa3, wb3]
  have ej : (Sz.whA b + i).toNat = (Sz.whA b).toNat + i.toNat := by omega
  have ek : (Sz.whA a + i).toNat = (Sz.whA a).toNat + i.toNat := by omega
  have key : ∀ s zs, (zs.length : Int) = n → Sz.whS b = s → (Ap.mv s n xs ys zs a b c).getD (Sz.whA b + i).toNat 0 = (Ap.spOf a xs ys).getD (Sz.whA a + i).toNat 0 := fun s zs hz hs => by
    rw [mv_at hr hok s zs hz, if_pos ⟨hs, by omega, by omega⟩, ek]
    congr 2
    omega
  have esp : Ap.spOf (a + i) xs ys = Ap.spOf a xs ys := by unfold Ap.spOf; rw [wa2]
  rw [esp]
  unfold Ap.spOf
  rw [wb2]
  rcases Ap.whS_01 (a := b) with e | e
  · rw [if_pos e, key 0 xs hr.2.2.1 e]; rfl
  · rw [if_neg (by omega), key 1 ys hr.2.2.2 e]; rfl
end

theorem eq_of_getD {L M : List Int} (hl : L.length = M.length) (h : ∀ i, i < L.length → L.getD i 0 = M.getD i 0) : L = M :=
  List.ext_getElem hl fun i h1 h2 => by
    have := h i h1
    simpa [List.getD_eq_getElem?_getD, h1, h2] using this
theorem mvOk_le {n a b c : Int} (h : Ap.mvOk n a b c = true) {j : Int} (j0 : 0 ≤ j) (j1 : j ≤ c) : Ap.mvOk n a b j = true := by
  obtain ⟨o1, o2⟩ := mv_oks h
  have k1 := Ap.okAt_iff.1 o1
  have k2 := Ap.okAt_iff.1 o2
  unfold Ap.mvOk
  rw [Bool.and_eq_true]
  exact ⟨Ap.okAt_iff.2 ⟨k1.1, k1.2.1, j0, by omega⟩, Ap.okAt_iff.2 ⟨k2.1, k2.2.1, j0, by omega⟩⟩
theorem mv_zero (s n : Int) (xs ys zs : List Int) (a b : Int) : Ap.mv s n xs ys zs a b 0 = zs := by
  unfold Ap.mv
  split
  · simp [Ap.src, Ap.lay]
  · rfl
/-- One word more. -/
theorem mv_step {n : Int} {xs ys : List Int} (hr : Ap.Rt n xs ys) {a b c : Int} (hok : Ap.mvOk n a b c = true) {j : Nat} (hj : (j : Int) < c) (s : Int) (zs : List Int) (hz : (zs.length : Int) = n) :
    Ap.st s n (Ap.mv s n xs ys zs a b j) (b + j) (Ap.ldV n xs ys (a + j)) = Ap.mv s n xs ys zs a b ((j + 1 : Nat) : Int) := by
  have h1 := mvOk_le hok (j := j) (by omega) (by omega)
  have h2 := mvOk_le hok (j := ((j + 1 : Nat) : Int)) (by omega) (by omega)
  obtain ⟨o1, o2⟩ := mv_oks hok
  have k1 := Ap.okAt_iff.1 o1
  have k2 := Ap.okAt_iff.1 o2
  have n1 := hr.2.1
  have b1 := (Sz.wh_bd a).2.2.1
  have b2 := (Sz.wh_bd b).2.2.1
  obtain ⟨wa1, wa2, wa3⟩ := wh_add k1.1 (i := (j : Int)) (by omega) (by omega)
  obtain ⟨wb1, wb2, wb3⟩ := wh_add k2.1 (i := (j : Int)) (by omega) (by omega)
  have p1 : Ap.okAt n (a + j) 1 = true := Ap.ok1_iff.2 ⟨wa1, by omega⟩
  have p2 : Ap.okAt n (b + j) 1 = true := Ap.ok1_iff.2 ⟨wb1, by omega⟩
  have l1 := Ap.mv_len hr s zs hz a b j
  have l2 := Ap.mv_len hr s zs hz a b ((j + 1 : Nat) : Int)
  have ev : Ap.ldV n xs ys (a + j) = (Ap.spOf a xs ys).getD ((Sz.whA a).toNat + j) 0 := by
    unfold Ap.ldV
    rw [if_pos p1, wa3]
    unfold Ap.spOf
    rw [wa2, show (Sz.whA a + (j : Int)).toNat = (Sz.whA a).toNat + j by omega]
  refine eq_of_getD (by rw [Ap.st_len]; omega) fun i hi => ?_
  rw [mv_at hr h2 s zs hz]
  unfold Ap.st
  rw [wb2, wb3]
  by_cases hs : Sz.whS b = s
  · rw [if_pos ⟨p2, hs⟩]
    rw [Ap.st_len] at hi
    by_cases hij : i = (Sz.whA b + (j : Int)).toNat
    · subst hij
      have e1 : ((Ap.mv s n xs ys zs a b j).set (Sz.whA b + (j : Int)).toNat (Ap.ldV n xs ys (a + j))).getD (Sz.whA b + (j : Int)).toNat 0 = Ap.ldV n xs ys (a + j) := by
        simp [List.getD_eq_getElem?_getD, hi]
      rw [e1, ev, if_pos ⟨hs, by omega, by omega⟩]
      congr 1
      omega
    · have e1 : ((Ap.mv s n xs ys zs a b j).set (Sz.whA b + (j : Int)).toNat (Ap.ldV n xs ys (a + j))).getD i 0 = (Ap.mv s n xs ys zs a b j).getD i 0 := by
        simp only [List.getD_eq_getElem?_getD]
        rw [List.getElem?_set_ne (by omega)]
      rw [e1, mv_at hr h1 s zs hz]
      by_cases hin : Sz.whA b ≤ i ∧ (i : Int) < Sz.whA b + j
      · rw [if_pos ⟨hs, hin⟩, if_pos ⟨hs, hin.1, by omega⟩]
      · rw [if_neg (fun h => hin h.2), if_neg (fun h => by omega)]
  · rw [if_neg (fun h => hs h.2), mv_at hr h1 s zs hz, if_neg (fun h => hs h.1), if_neg (fun h => hs h.1)]
end Go.Proofs.Ytjobhdcjjegpfaa.Aq
