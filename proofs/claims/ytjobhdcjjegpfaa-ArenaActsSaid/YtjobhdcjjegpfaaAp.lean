/- Two spaces of words, as lists: where an address leads, what is loaded, stored, swapped, moved, cleared. No program in sight. -/
import Derived.Test.YtjobhdcjjegpfaaSz
namespace Go.Proofs.Ytjobhdcjjegpfaa.Ap

/-- Is an address there, with k words from there on, in memory of n words? -/
def okAt (n a k : Int) : Bool := Sz.whOk a && (decide (Sz.whA a < n) && Sz.fits (Sz.whA a) k n)
def thS (n a k : Int) : Int := if okAt n a k = true then Sz.whS a else 0
def thA (n a k : Int) : Int := if okAt n a k = true then Sz.whA a else 0
theorem okAt_iff {n a k : Int} : okAt n a k = true ↔ Sz.whOk a = true ∧ Sz.whA a < n ∧ 0 ≤ k ∧ Sz.whA a + k ≤ n := by
  unfold okAt
  have := (Sz.wh_bd a).2.2.1
  rw [Bool.and_eq_true, Bool.and_eq_true, decide_eq_true_iff, Sz.fits_iff]
  constructor
  · rintro ⟨h1, h2, h3, h4, h5⟩; exact ⟨h1, h2, h4, h5⟩
  · rintro ⟨h1, h2, h4, h5⟩; exact ⟨h1, h2, this, h4, h5⟩
theorem ok1_iff {n a : Int} : okAt n a 1 = true ↔ Sz.whOk a = true ∧ Sz.whA a < n := by
  rw [okAt_iff]
  constructor
  · rintro ⟨h1, h2, _, _⟩; exact ⟨h1, h2⟩
  · rintro ⟨h1, h2⟩; exact ⟨h1, h2, by omega, by omega⟩

/-- The space that an address leads to. -/
def spOf (a : Int) (xs ys : List Int) : List Int := if Sz.whS a = 0 then xs else ys
def ldE (n a : Int) : Int := if okAt n a 1 = true then 0 else 2
def ldV (n : Int) (xs ys : List Int) (a : Int) : Int := if okAt n a 1 = true then (spOf a xs ys).getD (Sz.whA a).toNat 0 else 0
/-- Space s, a word stored. -/
def st (s n : Int) (xs : List Int) (a v : Int) : List Int := if okAt n a 1 = true ∧ Sz.whS a = s then xs.set (Sz.whA a).toNat v else xs
def swD (n : Int) (xs ys : List Int) (a old : Int) : Bool := okAt n a 1 && (ldV n xs ys a == old)
def sw (s n : Int) (xs ys zs : List Int) (a old new : Int) : List Int := if swD n xs ys a old = true then st s n zs a new else zs
def mvOk (n a b k : Int) : Bool := okAt n a k && okAt n b k
def mvE (n a b k : Int) : Int := if k < 0 then 1 else if mvOk n a b k = true then 0 else 2
/-- cs laid over L from place o on. -/
def lay (L : List Int) (o : Nat) (cs : List Int) : List Int := L.take o ++ (cs ++ L.drop (o + cs.length))
def src (xs ys : List Int) (a k : Int) : List Int := ((spOf a xs ys).drop (Sz.whA a).toNat).take k.toNat
def mv (s n : Int) (xs ys zs : List Int) (a b k : Int) : List Int := if mvOk n a b k = true ∧ Sz.whS b = s then lay zs (Sz.whA b).toNat (src xs ys a k) else zs
def cl (s n : Int) (xs : List Int) (space : Int) : List Int := if space = s then List.replicate n.toNat 0 else xs

/-- Right memory. -/
def Rt (n : Int) (xs ys : List Int) : Prop := 16 ≤ n ∧ n ≤ 4096 ∧ (xs.length : Int) = n ∧ (ys.length : Int) = n

theorem mvOk_neg {n a b k : Int} (h : k < 0) : mvOk n a b k = false := by
  cases hb : mvOk n a b k with
  | false => rfl
  | true =>
    unfold mvOk at hb
    rw [Bool.and_eq_true] at hb
    have := (okAt_iff.1 hb.1).2.2.1
    omega

theorem whS_01 {a : Int} : Sz.whS a = 0 ∨ Sz.whS a = 1 := by have := Sz.wh_bd a; omega
theorem spOf_len {n : Int} {xs ys : List Int} (h : Rt n xs ys) (a : Int) : ((spOf a xs ys).length : Int) = n := by
  unfold spOf; split
  · exact h.2.2.1
  · exact h.2.2.2
theorem st_len (s n : Int) (xs : List Int) (a v : Int) : (st s n xs a v).length = xs.length := by unfold st; split <;> simp
theorem sw_len (s n : Int) (xs ys zs : List Int) (a o v : Int) : (sw s n xs ys zs a o v).length = zs.length := by unfold sw; split; exact st_len ..; rfl
theorem src_len {n : Int} {xs ys : List Int} (h : Rt n xs ys) {a k : Int} (ho : okAt n a k = true) : ((src xs ys a k).length : Int) = k := by
  have h1 := okAt_iff.1 ho
  have h2 := spOf_len h a
  have h3 := (Sz.wh_bd a).2.2.1
  unfold src
  rw [List.length_take, List.length_drop]
  omega
theorem lay_len {L cs : List Int} {o : Nat} (h : o + cs.length ≤ L.length) : (lay L o cs).length = L.length := by simp [lay]; omega
theorem lay_one {L : List Int} {o : Nat} (v : Int) (h : o < L.length) : lay L o [v] = L.set o v := by
  unfold lay
  rw [List.set_eq_take_append_cons_drop, if_pos h]
  simp
theorem mv_len {n : Int} {xs ys : List Int} (h : Rt n xs ys) (s : Int) (zs : List Int) (hz : (zs.length : Int) = n) (a b k : Int) : ((mv s n xs ys zs a b k).length : Int) = n := by
  unfold mv
  split
  · rename_i hc
    have h0 := hc.1
    unfold mvOk at h0
    rw [Bool.and_eq_true] at h0
    have h1 := src_len h h0.1
    have h2 := okAt_iff.1 h0.2
    have h3 := (Sz.wh_bd b).2.2.1
    rw [lay_len (by omega)]
    exact hz
  · exact hz
theorem cl_len {n : Int} {xs : List Int} (hx : (xs.length : Int) = n) (s space : Int) : ((cl s n xs space).length : Int) = n := by
  unfold cl; split
  · simp; omega
  · exact hx
theorem Rt.st {n : Int} {xs ys : List Int} (h : Rt n xs ys) (a v : Int) : Rt n (st 0 n xs a v) (st 1 n ys a v) := ⟨h.1, h.2.1, by rw [st_len]; exact h.2.2.1, by rw [st_len]; exact h.2.2.2⟩
theorem Rt.sw {n : Int} {xs ys : List Int} (h : Rt n xs ys) (a o v : Int) : Rt n (sw 0 n xs ys xs a o v) (sw 1 n xs ys ys a o v) := ⟨h.1, h.2.1, by rw [sw_len]; exact h.2.2.1, by rw [sw_len]; exact h.2.2.2⟩
theorem Rt.mv {n : Int} {xs ys : List Int} (h : Rt n xs ys) (a b k : Int) : Rt n (mv 0 n xs ys xs a b k) (mv 1 n xs ys ys a b k) := ⟨h.1, h.2.1, mv_len h _ _ h.2.2.1 _ _ _, mv_len h _ _ h.2.2.2 _ _ _⟩
theorem Rt.cl {n : Int} {xs ys : List Int} (h : Rt n xs ys) (space : Int) : Rt n (cl 0 n xs space) (cl 1 n ys space) := ⟨h.1, h.2.1, cl_len h.2.2.1 _ _, cl_len h.2.2.2 _ _⟩

/-- Two addresses that are there are the same just if they lead to one place. -/
theorem ad_eq {a b : Int} (ha : Sz.whOk a = true) (hb : Sz.whOk b = true) (hs : Sz.whS a = Sz.whS b) (ht : Sz.whA a = Sz.whA b) : a = b := by
  have h1 := (Sz.addr_wh ha).2
  have h2 := (Sz.addr_wh hb).2
  rw [← h1, ← h2, hs, ht]

/-- What is loaded behind a store. -/
theorem ld_st {n : Int} {xs ys : List Int} (h : Rt n xs ys) {a : Int} (ho : okAt n a 1 = true) (v b : Int) :
    ldV n (st 0 n xs a v) (st 1 n ys a v) b = if b = a then v else ldV n xs ys b := by
  have h1 := ok1_iff.1 ho
  have h3 := (Sz.wh_bd a).2.2.1
  by_cases hb : okAt n b 1 = true
  · have k1 := ok1_iff.1 hb
    have k3 := (Sz.wh_bd b).2.2.1
    by_cases he : b = a
    · subst he
      rw [if_pos rfl]
      unfold ldV
      rw [if_pos hb]
      rcases whS_01 (a := b) with e | e
      · unfold spOf st
        rw [if_pos e, if_pos ⟨hb, e⟩]
        have : (Sz.whA b).toNat < xs.length := by have := h.2.2.1; omega
        simp [List.getD_eq_getElem?_getD, this]
      · have e0 : ¬ Sz.whS b = 0 := by omega
        unfold spOf st
        rw [if_neg e0, if_pos ⟨hb, e⟩]
        have : (Sz.whA b).toNat < ys.length := by have := h.2.2.2; omega
        simp [List.getD_eq_getElem?_getD, this]
    · rw [if_neg he]
      unfold ldV
      rw [if_pos hb, if_pos hb]
      have hne : Sz.whS b = Sz.whS a → (Sz.whA a).toNat ≠ (Sz.whA b).toNat := fun hs ht => he (ad_eq k1.1 h1.1 hs (by omega))
      unfold spOf
      split
      · unfold st
        split
        · rename_i e1 e2
          rw [List.getD_eq_getElem?_getD, List.getElem?_set_ne (hne (by rw [e1, e2.2])), ← List.getD_eq_getElem?_getD]
        · rfl
      · rename_i e1
        unfold st
        split
        · rename_i e2
          have : Sz.whS b = 1 := by rcases whS_01 (a := b) with e | e; exact absurd e e1; exact e
          rw [List.getD_eq_getElem?_getD, List.getElem?_set_ne (hne (by rw [this, e2.2])), ← List.getD_eq_getElem?_getD]
        · rfl
  · by_cases he : b = a
    · subst he; exact absurd ho hb
    · rw [if_neg he]
      unfold ldV
      rw [if_neg hb, if_neg hb]
end Go.Proofs.Ytjobhdcjjegpfaa.Ap
