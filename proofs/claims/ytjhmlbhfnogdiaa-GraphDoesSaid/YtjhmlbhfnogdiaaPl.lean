/- What is done on a graph, as plain lists: a right graph stays right; what is refused changes nothing. -/
import Derived.Test.YtjhmlbhfnogdiaaWf
namespace Go.Proofs.Ytjhmlbhfnogdiaa.Pl
open Go.Proofs.Ytjhmlbhfnogdiaa Go.Proofs.Ytjhmlbhfnogdiaa.Hd Go.Proofs.Ytjhmlbhfnogdiaa.Gr Go.Proofs.Ytjhmlbhfnogdiaa.Hg Go.Proofs.Ytjhmlbhfnogdiaa.Ps Go.Proofs.Ytjhmlbhfnogdiaa.Rr Go.Proofs.Ytjhmlbhfnogdiaa.Wk Go.Proofs.Ytjhmlbhfnogdiaa.Wp Go.Proofs.Ytjhmlbhfnogdiaa.Wa Go.Proofs.Ytjhmlbhfnogdiaa.Wc Go.Proofs.Ytjhmlbhfnogdiaa.Wf
set_option linter.unusedVariables false

theorem right_iff {g : Gph} : rightG g = true ↔ (∀ n ∈ g.1, okN g.1.length n = true) ∧ ∀ r ∈ g.2, ∀ x ∈ r, 0 ≤ x ∧ x ≤ g.1.length := by
  unfold rightG
  rw [Bool.and_eq_true, List.all_eq_true, List.all_eq_true]
  constructor
  · rintro ⟨h1, h2⟩
    refine ⟨h1, fun r hr x hx => ?_⟩
    have := List.all_eq_true.1 (h2 r hr) x hx
    unfold okH at this
    simpa using this
  · rintro ⟨h1, h2⟩
    refine ⟨h1, fun r hr => List.all_eq_true.2 fun x hx => ?_⟩
    have := h2 r hr x hx
    unfold okH
    simpa using this
theorem row_mem {g : Gph} {th : Nat} (hth : th < g.2.length) : rowOf g th ∈ g.2 := by
  unfold rowOf
  simp [List.getD_eq_getElem?_getD, hth]
theorem node_mem {g : Gph} {n : Nat} (hn : n < g.1.length) : node g n ∈ g.1 := by
  unfold node
  simp [List.getD_eq_getElem?_getD, hn]

/-- A row is another. -/
theorem right_rows {g : Gph} (h : rightG g = true) (th : Nat) (r : List Int) (hr : ∀ x ∈ r, 0 ≤ x ∧ x ≤ g.1.length) : rightG (g.1, g.2.set th r) = true := by
  obtain ⟨h1, h2⟩ := right_iff.1 h
  refine right_iff.2 ⟨h1, fun s hs => ?_⟩
  rcases List.mem_or_eq_of_mem_set hs with hs | rfl
  · exact h2 s hs
  · exact hr
theorem right_push {g : Gph} (h : rightG g = true) {th : Nat} (hth : th < g.2.length) {x : Int} (h0 : 0 ≤ x) (h1 : x ≤ g.1.length) : rightG (pushG g th x) = true := by
  refine right_rows h th _ fun y hy => ?_
  rcases List.mem_append.1 hy with hy | hy
  · exact (right_iff.1 h).2 _ (row_mem hth) y hy
  · obtain rfl : y = x := by simpa using hy
    exact ⟨h0, h1⟩
theorem right_pop {g : Gph} (h : rightG g = true) {th : Nat} (hth : th < g.2.length) : rightG (popG g th) = true :=
  right_rows h th _ fun y hy => (right_iff.1 h).2 _ (row_mem hth) y (List.dropLast_subset _ hy)
theorem okN_mono {m m' : Int} (hm : m ≤ m') {n : Nd} (h : okN m n = true) : okN m' n = true := by
  unfold okN at *
  rw [Bool.and_eq_true] at *
  refine ⟨h.1, ?_⟩
  unfold okP at *
  refine List.all_eq_true.2 fun p hp => ?_
  have := of_decide_eq_true (List.all_eq_true.1 h.2 p hp)
  exact decide_eq_true (Int.le_trans this hm)
theorem getD_replicate (l i : Nat) : (List.replicate l (0 : Int)).getD i 0 = 0 := by
  simp [List.getD_eq_getElem?_getD, List.getElem?_replicate]
  split <;> rfl
theorem right_add {g : Gph} (h : rightG g = true) {x : Hd} (hx : isObj x = true) (hm : 0 ≤ x.2.2) : rightG (addG g x) = true := by
  obtain ⟨h1, h2⟩ := right_iff.1 h
  have hl : (addG g x).1.length = g.1.length + 1 := by simp [addG]
  refine right_iff.2 ⟨fun n hn => ?_, fun r hr y hy => ?_⟩
  · rw [hl]
    rcases List.mem_append.1 hn with hn | hn
    · exact okN_mono (by omega) (h1 n hn)
    · obtain rfl : n = (x, List.replicate x.2.1.toNat 0) := by simpa using hn
      obtain ⟨l0, l1, m1⟩ := obj_len hx hm
      unfold isObj at hx
      simp only [Bool.and_eq_true, beq_iff_eq, bne_iff_ne] at hx
      unfold okN okP
      simp only [Bool.and_eq_true, beq_iff_eq, bne_iff_ne, List.all_eq_true, decide_eq_true_eq, List.length_replicate]
      refine ⟨⟨⟨hx.1, hx.2⟩, by omega⟩, fun p hp => ?_⟩
      rw [getD_replicate]; omega
  · have := h2 r hr y hy
    rw [hl]; omega
theorem getD_set (f : List Int) (i j : Nat) (v : Int) (hi : i < f.length) : (f.set i v).getD j 0 = if j = i then v else f.getD j 0 := by
  by_cases h : j = i
  · subst h; simp [List.getD_eq_getElem?_getD, hi]
  · rw [if_neg h, List.getD_eq_getElem?_getD, List.getD_eq_getElem?_getD, List.getElem?_set_ne (fun e => h e.symm)]
theorem right_set {g : Gph} (h : rightG g = true) {n i : Nat} {v : Int} (hn : n < g.1.length) (hi : i < (node g n).2.length) (hv : bit (node g n).1.2.2 (i : Int) = false ∨ v ≤ g.1.length) : rightG (setG g n i v) = true := by
  obtain ⟨h1, h2⟩ := right_iff.1 h
  have hl : (setG g n i v).1.length = g.1.length := by simp [setG]
  refine right_iff.2 ⟨fun m hm => ?_, fun r hr y hy => ?_⟩
  · rw [hl]
    rcases List.mem_or_eq_of_mem_set hm with hm | rfl
    · exact h1 m hm
    · have ho := h1 _ (node_mem hn)
      unfold okN at *
      rw [Bool.and_eq_true] at *
      refine ⟨by simpa using ho.1, ?_⟩
      unfold okP at *
      refine List.all_eq_true.2 fun p hp => decide_eq_true ?_
      have h3 := of_decide_eq_true (List.all_eq_true.1 ho.2 p hp)
      rw [getD_set _ _ _ _ hi]
      split
      · rename_i he
        rcases hv with hv | hv
        · obtain ⟨j, rfl, hj, hb⟩ := ptrs_mem hp
          obtain rfl : j = i := by simpa using he
          rw [hb] at hv; cases hv
        · exact hv
      · exact h3
  · rw [hl]; exact h2 r hr y hy

theorem pos_set {g : Gph} (h : posG g) {n i : Nat} {v : Int} (hn : n < g.1.length) (hv : 0 ≤ v) : posG (setG g n i v) := fun m hm => by
  rcases List.mem_or_eq_of_mem_set hm with hm | rfl
  · exact h m hm
  · have := h _ (node_mem hn)
    refine ⟨this.1, fun x hx => ?_⟩
    rcases List.mem_or_eq_of_mem_set hx with hx | rfl
    · exact this.2 x hx
    · exact hv
theorem pos_add {g : Gph} (h : posG g) {x : Hd} (hm : 0 ≤ x.2.2) : posG (addG g x) := fun n hn => by
  rcases List.mem_append.1 hn with hn | hn
  · exact h n hn
  · obtain rfl : n = (x, List.replicate x.2.1.toNat 0) := by simpa using hn
    exact ⟨hm, fun y hy => by rw [(List.mem_replicate.1 hy).2]; omega⟩
theorem wval_pos {k old v : Int} (hv : 0 ≤ v) : 0 ≤ wval k old v := by
  unfold wval
  split
  · exact (Nm.add_bd _ _).1
  · split
    · exact (Nm.mul_bd _ _).1
    · exact hv

/-- What is done on a right graph. -/
structure Good (g : Gph) (th : Nat) (r : Res) : Prop where
  ok : ∀ x, r = .ok x → rightG x.1 = true ∧ posG x.1 ∧ x.1.2.length = g.2.length ∧ g.1.length ≤ x.1.1.length ∧ x.1.1.length ≤ g.1.length + 1
  bad : ∀ e, r = .error e → e ≠ 0
theorem good_same {g : Gph} {th : Nat} (hr : rightG g = true) (hp : posG g) (v : Int) (b : Bool) : Good g th (.ok (g, v, b)) := ⟨fun x hx => by cases hx; exact ⟨hr, hp, rfl, Nat.le_refl _, Nat.le_succ _⟩, fun e he => by cases he⟩
theorem good_err {g : Gph} {th : Nat} {e : Int} (he : e ≠ 0) : Good g th (.error e) := ⟨fun x hx => (by cases hx), fun e' he' => by cases he'; exact he⟩
theorem good_pushed {g : Gph} {th : Nat} (hr : rightG g = true) (hp : posG g) (hth : th < g.2.length) {x : Int} (h0 : 0 ≤ x) (h1 : x ≤ g.1.length) : Good g th (pushed g th x) := by
  unfold pushed
  split
  · exact ⟨fun y hy => by cases hy; exact ⟨right_push hr hth h0 h1, hp, by simp [pushG], Nat.le_refl _, Nat.le_succ _⟩, fun e he => by cases he⟩
  · exact good_err (by omega)
theorem field_err {g : Gph} {th : Nat} {o : Opn} {p : Bool} {e : Int} (h : field g th o p = .error e) : e = 5 ∨ e = 6 ∨ e = 7 ∨ e = 8 := by
  unfold field at h
  split at h
  · cases h; omega
  · split at h
    · cases h; omega
    · split at h
      · cases h; omega
      · split at h
        · cases h; omega
        · cases h
theorem good_act {g : Gph} {th : Nat} {o : Opn} (hr : rightG g = true) (hp : posG g) (hth : th < g.2.length) (hv : 0 ≤ o.v) (hm : 0 ≤ o.new.2.2) : Good g th (act g th o) := by
  unfold act
  split
  · unfold actAlloc
    split
    · exact good_err (by omega)
    · rename_i ho
      split
      · exact good_err (by omega)
      · have ho : isObj o.new = true := by simpa using ho
        have hra := right_add hr ho hm
        refine ⟨fun y hy => ?_, fun e he => by cases he⟩
        cases hy
        have hl : (addG g o.new).1.length = g.1.length + 1 := by simp [addG]
        exact ⟨right_push hra hth (by omega) (by rw [hl]; omega), pos_add hp hm, by simp [pushG, addG], by simp [pushG, addG], by simp [pushG, addG]⟩
  split
  · unfold actGet
    split
    · rename_i e he; exact good_err (by have := field_err he; omega)
    · exact good_same hr hp _ _
  split
  · unfold actFollow
    split
    · rename_i e he; exact good_err (by have := field_err he; omega)
    · rename_i n hf
      have := word_ptr hr hp hth hf
      exact good_pushed hr hp hth this.1 this.2
  split
  · unfold actWrite
    split
    · rename_i e he; exact good_err (by have := field_err he; omega)
    · rename_i n hf
      obtain ⟨hn, i, hoi, hi⟩ := word_in hr hth hf
      have hb := (field_ok hr hth hf).2.2.2.2
      have ei : o.i.toNat = i := by omega
      rw [ei]
      exact ⟨fun y hy => by cases hy; exact ⟨right_set hr hn hi (.inl (by rw [← hoi]; exact hb)), pos_set hp hn (wval_pos hv), rfl, by simp [setG], by simp [setG]⟩, fun e he => by cases he⟩
  split
  · unfold actLink
    split
    · rename_i e he; exact good_err (by have := field_err he; omega)
    · rename_i n hf
      obtain ⟨hn, i, hoi, hi⟩ := word_in hr hth hf
      have ei : o.i.toNat = i := by omega
      split
      · exact good_err (by omega)
      · rename_i x hx
        have hb := right_handle hr hth hx
        rw [ei]
        exact ⟨fun y hy => by cases hy; exact ⟨right_set hr hn hi (.inr hb.2), pos_set hp hn hb.1, rfl, by simp [setG], by simp [setG]⟩, fun e he => by cases he⟩
  split
  · unfold actSame
    split
    · exact good_err (by omega)
    · split
      · exact good_err (by omega)
      · exact good_same hr hp _ _
  split
  · unfold actPush
    split
    · exact good_err (by omega)
    · rename_i x hx
      have hb := right_handle hr hth hx
      exact good_pushed hr hp hth hb.1 hb.2
  split
  · unfold actPop
    split
    · exact good_err (by omega)
    · exact ⟨fun y hy => by cases hy; exact ⟨right_pop hr hth, hp, by simp [popG], Nat.le_refl _, Nat.le_succ _⟩, fun e he => by cases he⟩
  split
  · exact good_same hr hp _ _
  · exact good_err (by omega)

theorem good_res {g : Gph} {th : Int} {o : Opn} (hr : rightG g = true) (hp : posG g) (hv : 0 ≤ o.v) (hm : 0 ≤ o.new.2.2) : Good g th.toNat (res g th o) := by
  unfold res
  split
  · rename_i h; exact good_act hr hp (by omega) hv hm
  · exact good_err (by omega)
/-- The graph behind it. -/
theorem do_good {g : Gph} {th : Int} {o : Opn} (hr : rightG g = true) (hp : posG g) (hv : 0 ≤ o.v) (hm : 0 ≤ o.new.2.2) :
    rightG (doG g th o) = true ∧ posG (doG g th o) ∧ (doG g th o).2.length = g.2.length ∧ g.1.length ≤ (doG g th o).1.length ∧ (doG g th o).1.length ≤ g.1.length + 1 := by
  have h := good_res (th := th) (o := o) hr hp hv hm
  unfold doG resG
  cases hres : res g th o with
  | ok x => rw [hres] at h; exact h.ok x rfl
  | error e => exact ⟨hr, hp, rfl, Nat.le_refl _, Nat.le_succ _⟩
/-- What is refused, and what isn't. -/
theorem do_err {g : Gph} {th : Int} {o : Opn} (hr : rightG g = true) (hp : posG g) (hv : 0 ≤ o.v) (hm : 0 ≤ o.new.2.2) (h : (doA g th o).1 ≠ 0) : doG g th o = g ∧ (doA g th o).2 = (0, false) ∧ res g th o = .error (doA g th o).1 := by
  unfold doG doA resG resA at *
  cases hres : res g th o with
  | ok x => rw [hres] at h; exact absurd rfl h
  | error e => exact ⟨rfl, rfl, rfl⟩
theorem do_ok {g : Gph} {th : Int} {o : Opn} (hr : rightG g = true) (hp : posG g) (hv : 0 ≤ o.v) (hm : 0 ≤ o.new.2.2) (h : (doA g th o).1 = 0) : (0 ≤ th ∧ th < g.2.length) ∧ ∃ x, act g th.toNat o = .ok x ∧ doG g th o = x.1 ∧ doA g th o = (0, x.2.1, x.2.2) := by
  have hg := good_res (th := th) (o := o) hr hp hv hm
  unfold doG doA resG resA at *
  cases hres : res g th o with
  | error e => rw [hres] at h hg; exact absurd h (hg.bad e rfl)
  | ok x =>
    unfold res at hres
    split at hres
    · rename_i ht; exact ⟨ht, x, hres, rfl, rfl⟩
    · cases hres
end Go.Proofs.Ytjhmlbhfnogdiaa.Pl
