/- What chapter 15's laws say, of plain lists. -/
import Derived.Test.YtjhmlbhfnogdiaaPl
namespace Go.Proofs.Ytjhmlbhfnogdiaa.Pq
open Go.Proofs.Ytjhmlbhfnogdiaa Go.Proofs.Ytjhmlbhfnogdiaa.Hd Go.Proofs.Ytjhmlbhfnogdiaa.Gr Go.Proofs.Ytjhmlbhfnogdiaa.Hg Go.Proofs.Ytjhmlbhfnogdiaa.Ps Go.Proofs.Ytjhmlbhfnogdiaa.Rr Go.Proofs.Ytjhmlbhfnogdiaa.Wk Go.Proofs.Ytjhmlbhfnogdiaa.Wp Go.Proofs.Ytjhmlbhfnogdiaa.Wa Go.Proofs.Ytjhmlbhfnogdiaa.Wc Go.Proofs.Ytjhmlbhfnogdiaa.Wf Go.Proofs.Ytjhmlbhfnogdiaa.Pl
set_option linter.unusedVariables false

def z3 : Hd := (0, 0, 0)
theorem res_in {g : Gph} {th : Int} {o : Opn} (h : 0 ≤ th ∧ th < g.2.length) : res g th o = act g th.toNat o := by unfold res; rw [if_pos h]
theorem row_push {g : Gph} {t : Nat} (ht : t < g.2.length) (x : Int) : rowOf (pushG g t x) t = rowOf g t ++ [x] := by
  unfold rowOf pushG
  simp [List.getD_eq_getElem?_getD, ht, rowOf]
theorem len_push (g : Gph) (t : Nat) (x : Int) : (pushG g t x).2.length = g.2.length := by simp [pushG]
theorem row_set (g : Gph) (n i : Nat) (v : Int) (t : Nat) : rowOf (setG g n i v) t = rowOf g t := rfl
theorem row_add (g : Gph) (x : Hd) (t : Nat) : rowOf (addG g x) t = rowOf g t := rfl
theorem handle_push_old {g : Gph} {t : Nat} (ht : t < g.2.length) {x y h : Int} (hh : handle g t h = some y) : handle (pushG g t x) t h = some y := by
  obtain ⟨h0, h1, h2⟩ := handle_some hh
  unfold handle
  rw [row_push ht, if_pos (by simp; omega), ← h2]
  have : h.toNat < (rowOf g t).length := by omega
  simp [List.getD_eq_getElem?_getD, List.getElem?_append_left this]
theorem handle_push_new {g : Gph} {t : Nat} (ht : t < g.2.length) (x : Int) : handle (pushG g t x) t ((rowOf g t).length : Int) = some x := by
  unfold handle
  rw [row_push ht, if_pos (by simp; omega)]
  simp [List.getD_eq_getElem?_getD]
theorem handle_eq {g g' : Gph} {t : Nat} (h : rowOf g' t = rowOf g t) (x : Int) : handle g' t x = handle g t x := by unfold handle; rw [h]
theorem pop_push {g : Gph} {t : Nat} (ht : t < g.2.length) (x : Int) : popG (pushG g t x) t = g := by
  unfold popG
  rw [row_push ht]
  have e : g.2.set t (rowOf g t) = g.2 := by
    refine List.ext_getElem? fun i => ?_
    rw [List.getElem?_set]
    split
    · rename_i h; subst h; simp [rowOf, List.getD_eq_getElem?_getD, ht]
    · rfl
  simp [pushG, List.set_set, e]

def o9 (h : Int) : Opn := ⟨9, h, 0, 0, 0, z3⟩
def o8 (h k : Int) : Opn := ⟨8, h, 0, k, 0, z3⟩
def o10 : Opn := ⟨10, 0, 0, 0, 0, z3⟩
theorem pushed_ok {g : Gph} {t : Nat} {x : Int} {y : Gph × Int × Bool} (h : pushed g t x = .ok y) : (rowOf g t).length < 16 ∧ y = (pushG g t x, 0, false) := by
  unfold pushed at h
  split at h
  · rename_i hl; cases h; exact ⟨hl, rfl⟩
  · cases h
/-- What a push that isn't refused does. -/
theorem pops {g : Gph} {th h : Int} (hr : rightG g = true) (hp : posG g) (h0 : (doA g th (o9 h)).1 = 0) : (0 ≤ th ∧ th < g.2.length) ∧
    doA (doG g th (o9 h)) th (o8 h (rowOf g th.toNat).length) = (0, 0, true) ∧ doA (doG g th (o9 h)) th o10 = (0, 0, false) ∧ doG (doG g th (o9 h)) th o10 = g ∧ rightG (doG g th (o9 h)) = true ∧ posG (doG g th (o9 h)) := by
  have hd := do_good (th := th) (o := o9 h) hr hp (Int.le_refl 0) (Int.le_refl 0)
  obtain ⟨ht, x, hx, hg, _⟩ := do_ok (o := o9 h) hr hp (Int.le_refl 0) (Int.le_refl 0) h0
  have ht' : th.toNat < g.2.length := by omega
  obtain ⟨y, hy, e⟩ : ∃ y, handle g th.toNat h = some y ∧ doG g th (o9 h) = pushG g th.toNat y := by
    have hx' : actPush g th.toNat (o9 h) = .ok x := hx
    unfold actPush at hx'
    rw [show (o9 h).h = h from rfl] at hx'
    cases hh : handle g th.toNat h with
    | none => rw [hh] at hx'; cases hx'
    | some y => rw [hh] at hx'; exact ⟨y, rfl, by rw [hg, (pushed_ok hx').2]⟩
  have hl : 0 ≤ th ∧ th < (pushG g th.toNat y).2.length := by rw [len_push]; exact ht
  rw [e] at hd ⊢
  refine ⟨ht, ?_, ?_, ?_, hd.1, hd.2.1⟩
  · unfold doA; rw [res_in hl]
    show resA (actSame _ _ _) = _
    unfold actSame
    rw [show (o8 h (rowOf g th.toNat).length).h = h from rfl, show (o8 h (rowOf g th.toNat).length).k = (rowOf g th.toNat).length from rfl, handle_push_old ht' hy, handle_push_new ht']
    simp [resA]
  · unfold doA; rw [res_in hl]
    show resA (actPop _ _) = _
    unfold actPop
    rw [row_push ht', if_neg (by simp)]; rfl
  · unfold doG; rw [res_in hl]
    show resG _ (actPop _ _) = _
    unfold actPop
    rw [row_push ht', if_neg (by simp)]
    exact pop_push ht' y

def o5 (h i k : Int) : Opn := ⟨5, h, i, k, 0, z3⟩
def o3 (h i : Int) : Opn := ⟨3, h, i, 0, 0, z3⟩
theorem handle_push_or {g : Gph} {t : Nat} (ht : t < g.2.length) (x h : Int) : handle (pushG g t x) t h = if h = (rowOf g t).length then some x else handle g t h := by
  by_cases h1 : h = (rowOf g t).length
  · rw [if_pos h1, h1]; exact handle_push_new ht x
  rw [if_neg h1]
  cases hh : handle g t h with
  | some y => exact handle_push_old ht hh
  | none =>
    unfold handle
    rw [row_push ht, if_neg]
    have := handle_none hh
    simp; omega
/-- What a link that isn't refused does: it leads there, when it is followed. -/
theorem links {g : Gph} {th h i k : Int} (hr : rightG g = true) (hp : posG g) (h0 : (doA g th (o5 h i k)).1 = 0) : (0 ≤ th ∧ th < g.2.length) ∧
    rightG (doG g th (o5 h i k)) = true ∧ posG (doG g th (o5 h i k)) ∧ (doG g th (o5 h i k)).1.length = g.1.length ∧
    (((doA (doG g th (o5 h i k)) th (o3 h i)).1 = 4) ∨ ((doA (doG g th (o5 h i k)) th (o3 h i)).1 = 0 ∧ rightG (doG (doG g th (o5 h i k)) th (o3 h i)) = true ∧ posG (doG (doG g th (o5 h i k)) th (o3 h i)) ∧
      (doG (doG g th (o5 h i k)) th (o3 h i)).1.length = g.1.length ∧ (doG (doG g th (o5 h i k)) th (o3 h i)).2.length = g.2.length ∧ 1 ≤ (rowOf (doG (doG g th (o5 h i k)) th (o3 h i)) th.toNat).length ∧
      doA (doG (doG g th (o5 h i k)) th (o3 h i)) th (o8 ((rowOf (doG (doG g th (o5 h i k)) th (o3 h i)) th.toNat).length - 1) k) = (0, 0, true))) := by
  have hd := do_good (th := th) (o := o5 h i k) hr hp (Int.le_refl 0) (Int.le_refl 0)
  obtain ⟨ht, x, hx, hg, _⟩ := do_ok (o := o5 h i k) hr hp (Int.le_refl 0) (Int.le_refl 0) h0
  have ht' : th.toNat < g.2.length := by omega
  obtain ⟨n, y, hf, hy, e⟩ : ∃ n y, field g th.toNat (o5 h i k) true = .ok n ∧ handle g th.toNat k = some y ∧ doG g th (o5 h i k) = setG g n i.toNat y := by
    have hx' : actLink g th.toNat (o5 h i k) = .ok x := hx
    unfold actLink at hx'
    cases hf : field g th.toNat (o5 h i k) true with
    | error e => rw [hf] at hx'; cases hx'
    | ok n =>
      rw [hf] at hx'
      rw [show (o5 h i k).k = k from rfl] at hx'
      cases hy : handle g th.toNat k with
      | none => rw [hy] at hx'; cases hx'
      | some y => rw [hy] at hx'; cases hx'; exact ⟨n, y, rfl, rfl, hg⟩
  obtain ⟨hn, j, hoi, hj⟩ := word_in hr ht' hf
  have hoi : i = j := hoi
  subst hoi
  have en : node (setG g n (j : Int).toNat y) n = ((node g n).1, (node g n).2.set j y) := by
    unfold node setG
    simp [List.getD_eq_getElem?_getD, hn, node]
  have hf' : field (setG g n (j : Int).toNat y) th.toNat (o3 h j) true = .ok n := by
    unfold field at hf ⊢
    rw [handle_eq (row_set g n (j : Int).toNat y th.toNat)]
    have hhd : ∀ m, (node (setG g n (j : Int).toNat y) m).1 = (node g m).1 := fun m => by
      by_cases hm : m = n
      · rw [hm, en]
      · unfold node setG
        simp [List.getD_eq_getElem?_getD, List.getElem?_set_ne (fun e => hm e.symm)]
    simp only [hhd]
    exact hf
  have hw : word (setG g n (j : Int).toNat y) n (o3 h j) = y := by
    unfold word
    rw [en]
    show ((node g n).2.set j y).getD (j : Int).toNat 0 = y
    rw [Int.toNat_natCast]
    rw [getD_set _ _ _ _ hj, if_pos rfl]
  rw [e] at hd ⊢
  have hl1 : (setG g n (j : Int).toNat y).1.length = g.1.length := by simp [setG]
  refine ⟨ht, hd.1, hd.2.1, hl1, ?_⟩
  have hr1 := hd.1
  have hp1 := hd.2.1
  have hl : 0 ≤ th ∧ th < (setG g n (j : Int).toNat y).2.length := ht
  have hres : res (setG g n (j : Int).toNat y) th (o3 h j) = pushed (setG g n (j : Int).toNat y) th.toNat y := by
    rw [res_in hl]
    show actFollow _ _ _ = _
    unfold actFollow
    rw [hf']
    show pushed _ _ (word _ _ _) = _
    rw [hw]
  have hd2 := do_good (th := th) (o := o3 h j) hr1 hp1 (Int.le_refl 0) (Int.le_refl 0)
  have hya : handle (setG g n (j : Int).toNat y) th.toNat k = some y := (handle_eq (row_set g n (j : Int).toNat y th.toNat) k).trans hy
  have hl2 : (setG g n (j : Int).toNat y).2.length = g.2.length := rfl
  generalize setG g n (j : Int).toNat y = a at *
  have hta : th.toNat < a.2.length := by omega
  unfold doA doG at *
  rw [hres] at hd2 ⊢
  unfold pushed at hd2 ⊢
  by_cases hc : (rowOf a th.toNat).length < 16
  · rw [if_pos hc] at hd2 ⊢
    right
    refine ⟨rfl, hd2.1, hd2.2.1, hl1, by show (pushG a th.toNat y).2.length = _; rw [len_push, hl2], ?_, ?_⟩
    · show 1 ≤ (rowOf (pushG a th.toNat y) th.toNat).length
      rw [row_push hta]; simp
    · show resA (res (pushG a th.toNat y) th _) = _
      rw [res_in (by rw [len_push]; exact hl)]
      show resA (actSame _ _ _) = _
      unfold actSame
      have e1 : (o8 ((rowOf (pushG a th.toNat y) th.toNat).length - 1) k).h = (rowOf a th.toNat).length := by
        show ((rowOf (pushG a th.toNat y) th.toNat).length : Int) - 1 = _
        rw [row_push hta]; simp
      have e2 : handle (pushG a th.toNat y) th.toNat (o8 ((rowOf (pushG a th.toNat y) th.toNat).length - 1) k).h = some y := by rw [e1]; exact handle_push_new hta y
      have e3 : handle (pushG a th.toNat y) th.toNat (o8 ((rowOf (pushG a th.toNat y) th.toNat).length - 1) k).k = some y := handle_push_old hta hya
      have e4 : handle (resG a (.ok (pushG a th.toNat y, 0, false))) th.toNat (o8 ((rowOf (pushG a th.toNat y) th.toNat).length - 1) k).h = some y := e2
      show resA (match handle (pushG a th.toNat y) th.toNat (o8 ((rowOf (pushG a th.toNat y) th.toNat).length - 1) k).h with
        | none => .error 5
        | some x => match handle (pushG a th.toNat y) th.toNat (o8 ((rowOf (pushG a th.toNat y) th.toNat).length - 1) k).k with
          | none => .error 5
          | some y' => .ok (pushG a th.toNat y, 0, decide (x = y'))) = _
      rw [e2, e3]
      simp [resA]
  · rw [if_neg hc]; left; rfl
end Go.Proofs.Ytjhmlbhfnogdiaa.Pq
