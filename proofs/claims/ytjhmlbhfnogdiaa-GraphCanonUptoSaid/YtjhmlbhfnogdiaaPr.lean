/- What chapter 15's laws say, of plain lists: writing, and what is fresh. -/
import Derived.Test.YtjhmlbhfnogdiaaPq
namespace Go.Proofs.Ytjhmlbhfnogdiaa.Pr
open Go.Proofs.Ytjhmlbhfnogdiaa Go.Proofs.Ytjhmlbhfnogdiaa.Hd Go.Proofs.Ytjhmlbhfnogdiaa.Gr Go.Proofs.Ytjhmlbhfnogdiaa.Hg Go.Proofs.Ytjhmlbhfnogdiaa.Ps Go.Proofs.Ytjhmlbhfnogdiaa.Rr Go.Proofs.Ytjhmlbhfnogdiaa.Wk Go.Proofs.Ytjhmlbhfnogdiaa.Wp Go.Proofs.Ytjhmlbhfnogdiaa.Wa Go.Proofs.Ytjhmlbhfnogdiaa.Wc Go.Proofs.Ytjhmlbhfnogdiaa.Wf Go.Proofs.Ytjhmlbhfnogdiaa.Pl Go.Proofs.Ytjhmlbhfnogdiaa.Pq
set_option linter.unusedVariables false

def o4 (h i v : Int) : Opn := ⟨4, h, i, 0, v, z3⟩
def o2 (h i : Int) : Opn := ⟨2, h, i, 0, 0, z3⟩
def o7 (h i : Int) : Opn := ⟨7, h, i, 0, 65536, z3⟩

/-- A field of a graph whose one node has another word. -/
theorem node_set {g : Gph} {n j : Nat} (hn : n < g.1.length) (y : Int) : node (setG g n j y) n = ((node g n).1, (node g n).2.set j y) := by
  unfold node setG
  simp [List.getD_eq_getElem?_getD, hn, node]
theorem head_set {g : Gph} {n j : Nat} (hn : n < g.1.length) (y : Int) (m : Nat) : (node (setG g n j y) m).1 = (node g m).1 := by
  by_cases hm : m = n
  · rw [hm, node_set hn]
  · unfold node setG
    simp [List.getD_eq_getElem?_getD, List.getElem?_set_ne (fun e => hm e.symm)]
theorem field_set {g : Gph} {n j t : Nat} {o o' : Opn} {p : Bool} {r : Except Int Nat} (hn : n < g.1.length) (y : Int) (hh : o'.h = o.h) (hi : o'.i = o.i) (h : field g t o p = r) : field (setG g n j y) t o' p = r := by
  rw [← h]
  unfold field
  rw [handle_eq (row_set g n j y t), hh, hi]
  simp only [head_set hn]
theorem field_like {g : Gph} {t : Nat} {o o' : Opn} {p : Bool} (hh : o'.h = o.h) (hi : o'.i = o.i) : field g t o' p = field g t o p := by
  unfold field; rw [hh, hi]
theorem word_set {g : Gph} {n j : Nat} {o : Opn} (hn : n < g.1.length) (hj : j < (node g n).2.length) (ho : o.i = j) (y : Int) : word (setG g n j y) n o = y := by
  unfold word
  rw [node_set hn, ho, Int.toNat_natCast]
  show ((node g n).2.set j y).getD j 0 = y
  rw [getD_set _ _ _ _ hj, if_pos rfl]

/-- A write, what is got behind it, and behind a multiplication by one. -/
theorem writes {g : Gph} {th h i v : Int} (hr : rightG g = true) (hp : posG g) (hv : 0 ≤ v) :
    ((doA g th (o4 h i v)).1 ≠ 0 → (doA (doG g th (o4 h i v)) th (o2 h i)).1 = (doA g th (o4 h i v)).1) ∧
    ((doA g th (o4 h i v)).1 = 0 → ∃ b, doA (doG g th (o4 h i v)) th (o2 h i) = (0, v, b) ∧ (doA (doG g th (o4 h i v)) th (o7 h i)).1 = 0 ∧ ∃ b', doA (doG (doG g th (o4 h i v)) th (o7 h i)) th (o2 h i) = (0, v % 4294967296, b')) := by
  by_cases ht : 0 ≤ th ∧ th < g.2.length
  case neg =>
    have e1 : ∀ o : Opn, res g th o = .error 1 := fun o => by unfold res; rw [if_neg ht]
    have e2 : doA g th (o4 h i v) = (1, 0, false) := by unfold doA; rw [e1]; rfl
    have e3 : doG g th (o4 h i v) = g := by unfold doG; rw [e1]; rfl
    rw [e2, e3]
    exact ⟨fun _ => by unfold doA; rw [e1]; rfl, fun h => absurd h (by decide)⟩
  case pos =>
  have ht' : th.toNat < g.2.length := by omega
  have e1 : res g th (o4 h i v) = actWrite g th.toNat (o4 h i v) := by rw [res_in ht]; rfl
  cases hf : field g th.toNat (o4 h i v) false with
  | error e =>
    have e2 : res g th (o4 h i v) = .error e := by rw [e1]; unfold actWrite; rw [hf]
    have e3 : doA g th (o4 h i v) = (e, 0, false) := by unfold doA; rw [e2]; rfl
    have e4 : doG g th (o4 h i v) = g := by unfold doG; rw [e2]; rfl
    have e5 : doA g th (o2 h i) = (e, 0, false) := by
      unfold doA; rw [res_in ht]
      show resA (actGet _ _ _) = _
      unfold actGet
      rw [field_like (o := o4 h i v) (o' := o2 h i) rfl rfl, hf]; rfl
    rw [e3, e4, e5]
    refine ⟨fun _ => rfl, fun h => ?_⟩
    have := field_err hf
    have h : e = 0 := h
    omega
  | ok n =>
    obtain ⟨hn, j, hoi, hj⟩ := word_in hr ht' hf
    have hoi : i = j := hoi
    subst hoi
    have e2 : res g th (o4 h j v) = .ok (setG g n j v, 0, false) := by rw [e1]; unfold actWrite; rw [hf]; rfl
    have e3 : doA g th (o4 h j v) = (0, 0, false) := by unfold doA; rw [e2]; rfl
    have e4 : doG g th (o4 h j v) = setG g n j v := by unfold doG; rw [e2]; rfl
    rw [e3, e4]
    refine ⟨fun h => absurd rfl h, fun _ => ?_⟩
    have ht2 : 0 ≤ th ∧ th < (setG g n j v).2.length := ht
    have hn2 : n < (setG g n j v).1.length := by simp [setG, hn]
    have hj2 : j < (node (setG g n j v) n).2.length := by rw [node_set hn]; simp [hj]
    refine ⟨false, ?_, ?_, false, ?_⟩
    · unfold doA; rw [res_in ht2]
      show resA (actGet _ _ _) = _
      unfold actGet
      rw [field_set (o := o4 h j v) (o' := o2 h j) hn v rfl rfl hf]
      show ((0 : Int), word _ _ _, false) = _
      rw [word_set hn hj rfl]
    · unfold doA; rw [res_in ht2]
      show (resA (actWrite _ _ _)).1 = _
      unfold actWrite
      rw [field_set (o := o4 h j v) (o' := o7 h j) hn v rfl rfl hf]; rfl
    · have e5 : doG (setG g n j v) th (o7 h j) = setG (setG g n j v) n j (v % 4294967296) := by
        unfold doG; rw [res_in ht2]
        show resG _ (actWrite _ _ _) = _
        unfold actWrite
        rw [field_set (o := o4 h j v) (o' := o7 h j) hn v rfl rfl hf]
        show setG (setG g n j v) n (j : Int).toNat (wval 7 (word _ _ _) 65536) = _
        rw [word_set hn hj rfl, Int.toNat_natCast]
        have : wval 7 v 65536 = v % 4294967296 := by
          unfold wval
          rw [if_neg (by decide), if_pos rfl]
          exact Nm.mul_one v
        rw [this]
      rw [e5]
      unfold doA; rw [res_in (show 0 ≤ th ∧ th < (setG (setG g n j v) n j (v % 4294967296)).2.length from ht)]
      show resA (actGet _ _ _) = _
      unfold actGet
      rw [field_set (o := o2 h j) (o' := o2 h j) hn2 (v % 4294967296) rfl rfl (field_set (o := o4 h j v) (o' := o2 h j) hn v rfl rfl hf)]
      show ((0 : Int), word _ _ _, false) = _
      rw [word_set hn2 hj2 rfl]

def o1 (x : Hd) : Opn := ⟨1, 0, 0, 0, 0, x⟩
theorem node_new (g : Gph) (x : Hd) : node (addG g x) g.1.length = (x, List.replicate x.2.1.toNat 0) := by
  unfold node addG
  simp [List.getD_eq_getElem?_getD]
theorem node_at (g : Gph) (t : Nat) (x : Int) (n : Nat) : node (pushG g t x) n = node g n := rfl
theorem word_zero (g : Gph) (x : Hd) (t : Nat) (y : Int) (o : Opn) : word (pushG (addG g x) t y) g.1.length o = 0 := by
  unfold word
  rw [node_at, node_new]
  exact getD_replicate _ _
/-- What is made: of no other handle; its fields are 0, its pointers lead to nothing. -/
theorem fresh {g : Gph} {th hh i : Int} {x : Hd} (hr : rightG g = true) (hp : posG g) (hx : 0 ≤ x.2.2) (h0 : (doA g th (o1 x)).1 = 0) : (0 ≤ th ∧ th < g.2.length) ∧
    rightG (doG g th (o1 x)) = true ∧ posG (doG g th (o1 x)) ∧ (doG g th (o1 x)).1.length = g.1.length + 1 ∧ (doG g th (o1 x)).2.length = g.2.length ∧
    (doA (doG g th (o1 x)) th (o8 hh (rowOf g th.toNat).length)).2.2 = decide (hh = (rowOf g th.toNat).length) ∧
    (doA (doG g th (o1 x)) th (o2 (rowOf g th.toNat).length i)).2.1 = 0 ∧
    ((doA (doG g th (o1 x)) th (o3 (rowOf g th.toNat).length i)).1 ≠ 0 ∨
      ((doA (doG g th (o1 x)) th (o3 (rowOf g th.toNat).length i)).1 = 0 ∧ (doG (doG g th (o1 x)) th (o3 (rowOf g th.toNat).length i)).2.length = g.2.length ∧
        ∃ r, rowOf (doG (doG g th (o1 x)) th (o3 (rowOf g th.toNat).length i)) th.toNat = r ++ [0] ∧ r.length = (rowOf g th.toNat).length + 1)) := by
  have hd := do_good (th := th) (o := o1 x) hr hp (Int.le_refl 0) hx
  obtain ⟨ht, y, hy, hg, _⟩ := do_ok (o := o1 x) hr hp (Int.le_refl 0) hx h0
  have ht' : th.toNat < g.2.length := by omega
  have hy' : actAlloc g th.toNat (o1 x) = .ok y := hy
  have e : doG g th (o1 x) = pushG (addG g x) th.toNat ((g.1.length : Int) + 1) := by
    rw [hg]
    unfold actAlloc at hy'
    split at hy'
    · cases hy'
    · split at hy'
      · cases hy'
      · cases hy'; rfl
  have hta : th.toNat < (addG g x).2.length := ht'
  have hl : 0 ≤ th ∧ th < (pushG (addG g x) th.toNat ((g.1.length : Int) + 1)).2.length := by rw [len_push]; exact ht
  have hn1 : (pushG (addG g x) th.toNat ((g.1.length : Int) + 1)).1.length = g.1.length + 1 := by simp [pushG, addG]
  have hn2 : (pushG (addG g x) th.toNat ((g.1.length : Int) + 1)).2.length = g.2.length := len_push _ _ _
  have hnew : handle (pushG (addG g x) th.toNat ((g.1.length : Int) + 1)) th.toNat (rowOf g th.toNat).length = some ((g.1.length : Int) + 1) := handle_push_new hta _
  have hold : ∀ h : Int, handle (pushG (addG g x) th.toNat ((g.1.length : Int) + 1)) th.toNat h = if h = (rowOf g th.toNat).length then some ((g.1.length : Int) + 1) else handle g th.toNat h := fun h => handle_push_or hta _ h
  have hw : ∀ o, word (pushG (addG g x) th.toNat ((g.1.length : Int) + 1)) g.1.length o = 0 := fun o => word_zero g x _ _ o
  have hrow : rowOf (pushG (addG g x) th.toNat ((g.1.length : Int) + 1)) th.toNat = rowOf g th.toNat ++ [(g.1.length : Int) + 1] := row_push hta _
  rw [e] at hd ⊢
  have hf : ∀ (o : Opn) p n, o.h = (rowOf g th.toNat).length → field (pushG (addG g x) th.toNat ((g.1.length : Int) + 1)) th.toNat o p = .ok n → n = g.1.length := fun o p n ho hf => by
    unfold field at hf
    rw [ho, hnew] at hf
    simp only [] at hf
    rw [if_neg (by omega)] at hf
    split at hf
    · cases hf
    · split at hf
      · cases hf
      · cases hf; omega
  refine ⟨ht, hd.1, hd.2.1, hn1, hn2, ?_, ?_, ?_⟩
  · unfold doA; rw [res_in hl]
    show (resA (actSame _ _ _)).2.2 = _
    unfold actSame
    rw [show (o8 hh (rowOf g th.toNat).length).h = hh from rfl, show (o8 hh (rowOf g th.toNat).length).k = (rowOf g th.toNat).length from rfl, hnew, hold]
    by_cases hc : hh = (rowOf g th.toNat).length
    · rw [if_pos hc]; simp [resA, hc]
    · rw [if_neg hc]
      cases hq : handle g th.toNat hh with
      | none => simp [resA, hc]
      | some z =>
        have := right_handle hr ht' hq
        have hz : ¬ z = (g.1.length : Int) + 1 := by omega
        simp [resA, hc, hz]
  · unfold doA; rw [res_in hl]
    show (resA (actGet _ _ _)).2.1 = _
    unfold actGet
    cases hq : field (pushG (addG g x) th.toNat ((g.1.length : Int) + 1)) th.toNat (o2 (rowOf g th.toNat).length i) false with
    | error e => rfl
    | ok n => obtain rfl := hf _ _ _ rfl hq; exact hw _
  · unfold doA doG; rw [res_in hl]
    rw [show act (pushG (addG g x) th.toNat ((g.1.length : Int) + 1)) th.toNat (o3 (rowOf g th.toNat).length i) = actFollow (pushG (addG g x) th.toNat ((g.1.length : Int) + 1)) th.toNat (o3 (rowOf g th.toNat).length i) from rfl]
    unfold actFollow
    cases hq : field (pushG (addG g x) th.toNat ((g.1.length : Int) + 1)) th.toNat (o3 (rowOf g th.toNat).length i) true with
    | error e => left; have := field_err hq; show e ≠ 0; omega
    | ok n =>
      obtain rfl := hf _ _ _ rfl hq
      simp only [hw]
      unfold pushed
      split
      · right
        refine ⟨rfl, by show (pushG _ _ _).2.length = _; rw [len_push, hn2], rowOf g th.toNat ++ [(g.1.length : Int) + 1], ?_, by simp⟩
        show rowOf (pushG _ _ _) _ = _
        rw [row_push (by rw [hn2]; exact ht'), hrow]
      · left; show (4 : Int) ≠ 0; decide
end Go.Proofs.Ytjhmlbhfnogdiaa.Pr
