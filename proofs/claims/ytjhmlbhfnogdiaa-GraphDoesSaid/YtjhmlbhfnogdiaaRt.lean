/- A region that draws its order, whose last store hits a cell that the region loads: a condition on the world that holds up to the operations of a set T alone, each of which waits for the loads. No function of the program in sight. -/
import Derived.Test.YtjhmlbhfnogdiaaEx
import Derived.Deep.RegionHeld3
namespace Go.Proofs.Ytjhmlbhfnogdiaa.Rt
open Go.RowKit
set_option linter.unusedVariables false

/-- Number j waits for number i, directly or through others. -/
def reachB (md : Region.Mode) (ops : Array Oper) (i : Nat) : Nat → Nat → Bool
  | 0, _ => false
  | f + 1, j => match ops[j]? with
    | some oj => oj.after.any (fun e => Region.binds md e && e.on == i) || oj.after.any (fun e => Region.binds md e && reachB md ops i f e.on)
    | none => false
/-- Each of T waits for number i. -/
def waitB (md : Region.Mode) (ops : Array Oper) (T : Nat → Bool) (i : Nat) : Bool :=
  (List.range ops.size).all fun j => !T j || reachB md ops i ops.size j
/-- What has come up had come up all that it waits for. -/
def closedB (md : Region.Mode) (ops : Array Oper) (listed : Array Bool) : Bool :=
  (List.range ops.size).all fun j => !listed.getD j false || match ops[j]? with
    | some oj => oj.after.all fun e => !Region.binds md e || listed.getD e.on false
    | none => true
def Closed (md : Region.Mode) (ops : Array Oper) (listed : Array Bool) : Prop := ∀ j oj, ops[j]? = some oj → listed.getD j false = true → ∀ e ∈ oj.after, Region.binds md e = true → listed.getD e.on false = true

section
variable {P : Program} {ops : Array Oper} {Q : Exit → Act → World → Prop} {md : Region.Mode} {S : World → Prop} {T : Nat → Bool}

theorem closed_spec {listed : Array Bool} (h : closedB md ops listed = true) : Closed md ops listed := fun j oj hj hl e he hb => by
  have h1 := List.all_eq_true.1 h j (List.mem_range.2 (Array.getElem?_eq_some_iff.1 hj).1)
  simp only [hl, hj, Bool.not_true, Bool.false_or] at h1
  have h2 := Array.all_eq_true_iff_forall_mem.1 h1 e he
  simpa [hb] using h2
theorem Closed.set {listed : Array Bool} {i : Nat} (h : Closed md ops listed) (hi : i ∈ Region.ready md ops listed) : Closed md ops (listed.setIfInBounds i true) := fun j oj hj hl e he hb => by
  obtain ⟨_, oi, hoi, hall⟩ := mem_ready.1 hi
  by_cases hij : i = j
  · subst hij
    have : oj = oi := Option.some.inj (hj.symm.trans hoi)
    subst this
    exact getD_set_true (hall e he hb)
  · rw [getD_set_ne false hij] at hl
    exact getD_set_true (h j oj hj hl e he hb)
theorem reach_listed {listed : Array Bool} {i : Nat} (h : Closed md ops listed) : ∀ (f j : Nat), (∀ oj, ops[j]? = some oj → ∀ e ∈ oj.after, Region.binds md e = true → listed.getD e.on false = true) → reachB md ops i f j = true → listed.getD i false = true := by
  intro f
  induction f with
  | zero => intro j _ hr; simp [reachB] at hr
  | succ f ih =>
    intro j hp hr
    unfold reachB at hr
    split at hr
    · rename_i oj hj
      rw [Bool.or_eq_true] at hr
      rcases hr with hr | hr
      · obtain ⟨e, he, hb⟩ := Array.any_eq_true'.1 hr
        simp only [Bool.and_eq_true, beq_iff_eq] at hb
        rw [← hb.2]
        exact hp oj hj e he hb.1
      · obtain ⟨e, he, hb⟩ := Array.any_eq_true'.1 hr
        simp only [Bool.and_eq_true] at hb
        exact ih e.on (fun ok hk e' he' hb' => h e.on ok hk (hp oj hj e he hb.1) e' he' hb') hb.2
    · cases hr
theorem wait_not {listed : Array Bool} {i j : Nat} (h : waitB md ops T i = true) (hc : Closed md ops listed) (hi : i ∈ Region.ready md ops listed) (hj : j ∈ Region.ready md ops listed) : T j = false := by
  cases hT : T j with
  | false => rfl
  | true =>
    obtain ⟨_, oj, hoj, hall⟩ := mem_ready.1 hj
    have h1 := List.all_eq_true.1 h j (List.mem_range.2 (Array.getElem?_eq_some_iff.1 hoj).1)
    simp only [hT, Bool.not_true, Bool.false_or] at h1
    have h2 := reach_listed hc _ j (fun ok hk e he hb => by
      have : ok = oj := Option.some.inj (hk.symm.trans hoj)
      subst this
      exact hall e he hb) h1
    have h0 := (mem_ready.1 hi).1
    rcases Nat.lt_or_ge i listed.size with h' | h'
    · simp [h'] at h0 h2; rw [h0] at h2; cases h2
    · simp [Array.getElem?_eq_none h'] at h2

/-- Whatever order is picked from here on, and S holds behind each operation that isn't of T. -/
def wpT (P : Program) (md : Region.Mode) (ops : Array Oper) (Q : Exit → Act → World → Prop) (S : World → Prop) (T : Nat → Bool) : Nat → Array Bool → Act → World → Prop
  | 0, listed, a, w => Region.ready md ops listed = [] ∧ Q .normal a w
  | fuel + 1, listed, a, w =>
    (Region.ready md ops listed = [] → Q .normal a w) ∧
    ∀ i ∈ Region.ready md ops listed, wpOp P ops Q i (fun a' w' => (T i = true ∨ (S w → S w')) ∧ wpT P md ops Q S T fuel (listed.setIfInBounds i true) a' w') a w

theorem wpAny_of_T : ∀ (fuel : Nat) (listed : Array Bool) (a : Act) (w : World), wpT P md ops Q S T fuel listed a w → wpAny P md ops Q fuel listed a w
  | 0, _, _, _, h => h
  | fuel + 1, _, _, _, h => ⟨h.1, fun i hi => wpOp_mono (fun a' w' h' => wpAny_of_T fuel _ a' w' h'.2) (h.2 i hi)⟩

theorem first {i : Nat} {oi : Oper} {v : Value} (hi : ops[i]? = some oi) (hsel : ∀ (j : Nat) (o : Oper) cs b, ops[j]? = some o → o.op ≠ .select cs b)
    (hQ : ∀ c a w, Q (.panic c) (a.put oi.dst v) w → Q (.panic c) a w) (hT : waitB md ops T i = true) :
    ∀ (fuel : Nat) (listed : Array Bool) (a : Act) (w : World),
      (∀ j oj, ops[j]? = some oj → j ≠ i → listed.getD j true = false → (∀ e ∈ oj.after, Region.binds md e = true → e.on ≠ i) → oi.apart ops oj = true) →
      i ∈ Region.ready md ops listed → Closed md ops listed → YieldsIf P ops S oi v a → S w →
      wpT P md ops Q S T fuel (listed.setIfInBounds i true) (a.put oi.dst v) w → wpT P md ops Q S T (fuel + 1) listed a w := by
  intro fuel
  induction fuel with
  | zero =>
    intro listed a w _ hr hcl hy hS H
    refine ⟨fun h => (by rw [h] at hr; cases hr), fun j hj => ?_⟩
    by_cases hji : j = i
    · subst hji; exact hy.wpOp hi hS ⟨.inr id, H⟩
    · have := ready_mono hj hji
      rw [H.1] at this
      cases this
  | succ fuel ih =>
    intro listed a w hfree hr hcl hy hS H
    refine ⟨fun h => (by rw [h] at hr; cases hr), fun j hj => ?_⟩
    by_cases hji : j = i
    · subst hji; exact hy.wpOp hi hS ⟨.inr id, H⟩
    · have h1 := H.2 j (ready_mono hj hji)
      obtain ⟨hjun, oj, hoj, hall⟩ := mem_ready.1 hj
      have hnot : ∀ e ∈ oj.after, Region.binds md e = true → e.on ≠ i := fun e he hb heq => by
        have h1 := hall e he hb
        have h0 := (mem_ready.1 hr).1
        rw [heq] at h1
        rcases Nat.lt_or_ge i listed.size with h' | h'
        · simp [h'] at h0 h1; rw [h0] at h1; cases h1
        · simp [Array.getElem?_eq_none h'] at h1
      have hTj : T j = false := wait_not hT hcl hr hj
      have h2 := wpOp_putIf hoj (hfree j oj hoj hji hjun hnot) (fun cs b => hsel i oi cs b hi) (fun cs b => hsel j oj cs b hoj) hQ hy h1
      have hfree' : ∀ k ok, ops[k]? = some ok → k ≠ i → (listed.setIfInBounds j true).getD k true = false →
          (∀ e ∈ ok.after, Region.binds md e = true → e.on ≠ i) → oi.apart ops ok = true := fun k ok hk hki hun hno => by
        refine hfree k ok hk hki ?_ hno
        by_cases hjk : j = k
        · subst hjk; exact hjun
        · rw [getD_set_ne true hjk] at hun; exact hun
      refine wpOp_mono (fun a' w' h3 => ?_) h2
      have hS' : S w' := h3.2.1.elim (fun h => by rw [hTj] at h; cases h) (fun h => h hS)
      refine ⟨h3.2.1, ih (listed.setIfInBounds j true) a' w' hfree' (ready_mono hr (Ne.symm hji)) (hcl.set hj) h3.1 hS' ?_⟩
      rw [Array.setIfInBounds_comm _ _ hji]
      exact h3.2.2

theorem firstW {i : Nat} {oi : Oper} {v : Value} (hi : ops[i]? = some oi) (hsel : ∀ (j : Nat) (o : Oper) cs b, ops[j]? = some o → o.op ≠ .select cs b)
    (hQ : ∀ c a w, Q (.panic c) (a.put oi.dst v) w → Q (.panic c) a w) :
    ∀ (fuel : Nat) (listed : Array Bool) (a : Act) (w : World),
      (∀ j oj, ops[j]? = some oj → j ≠ i → listed.getD j true = false → (∀ e ∈ oj.after, Region.binds md e = true → e.on ≠ i) → oi.apart ops oj = true) →
      i ∈ Region.ready md ops listed → YieldsIf P ops (fun _ => True) oi v a →
      wpT P md ops Q S T fuel (listed.setIfInBounds i true) (a.put oi.dst v) w → wpT P md ops Q S T (fuel + 1) listed a w := by
  intro fuel
  induction fuel with
  | zero =>
    intro listed a w _ hr hy H
    refine ⟨fun h => (by rw [h] at hr; cases hr), fun j hj => ?_⟩
    by_cases hji : j = i
    · subst hji; exact hy.wpOp hi trivial ⟨.inr id, H⟩
    · have := ready_mono hj hji
      rw [H.1] at this
      cases this
  | succ fuel ih =>
    intro listed a w hfree hr hy H
    refine ⟨fun h => (by rw [h] at hr; cases hr), fun j hj => ?_⟩
    by_cases hji : j = i
    · subst hji; exact hy.wpOp hi trivial ⟨.inr id, H⟩
    · have h1 := H.2 j (ready_mono hj hji)
      obtain ⟨hjun, oj, hoj, hall⟩ := mem_ready.1 hj
      have hnot : ∀ e ∈ oj.after, Region.binds md e = true → e.on ≠ i := fun e he hb heq => by
        have h1 := hall e he hb
        have h0 := (mem_ready.1 hr).1
        rw [heq] at h1
        rcases Nat.lt_or_ge i listed.size with h' | h'
        · simp [h'] at h0 h1; rw [h0] at h1; cases h1
        · simp [Array.getElem?_eq_none h'] at h1
      have h2 := wpOp_putIf hoj (hfree j oj hoj hji hjun hnot) (fun cs b => hsel i oi cs b hi) (fun cs b => hsel j oj cs b hoj) hQ hy h1
      have hfree' : ∀ k ok, ops[k]? = some ok → k ≠ i → (listed.setIfInBounds j true).getD k true = false →
          (∀ e ∈ ok.after, Region.binds md e = true → e.on ≠ i) → oi.apart ops ok = true := fun k ok hk hki hun hno => by
        refine hfree k ok hk hki ?_ hno
        by_cases hjk : j = k
        · subst hjk; exact hjun
        · rw [getD_set_ne true hjk] at hun; exact hun
      refine wpOp_mono (fun a' w' h3 => ?_) h2
      refine ⟨h3.2.1, ih (listed.setIfInBounds j true) a' w' hfree' (ready_mono hr (Ne.symm hji)) h3.1 ?_⟩
      rw [Array.setIfInBounds_comm _ _ hji]
      exact h3.2.2

end

section
variable {P : Program} {l : List Oper} {Q : Exit → Act → World → Prop} {S : World → Prop} {T : Nat → Bool} {fuel : Nat} {listed : Array Bool} {a : Act} {w : World}

theorem begin_ {id : Nat} (S : World → Prop) (T : Nat → Bool) (hm : P.follows .mixedOrders = true) (h : wpT P .any l.toArray Q S T l.length (Array.replicate l.length false) a w.drew) : (Code.region id l.toArray true).wp P Q a w :=
  wp_region_any hm (by
    have := wpAny_of_T _ _ _ _ h
    simpa using this)

/-- Number i, which does nothing but yield a value wherever S holds, is taken first. -/
theorem take (i : Nat) {oi : Oper} {v : Value} (hi : l[i]? = some oi)
    (hb : (Region.noSelect l.toArray && Region.free .any l.toArray listed i && (Region.ready .any l.toArray listed).contains i && waitB .any l.toArray T i && closedB .any l.toArray listed) = true)
    (hQ : ∀ c a w, Q (.panic c) (a.put oi.dst v) w → Q (.panic c) a w) (hg : oi.guard = none) (hy : ∀ w, S w → (execOp a.eval oi).run P w = .ok (.value v) w) (hS : S w)
    (h : wpT P .any l.toArray Q S T fuel (listed.setIfInBounds i true) (a.put oi.dst v) w) : wpT P .any l.toArray Q S T (fuel + 1) listed a w := by
  simp only [Bool.and_eq_true] at hb
  have hi' : l.toArray[i]? = some oi := by simpa using hi
  refine first hi' (Region.noSelect_spec hb.1.1.1.1) hQ hb.1.2 fuel listed a w (Region.free_spec hi' hb.1.1.1.2) (by simpa using hb.1.1.2) (closed_spec hb.2) (.inl ⟨by simp [Region.wanted, hg], hy⟩) hS h

/-- Number i, which does nothing but yield a value in whatever world, is taken first. -/
theorem takeW (i : Nat) {oi : Oper} {v : Value} (hi : l[i]? = some oi)
    (hb : (Region.noSelect l.toArray && Region.free .any l.toArray listed i && (Region.ready .any l.toArray listed).contains i) = true)
    (hQ : ∀ c a w, Q (.panic c) (a.put oi.dst v) w → Q (.panic c) a w) (hg : oi.guard = none) (hy : ∀ w, (execOp a.eval oi).run P w = .ok (.value v) w)
    (h : wpT P .any l.toArray Q S T fuel (listed.setIfInBounds i true) (a.put oi.dst v) w) : wpT P .any l.toArray Q S T (fuel + 1) listed a w := by
  simp only [Bool.and_eq_true] at hb
  have hi' : l.toArray[i]? = some oi := by simpa using hi
  exact firstW hi' (Region.noSelect_spec hb.1.1) hQ fuel listed a w (Region.free_spec hi' hb.1.2) (by simpa using hb.2) (.inl ⟨by simp [Region.wanted, hg], fun w _ => hy w⟩) h

/-- Number i alone may come up. -/
theorem step (i : Nat) {oi : Oper} (hi : l[i]? = some oi) (hr : Region.ready .any l.toArray listed = [i]) (hg : oi.guard = none)
    (h : ∀ K : Act → World → Prop, (∀ a' w', ((T i = true ∨ (S w → S w')) ∧ wpT P .any l.toArray Q S T fuel (listed.setIfInBounds i true) a' w') → K a' w') → oi.wp P a w K Q) : wpT P .any l.toArray Q S T (fuel + 1) listed a w := by
  refine ⟨fun h0 => (by rw [hr] at h0; cases h0), ?_⟩
  rw [hr]
  intro j hj
  obtain rfl : j = i := by simpa using hj
  have hi' : l.toArray[j]? = some oi := by simpa using hi
  unfold wpOp
  simp only [hi', Region.wanted, hg, if_true]
  exact .inl (h _ fun _ _ h => h)

theorem done (hr : Region.ready .any l.toArray listed = []) (h : Q .normal a w) : wpT P .any l.toArray Q S T fuel listed a w := by
  cases fuel with
  | zero => exact ⟨hr, h⟩
  | succ n => exact ⟨fun _ => h, by rw [hr]; simp⟩
end
end Go.Proofs.Ytjhmlbhfnogdiaa.Rt
