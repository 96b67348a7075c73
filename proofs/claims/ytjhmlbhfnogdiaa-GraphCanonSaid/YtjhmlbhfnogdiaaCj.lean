/- What is done on graphs that are alike but for their handles answers alike, and leaves them alike. Plain lists, no program in sight. -/
import Derived.Test.YtjhmlbhfnogdiaaCi
import Derived.Test.YtjhmlbhfnogdiaaPq
namespace Go.Proofs.Ytjhmlbhfnogdiaa.Cj
open Go.Proofs.Ytjhmlbhfnogdiaa Go.Proofs.Ytjhmlbhfnogdiaa.Hd Go.Proofs.Ytjhmlbhfnogdiaa.Gr Go.Proofs.Ytjhmlbhfnogdiaa.Hg Go.Proofs.Ytjhmlbhfnogdiaa.Ps Go.Proofs.Ytjhmlbhfnogdiaa.Rr Go.Proofs.Ytjhmlbhfnogdiaa.Wk Go.Proofs.Ytjhmlbhfnogdiaa.Wp Go.Proofs.Ytjhmlbhfnogdiaa.Wa Go.Proofs.Ytjhmlbhfnogdiaa.Wc Go.Proofs.Ytjhmlbhfnogdiaa.Wf Go.Proofs.Ytjhmlbhfnogdiaa.Pl Go.Proofs.Ytjhmlbhfnogdiaa.Vs Go.Proofs.Ytjhmlbhfnogdiaa.Co Go.Proofs.Ytjhmlbhfnogdiaa.Ci
set_option linter.unusedVariables false

/-- Two results, alike. -/
def SimR (r r' : Res) : Prop :=
  match r, r' with
  | .error e, .error e' => e = e'
  | .ok x, .ok y => x.2 = y.2 ∧ ∃ R ρ, Iso R ρ x.1 y.1
  | _, _ => False
section
variable {R : Int → Prop} {ρ : Int → Int} {g h : Gph}
theorem rows_len (hI : Iso R ρ g h) : h.2.length = g.2.length := by rw [hI.rows]; simp
theorem row_at (hI : Iso R ρ g h) (th : Nat) : rowOf h th = (rowOf g th).map ρ := by
  unfold rowOf
  rw [hI.rows, List.getD_eq_getElem?_getD, List.getD_eq_getElem?_getD, List.getElem?_map]
  cases g.2[th]? <;> rfl
theorem row_R (hI : Iso R ρ g h) {th : Nat} : ∀ x ∈ rowOf g th, R x := fun x hx => by
  unfold rowOf at hx
  rw [List.getD_eq_getElem?_getD] at hx
  cases hr : g.2[th]? with
  | none => rw [hr] at hx; simp at hx
  | some r => rw [hr] at hx; exact hI.rin r (List.mem_of_getElem? hr) x hx
theorem handle_sim (hI : Iso R ρ g h) (th : Nat) (x : Int) : handle h th x = (handle g th x).map ρ ∧ ∀ y, handle g th x = some y → R y := by
  constructor
  · unfold handle
    rw [row_at hI, List.length_map]
    split
    · rename_i hc
      have hl : x.toNat < (rowOf g th).length := by omega
      simp [List.getD_eq_getElem?_getD, hl]
    · rfl
  · intro y hy
    obtain ⟨h0, h1, h2⟩ := handle_some hy
    have hl : x.toNat < (rowOf g th).length := by omega
    refine row_R hI (th := th) y ?_
    rw [← h2]
    simp [List.getD_eq_getElem?_getD, hl]
theorem field_sim (hI : Iso R ρ g h) (th : Nat) (o : Opn) (p : Bool) :
    (∃ e, field g th o p = .error e ∧ field h th o p = .error e) ∨
    ∃ n m : Nat, field g th o p = .ok n ∧ field h th o p = .ok m ∧ R ((n : Int) + 1) ∧ ρ ((n : Int) + 1) = (m : Int) + 1 ∧ SameN R ρ (node g n) (node h m) ∧ 0 ≤ o.i ∧ o.i < (node g n).1.2.1 ∧ bit (node g n).1.2.2 o.i = p := by
  obtain ⟨h1, h2⟩ := handle_sim hI th o.h
  unfold field
  rw [h1]
  cases hh : handle g th o.h with
  | none => exact .inl ⟨5, rfl, rfl⟩
  | some x =>
    have hx := h2 x hh
    by_cases h0 : x = 0
    · subst h0
      exact .inl ⟨6, rfl, by simp [hI.z.2]⟩
    · obtain ⟨p1, p2⟩ := hI.pos hx h0
      have hn := hI.nd x hx h0
      have e0 : ¬ ρ x = 0 := by omega
      simp only [Option.map_some, if_neg h0, if_neg e0]
      have hd : (node h (ρ x - 1).toNat).1 = (node g (x - 1).toNat).1 := hn.hd
      rw [hd]
      by_cases c1 : o.i < 0 ∨ (node g (x - 1).toNat).1.2.1 ≤ o.i
      · exact .inl ⟨7, by rw [if_pos c1], by rw [if_pos c1]⟩
      · rw [if_neg c1, if_neg c1]
        by_cases c2 : bit (node g (x - 1).toNat).1.2.2 o.i ≠ p
        · exact .inl ⟨8, by rw [if_pos c2], by rw [if_pos c2]⟩
        · rw [if_neg c2, if_neg c2]
          have ex : (((x - 1).toNat : Nat) : Int) + 1 = x := by omega
          refine .inr ⟨_, _, rfl, rfl, by rw [ex]; exact hx, by rw [ex]; omega, hn, by omega, by omega, Decidable.not_not.1 c2⟩

/-- A row is another. -/
theorem sim_row (hI : Iso R ρ g h) (th : Nat) (r : List Int) (hr : ∀ x ∈ r, R x) : Iso R ρ (g.1, g.2.set th r) (h.1, h.2.set th (r.map ρ)) := by
  refine ⟨hI.z, hI.rng, hI.rng', hI.inj, ?_, fun s hs x hx => ?_, hI.nd⟩
  · show h.2.set th (r.map ρ) = (g.2.set th r).map _
    rw [hI.rows, List.map_set]
  · rcases List.mem_or_eq_of_mem_set hs with hs | rfl
    · exact hI.rin s hs x hx
    · exact hr x hx
theorem sim_pushG (hI : Iso R ρ g h) (th : Nat) (x : Int) (hx : R x) : Iso R ρ (pushG g th x) (pushG h th (ρ x)) := by
  have := sim_row hI th (rowOf g th ++ [x]) (fun y hy => by
    rcases List.mem_append.1 hy with hy | hy
    · exact row_R hI y hy
    · obtain rfl : y = x := by simpa using hy
      exact hx)
  rw [List.map_append, ← row_at hI] at this
  exact this
theorem sim_pushed (hI : Iso R ρ g h) (th : Nat) (x : Int) (hx : R x) : SimR (pushed g th x) (pushed h th (ρ x)) := by
  unfold pushed
  rw [row_at hI, List.length_map]
  split
  · exact ⟨rfl, R, ρ, sim_pushG hI th x hx⟩
  · rfl
theorem node_set (g : Gph) (n i : Nat) (v : Int) (k : Nat) (hn : n < g.1.length) : node (setG g n i v) k = if k = n then ((node g n).1, (node g n).2.set i v) else node g k := by
  have e0 : node (setG g n i v) k = (g.1.set n ((node g n).1, (node g n).2.set i v)).getD k nd0 := rfl
  rw [e0]
  by_cases e : k = n
  · subst e; rw [if_pos rfl]; simp [List.getD_eq_getElem?_getD, hn]
  · rw [if_neg e, List.getD_eq_getElem?_getD, List.getElem?_set_ne (fun h => e h.symm), ← List.getD_eq_getElem?_getD]; rfl
/-- A field is another word. -/
theorem sim_set (hI : Iso R ρ g h) {n m : Nat} (hn : R ((n : Int) + 1)) (hm : ρ ((n : Int) + 1) = (m : Int) + 1) (i : Nat) (v v' : Int) (hb : if bit (node g n).1.2.2 (i : Int) = true then R v ∧ v' = ρ v else v' = v) : Iso R ρ (setG g n i v) (setG h m i v') := by
  have hnr := hI.rng _ hn
  have hmr := hI.rng' _ hn
  rw [hm] at hmr
  have hnl : n < g.1.length := by omega
  have hml : m < h.1.length := by omega
  refine ⟨hI.z, fun x hx => ?_, fun x hx => ?_, hI.inj, hI.rows, hI.rin, fun x hx h0 => ?_⟩
  · have := hI.rng x hx; simpa [setG] using this
  · have := hI.rng' x hx; simpa [setG] using this
  · have hs := hI.nd x hx h0
    obtain ⟨p1, p2⟩ := hI.pos hx h0
    unfold nodeAt at hs ⊢
    rw [node_set _ _ _ _ _ hnl, node_set _ _ _ _ _ hml]
    by_cases e : x = (n : Int) + 1
    · subst e
      have e1 : ((n : Int) + 1 - 1).toNat = n := by omega
      have e2 : (ρ ((n : Int) + 1) - 1).toNat = m := by rw [hm]; omega
      rw [e1, e2] at hs
      rw [e1, e2, if_pos rfl, if_pos rfl]
      have get : ∀ (f : List Int) (w : Int) (j : Nat), (f.set i w).getD j 0 = if j = i ∧ i < f.length then w else f.getD j 0 := fun f w j => by
        by_cases hl : i < f.length
        · rw [getD_set _ _ _ _ hl]
          by_cases ej : j = i
          · rw [if_pos ej, if_pos ⟨ej, hl⟩]
          · rw [if_neg ej, if_neg (fun h => ej h.1)]
        · rw [List.set_eq_of_length_le (by omega), if_neg (fun h => hl h.2)]
      refine ⟨hs.hd, by simpa using hs.len, fun j hj hbj => ?_, fun j hbj => ?_⟩
      · show R (((node g n).2.set i v).getD j 0) ∧ ((node h m).2.set i v').getD j 0 = ρ (((node g n).2.set i v).getD j 0)
        rw [get, get, hs.len]
        by_cases c : j = i ∧ i < (node g n).2.length
        · rw [if_pos c, if_pos c]
          have hbj : bit (node g n).1.2.2 (j : Int) = true := hbj
          rw [c.1] at hbj
          rw [if_pos hbj] at hb
          exact hb
        · rw [if_neg c, if_neg c]
          exact hs.ptr j hj hbj
      · show ((node h m).2.set i v').getD j 0 = ((node g n).2.set i v).getD j 0
        rw [get, get, hs.len]
        by_cases c : j = i ∧ i < (node g n).2.length
        · rw [if_pos c, if_pos c]
          have hbj : bit (node g n).1.2.2 (j : Int) = false := hbj
          rw [c.1] at hbj
          rw [hbj, if_neg (by decide)] at hb
          exact hb
        · rw [if_neg c, if_neg c]
          exact hs.sca j hbj
    · have e1 : ¬ (x - 1).toNat = n := by omega
      have e2 : ¬ (ρ x - 1).toNat = m := fun h => e (hI.inj x _ hx hn (by rw [hm]; omega))
      rw [if_neg e1, if_neg e2]
      exact hs
theorem node_add (g : Gph) (x : Hd) (k : Nat) : node (addG g x) k = if k < g.1.length then node g k else if k = g.1.length then (x, List.replicate x.2.1.toNat 0) else nd0 := by
  unfold node addG
  by_cases h : k < g.1.length
  · rw [if_pos h, List.getD_eq_getElem?_getD, List.getD_eq_getElem?_getD, List.getElem?_append_left h]
  · rw [if_neg h, List.getD_eq_getElem?_getD, List.getElem?_append_right (by omega)]
    by_cases e : k = g.1.length
    · subst e; simp
    · rw [if_neg e, List.getElem?_eq_none (by simp; omega)]; rfl
/-- A node more. -/
theorem sim_add (hI : Iso R ρ g h) (x : Hd) : Iso (fun y => R y ∨ y = (g.1.length : Int) + 1) (fun y => if y = (g.1.length : Int) + 1 then (h.1.length : Int) + 1 else ρ y) (addG g x) (addG h x) := by
  have old : ∀ y, R y → ¬ y = (g.1.length : Int) + 1 := fun y hy e => by have := hI.rng y hy; omega
  have lg : (addG g x).1.length = g.1.length + 1 := by simp [addG]
  have lh : (addG h x).1.length = h.1.length + 1 := by simp [addG]
  refine ⟨⟨.inl hI.z.1, by rw [if_neg (old 0 hI.z.1)]; exact hI.z.2⟩, fun y hy => ?_, fun y hy => ?_, fun y z hy hz e => ?_, ?_, fun r hr y hy => .inl (hI.rin r hr y hy), fun y hy h0 => ?_⟩
  · rw [lg]
    rcases hy with hy | rfl
    · have := hI.rng y hy; omega
    · omega
  · rw [lh]
    rcases hy with hy | rfl
    · rw [if_neg (old y hy)]
      have := hI.rng' y hy; omega
    · rw [if_pos rfl]; omega
  · rcases hy with hy | rfl
    · rw [if_neg (old y hy)] at e
      have h1 := hI.rng' y hy
      rcases hz with hz | rfl
      · rw [if_neg (old z hz)] at e; exact hI.inj y z hy hz e
      · rw [if_pos rfl] at e; omega
    · rw [if_pos rfl] at e
      rcases hz with hz | rfl
      · rw [if_neg (old z hz)] at e
        have h1 := hI.rng' z hz; omega
      · rfl
  · show h.2 = g.2.map _
    rw [hI.rows]
    refine List.map_congr_left fun r hr => List.map_congr_left fun y hy => ?_
    rw [if_neg (old y (hI.rin r hr y hy))]
  · unfold nodeAt
    rw [node_add, node_add]
    by_cases e : y = (g.1.length : Int) + 1
    · subst e
      rw [if_pos rfl, show ((g.1.length : Int) + 1 - 1).toNat = g.1.length by omega, show ((h.1.length : Int) + 1 - 1).toNat = h.1.length by omega, if_neg (Nat.lt_irrefl _), if_neg (Nat.lt_irrefl _), if_pos rfl, if_pos rfl]
      refine ⟨rfl, rfl, fun i hi hb => ?_, fun i hb => rfl⟩
      show (R ((List.replicate x.2.1.toNat 0).getD i 0) ∨ _) ∧ (List.replicate x.2.1.toNat 0).getD i 0 = _
      rw [getD_replicate, if_neg (old 0 hI.z.1), hI.z.2]
      exact ⟨.inl hI.z.1, rfl⟩
    · have hy := hy.resolve_right e
      obtain ⟨p1, p2⟩ := hI.pos hy h0
      have h1 := hI.rng y hy
      have h2 := hI.rng' y hy
      have hs := hI.nd y hy h0
      unfold nodeAt at hs
      rw [if_neg e, if_pos (by omega), if_pos (by omega)]
      refine ⟨hs.hd, hs.len, fun i hi hb => ?_, hs.sca⟩
      obtain ⟨a1, a2⟩ := hs.ptr i hi hb
      exact ⟨.inl a1, by rw [if_neg (old _ a1)]; exact a2⟩

theorem sim_act (hI : Iso R ρ g h) (th : Nat) (o : Opn) : SimR (act g th o) (act h th o) := by
  have hself : ∀ v b, SimR (.ok (g, v, b)) (.ok (h, v, b)) := fun v b => ⟨rfl, R, ρ, hI⟩
  have word_eq : ∀ n m : Nat, word h m o = (node h m).2.getD o.i.toNat 0 := fun n m => rfl
  unfold act
  split
  · unfold actAlloc
    split
    · rfl
    · rw [row_at hI, List.length_map]
      split
      · rfl
      · have h1 := sim_pushG (sim_add hI o.new) th ((g.1.length : Int) + 1) (.inr rfl)
        rw [if_pos rfl] at h1
        exact ⟨rfl, _, _, h1⟩
  split
  · unfold actGet
    rcases field_sim hI th o false with ⟨e, e1, e2⟩ | ⟨n, m, e1, e2, hR, hρ, hs, i0, i1, hb⟩
    · rw [e1, e2]; rfl
    · rw [e1, e2]
      have hb' : bit (node g n).1.2.2 (o.i.toNat : Int) = false := by rw [show ((o.i.toNat : Nat) : Int) = o.i by omega]; exact hb
      have : word h m o = word g n o := hs.sca o.i.toNat hb'
      show SimR (.ok (g, word g n o, false)) (.ok (h, word h m o, false))
      rw [this]; exact hself _ _
  split
  · unfold actFollow
    rcases field_sim hI th o true with ⟨e, e1, e2⟩ | ⟨n, m, e1, e2, hR, hρ, hs, i0, i1, hb⟩
    · rw [e1, e2]; rfl
    · rw [e1, e2]
      have hb' : bit (node g n).1.2.2 (o.i.toNat : Int) = true := by rw [show ((o.i.toNat : Nat) : Int) = o.i by omega]; exact hb
      obtain ⟨a1, a2⟩ := hs.ptr o.i.toNat (by omega) hb'
      show SimR (pushed g th (word g n o)) (pushed h th (word h m o))
      have : word h m o = ρ (word g n o) := a2
      rw [this]
      exact sim_pushed hI th _ a1
  split
  · unfold actWrite
    rcases field_sim hI th o false with ⟨e, e1, e2⟩ | ⟨n, m, e1, e2, hR, hρ, hs, i0, i1, hb⟩
    · rw [e1, e2]; rfl
    · rw [e1, e2]
      have hb' : bit (node g n).1.2.2 (o.i.toNat : Int) = false := by rw [show ((o.i.toNat : Nat) : Int) = o.i by omega]; exact hb
      have : word h m o = word g n o := hs.sca o.i.toNat hb'
      refine ⟨rfl, R, ρ, ?_⟩
      show Iso R ρ (setG g n o.i.toNat (wval o.kind (word g n o) o.v)) (setG h m o.i.toNat (wval o.kind (word h m o) o.v))
      rw [this]
      exact sim_set hI hR hρ _ _ _ (by rw [hb', if_neg (by decide)])
  split
  · unfold actLink
    rcases field_sim hI th o true with ⟨e, e1, e2⟩ | ⟨n, m, e1, e2, hR, hρ, hs, i0, i1, hb⟩
    · rw [e1, e2]; rfl
    · rw [e1, e2]
      have hb' : bit (node g n).1.2.2 (o.i.toNat : Int) = true := by rw [show ((o.i.toNat : Nat) : Int) = o.i by omega]; exact hb
      obtain ⟨k1, k2⟩ := handle_sim hI th o.k
      dsimp only
      rw [k1]
      cases hk : handle g th o.k with
      | none => rfl
      | some x => exact ⟨rfl, R, ρ, sim_set hI hR hρ _ _ _ (by rw [if_pos hb']; exact ⟨k2 x hk, rfl⟩)⟩
  split
  · unfold actSame
    obtain ⟨k1, k2⟩ := handle_sim hI th o.h
    obtain ⟨l1, l2⟩ := handle_sim hI th o.k
    rw [k1]
    cases hk : handle g th o.h with
    | none => rfl
    | some x =>
      dsimp only [Option.map_some]
      rw [l1]
      cases hl : handle g th o.k with
      | none => rfl
      | some y =>
        refine ⟨?_, R, ρ, hI⟩
        show ((0 : Int), decide (x = y)) = (0, decide (ρ x = ρ y))
        by_cases e : x = y
        · subst e; simp
        · have : ¬ ρ x = ρ y := fun h => e (hI.inj x y (k2 x hk) (l2 y hl) h)
          simp [e, this]
  split
  · unfold actPush
    obtain ⟨k1, k2⟩ := handle_sim hI th o.h
    rw [k1]
    cases hk : handle g th o.h with
    | none => rfl
    | some x => exact sim_pushed hI th x (k2 x hk)
  split
  · unfold actPop
    rw [row_at hI, List.length_map]
    split
    · rfl
    · refine ⟨rfl, R, ρ, ?_⟩
      have := sim_row hI th (rowOf g th).dropLast (fun x hx => row_R hI x (List.dropLast_subset _ hx))
      rw [List.map_dropLast, ← row_at hI] at this
      exact this
  split
  · exact hself _ _
  · rfl
theorem sim_do (hI : Iso R ρ g h) (th : Int) (o : Opn) : doA h th o = doA g th o ∧ ∃ R' ρ', Iso R' ρ' (doG g th o) (doG h th o) := by
  have hs : SimR (res g th o) (res h th o) := by
    unfold res
    rw [rows_len hI]
    split
    · exact sim_act hI _ _
    · rfl
  unfold doA doG
  cases hr : res g th o with
  | error e =>
    cases hr' : res h th o with
    | error e' =>
      rw [hr, hr'] at hs
      obtain rfl : e = e' := hs
      exact ⟨rfl, R, ρ, hI⟩
    | ok y => rw [hr, hr'] at hs; exact hs.elim
  | ok x =>
    cases hr' : res h th o with
    | error e' => rw [hr, hr'] at hs; exact hs.elim
    | ok y =>
      rw [hr, hr'] at hs
      exact ⟨by show ((0 : Int), y.2.1, y.2.2) = (0, x.2.1, x.2.2); rw [hs.1], hs.2⟩
end

/-- What is done on what is reached, in order, answers the same, and comes to the same. -/
theorem canon_do {g : Gph} (hr : rightG g = true) (hp : posG g) (th : Int) (o : Opn) (hv : 0 ≤ o.v) (hm : 0 ≤ o.new.2.2) :
    doA (canonG g) th o = doA g th o ∧ canonG (doG (canonG g) th o) = canonG (doG g th o) := by
  obtain ⟨h1, R', ρ', hI⟩ := sim_do (canon_iso hr hp) th o
  obtain ⟨c1, c2⟩ := canon_right hr hp
  obtain ⟨d1, d2, _⟩ := do_good (th := th) (o := o) hr hp hv hm
  obtain ⟨e1, e2, _⟩ := do_good (th := th) (o := o) c1 c2 hv hm
  exact ⟨h1, hI.canon d1 d2 e1 e2⟩
end Go.Proofs.Ytjhmlbhfnogdiaa.Cj
