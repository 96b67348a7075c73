/- What Canon comes to, as plain lists; and what it keeps in memory while it goes on. -/
import Derived.Test.YtjhmlbhfnogdiaaVc
import Derived.Test.YtjhmlbhfnogdiaaSh15
namespace Go.Proofs.Ytjhmlbhfnogdiaa.Co
open Go.RowKit Go.MapKept
open Go.Proofs.Ytjhmlbhfnogdiaa Go.Proofs.Ytjhmlbhfnogdiaa.Hd Go.Proofs.Ytjhmlbhfnogdiaa.Gr Go.Proofs.Ytjhmlbhfnogdiaa.Hg Go.Proofs.Ytjhmlbhfnogdiaa.Ps Go.Proofs.Ytjhmlbhfnogdiaa.Rr Go.Proofs.Ytjhmlbhfnogdiaa.Wk Go.Proofs.Ytjhmlbhfnogdiaa.Pl Go.Proofs.Ytjhmlbhfnogdiaa.Vs Go.Proofs.Ytjhmlbhfnogdiaa.Cp Go.Proofs.Ytjhmlbhfnogdiaa.Vf
set_option linter.unusedVariables false

/-- What is reached, in order, from some handles. -/
def od (g : Gph) (l : List Int) : List Int := l.foldl (dfs g (g.1.length + 1)) []
def ordG (g : Gph) : List Int := od g g.2.flatten
/-- A node whose pointers lead to the new handles. -/
def renF (out : List Int) (ps : List Int) (f : List Int) : List Int := ps.foldl (fun f p => f.set p.toNat (num out (f.getD p.toNat 0))) f
def renN (out : List Int) (n : Nd) : Nd := (n.1, renF out (ptrs n.1.2.1.toNat n.1.2.2) n.2)
def newN (g : Gph) (out : List Int) (h : Int) : Nd := renN out (node g (h - 1).toNat)
def canonG (g : Gph) : Gph := ((ordG g).map (newN g (ordG g)), g.2.map fun r => r.map (num (ordG g)))

theorem od_snoc (g : Gph) (l : List Int) (x : Int) : od g (l ++ [x]) = dfs g (g.1.length + 1) (od g l) x := by unfold od; rw [List.foldl_append]; rfl
theorem fold_in {g : Gph} (hr : rightG g = true) (hp : posG g) (k : Nat) : ∀ (l o : List Int), (∀ x ∈ l, 0 ≤ x ∧ x ≤ (g.1.length : Int)) → In g.1.length o → In g.1.length (l.foldl (dfs g k) o) ∧ o <+: l.foldl (dfs g k) o
  | [], o, _, ho => ⟨ho, List.prefix_refl _⟩
  | x :: r, o, hl, ho => by
    have hx := hl x (by simp)
    obtain ⟨a1, a2⟩ := dfs_in hr hp k o x ho hx.1 hx.2
    obtain ⟨b1, b2⟩ := fold_in hr hp k r (dfs g k o x) (fun y hy => hl y (by simp [hy])) a1
    exact ⟨b1, a2.trans b2⟩
theorem od_in {g : Gph} (hr : rightG g = true) (hp : posG g) {l : List Int} (hl : ∀ x ∈ l, 0 ≤ x ∧ x ≤ (g.1.length : Int)) : In g.1.length (od g l) := (fold_in hr hp _ l [] hl (in_nil _)).1
theorem od_pre {g : Gph} (hr : rightG g = true) (hp : posG g) {l l' : List Int} (hl : ∀ x ∈ l ++ l', 0 ≤ x ∧ x ≤ (g.1.length : Int)) : od g l <+: od g (l ++ l') := by
  unfold od
  rw [List.foldl_append]
  exact (fold_in hr hp _ l' _ (fun x hx => hl x (by simp [hx])) (od_in hr hp fun x hx => hl x (by simp [hx]))).2
theorem dfs_told {g : Gph} (hr : rightG g = true) (hp : posG g) (k : Nat) {out : List Int} {h : Int} (hi : In g.1.length out) (h0 : 0 ≤ h) (h1 : h ≤ g.1.length) : h = 0 ∨ h ∈ dfs g (k + 1) out h := by
  unfold dfs
  split
  · assumption
  · rename_i hc
    have hc' : h ≠ 0 ∧ h ∉ out := ⟨fun e => hc (.inl e), fun e => hc (.inr e)⟩
    have hs := in_snoc (h := h) hi (by omega) h1 hc'.2
    exact .inr ((fold_in hr hp k _ _ (kids_in hr hp (h := h) (by omega) h1) hs).2.subset (by simp))
theorem num_pre {N : Nat} {o O : List Int} (hp : o <+: O) (hO : In N O) {h : Int} (hh : h = 0 ∨ h ∈ o) : num o h = num O h := by
  rcases hh with rfl | hh
  · have ho : In N o := ⟨hO.1.sublist hp.sublist, fun x hx => hO.2 x (hp.subset hx)⟩
    rw [num_zero ho, num_zero hO]
  · rw [num_in hh, num_in (hp.subset hh)]
    obtain ⟨t, rfl⟩ := hp
    rw [List.idxOf_append, if_pos hh]

theorem row_in {g : Gph} (hr : rightG g = true) : ∀ x ∈ g.2.flatten, 0 ≤ x ∧ x ≤ (g.1.length : Int) := fun x hx => by
  obtain ⟨r, h1, h2⟩ := List.mem_flatten.1 hx
  exact (right_iff.1 hr).2 r h1 x h2

/-- The handles that were seen ahead of place i of row j. -/
def hs (g : Gph) (j i : Nat) : List Int := (g.2.take j).flatten ++ (rowOf g j).take i
theorem take_snoc {α : Type} (l : List α) (i : Nat) (hi : i < l.length) (d : α) : l.take (i + 1) = l.take i ++ [l.getD i d] := by
  rw [List.take_add_one, List.getElem?_eq_getElem hi]
  simp only [List.getD_eq_getElem?_getD, List.getElem?_eq_getElem hi, Option.toList_some, Option.getD_some]
theorem hs_zero (g : Gph) : hs g 0 0 = [] := by simp [hs]
theorem hs_step {g : Gph} {j i : Nat} (hi : i < (rowOf g j).length) : hs g j (i + 1) = hs g j i ++ [(rowOf g j).getD i 0] := by
  unfold hs
  rw [take_snoc _ i hi 0, List.append_assoc]
theorem hs_next {g : Gph} {j : Nat} (hj : j < g.2.length) : hs g j (rowOf g j).length = hs g (j + 1) 0 := by
  unfold hs
  rw [List.take_length, take_snoc g.2 j hj [], List.flatten_append, List.take_zero, List.append_nil]
  simp only [List.flatten_cons, List.flatten_nil, List.append_nil]
  rfl
theorem hs_end (g : Gph) : hs g g.2.length 0 = g.2.flatten := by unfold hs; simp
theorem hs_pre {g : Gph} {j i : Nat} (hj : j < g.2.length) : ∃ l, g.2.flatten = hs g j i ++ l := by
  refine ⟨(rowOf g j).drop i ++ (g.2.drop (j + 1)).flatten, ?_⟩
  unfold hs
  have h1 : g.2 = g.2.take j ++ (rowOf g j :: g.2.drop (j + 1)) := by
    have : rowOf g j = g.2[j] := by simp [rowOf, List.getD_eq_getElem?_getD, hj]
    rw [this, List.getElem_cons_drop, List.take_append_drop]
  rw [List.append_assoc, ← List.append_assoc ((rowOf g j).take i), List.take_append_drop]
  conv => lhs; rw [h1]
  simp

/-- The new rows, as far as they are made. -/
def rsAt (g : Gph) (O : List Int) (j i : Nat) : List (List Int) := (List.range g.2.length).map fun t => if t < j then (rowOf g t).map (num O) else if t = j then ((rowOf g t).take i).map (num O) else []
section
variable {g : Gph} {O : List Int} {j i : Nat}
theorem rsAt_len : (rsAt g O j i).length = g.2.length := by simp [rsAt]
theorem rsAt_get (hj : j < g.2.length) : (rsAt g O j i).getD j [] = ((rowOf g j).take i).map (num O) := by
  simp [rsAt, List.getD_eq_getElem?_getD, hj]
theorem rsAt_push (hj : j < g.2.length) (hi : i < (rowOf g j).length) : (rsAt g O j i).set j ((rsAt g O j i).getD j [] ++ [num O ((rowOf g j).getD i 0)]) = rsAt g O j (i + 1) := by
  rw [rsAt_get hj]
  refine List.ext_getElem (by simp [rsAt]) fun t h1 h2 => ?_
  rw [List.getElem_set]
  by_cases e : j = t
  · subst e
    simp only [rsAt, if_true, List.getElem_map, List.getElem_range, Nat.lt_irrefl, if_false]
    rw [take_snoc _ i hi 0, List.map_append]
    rfl
  · have e' : ¬ t = j := fun h => e h.symm
    simp [rsAt, e, e']
theorem rsAt_next (hj : j < g.2.length) : rsAt g O j (rowOf g j).length = rsAt g O (j + 1) 0 := by
  refine List.ext_getElem (by simp [rsAt]) fun t h1 h2 => ?_
  simp only [rsAt, List.getElem_map, List.getElem_range]
  by_cases h : t < j
  · rw [if_pos h, if_pos (by omega)]
  · rw [if_neg h]
    by_cases e : t = j
    · subst e; rw [if_pos rfl, if_pos (by omega), List.take_length]
    · rw [if_neg e, if_neg (by omega)]
      split <;> simp
theorem rsAt_zero : rsAt g O 0 0 = List.replicate g.2.length [] := by
  refine List.ext_getElem (by simp [rsAt]) fun t h1 h2 => ?_
  simp [rsAt]
theorem rsAt_end : rsAt g O g.2.length 0 = g.2.map fun r => r.map (num O) := by
  refine List.ext_getElem (by simp [rsAt]) fun t h1 h2 => ?_
  have ht : t < g.2.length := by simpa [rsAt] using h1
  simp [rsAt, ht, rowOf, List.getD_eq_getElem?_getD]
end

/-- 'm[key] = v', a new key; no new memory. -/
theorem put_sz {P : Program} {k e t : TypeId} {w : World} {b : Nat} {fs : List (Int × Value)} (h : FM w b fs) (ht : P.underlying t = some (.map k e)) (hk : P.underlying k = some (.int .i64)) (key : Int) (v : Value) (hn : ∀ p ∈ fs, p.1 ≠ key) :
    ∃ w', (Instr.mapUpdate t (.map (some b)) (.int .i64 key) v).run P w = .ok () w' ∧ FM w' b (fs ++ [(key, v)]) ∧ w.grownBy w' (some b) ∧ w'.heap.size = w.heap.size := by
  obtain ⟨es, c, hb, hes⟩ := h
  have hf := run_findKey (P := P) (w := w) hk (findNow_eq (k := key) 0 hes)
  rw [flook_none hn] at hf
  have hc : (Instr.checkKey false 10000 k (.int .i64 key)).run P w = .ok () w := by
    unfold Instr.checkKey
    simp [run_underlying hk, Result.andThen]
  obtain ⟨h1, h2⟩ := heap_set (o' := .map (es.push { key := .int .i64 key, val := v, born := c }) (c + 1)) hb
  refine ⟨{ w with heap := w.heap.setIfInBounds b (.map (es.push { key := .int .i64 key, val := v, born := c }) (c + 1)) }, ?_, ⟨_, _, h1, ?_⟩, ⟨rfl, rfl, rfl, by simp, fun i _ hi => h2 i (fun e => hi (by rw [e]))⟩, by simp⟩
  · simp [Instr.mapUpdate, run_underlying ht, MapKept.run_getObj_map hb, hc, hf, MapKept.run_setObj_map _ hb, Result.andThen]
  · simp [hes]

theorem own_apart {w : World} {b1 b2 s1 s2 n1 n2 : Nat} {e1 e2 : TypeId} {v1 v2 : Value} {x1 x2 : List Value} (h1 : w.ownsRow b1 e1 s1 v1 n1 x1) (h2 : w.ownsRow b2 e2 s2 v2 n2 x2) (hne : e1 ≠ e2) {k : Nat} (hk : v1.ownBlock = some k) : v2.ownBlock ≠ some k := by
  intro hk2
  obtain ⟨_, ⟨rfl, _⟩ | ⟨g, cap, cur, rfl, _, hg, _⟩⟩ := h1
  · simp [Value.ownBlock] at hk
  · obtain ⟨_, ⟨rfl, _⟩ | ⟨g', cap', cur', rfl, _, hg', _⟩⟩ := h2
    · simp [Value.ownBlock] at hk2
    · simp only [Value.ownBlock, Option.some.injEq] at hk hk2
      subst hk; subst hk2
      rw [hg] at hg'
      simp at hg'
      exact hne hg'.2

abbrev sv (B n2 : Nat) : Value := .slice (some ⟨B + 6, 0, none⟩) n2 n2
/-- Canon, while rows are made. -/
structure P2 (B : Nat) (w0 : World) (a b : Value) (n2 : Nat) (out : List Int) (vo : Value) (vs : List Value) (rs : List (List Int)) (w : World) : Prop where
  vw : Vw B w0 a b out vo w
  br : Blk w (B + 1) #[.slice none 0 0, .slice none 0 0] 25
  bt : Blk w (B + 6) vs.toArray 42
  bu : Blk w (B + 7) #[.slice none 0 0, sv B n2] 25
  hl : vs.length = n2
  hr : rs.length = n2
  own : ∀ (i : Nat) (u : Value) (r : List Int), vs[i]? = some u → rs[i]? = some r → w.ownsRow (B + 8) 3 1 u r.length (r.map (Value.int .i64)) ∧ r.length * 8 ≤ 140737488355328
  dis : ∀ (i j : Nat) (u v : Value) (k : Nat), i ≠ j → vs[i]? = some u → vs[j]? = some v → u.ownBlock = some k → v.ownBlock ≠ some k
  dso : ∀ (i : Nat) (u : Value) (k : Nat), vs[i]? = some u → u.ownBlock = some k → vo.ownBlock ≠ some k
section
variable {B n2 : Nat} {w0 w w' : World} {a b vo vo' : Value} {out out' : List Int} {vs : List Value} {rs : List (List Int)}
theorem get_both {α β : Type} {l : List α} {m : List β} (h : l.length = m.length) {i : Nat} {x : α} (hx : l[i]? = some x) : ∃ y, m[i]? = some y := by
  have := (List.getElem?_eq_some_iff.1 hx).1
  exact ⟨m[i]'(by omega), by simp⟩
theorem P2.ext (h : P2 B w0 a b n2 out vo vs rs w) (he : Ext w w') : P2 B w0 a b n2 out vo vs rs w' :=
  ⟨h.vw.ext' he, h.br.ext he, h.bt.ext he, h.bu.ext he, h.hl, h.hr, fun i u r h1 h2 => ⟨own_ext (h.own i u r h1 h2).1 he, (h.own i u r h1 h2).2⟩, h.dis, h.dso⟩
theorem P2.visit (h : P2 B w0 a b n2 out vo vs rs w) (hV : Vw B w0 a b out' vo' w') (hF : Fr B vo vo' w w') : P2 B w0 a b n2 out' vo' vs rs w' := by
  have hlo : ∀ k, k < B + 8 → k ≠ B + 2 → k ≠ B + 4 → ¬ Sv B vo k := fun k hk h2 h4 hs => by
    rcases hs with e | e | e
    · exact h2 e
    · exact h4 e
    · have := (h.vw.own.lt k e).1; omega
  refine ⟨hV, hF.1.blk h.br (hlo _ (by omega) (by omega) (by omega)), hF.1.blk h.bt (hlo _ (by omega) (by omega) (by omega)), hF.1.blk h.bu (hlo _ (by omega) (by omega) (by omega)), h.hl, h.hr, fun i u r h1 h2 => ⟨hF.1.own (h.own i u r h1 h2).1 fun k hk hs => ?_, (h.own i u r h1 h2).2⟩, h.dis, fun i u k h1 hk hk' => ?_⟩
  · have hb := ((h.own i u r h1 h2).1.lt k hk).1
    rcases hs with e | e | e
    · omega
    · omega
    · exact h.dso i u k h1 hk e
  · obtain ⟨r, h2⟩ := get_both (h.hl.trans h.hr.symm) h1
    have hb := ((h.own i u r h1 h2).1.lt k hk).2
    rcases hF.2 k hk' with e | e
    · exact h.dso i u k h1 hk e
    · omega
theorem P2.push (h : P2 B w0 a b n2 out vo vs rs w) {th : Nat} (hth : th < n2) (x : Int) (hsz : ((rs.getD th []).length + 1) * 8 ≤ 140737488355328) (L : Nat) (hL : (rs.getD th []).length = L) :
    ∃ ua uc ga gc w2 vs', w.cell? ⟨B + 6, th, none⟩ = some (.slice ua L uc) ∧
      (Builtin.append_ #[42, 42] 42 #[.slice ua L uc, .slice (some ⟨w.heap.size, 0, none⟩) 1 1]).run Try.prog (w.alloc (.cells #[.int .i64 x] 3)) = .ok (.slice (some ga) (L + 1) gc) w2 ∧
      w2.cell? ⟨B + 6, th, none⟩ = some (.slice ua L uc) ∧ w2.frozen? ⟨B + 6, th, none⟩ = false ∧
      (w2.cell? ⟨B + 7, 1, none⟩ = some (sv B n2) ∧ w2.cell? ⟨B + 3, 0, none⟩ = some (.map (some (B + 2))) ∧ FM w2 (B + 2) (asV out)) ∧
      P2 B w0 a b n2 out vo vs' (rs.set th (rs.getD th [] ++ [x])) (w2.setCell ⟨B + 6, th, none⟩ (.slice (some ga) (L + 1) gc)) := by
  subst hL
  obtain ⟨u, hu⟩ : ∃ u, vs[th]? = some u := ⟨vs[th]'(by rw [h.hl]; exact hth), by simp⟩
  have hrr : rs[th]? = some (rs.getD th []) := by
    have : th < rs.length := by rw [h.hr]; exact hth
    simp [List.getD_eq_getElem?_getD, this]
  obtain ⟨ho, hob⟩ := h.own th u _ hu hrr
  obtain ⟨i0, hi, hz0, hz1, hz2⟩ := info_i
  have hE : Ext w (w.alloc (.cells #[.int .i64 x] 3)) := (Ext.refl w).alloc _
  have hrow : Row (w.alloc (.cells #[.int .i64 x] 3)) 1 8 (.slice (some ⟨w.heap.size, 0, none⟩) 1 1) 1 [.int .i64 x] := ⟨rfl, by omega, by omega, .inr ⟨_, 1, rfl, Nat.le_refl _, by unfold maxLen; omega, cell_one_new _ _ _⟩⟩
  obtain ⟨v', w2, hrun, hown, hg, hat⟩ := append_own (ty := 42) uI hi hz0 hz1 hz2 rfl (by decide) (own_ext ho hE) (Nat.le_trans h.vw.hs hE.size) hrow (by simp [Value.oneCell']) (by omega) (by decide)
  obtain ⟨ga, gc, rfl⟩ : ∃ ga gc, v' = .slice (some ga) ((rs.getD th []).length + 1) gc := by
    obtain ⟨hl, ⟨rfl, hn⟩ | ⟨g, cap, cur, rfl, _⟩⟩ := hown
    · omega
    · exact ⟨_, cap, rfl⟩
  obtain ⟨ua, uc, rfl⟩ := Vc.own_form ho
  have hE1 := h.ext hE
  have hch : Ch (fun k => (Value.slice ua (rs.getD th []).length uc).ownBlock = some k) (w.alloc (.cells #[.int .i64 x] 3)) w2 := Ch.of_grown hg fun k hk => hk
  have hlo : ∀ k, k < B + 8 → ¬ (Value.slice ua (rs.getD th []).length uc).ownBlock = some k := fun k hk e => by have := (ho.lt k e).1; omega
  have hV2 : Vw B w0 a b out vo w2 := hE1.vw.ch hch fun k hk => ⟨by have := (ho.lt k hk).1; omega, h.dso th _ k hu hk⟩
  have hc2 : Ch (fun k => k = B + 6) w2 (w2.setCell ⟨B + 6, th, none⟩ (.slice (some ga) ((rs.getD th []).length + 1) gc)) := Ch.set _ _ _ _ rfl
  have bt2 := hch.blk hE1.bt (hlo _ (by omega))
  have hu' : vs.toArray[th]? = some (.slice ua (rs.getD th []).length uc) := by simpa using hu
  have hown' : w2.ownsRow (B + 8) 3 1 (.slice (some ga) ((rs.getD th []).length + 1) gc) ((rs.getD th []).length + 1) ((rs.getD th [] ++ [x]).map (Value.int .i64)) := by simpa using hown
  have hat' : ∀ k, (Value.slice (some ga) ((rs.getD th []).length + 1) gc).ownBlock = some k → (Value.slice ua (rs.getD th []).length uc).ownBlock = some k ∨ w.heap.size ≤ k := fun k hk => by
    rcases hat with e | e
    · exact .inl (e ▸ hk)
    · right
      rw [e] at hk
      cases hk
      exact hE.size
  refine ⟨ua, uc, ga, gc, w2, vs.set th (.slice (some ga) ((rs.getD th []).length + 1) gc), h.bt.cell hu', hrun, bt2.cell hu', bt2.free th, ⟨(hch.blk hE1.bu (hlo _ (by omega))).cell (i := 1) rfl, hV2.bx.cell (i := 0) rfl, hV2.fm⟩, ⟨hV2.ch hc2 fun k hk => ⟨by omega, fun e => by have := (hV2.own.lt k e).1; omega⟩, hc2.blk (hch.blk hE1.br (hlo _ (by omega))) (by omega), ?_, hc2.blk (hch.blk hE1.bu (hlo _ (by omega))) (by omega), by simp [h.hl], by simp [h.hr], ?_, ?_, ?_⟩⟩
  · have := bt2.set th (.slice (some ga) ((rs.getD th []).length + 1) gc)
    simpa using this
  · intro i u r h1 h2
    by_cases e : th = i
    · subst e
      have hlt : th < vs.length := by rw [h.hl]; exact hth
      have hlt' : th < rs.length := by rw [h.hr]; exact hth
      rw [List.getElem?_set_self hlt] at h1
      rw [List.getElem?_set_self hlt'] at h2
      cases h1; cases h2
      refine ⟨?_, by rw [List.length_append, List.length_singleton]; omega⟩
      rw [List.length_append]
      exact hc2.own hown' fun k hk e => by have := (hown.lt k hk).1; omega
    · rw [List.getElem?_set_ne e] at h1 h2
      have h3 := h.own i u r h1 h2
      refine ⟨hc2.own (hch.own (own_ext h3.1 hE) fun k hk hk' => h.dis th i _ u k e hu h1 hk' hk) fun k hk e => ?_, h3.2⟩
      have := (h3.1.lt k hk).1; omega
  · intro i j u v k hij h1 h2 hk hk'
    have old : ∀ m z, m ≠ th → vs[m]? = some z → z.ownBlock = some k → (Value.slice (some ga) ((rs.getD th []).length + 1) gc).ownBlock ≠ some k := fun m z hm hz hzk he => by
      rcases hat' k he with e | e
      · exact h.dis m th z _ k hm hz hu hzk e
      · obtain ⟨r, hr⟩ := get_both (h.hl.trans h.hr.symm) hz
        have := ((h.own m z r hz hr).1.lt k hzk).2
        omega
    have hlt : th < vs.length := by rw [h.hl]; exact hth
    by_cases e : th = i
    · subst e
      rw [List.getElem?_set_self hlt] at h1
      cases h1
      rw [List.getElem?_set_ne hij] at h2
      exact old j v (Ne.symm hij) h2 hk' hk
    · rw [List.getElem?_set_ne e] at h1
      by_cases e2 : th = j
      · subst e2
        rw [List.getElem?_set_self hlt] at h2
        cases h2
        exact old i u hij h1 hk hk'
      · rw [List.getElem?_set_ne e2] at h2
        exact h.dis i j u v k hij h1 h2 hk hk'
  · intro i u k h1 hk hk'
    have hlt : th < vs.length := by rw [h.hl]; exact hth
    by_cases e : th = i
    · subst e
      rw [List.getElem?_set_self hlt] at h1
      cases h1
      rcases hat' k hk with e | e
      · exact h.dso th _ k hu e hk'
      · have := (h.vw.own.lt k hk').2; omega
    · rw [List.getElem?_set_ne e] at h1
      exact h.dso i u k h1 hk hk'
end

/-- Canon begins. -/
theorem starts (w : World) (a b : Value) (n2 : Nat) (hn : n2 ≤ 1048576) (B : Nat) (hB : w.heap.size = B) :
    ∃ w1, (Instr.mapUpdate 72 (.map (some (B + 1 + 1))) (.int .i64 0) (.int .i64 0)).run Try.prog (((w.alloc (.cells #[a, b] 25)).alloc (.cells #[.slice none 0 0, .slice none 0 0] 25)).alloc (.map #[] 0)) = .ok () w1 ∧ w1.heap.size = B + 3 ∧
      w1.cell? ⟨B, 0, none⟩ = some a ∧ w1.cell? ⟨B, 1, none⟩ = some b ∧
      ∀ wS, wS = ((((w1.alloc (.cells #[.map (some (B + 1 + 1))] 72)).alloc (.cells #[.slice none 0 0] 42)).alloc (.cells #[.func (.func 28) #[] #[.pointer (some ⟨B + 3, 0, none⟩), .pointer (some ⟨B + 3 + 1, 0, none⟩), .pointer (some ⟨B, 0, none⟩), .pointer (some ⟨B + 3 + 1 + 1, 0, none⟩)]] 73)).alloc (.cells (madeCells #[.slice none 0 0] n2) 42)).alloc (.cells #[.slice none 0 0, .slice (some ⟨B + 3 + 1 + 1 + 1, 0, none⟩) n2 n2] 25) →
        P2 B w a b n2 [] (.slice none 0 0) (List.replicate n2 (.slice none 0 0)) (List.replicate n2 []) wS := by
  have hx0 : Ext w (((w.alloc (.cells #[a, b] 25)).alloc (.cells #[.slice none 0 0, .slice none 0 0] 25)).alloc (.map #[] 0)) := (((Ext.refl w).alloc _).alloc _).alloc _
  have g0 : Blk (((w.alloc (.cells #[a, b] 25)).alloc (.cells #[.slice none 0 0, .slice none 0 0] 25)).alloc (.map #[] 0)) B #[a, b] 25 := by
    rw [← hB]; exact ((Blk.new w _ _).alloc _).alloc _
  have r0 : Blk (((w.alloc (.cells #[a, b] 25)).alloc (.cells #[.slice none 0 0, .slice none 0 0] 25)).alloc (.map #[] 0)) (B + 1) #[.slice none 0 0, .slice none 0 0] 25 := by
    rw [← hB]; exact (Wf.blk_at (by simp)).alloc _
  have m0 : FM (((w.alloc (.cells #[a, b] 25)).alloc (.cells #[.slice none 0 0, .slice none 0 0] 25)).alloc (.map #[] 0)) (B + 1 + 1) [] := by
    have h := FM.made ((w.alloc (.cells #[a, b] 25)).alloc (.cells #[.slice none 0 0, .slice none 0 0] 25))
    rw [World.size_alloc, World.size_alloc, hB] at h
    exact h
  have hz : (((w.alloc (.cells #[a, b] 25)).alloc (.cells #[.slice none 0 0, .slice none 0 0] 25)).alloc (.map #[] 0)).heap.size = B + 3 := by simp [hB]
  obtain ⟨w1, hput, hfm, hg, hsz⟩ := put_sz m0 Try.underlying72 Try.underlying3 0 (.int .i64 0) (by simp)
  rw [hz] at hsz
  have hx1 : Ext w w1 := hx0.grown hg (fun k hk => by cases hk; omega)
  have g1 := g0.kept hg (by simp; omega)
  have r1 := r0.kept hg (by simp)
  refine ⟨w1, hput, hsz, g1.cell (i := 0) rfl, g1.cell (i := 1) rfl, fun wS hS => ?_⟩
  subst hS
  have hnil : ∀ (i : Nat) (u : Value), (List.replicate n2 (Value.slice none 0 0))[i]? = some u → u = .slice none 0 0 := fun i u h => (List.mem_replicate.1 (List.mem_of_getElem? h)).2
  have hnil2 : ∀ i r, (List.replicate n2 ([] : List Int))[i]? = some r → r = [] := fun i r h => (List.mem_replicate.1 (List.mem_of_getElem? h)).2
  have e4 : (w1.alloc (.cells #[.map (some (B + 1 + 1))] 72)).heap.size = B + 4 := by simp [hsz]
  refine ⟨⟨hB, by simp [hsz], ((((hx1.alloc _).alloc _).alloc _).alloc _).alloc _, ((((g1.alloc _).alloc _).alloc _).alloc _).alloc _, ?_, ?_, ?_, ?_, World.ownsRow_nil _ _ _ _⟩, ((((r1.alloc _).alloc _).alloc _).alloc _).alloc _, ?_, ?_, by simp, by simp, fun i u r h1 h2 => ?_, fun i j u v k _ h1 _ hk => ?_, fun i u k h1 hk => ?_⟩
  · exact hfm.ext (((((Ext.refl w1).alloc _).alloc _).alloc _).alloc _ |>.alloc _)
  · exact ((((Wf.blk_at (w := w1) (by rw [hsz])).alloc _).alloc _).alloc _).alloc _
  · exact (((Wf.blk_at (by simp [hsz])).alloc _).alloc _).alloc _
  · exact ((Wf.blk_at (by simp [hsz])).alloc _).alloc _
  · have h := (Wf.blk_at (w := ((w1.alloc (.cells #[.map (some (B + 1 + 1))] 72)).alloc (.cells #[.slice none 0 0] 42)).alloc (.cells #[.func (.func 28) #[] #[.pointer (some ⟨B + 3, 0, none⟩), .pointer (some ⟨B + 3 + 1, 0, none⟩), .pointer (some ⟨B, 0, none⟩), .pointer (some ⟨B + 3 + 1 + 1, 0, none⟩)]] 73)) (b := B + 6) (cs := madeCells #[.slice none 0 0] n2) (T := 42) (by simp [hsz])).alloc (.cells #[.slice none 0 0, .slice (some ⟨B + 3 + 1 + 1 + 1, 0, none⟩) n2 n2] 25)
    have e : (List.replicate n2 (Value.slice none 0 0)).toArray = madeCells #[.slice none 0 0] n2 := by
      rw [← toList_madeCells_one]
    rw [e]; exact h
  · exact Wf.blk_at (by simp [hsz])
  · obtain rfl := hnil i u h1
    obtain rfl := hnil2 i r h2
    exact ⟨World.ownsRow_nil _ _ _ _, by simp⟩
  · obtain rfl := hnil i u h1
    simp [Value.ownBlock] at hk
  · obtain rfl := hnil i u h1
    simp [Value.ownBlock] at hk

/-- Canon, while nodes are made. -/
structure P3 (B : Nat) (w0 : World) (a b : Value) (n2 : Nat) (out : List Int) (vo : Value) (vs : List Value) (rs : List (List Int)) (nv : Value) (ns : List Nd) (w : World) : Prop where
  vw : Vw B w0 a b out vo w
  br : Blk w (B + 1) #[.slice none 0 0, .slice none 0 0] 25
  bt : Blk w (B + 6) vs.toArray 42
  bu : Blk w (B + 7) #[nv, sv B n2] 25
  hl : vs.length = n2
  hr : rs.length = n2
  own : ∀ (i : Nat) (u : Value) (r : List Int), vs[i]? = some u → rs[i]? = some r → w.ownsRow (B + 8) 3 1 u r.length (r.map (Value.int .i64)) ∧ r.length * 8 ≤ 140737488355328
  nd : ∃ ps : List (Hd × Value), ps.length = ns.length ∧ w.ownsRow (B + 8) 67 4 nv ns.length (ncs ps) ∧ ∀ (i : Nat) (p : Hd × Value) (n : Nd), ps[i]? = some p → ns[i]? = some n → p.1 = n.1 ∧ w.ownsRow (B + 8) 26 1 p.2 n.2.length (n.2.map (Value.int .u64)) ∧ n.2.length ≤ 1000
section
variable {B n2 : Nat} {w0 w w' : World} {a b vo nv : Value} {out : List Int} {vs : List Value} {rs : List (List Int)} {ns : List Nd}
theorem P3.of (h : P2 B w0 a b n2 out vo vs rs w) : P3 B w0 a b n2 out vo vs rs (.slice none 0 0) [] w :=
  ⟨h.vw, h.br, h.bt, h.bu, h.hl, h.hr, h.own, [], rfl, World.ownsRow_nil _ _ _ _, fun i p n hp => by simp at hp⟩
theorem P3.ext (h : P3 B w0 a b n2 out vo vs rs nv ns w) (he : Ext w w') : P3 B w0 a b n2 out vo vs rs nv ns w' := by
  obtain ⟨ps, h1, h2, h3⟩ := h.nd
  exact ⟨h.vw.ext' he, h.br.ext he, h.bt.ext he, h.bu.ext he, h.hl, h.hr, fun i u r h1 h2 => ⟨own_ext (h.own i u r h1 h2).1 he, (h.own i u r h1 h2).2⟩, ps, h1, own_ext h2 he, fun i p n hp hn => ⟨(h3 i p n hp hn).1, own_ext (h3 i p n hp hn).2.1 he, (h3 i p n hp hn).2.2⟩⟩
theorem nc_row (w : World) (p : Hd × Value) : Row (w.alloc (.cells #[.int .i64 p.1.1, .int .i64 p.1.2.1, .int .u64 p.1.2.2, p.2] 67)) 4 48 (.slice (some ⟨w.heap.size, 0, none⟩) 1 1) 1 (ncs [p]) := by
  have h := Blk.new w #[.int .i64 p.1.1, .int .i64 p.1.2.1, .int .u64 p.1.2.2, p.2] 67
  refine ⟨rfl, by omega, by omega, .inr ⟨_, 1, rfl, Nat.le_refl _, by unfold maxLen; omega, fun j c hj => ?_⟩⟩
  have hadd : (⟨w.heap.size, 0, none⟩ : Addr).add j = ⟨w.heap.size, j, none⟩ := by unfold Addr.add; split <;> simp_all
  rw [hadd]
  refine h.cell ?_
  simpa [ncs, nc] using hj
theorem P3.push (h : P3 B w0 a b n2 out vo vs rs nv ns w) (x : Hd) (f : List Int) (fv : Value) (hf : w.ownsRow (B + 8) 26 1 fv f.length (f.map (Value.int .u64))) (hfl : f.length ≤ 1000) (hn : ns.length ≤ 1000) :
    ∃ nv' w2, (Builtin.append_ #[22, 22] 22 #[nv, .slice (some ⟨w.heap.size, 0, none⟩) 1 1]).run Try.prog (w.alloc (.cells #[.int .i64 x.1, .int .i64 x.2.1, .int .u64 x.2.2, fv] 67)) = .ok nv' w2 ∧ (∃ ga gc, nv' = .slice ga (ns.length + 1) gc) ∧
      w2.cell? ⟨B + 7, 0, none⟩ = some nv ∧ w2.frozen? ⟨B + 7, 0, none⟩ = false ∧ P3 B w0 a b n2 out vo vs rs nv' (ns ++ [(x, f)]) (w2.setCell ⟨B + 7, 0, none⟩ nv') := by
  obtain ⟨i0, hi, hz0, hz1, hz2⟩ := info_n
  have hE : Ext w (w.alloc (.cells #[.int .i64 x.1, .int .i64 x.2.1, .int .u64 x.2.2, fv] 67)) := (Ext.refl w).alloc _
  have h' := h.ext hE
  obtain ⟨ps, h1, h2, h3⟩ := h'.nd
  have hf1 : fv.oneCell' = true := by
    obtain ⟨a, c, rfl⟩ := Vc.own_form hf; rfl
  obtain ⟨nv', w2, hrun, hown, hg, hat⟩ := append_own (ty := 22) uN hi hz0 hz1 hz2 rfl (by decide) h2 (Nat.le_trans h.vw.hs hE.size) (nc_row w (x, fv)) (by
    intro c hc
    simp [ncs, nc] at hc
    rcases hc with rfl | rfl | rfl | rfl
    · rfl
    · rfl
    · rfl
    · exact hf1) (by omega) (by decide)
  have hch : Ch (fun k => nv.ownBlock = some k) (w.alloc (.cells #[.int .i64 x.1, .int .i64 x.2.1, .int .u64 x.2.2, fv] 67)) w2 := Ch.of_grown hg fun k hk => hk
  have hlo : ∀ k, k < B + 8 → ¬ nv.ownBlock = some k := fun k hk e => by have := (h2.lt k e).1; omega
  have hV2 : Vw B w0 a b out vo w2 := h'.vw.ch hch fun k hk => ⟨by have := (h2.lt k hk).1; omega, own_apart h2 h'.vw.own (by decide) hk⟩
  have hc2 : Ch (fun k => k = B + 7) w2 (w2.setCell ⟨B + 7, 0, none⟩ nv') := Ch.set _ _ _ _ rfl
  have bu2 := hch.blk h'.bu (hlo _ (by omega))
  have hfar : ∀ {e : TypeId} {s n : Nat} {v : Value} {cs : List Value}, w2.ownsRow (B + 8) e s v n cs → (w2.setCell ⟨B + 7, 0, none⟩ nv').ownsRow (B + 8) e s v n cs := fun ho => hc2.own ho fun k hk e => by have := (ho.lt k hk).1; omega
  refine ⟨nv', w2, hrun, Vc.own_form hown, bu2.cell (i := 0) rfl, bu2.free 0, ⟨hV2.ch hc2 fun k hk => ⟨by omega, fun e => by have := (hV2.own.lt k e).1; omega⟩, hc2.blk (hch.blk h'.br (hlo _ (by omega))) (by omega), hc2.blk (hch.blk h'.bt (hlo _ (by omega))) (by omega), bu2.set 0 nv', h.hl, h.hr, fun i u r hu hr => ?_, ps ++ [(x, fv)], by simp [h1], ?_, fun i p n hp hn => ?_⟩⟩
  · have h4 := h'.own i u r hu hr
    exact ⟨hfar (hch.own h4.1 fun k hk hk' => own_apart h2 h4.1 (by decide) hk' hk), h4.2⟩
  · rw [List.length_append, ncs_append]
    exact hfar hown
  · by_cases hj : i < ps.length
    · rw [List.getElem?_append_left hj] at hp
      rw [List.getElem?_append_left (by omega)] at hn
      have h4 := h3 i p n hp hn
      exact ⟨h4.1, hfar (hch.own h4.2.1 fun k hk hk' => own_apart h2 h4.2.1 (by decide) hk' hk), h4.2.2⟩
    · rw [List.getElem?_append_right (by omega)] at hp
      rw [List.getElem?_append_right (by omega), ← h1] at hn
      have : i - ps.length = 0 := by
        rcases Nat.eq_zero_or_pos (i - ps.length) with h | h
        · exact h
        · rw [List.getElem?_eq_none (by simp; omega)] at hp; cases hp
      rw [this] at hp hn
      simp at hp hn
      cases hp; cases hn
      exact ⟨rfl, hfar (hch.own (own_ext hf hE) fun k hk hk' => own_apart h2 (own_ext hf hE) (by decide) hk' hk), hfl⟩
theorem P3.fin (h : P3 B w0 a b n2 out vo vs rs nv ns w) (hn2 : n2 ≤ 1048576) (hn : ns.length ≤ 1000) (W : World) (hW : W = (w.setCell ⟨B + 1, 0, none⟩ nv).setCell ⟨B + 1, 1, none⟩ (sv B n2)) :
    W.cell? ⟨B + 1, 0, none⟩ = some nv ∧ W.cell? ⟨B + 1, 1, none⟩ = some (sv B n2) ∧ Gr W nv (sv B n2) (ns, rs) ∧ Ext w0 W := by
  have hc : Ch (fun k => k = B + 1) w W := by
    rw [hW]
    exact (Ch.set (fun k => k = B + 1) w ⟨B + 1, 0, none⟩ nv rfl).trans (Ch.set (fun k => k = B + 1) _ ⟨B + 1, 1, none⟩ _ rfl) (fun _ _ h => h)
  have hb : Blk W (B + 1) #[nv, sv B n2] 25 := by
    rw [hW]; exact (h.br.set 0 _).set 1 _
  have hfar : ∀ {e : TypeId} {s n : Nat} {v : Value} {cs : List Value}, w.ownsRow (B + 8) e s v n cs → W.ownsRow (B + 8) e s v n cs := fun ho => hc.own ho fun k hk e => by have := (ho.lt k hk).1; omega
  obtain ⟨ps, h1, h2, h3⟩ := h.nd
  have hbt := hc.blk h.bt (by omega)
  have hlt := h.hl
  refine ⟨hb.cell (i := 0) rfl, hb.cell (i := 1) rfl, ⟨⟨ps, h1, by rw [h1]; exact Row.of_own (hfar h2) (by omega) (by omega), fun i p n hp hn => ⟨(h3 i p n hp hn).1, Sl.of_own (hfar (h3 i p n hp hn).2.1) (by have := (h3 i p n hp hn).2.2; omega)⟩⟩, vs, h.hl.trans h.hr.symm, ?_, fun u hu => ?_, fun i u r hu hr => Sl.of_own (hfar (h.own i u r hu hr).1) (h.own i u r hu hr).2⟩, hc.ext h.vw.ext (fun k hk => by have := h.vw.hB; omega)⟩
  · refine ⟨by simp, by omega, by omega, .inr ⟨⟨B + 6, 0, none⟩, n2, by rw [h.hl], by omega, by unfold maxLen; omega, fun j c hj => ?_⟩⟩
    have hadd : (⟨B + 6, 0, none⟩ : Addr).add j = ⟨B + 6, j, none⟩ := by unfold Addr.add; split <;> simp_all
    rw [hadd]
    exact hbt.cell (by simpa using hj)
  · obtain ⟨i, hi, rfl⟩ := List.mem_iff_getElem.1 hu
    obtain ⟨r, hr⟩ := get_both (h.hl.trans h.hr.symm) (List.getElem?_eq_getElem hi)
    obtain ⟨a, c, hf⟩ := Vc.own_form (h.own i _ r (List.getElem?_eq_getElem hi) hr).1
    rw [hf]; rfl
end
end Go.Proofs.Ytjhmlbhfnogdiaa.Co
