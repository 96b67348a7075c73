/- The reference's copied: a graph whose rows are its own. -/
import Derived.Test.YtjhmlbhfnogdiaaRc
namespace Go.Proofs.Ytjhmlbhfnogdiaa.Cy
open Go.RowKit
open Go.Proofs.Ytjhmlbhfnogdiaa Go.Proofs.Ytjhmlbhfnogdiaa.Hd Go.Proofs.Ytjhmlbhfnogdiaa.Gr Go.Proofs.Ytjhmlbhfnogdiaa.Hg Go.Proofs.Ytjhmlbhfnogdiaa.Ps Go.Proofs.Ytjhmlbhfnogdiaa.Rr Go.Proofs.Ytjhmlbhfnogdiaa.Wk Go.Proofs.Ytjhmlbhfnogdiaa.Pl Go.Proofs.Ytjhmlbhfnogdiaa.Vf Go.Proofs.Ytjhmlbhfnogdiaa.Co Go.Proofs.Ytjhmlbhfnogdiaa.Ro
set_option linter.unusedVariables false

/-- 'append([]T{}, v...)'. -/
theorem dup {P : Program} {T E : TypeId} {s b : Nat} {ty : TypeId} {i : TypeInfo} {z : Value} (ht : P.underlying T = some (.slice E)) (hi : P.info? E = some i) (hz : i.zero = some z) (hs : i.size = s) (hby : i.bytes = b) (hzs : z.cells.size = s) (hs0 : 0 < s) (hb0 : 0 < b)
    {w : World} {v : Value} {n : Nat} {cs : List Value} (h : Row w s b v n cs) (h1 : ∀ x ∈ cs, x.oneCell' = true) :
    ∃ v' w', (Builtin.append_ #[T, T] ty #[.slice (some ⟨w.heap.size, 0, none⟩) 0 0, v]).run P (w.alloc (.cells #[] E)) = .ok v' w' ∧ w'.ownsRow w.heap.size E s v' n cs ∧ Ext w w' := by
  have hb := h.2.1
  have hE : Ext w (w.alloc (.cells #[] E)) := (Ext.refl w).alloc _
  obtain ⟨v', w', hrun, hown, hg, _⟩ := append_own (ty := ty) ht hi hz hs hby hzs hs0 (own_empty w E s) (by simp) (h.ext hE) h1 (by rw [Nat.zero_add]; exact hb) hb0
  rw [Nat.zero_add, List.nil_append] at hown
  exact ⟨v', w', hrun, hown, hE.grown hg (fun k hk => by simp [Value.ownBlock] at hk; omega)⟩

/-- A graph whose rows are the call's own, in blocks from base on; the fields of its nodes are so, too, or were there in wE. -/
structure GrO (wE : World) (base : Nat) (a b : Value) (g : Gph) (W : World) : Prop where
  ext : Ext wE W
  hb : wE.heap.size ≤ base ∧ base ≤ W.heap.size
  hn : g.1.length ≤ 1000
  hm : g.2.length ≤ 1048576
  nd : ∃ ps : List (Hd × Value), ps.length = g.1.length ∧ W.ownsRow base 67 4 a g.1.length (ncs ps) ∧ ∀ (i : Nat) (p : Hd × Value) (n : Nd), ps[i]? = some p → g.1[i]? = some n → p.1 = n.1 ∧ (Sl .u64 wE p.2 n.2 ∨ (W.ownsRow base 26 1 p.2 n.2.length (n.2.map (Value.int .u64)) ∧ n.2.length ≤ 1000000))
  rw : Rows .i64 42 3 W base b g.2
section
variable {wE w w' : World} {base : Nat} {a b : Value} {g : Gph}
theorem GrO.gr (h : GrO wE base a b g w) : Gr w a b g := by
  obtain ⟨ps, h1, h2, h3⟩ := h.nd
  have := h.hn
  have := h.hm
  refine ⟨⟨ps, h1, by rw [h1]; exact Row.of_own h2 (by omega) (by omega), fun i p n hp hn => ⟨(h3 i p n hp hn).1, ?_⟩⟩, h.rw.ma (by omega)⟩
  rcases (h3 i p n hp hn).2 with h4 | ⟨h4, h5⟩
  · exact h4.ext h.ext
  · exact Sl.of_own h4 (by omega)
theorem GrO.ext' (h : GrO wE base a b g w) (he : Ext w w') : GrO wE base a b g w' := by
  obtain ⟨ps, h1, h2, h3⟩ := h.nd
  exact ⟨h.ext.trans he, ⟨h.hb.1, Nat.le_trans h.hb.2 he.size⟩, h.hn, h.hm, ⟨ps, h1, own_ext h2 he, fun i p n hp hn => ⟨(h3 i p n hp hn).1, (h3 i p n hp hn).2.imp id fun h => ⟨own_ext h.1 he, h.2⟩⟩⟩, h.rw.ext he⟩
/-- Blocks that are no rows may be written. -/
theorem GrO.ch (h : GrO wE base a b g w) {S : Nat → Prop} (hc : Ch S w w') (hS : ∀ k, S k → wE.heap.size ≤ k ∧ (k < base ∨ ∃ cs, Blk w k cs 25)) : GrO wE base a b g w' := by
  have far : ∀ {e : TypeId} {s n : Nat} {v : Value} {cs : List Value}, e ≠ 25 → w.ownsRow base e s v n cs → ∀ k, v.ownBlock = some k → ¬ S k := fun he ho k hk hs => by
    rcases (hS k hs).2 with h1 | ⟨cs, h1⟩
    · have := (ho.lt k hk).1; omega
    · exact Hq.Blk.not_row h1 (fun e => he e.symm) ho hk.symm
  obtain ⟨ps, h1, h2, h3⟩ := h.nd
  refine ⟨hc.ext h.ext fun k hk => (hS k hk).1, ⟨h.hb.1, Nat.le_trans h.hb.2 hc.size⟩, h.hn, h.hm, ⟨ps, h1, hc.own h2 (far (by decide) h2), fun i p n hp hn => ⟨(h3 i p n hp hn).1, (h3 i p n hp hn).2.imp id fun h => ⟨hc.own h.1 (far (by decide) h.1), h.2⟩⟩⟩, ?_⟩
  obtain ⟨vs, hl, ho, _⟩ := id h.rw
  exact rows_ch h.rw hc (far (by decide) ho) fun u r g hu hg => far (by decide) hu g hg
/-- A row is another, of the call's own. -/
theorem GrO.setRow (h : GrO wE base a b g w) {th : Nat} (hth : th < g.2.length) {u : Value} {r : List Int} (hu : w.ownsRow base 3 1 u r.length (r.map (Value.int .i64))) (hr : r.length * 8 ≤ 140737488355328) :
    ∃ gb x, b.ownBlock = some gb ∧ (∀ w', (Instr.indexAt 23 b (.int .i64 th)).run Try.prog w' = .ok (.pointer (some ⟨gb, th, none⟩)) w') ∧ w.cell? ⟨gb, th, none⟩ = some x ∧ w.frozen? ⟨gb, th, none⟩ = false ∧ GrO wE base a b (g.1, g.2.set th r) (w.setCell ⟨gb, th, none⟩ u) := by
  obtain ⟨vs, hl, ho, h1, hs⟩ := id h.rw
  have hlt : th < vs.length := by omega
  obtain ⟨gb, hgb, hbg, hgl, hix, hcell, hfr, hset⟩ := own_at (P := Try.prog) uS szS ho hlt
  have hc : Ch (fun k => k = gb) w (w.setCell ⟨gb, th, none⟩ u) := Ch.set _ _ _ _ rfl
  have hu1 : u.oneCell' = true := by
    obtain ⟨a, c, rfl⟩ := Vc.own_form hu; rfl
  have far : ∀ {e : TypeId} {s n : Nat} {v : Value} {cs : List Value}, e ≠ 42 → w.ownsRow base e s v n cs → (w.setCell ⟨gb, th, none⟩ u).ownsRow base e s v n cs := fun he hv => hc.own hv fun k hk e => by
    subst e
    exact own_apart hv ho he hk hgb
  obtain ⟨ps, p1, p2, p3⟩ := h.nd
  have hbl := h.hb
  refine ⟨gb, vs[th], hgb, hix, hcell _ (by simp [hlt]), hfr, ⟨h.ext.setCell (p := ⟨gb, th, none⟩) (by show wE.heap.size ≤ gb; omega) _, ⟨hbl.1, Nat.le_trans hbl.2 hc.size⟩, h.hn, by simpa using h.hm, ⟨ps, p1, far (by decide) p2, fun i p n hp hn => ⟨(p3 i p n hp hn).1, (p3 i p n hp hn).2.imp id fun h => ⟨far (by decide) h.1, h.2⟩⟩⟩, vs.set th u, by simp [hl], by rw [List.length_set]; exact hset u, fun x hx => ?_, fun i x y hx hy => ?_⟩⟩
  · rcases List.mem_or_eq_of_mem_set hx with hx | rfl
    · exact h1 x hx
    · exact hu1
  · have apart : ∀ {v : Value} {m : Nat} {cs : List Value}, w.ownsRow base 3 1 v m cs → (v.ownBlock = none ∨ v.ownBlock ≠ b.ownBlock) := fun {v m cs} hv => by
      cases hvb : v.ownBlock with
      | none => exact .inl rfl
      | some k => exact .inr fun e => own_apart hv ho (by decide) hvb e.symm
    by_cases e : th = i
    · subst e
      rw [List.getElem?_set_self hlt] at hx
      rw [List.getElem?_set_self hth] at hy
      cases hx; cases hy
      exact ⟨far (by decide) hu, hr, apart hu⟩
    · rw [List.getElem?_set_ne e] at hx
      replace hy : g.2[i]? = some y := by rw [← hy]; exact (List.getElem?_set_ne e).symm
      have h4 := hs i x y hx hy
      exact ⟨far (by decide) h4.1, h4.2⟩
/-- A node is another. -/
theorem GrO.setNode (h : GrO wE base a b g w) {n : Nat} (hn : n < g.1.length) (x : Hd) {fv : Value} {f : List Int} (hf : w.ownsRow base 26 1 fv f.length (f.map (Value.int .u64))) (hfl : f.length ≤ 1000000) :
    ∃ gb y0 y1 y2 y3, a.ownBlock = some gb ∧ (∀ w', (Instr.indexAt 22 a (.int .i64 n)).run Try.prog w' = .ok (.pointer (some ⟨gb, n * 4, none⟩)) w') ∧
      w.cell? ⟨gb, n * 4, none⟩ = some y0 ∧ w.cell? ⟨gb, n * 4 + 1, none⟩ = some y1 ∧ w.cell? ⟨gb, n * 4 + 2, none⟩ = some y2 ∧ w.cell? ⟨gb, n * 4 + 3, none⟩ = some y3 ∧
      w.frozen? ⟨gb, n * 4, none⟩ = false ∧ w.frozen? ⟨gb, n * 4 + 1, none⟩ = false ∧ w.frozen? ⟨gb, n * 4 + 2, none⟩ = false ∧ w.frozen? ⟨gb, n * 4 + 3, none⟩ = false ∧
      GrO wE base a b (g.1.set n (x, f), g.2) ((((w.setCell ⟨gb, n * 4, none⟩ (.int .i64 x.1)).setCell ⟨gb, n * 4 + 1, none⟩ (.int .i64 x.2.1)).setCell ⟨gb, n * 4 + 2, none⟩ (.int .u64 x.2.2)).setCell ⟨gb, n * 4 + 3, none⟩ fv) := by
  obtain ⟨ps, p1, p2, p3⟩ := h.nd
  have hcl := ncs_len ps
  have hnl : n < ps.length := by omega
  obtain ⟨gb, cap, rfl, hbg, hgl, c0, f0, s0⟩ := Wi.own_set p2 (i := n * 4) (by omega)
  obtain ⟨gb1, cap1, e1, _, _, c1, f1, _⟩ := Wi.own_set p2 (i := n * 4 + 1) (by omega)
  obtain ⟨gb2, cap2, e2, _, _, c2, f2, _⟩ := Wi.own_set p2 (i := n * 4 + 2) (by omega)
  obtain ⟨gb3, cap3, e3, _, _, c3, f3, _⟩ := Wi.own_set p2 (i := n * 4 + 3) (by omega)
  cases e1; cases e2; cases e3
  obtain ⟨_, _, e1, _, _, _, _, s1⟩ := Wi.own_set (s0 (.int .i64 x.1)) (i := n * 4 + 1) (by simp; omega)
  cases e1
  obtain ⟨_, _, e2, _, _, _, _, s2⟩ := Wi.own_set (s1 (.int .i64 x.2.1)) (i := n * 4 + 2) (by simp; omega)
  cases e2
  obtain ⟨_, _, e3, _, _, _, _, s3⟩ := Wi.own_set (s2 (.int .u64 x.2.2)) (i := n * 4 + 3) (by simp; omega)
  cases e3
  have s4 := s3 fv
  rw [← Wi.ncs_set ps n (x, fv) hnl] at s4
  obtain ⟨g0, g1, g2, g3⟩ := ncs_get ps n ps[n] (by simp [hnl])
  rw [g0] at c0
  rw [g1] at c1
  rw [g2] at c2
  rw [g3] at c3
  have hc : Ch (fun k => k = gb) w ((((w.setCell ⟨gb, n * 4, none⟩ (.int .i64 x.1)).setCell ⟨gb, n * 4 + 1, none⟩ (.int .i64 x.2.1)).setCell ⟨gb, n * 4 + 2, none⟩ (.int .u64 x.2.2)).setCell ⟨gb, n * 4 + 3, none⟩ fv) :=
    (((Ch.set (fun k => k = gb) _ _ _ rfl).trans (Ch.set (fun k => k = gb) _ _ _ rfl) (fun _ _ h => h)).trans (Ch.set (fun k => k = gb) _ _ _ rfl) (fun _ _ h => h)).trans (Ch.set (fun k => k = gb) _ _ _ rfl) (fun _ _ h => h)
  have far : ∀ {e : TypeId} {s m : Nat} {v : Value} {cs : List Value}, e ≠ 67 → w.ownsRow base e s v m cs → ∀ k, v.ownBlock = some k → ¬ k = gb := fun he hv k hk e => by
    subst e
    exact own_apart hv p2 he hk rfl
  have hat := Wi.own_at (P := Try.prog) (base := 0) (e := 0) (w := w) uN szN hn (g := gb) (cap := cap) (n := g.1.length)
  have hbl := h.hb
  refine ⟨gb, _, _, _, _, rfl, hat, c0, c1, c2, c3, f0, f1, f2, f3, ⟨hc.ext h.ext fun k hk => by omega, ⟨hbl.1, Nat.le_trans hbl.2 hc.size⟩, by simpa using h.hn, h.hm, ⟨ps.set n (x, fv), by simp [p1], by rw [show (g.1.set n (x, f), g.2).1.length = g.1.length by simp]; exact s4, fun i p m hp hm => ?_⟩, ?_⟩⟩
  · by_cases e : n = i
    · subst e
      rw [List.getElem?_set_self hnl] at hp
      replace hm : (g.1.set n (x, f))[n]? = some m := hm
      rw [List.getElem?_set_self hn] at hm
      cases hp; cases hm
      exact ⟨rfl, .inr ⟨hc.own hf (far (by decide) hf), hfl⟩⟩
    · rw [List.getElem?_set_ne e] at hp
      replace hm : g.1[i]? = some m := by rw [← hm]; exact (List.getElem?_set_ne e).symm
      have h4 := p3 i p m hp hm
      exact ⟨h4.1, h4.2.imp id fun h => ⟨hc.own h.1 (far (by decide) h.1), h.2⟩⟩
  · obtain ⟨vs, hl, ho, _⟩ := id h.rw
    exact rows_ch h.rw hc (far (by decide) ho) fun u r g hu hg => far (by decide) hu g hg
end

/-- A graph that is handed: it reads so; the fields of its nodes stay. -/
structure GI (wE : World) (base : Nat) (a b : Value) (g : Gph) (w : World) : Prop where
  ext : Ext wE w
  hb : wE.heap.size ≤ base ∧ base ≤ w.heap.size
  nd : ∃ ps : List (Hd × Value), ps.length = g.1.length ∧ Row w 4 48 a ps.length (ncs ps) ∧ ∀ (i : Nat) (p : Hd × Value) (n : Nd), ps[i]? = some p → g.1[i]? = some n → p.1 = n.1 ∧ (Sl .u64 wE p.2 n.2 ∨ (w.ownsRow base 26 1 p.2 n.2.length (n.2.map (Value.int .u64)) ∧ n.2.length ≤ 1000000))
  ma : Ma .i64 w b g.2
section
variable {wE w w' : World} {base : Nat} {a b : Value} {g : Gph}
theorem GI.gr (h : GI wE base a b g w) : Gr w a b g := by
  obtain ⟨ps, h1, h2, h3⟩ := h.nd
  refine ⟨⟨ps, h1, h2, fun i p n hp hn => ⟨(h3 i p n hp hn).1, ?_⟩⟩, h.ma⟩
  rcases (h3 i p n hp hn).2 with h4 | ⟨h4, h5⟩
  · exact h4.ext h.ext
  · exact Sl.of_own h4 (by omega)
theorem GI.ext' (h : GI wE base a b g w) (he : Ext w w') : GI wE base a b g w' := by
  obtain ⟨ps, h1, h2, h3⟩ := h.nd
  exact ⟨h.ext.trans he, ⟨h.hb.1, Nat.le_trans h.hb.2 he.size⟩, ⟨ps, h1, h2.ext he, fun i p n hp hn => ⟨(h3 i p n hp hn).1, (h3 i p n hp hn).2.imp id fun h => ⟨own_ext h.1 he, h.2⟩⟩⟩, h.ma.ext he⟩
theorem GI.of (h : Gr wE a b g) (hE : Ext wE w) : GI wE w.heap.size a b g w := by
  obtain ⟨ps, h1, h2, h3⟩ := h.1
  exact ⟨hE, ⟨hE.size, Nat.le_refl _⟩, ⟨ps, h1, h2.ext hE, fun i p n hp hn => ⟨(h3 i p n hp hn).1, .inl (h3 i p n hp hn).2⟩⟩, h.2.ext hE⟩
theorem GI.of_gro (h : GrO wE base a b g w) : GI wE base a b g w := by
  have hg := h.gr
  obtain ⟨ps, h1, h2, h3⟩ := h.nd
  have := h.hn
  exact ⟨h.ext, h.hb, ⟨ps, h1, by rw [h1]; exact Row.of_own h2 (by omega) (by omega), h3⟩, hg.2⟩
/-- A node more. -/
theorem GrO.pushN (h : GrO wE base a b g w) (hn : g.1.length + 1 ≤ 1000) (x : Hd) {fv : Value} {f : List Int} (hf : w.ownsRow base 26 1 fv f.length (f.map (Value.int .u64))) (hfl : f.length ≤ 1000000) :
    ∃ a' w2, (Builtin.append_ #[22, 22] 22 #[a, .slice (some ⟨w.heap.size, 0, none⟩) 1 1]).run Try.prog (w.alloc (.cells #[.int .i64 x.1, .int .i64 x.2.1, .int .u64 x.2.2, fv] 67)) = .ok a' w2 ∧ (∃ ga gc, a' = .slice ga (g.1.length + 1) gc) ∧
      Ch (fun k => a.ownBlock = some k) w w2 ∧ GrO wE base a' b (g.1 ++ [(x, f)], g.2) w2 := by
  obtain ⟨i0, hi, hz0, hz1, hz2⟩ := info_n
  have hE : Ext w (w.alloc (.cells #[.int .i64 x.1, .int .i64 x.2.1, .int .u64 x.2.2, fv] 67)) := (Ext.refl w).alloc _
  have h' := h.ext' hE
  obtain ⟨ps, h1, h2, h3⟩ := h'.nd
  have hf1 : fv.oneCell' = true := by
    obtain ⟨a, c, rfl⟩ := Vc.own_form hf; rfl
  obtain ⟨nv', w2, hrun, hown, hg, hat⟩ := append_own (ty := 22) uN hi hz0 hz1 hz2 rfl (by decide) h2 (Nat.le_trans h.hb.2 hE.size) (nc_row w (x, fv)) (by
    intro c hc
    simp [ncs, nc] at hc
    rcases hc with rfl | rfl | rfl | rfl
    · rfl
    · rfl
    · rfl
    · exact hf1) (by omega) (by decide)
  have hch : Ch (fun k => a.ownBlock = some k) (w.alloc (.cells #[.int .i64 x.1, .int .i64 x.2.1, .int .u64 x.2.2, fv] 67)) w2 := Ch.of_grown hg fun k hk => hk
  have hbl := h'.hb
  refine ⟨nv', w2, hrun, Vc.own_form hown, (Ch.of_ext _ hE).trans hch (fun _ _ h => h), ⟨hch.ext h'.ext fun k hk => by have := (h2.lt k hk).1; omega, ⟨hbl.1, Nat.le_trans hbl.2 hch.size⟩, by simpa using hn, h.hm, ⟨ps ++ [(x, fv)], by simp [h1], ?_, fun i p n hp hn => ?_⟩, ?_⟩⟩
  · rw [show (g.1 ++ [(x, f)], g.2).1.length = g.1.length + 1 by simp, ncs_append]
    exact hown
  · replace hn : (g.1 ++ [(x, f)])[i]? = some n := hn
    by_cases hj : i < ps.length
    · rw [List.getElem?_append_left hj] at hp
      rw [List.getElem?_append_left (by omega)] at hn
      have h4 := h3 i p n hp hn
      exact ⟨h4.1, h4.2.imp id fun h => ⟨hch.own h.1 fun k hk hk' => own_apart h2 h.1 (by decide) hk' hk, h.2⟩⟩
    · rw [List.getElem?_append_right (by omega)] at hp
      rw [List.getElem?_append_right (by omega), ← h1] at hn
      have : i - ps.length = 0 := by
        rcases Nat.eq_zero_or_pos (i - ps.length) with h | h
        · exact h
        · rw [List.getElem?_eq_none (by simp; omega)] at hp; cases hp
      rw [this] at hp hn
      simp at hp hn
      cases hp; cases hn
      exact ⟨rfl, .inr ⟨hch.own (own_ext hf hE) fun k hk hk' => own_apart h2 (own_ext hf hE) (by decide) hk' hk, hfl⟩⟩
  · obtain ⟨vs, hl, ho, _⟩ := id h'.rw
    exact rows_ch h'.rw hch (fun k hk hk' => own_apart h2 ho (by decide) hk' hk) fun u r k hu hk hk' => own_apart h2 hu (by decide) hk' hk
end

/-- copied goes on: its boxes, the nodes, the rows so far. -/
structure Cw (wA w2 : World) (ob L : Nat) (nv rv : Value) (cs : List Value) (rows : List (List Int)) (W : World) : Prop where
  ext : Ext wA W
  hs : w2.heap.size ≤ W.heap.size
  ho : wA.heap.size ≤ ob ∧ ob < w2.heap.size
  bo : Blk W ob #[nv, rv] 25
  nd : W.ownsRow wA.heap.size 67 4 nv L cs
  rw : Rows .i64 42 3 W w2.heap.size rv rows
section
variable {wA w2 w w' : World} {ob L : Nat} {nv rv : Value} {cs : List Value} {rows : List (List Int)}
theorem Cw.ext' (h : Cw wA w2 ob L nv rv cs rows w) (he : Ext w w') : Cw wA w2 ob L nv rv cs rows w' := ⟨h.ext.trans he, Nat.le_trans h.hs he.size, h.ho, h.bo.ext he, own_ext h.nd he, h.rw.ext he⟩
/-- 'out.Stacks = append(out.Stacks, append([]int{}, row...))'. -/
theorem Cw.push (h : Cw wA w2 ob L nv rv cs rows w) (hnb : nv.ownBlock ≠ some ob) {v : Value} {r : List Int} (hv : Sl .i64 w v r) (hn : (rows.length + 1) * 24 ≤ 140737488355328) :
    ∃ u w5 rv' w6, (Builtin.append_ #[42, 42] 42 #[.slice (some ⟨w.heap.size, 0, none⟩) 0 0, v]).run Try.prog (w.alloc (.cells #[] 3)) = .ok u w5 ∧ Ext w w5 ∧ (∃ ua uc, u = .slice ua r.length uc) ∧
      (Builtin.append_ #[23, 23] 23 #[rv, .slice (some ⟨w5.heap.size, 0, none⟩) 1 1]).run Try.prog (w5.alloc (.cells #[u] 42)) = .ok rv' w6 ∧ (∃ ga gc, rv' = .slice ga (rows.length + 1) gc) ∧
      w6.cell? ⟨ob, 1, none⟩ = some rv ∧ w6.frozen? ⟨ob, 1, none⟩ = false ∧ Cw wA w2 ob L nv rv' cs (rows ++ [r]) (w6.setCell ⟨ob, 1, none⟩ rv') := by
  obtain ⟨i1, hi1, hz1, hs1, hy1⟩ := info_i
  obtain ⟨u, w5, hr5, ho5, hx5⟩ := dup (ty := 42) uI hi1 hz1 hs1 hy1 rfl (by decide) (by decide) hv (oneCells _ _)
  obtain ⟨i0, hi, hz0, hs0, hy0⟩ := info_s
  have h5 := h.ext' hx5
  have hE : Ext w5 (w5.alloc (.cells #[u] 42)) := (Ext.refl w5).alloc _
  have h' := h5.ext' hE
  obtain ⟨vs, hvl, hro, _⟩ := id h'.rw
  have hou : w5.ownsRow w2.heap.size 3 1 u r.length (r.map (Value.int .i64)) := own_le ho5 h.hs
  have hne : u.ownBlock = none ∨ u.ownBlock ≠ rv.ownBlock := by
    cases hv : u.ownBlock with
    | none => exact .inl rfl
    | some g => exact .inr fun e => own_apart (own_ext hou hE) hro (by decide) hv e.symm
  obtain ⟨rv', w6, hrun, hR, hg⟩ := Rows.append (ty := 23) uS hi hz0 hs0 hy0 rfl h5.rw hou hv.2.1 hne h5.hs hn
  have hch : Ch (fun k => rv.ownBlock = some k) (w5.alloc (.cells #[u] 42)) w6 := Ch.of_grown hg fun k hk => hk
  have hlo : ¬ rv.ownBlock = some ob := fun e => by have := (hro.lt ob e).1; have := h.ho; omega
  have hc2 : Ch (fun k => k = ob) w6 (w6.setCell ⟨ob, 1, none⟩ rv') := Ch.set _ _ _ _ rfl
  have bo2 := hch.blk h'.bo hlo
  have hform : ∃ ga gc, rv' = .slice ga (rows.length + 1) gc := by
    obtain ⟨vs2, hl2, ho2, _⟩ := hR
    obtain ⟨a, c, rfl⟩ := Vc.own_form ho2
    exact ⟨a, c, by rw [hl2, List.length_append]; rfl⟩
  have hnd2 := hch.own h'.nd fun k hk hk' => own_apart h'.nd hro (by decide) hk hk'
  refine ⟨u, w5, rv', w6, hr5, hx5, Vc.own_form ho5, hrun, hform, bo2.cell (i := 1) rfl, bo2.free 1, ⟨(hch.ext h'.ext fun k hk => by have := (hro.lt k hk).1; have := h.ho; omega).setCell (p := ⟨ob, 1, none⟩) h.ho.1 _, by have := h'.hs; have := hch.size; simp [World.setCell]; omega, h.ho, bo2.set 1 rv', hc2.own hnd2 fun k hk e => hnb (e ▸ hk), ?_⟩⟩
  refine rows_ch hR hc2 (fun g hg e => ?_) (fun u r g hu hg e => ?_)
  · have := (hR.lt g hg).1; have := h.ho; omega
  · have := (hu.lt g hg).1; have := h.ho; omega
end

set_option maxRecDepth 100000 in
set_option maxHeartbeats 8000000 in
theorem copied_any (a b : Value) (g : Gph) (wE w : World) (base : Nat) (hI : GI wE base a b g w) (hn : g.1.length ≤ 1000) (hm : g.2.length ≤ 1048576) :
    Calls Try.prog 36 #[.agg #[a, b]] w fun e w' => ∃ na nc ra rc, e = .returned (.agg #[.slice na g.1.length nc, .slice ra g.2.length rc]) ∧ GrO wE base (.slice na g.1.length nc) (.slice ra g.2.length rc) g w' ∧ Ext w w' ∧ (∀ k, (Value.slice na g.1.length nc).ownBlock = some k → w.heap.size ≤ k) ∧ (∀ k, (Value.slice ra g.2.length rc).ownBlock = some k → w.heap.size ≤ k) := by
  have h := hI.gr
  obtain ⟨a0, c0, rfl⟩ := h.1.form
  obtain ⟨b0, d0, rfl⟩ := Gr.Ma.form h.2
  have HG := Lib.hid h
  have HN := Lib.hid (And.intro hn hm)
  have hlen := h.2.len uS
  have hsm := h.2.small
  obtain ⟨B, hB⟩ : ∃ B, B = w.heap.size := ⟨_, rfl⟩
  obtain ⟨wA, hwA⟩ : ∃ wA, wA = (w.alloc (.cells #[.slice a0 g.1.length c0, .slice b0 g.2.length d0] 25)).alloc (.cells #[.slice none 0 0, .slice none 0 0] 25) := ⟨_, rfl⟩
  have hxA : Ext w wA := hwA ▸ ((Ext.refl w).alloc _).alloc _
  have hbA : Blk wA B #[.slice a0 g.1.length c0, .slice b0 g.2.length d0] 25 := by rw [hwA, hB]; exact (Blk.new w _ _).alloc _
  have hrA : Blk wA (B + 1) #[.slice none 0 0, .slice none 0 0] 25 := by rw [hwA, hB]; exact Wf.blk_at (by simp)
  obtain ⟨i0, hi, hz0, hs0, hy0⟩ := info_n
  obtain ⟨ps, hpl, hpr, hps⟩ := hI.nd
  obtain ⟨v1, w1, hr1, ho1, hx1⟩ := dup (ty := 22) uN hi hz0 hs0 hy0 rfl (by decide) (by decide) (hpr.ext hxA) (Wi.ncs_one fun p hp => by
    obtain ⟨i, hi, rfl⟩ := List.mem_iff_getElem.1 hp
    rcases (hps i ps[i] (g.1[i]'(by omega)) (by simp) (by simp)).2 with h4 | ⟨h4, _⟩
    · exact sl_one h4
    · obtain ⟨a, c, hf⟩ := Vc.own_form h4
      rw [hf]; rfl)
  rw [hpl] at ho1
  obtain ⟨na, nc, rfl⟩ := Vc.own_form ho1
  have q0 : (wA.alloc (.cells #[] 67)).cell? ⟨B, 0, none⟩ = some (.slice a0 g.1.length c0) := (hbA.ext ((Ext.refl wA).alloc _)).cell (i := 0) rfl
  obtain ⟨w2, hw2⟩ : ∃ w2, w2 = w1.alloc (.cells #[.slice na g.1.length nc, .slice none 0 0] 25) := ⟨_, rfl⟩
  obtain ⟨ob, hob⟩ : ∃ ob, ob = w1.heap.size := ⟨_, rfl⟩
  have hx2 : Ext w1 w2 := hw2 ▸ (Ext.refl w1).alloc _
  have hbo : Blk w2 ob #[.slice na g.1.length nc, .slice none 0 0] 25 := by rw [hw2, hob]; exact Blk.new w1 _ _
  have HC0 : Hid (Cw wA w2 ob g.1.length (.slice na g.1.length nc) (.slice none 0 0) (ncs ps) [] w2) := ⟨hx1.trans hx2, Nat.le_refl _, ⟨by rw [hob]; exact hx1.size, hbo.lt⟩, hbo, own_ext ho1 hx2, Rows.nil _ _ _ _ _⟩
  have HNB : Hid ((Value.slice na g.1.length nc).ownBlock ≠ some ob) := fun e => by have := (ho1.lt ob e).2; omega
  rw [hwA] at hr1 q0
  simp only [World.size_alloc] at hr1
  have HR1 := Lib.hid hr1
  have HXA := Lib.hid hxA
  have HII := Lib.hid (And.intro hI.ext hI.hb)
  have HBA := Lib.hid hbA
  have HRA := Lib.hid hrA
  have HPS := Lib.hid (And.intro hpl hps)
  have HBB : Hid (B = w.heap.size) := hB
  clear h hI hn hm hxA hbA hrA hi hpr hr1 ho1 hx1 hx2 hbo hpl hps hz0 hs0 hy0
  go_enter Try.func36, Try.ntmps36
  rw [hB] at q0
  go_wp2_with (at_builtin; refine Lib.wpList_append_run _ rfl _ _ _ _ rfl _ _ rfl rfl _ w1 HR1.out ?_)
  rw [← hw2, ← hob, ← hB]
  clear hw2 hob q0 hwA hB
  go_loopw [4] (fun i wr => ∃ (j : Nat) (ra : Option Addr) (rc : Nat), i = .int .i64 j ∧ j ≤ g.2.length ∧ Cw wA w2 ob g.1.length (.slice na g.1.length nc) (.slice ra j rc) (ncs ps) (g.2.take j) wr) (fun i _ => g.2.length - (intOf i).toNat)
  case atStart => exact ⟨0, _, _, rfl, Nat.zero_le _, HC0.out⟩
  case round =>
    obtain ⟨j, ra, rc, rfl, hj, hP⟩ := hrel
    have k1 : wr.cell? ⟨B, 1, none⟩ = some (.slice b0 g.2.length d0) := (HBA.out.ext hP.ext).cell (i := 1) rfl
    by_cases hlt : j < g.2.length
    · obtain ⟨p, u, hpx, hpc, hu⟩ := HG.out.2.at_ uS szS (i := (j : Int)) (by omega) (by omega)
      rw [Int.toNat_natCast] at hu
      replace hu : Sl .i64 w u (rowOf g j) := hu
      obtain ⟨ua, uc, rfl⟩ := Row.form hu
      obtain ⟨rl, hrl⟩ : ∃ rl, (rowOf g j).length = rl := ⟨_, rfl⟩
      replace hpc : wr.cell? p = some (.slice ua rl uc) := by rw [← hrl]; exact (HXA.out.trans hP.ext).cell hpc
      have hxd : Ext wr wr.drew := (Ext.refl wr).drew
      obtain ⟨v5, w5, rv6, w6, hr5, hx5, ⟨va, vc, rfl⟩, hr6, ⟨ga, gc, rfl⟩, q6, f6, hPn⟩ := (hP.ext' hxd).push HNB.out (hu.ext (HXA.out.trans (hP.ext.trans hxd))) (by rw [List.length_take]; have := HN.out.2; omega)
      have hml : (g.2.take j).length = j := by rw [List.length_take]; omega
      rw [hrl] at hr5 hr6
      rw [hml] at hr6 hPn
      have hstep : g.2.take (j + 1) = g.2.take j ++ [rowOf g j] := take_snoc g.2 j hlt []
      rw [← hstep] at hPn
      have HPn := Lib.hid hPn
      have s1 : wr.cell? ⟨ob, 1, none⟩ = some (.slice ra j rc) := hP.bo.cell (i := 1) rfl
      have hS0 : wr.drew.cell? ⟨ob, 1, none⟩ = some (.slice ra j rc) ∧ wr.drew.cell? ⟨B, 1, none⟩ = some (.slice b0 g.2.length d0) ∧ wr.drew.cell? p = some (.slice ua rl uc) := ⟨s1, k1, hpc⟩
      have hSx : Hid (∀ W, Ext wr.drew W → W.cell? ⟨ob, 1, none⟩ = some (.slice ra j rc) ∧ W.cell? ⟨B, 1, none⟩ = some (.slice b0 g.2.length d0) ∧ W.cell? p = some (.slice ua rl uc)) := fun W hW => ⟨hW.cell s1, hW.cell k1, hW.cell hpc⟩
      have HX5 := Lib.hid hx5
      clear hP hu hrl hx5 hml hstep hPn s1 hxd
      go_wp2_with fail
      refine wp_region_noPanic ?_
      refine Rt.begin_ (fun W : World => W.cell? ⟨ob, 1, none⟩ = some (.slice ra j rc) ∧ W.cell? ⟨B, 1, none⟩ = some (.slice b0 g.2.length d0) ∧ W.cell? p = some (.slice ua rl uc)) (fun i => i == 10 || i == 12) (by kernel_rfl) ?_
      simp only [List.length_cons, List.length_nil, Nat.reduceAdd, Array.replicate_succ, Array.replicate_zero]
      refine Rt.takeW 0 (v := ?_) rfl (by kernel_rfl) (fun _ _ _ h => h) rfl ?_ ?_
      rotate_left
      · (intro W; go_simp; try with_reducible rfl)
      try simp only [Act.put, List.setIfInBounds_toArray, List.set_cons_zero, List.set_cons_succ]
      refine Rt.take 1 (v := ?_) rfl (by kernel_rfl) (fun _ _ _ h => h) rfl ?_ hS0 ?_
      rotate_left
      · (intro W hSW; (try dsimp only at hSW); go_simp; try with_reducible rfl)
      try simp only [Act.put, List.setIfInBounds_toArray, List.set_cons_zero, List.set_cons_succ]
      refine Rt.takeW 3 (v := ?_) rfl (by kernel_rfl) (fun _ _ _ h => h) rfl ?_ ?_
      rotate_left
      · (intro W; go_simp; try with_reducible rfl)
      try simp only [Act.put, List.setIfInBounds_toArray, List.set_cons_zero, List.set_cons_succ]
      refine Rt.take 4 (v := ?_) rfl (by kernel_rfl) (fun _ _ _ h => h) rfl ?_ hS0 ?_
      rotate_left
      · (intro W hSW; (try dsimp only at hSW); go_simp; try with_reducible rfl)
      try simp only [Act.put, List.setIfInBounds_toArray, List.set_cons_zero, List.set_cons_succ]
      refine Rt.takeW 5 (v := ?_) rfl (by kernel_rfl) (fun _ _ _ h => h) rfl ?_ ?_
      rotate_left
      · (intro W; go_simp; try with_reducible rfl)
      try simp only [Act.put, List.setIfInBounds_toArray, List.set_cons_zero, List.set_cons_succ]
      refine Rt.takeW 6 (v := ?_) rfl (by kernel_rfl) (fun _ _ _ h => h) rfl ?_ ?_
      rotate_left
      · (intro W; go_simp; try with_reducible rfl)
      try simp only [Act.put, List.setIfInBounds_toArray, List.set_cons_zero, List.set_cons_succ]
      refine Rt.take 7 (v := ?_) rfl (by kernel_rfl) (fun _ _ _ h => h) rfl ?_ hS0 ?_
      rotate_left
      · (intro W hSW; (try dsimp only at hSW); go_simp; try with_reducible rfl)
      try simp only [Act.put, List.setIfInBounds_toArray, List.set_cons_zero, List.set_cons_succ]
      refine Rt.step 2 rfl (by kernel_rfl) rfl (fun K hK => ?_)
      go_simp
      refine hK _ _ ⟨.inr fun _ => hSx.out _ (by first | exact (Ext.refl _).alloc _ | exact ((Ext.refl wr).drew).alloc _), ?_⟩
      clear hK K
      try simp only [Act.put, List.setIfInBounds_toArray, List.set_cons_zero, List.set_cons_succ]
      refine Rt.step 8 rfl (by kernel_rfl) rfl (fun K hK => ?_)
      with_reducible refine Lib.wp_append_run _ (.tmp 19) (.tmp 24) 42 42 ?_ _ _ ?_ ?_ _ _ hr5 ?_
      rfl
      rfl
      rfl
      refine hK _ _ ⟨.inr fun _ => hSx.out _ HX5.out, ?_⟩
      clear hK K
      try simp only [Act.put, List.setIfInBounds_toArray, List.set_cons_zero, List.set_cons_succ]
      refine Rt.step 9 rfl (by kernel_rfl) rfl (fun K hK => ?_)
      go_simp
      refine hK _ _ ⟨.inr fun _ => hSx.out _ (HX5.out.alloc _), ?_⟩
      clear hK K
      try simp only [Act.put, List.setIfInBounds_toArray, List.set_cons_zero, List.set_cons_succ]
      refine Rt.step 10 rfl (by kernel_rfl) rfl (fun K hK => ?_)
      with_reducible refine Lib.wp_append_run _ (.tmp 18) (.tmp 26) 23 23 ?_ _ _ ?_ ?_ _ _ hr6 ?_
      rfl
      rfl
      rfl
      refine hK _ _ ⟨.inl rfl, ?_⟩
      clear hK K
      try simp only [Act.put, List.setIfInBounds_toArray, List.set_cons_zero, List.set_cons_succ]
      refine Rt.takeW 11 (v := ?_) rfl (by kernel_rfl) (fun _ _ _ h => h) rfl ?_ ?_
      rotate_left
      · (intro W; go_simp; try with_reducible rfl)
      try simp only [Act.put, List.setIfInBounds_toArray, List.set_cons_zero, List.set_cons_succ]
      refine Rt.step 12 rfl (by kernel_rfl) rfl (fun K hK => ?_)
      go_simp
      refine hK _ _ ⟨.inl rfl, ?_⟩
      clear hK K
      try simp only [Act.put, List.setIfInBounds_toArray, List.set_cons_zero, List.set_cons_succ]
      refine Rt.done (by kernel_rfl) ?_
      refine NoPanic.normal ?_
      go_wp2_with fail
      go_roundw
      case rel => exact ⟨j + 1, ga, gc, by go_num, hlt, HPn.out⟩
      case measure => simp [intOf]; omega
    · obtain rfl : j = g.2.length := by omega
      rw [List.take_length] at hP
      obtain ⟨W8, hW8⟩ : ∃ W8, W8 = (wr.setCell ⟨B + 1, 0, none⟩ (.slice na g.1.length nc)).setCell ⟨B + 1, 1, none⟩ (.slice ra g.2.length rc) := ⟨_, rfl⟩
      have hb1 := HRA.out.ext hP.ext
      have hb1l := HRA.out.lt
      have hbW : Blk W8 (B + 1) #[.slice na g.1.length nc, .slice ra g.2.length rc] 25 := by rw [hW8]; exact (hb1.set 0 _).set 1 _
      have r0 : W8.cell? ⟨B + 1, 0, none⟩ = some (.slice na g.1.length nc) := hbW.cell (i := 0) rfl
      have r1 : W8.cell? ⟨B + 1, 1, none⟩ = some (.slice ra g.2.length rc) := hbW.cell (i := 1) rfl
      have hc : Ch (fun k => k = B + 1) wr W8 := by
        rw [hW8]
        exact (Ch.set (fun k => k = B + 1) wr ⟨B + 1, 0, none⟩ _ rfl).trans (Ch.set (fun k => k = B + 1) _ ⟨B + 1, 1, none⟩ _ rfl) (fun _ _ h => h)
      have HF : Hid (GrO wE base (.slice na g.1.length nc) (.slice ra g.2.length rc) g W8 ∧ Ext w W8 ∧ (∀ k, (Value.slice na g.1.length nc).ownBlock = some k → w.heap.size ≤ k) ∧ (∀ k, (Value.slice ra g.2.length rc).ownBlock = some k → w.heap.size ≤ k)) := by
        have hBw := HBB.out
        have hxs := HXA.out.size
        have hib := HII.out.2
        have hxr := HXA.out.trans hP.ext
        have hle : w.heap.size ≤ w2.heap.size := by have := hP.ho; omega
        refine ⟨?_, hc.ext hxr (fun k hk => by omega), fun k hk => by have := (hP.nd.lt k hk).1; omega, fun k hk => by have := (hP.rw.lt k hk).1; omega⟩
        refine ⟨hc.ext (HII.out.1.trans hxr) (fun k hk => by omega), ⟨hib.1, by have := hxr.size; have := hc.size; omega⟩, HN.out.1, HN.out.2, ⟨ps, HPS.out.1, own_le (hc.own hP.nd fun k hk e => by have := (hP.nd.lt k hk).1; omega) (by omega), fun i p n hp hn => ⟨(HPS.out.2 i p n hp hn).1, (HPS.out.2 i p n hp hn).2.imp id fun h => ⟨hc.own (own_ext h.1 hxr) fun k hk e => by have := (h.1.lt k hk).2; omega, h.2⟩⟩⟩, ?_⟩
        have hR := rows_ch hP.rw hc (fun g hg e => by have := (hP.rw.lt g hg).1; have := hP.ho; omega) (fun u r g hu hg e => by have := (hu.lt g hg).1; have := hP.ho; omega)
        obtain ⟨vs, e1, e2, e3, e4⟩ := hR
        exact ⟨vs, e1, own_le e2 (by omega), e3, fun i u r hu hr => ⟨own_le (e4 i u r hu hr).1 (by omega), (e4 i u r hu hr).2⟩⟩
      have t0 : wr.cell? ⟨ob, 0, none⟩ = some (.slice na g.1.length nc) := hP.bo.cell (i := 0) rfl
      have t1 : wr.cell? ⟨ob, 1, none⟩ = some (.slice ra g.2.length rc) := hP.bo.cell (i := 1) rfl
      have x0 : wr.cell? ⟨B + 1, 0, none⟩ = some (.slice none 0 0) := hb1.cell (i := 0) rfl
      have x1 : wr.cell? ⟨B + 1, 1, none⟩ = some (.slice none 0 0) := hb1.cell (i := 1) rfl
      have y0 := hb1.free 0
      have y1 := hb1.free 1
      clear hP hb1 hb1l hbW hc
      go_wp2_with fail
      rw [← hW8]
      clear hW8
      exact bodyPost_ret (v := .agg #[.slice na g.1.length nc, .slice ra g.2.length rc]) (by simp [results, Try.results36, go_sem, r0, r1]) rfl ⟨_, _, _, _, rfl, HF.out⟩
end Go.Proofs.Ytjhmlbhfnogdiaa.Cy
