/- slices.Clone and graph.with at three element types: a row of the call's own, one element of it another. -/
import Derived.Test.YtjhmlbhfnogdiaaGr
import Derived.StillTailTactics
namespace Go.Proofs.Ytjhmlbhfnogdiaa.Wi
open Go.RowKit
open Go.Proofs.Ytjhmlbhfnogdiaa Go.Proofs.Ytjhmlbhfnogdiaa.Gr
set_option linter.unusedVariables false
set_option maxRecDepth 100000

/-- One element of a row of the call's own is written. -/
theorem own_set {w : World} {base : Nat} {e : TypeId} {s n : Nat} {v : Value} {cs : List Value} (h : w.ownsRow base e s v n cs) {i : Nat} (hi : i < cs.length) :
    ∃ (g : Nat) (cap : Nat), v = .slice (some ⟨g, 0, none⟩) n cap ∧ base ≤ g ∧ g < w.heap.size ∧ w.cell? ⟨g, i, none⟩ = cs[i]? ∧ w.frozen? ⟨g, i, none⟩ = false ∧ ∀ x, (w.setCell ⟨g, i, none⟩ x).ownsRow base e s v n (cs.set i x) := by
  obtain ⟨hl, ⟨rfl, rfl⟩ | ⟨g, cap, cur, rfl, hb, hg, hnc, hcm, hcs, htake⟩⟩ := h
  · rw [Nat.zero_mul] at hl; omega
  · have hlt : g < w.heap.size := (Array.getElem?_eq_some_iff.1 hg).1
    have hc : w.cell? ⟨g, i, none⟩ = cs[i]? := by
      rw [cell_of_row w g i cur e (0, 0) hg, ← htake, List.getElem?_take, if_pos (by omega)]
      simp
    refine ⟨g, cap, rfl, hb, hlt, hc, by simp [World.frozen?, show w.heap[g]? = _ from hg], fun x => ⟨by simpa using hl, .inr ⟨g, cap, cur.setIfInBounds i x, rfl, hb, ?_, hnc, hcm, by simpa using hcs, ?_⟩⟩⟩
    · simp [World.setCell, Array.getElem?_modify, show w.heap[g]? = _ from hg]
    · rw [Array.toList_setIfInBounds, ← htake, List.take_set]


theorem clone_u (v : Value) (n : Nat) (cs : List Value) (w : World) (h : Row w 1 8 v n cs) (h1 : ∀ x ∈ cs, x.oneCell' = true) :
    Calls Try.prog 30 #[v] w fun e w' => ∃ v', e = .returned v' ∧ w'.ownsRow w.heap.size 26 1 v' n cs ∧ Ext w w' := by
  have hcopy := h
  obtain ⟨hl, hb, hn, ⟨rfl, rfl⟩ | ⟨a, cap, rfl, hnc, hcm, hcell⟩⟩ := hcopy
  · obtain rfl : cs = [] := by rw [Nat.zero_mul] at hl; exact List.eq_nil_of_length_eq_zero hl
    have hnil : ∀ w', (binOp .eql 65 (.slice none 0 0) (.slice none 0 0)).run Try.prog w' = .ok (.bool true) w' := fun w' => Row.eql_nil uU h w'
    clear hl hb hn h h1
    go_enter Try.func30, Try.ntmps30
    go_wp2_with fail
    go_ret
    exact ⟨_, rfl, World.ownsRow_nil _ _ _ _, Ext.refl w⟩
  · obtain ⟨i0, hi, hz0, hz1, hz2⟩ := info_u
    have hnil : ∀ w', (binOp .eql 65 (.slice (some a) n cap) (.slice none 0 0)).run Try.prog w' = .ok (.bool false) w' := fun w' => Row.eql_nil uU h w'
    have hE : Ext w (w.alloc (.cells #[] 26)) := (Ext.refl w).alloc _
    obtain ⟨v', w', hrun, hown, hg, _⟩ := append_own (ty := 65) uU hi hz0 hz1 hz2 rfl (by decide) (own_empty w 26 1) (by simp) (h.ext hE) h1 (by omega) (by decide)
    rw [Nat.zero_add, List.nil_append] at hown
    have HF := Lib.hid (And.intro hown (hE.grown hg (fun k hk => by simp [Value.ownBlock] at hk; omega)))
    have HR := Lib.hid hrun
    clear hown hg hrun hcell h h1 hE hl hb hn hnc hcm
    go_enter Try.func30, Try.ntmps30
    go_wp2_with (at_builtin; refine Lib.wpList_append_run _ rfl _ _ _ _ rfl _ _ rfl rfl v' w' HR.out ?_)
    go_ret
    exact ⟨_, rfl, HF.out⟩

theorem clone_s (v : Value) (n : Nat) (cs : List Value) (w : World) (h : Row w 1 24 v n cs) (h1 : ∀ x ∈ cs, x.oneCell' = true) :
    Calls Try.prog 77 #[v] w fun e w' => ∃ v', e = .returned v' ∧ w'.ownsRow w.heap.size 42 1 v' n cs ∧ Ext w w' := by
  have hcopy := h
  obtain ⟨hl, hb, hn, ⟨rfl, rfl⟩ | ⟨a, cap, rfl, hnc, hcm, hcell⟩⟩ := hcopy
  · obtain rfl : cs = [] := by rw [Nat.zero_mul] at hl; exact List.eq_nil_of_length_eq_zero hl
    have hnil : ∀ w', (binOp .eql 23 (.slice none 0 0) (.slice none 0 0)).run Try.prog w' = .ok (.bool true) w' := fun w' => Row.eql_nil uS h w'
    clear hl hb hn h h1
    go_enter Try.func77, Try.ntmps77
    go_wp2_with fail
    go_ret
    exact ⟨_, rfl, World.ownsRow_nil _ _ _ _, Ext.refl w⟩
  · obtain ⟨i0, hi, hz0, hz1, hz2⟩ := info_s
    have hnil : ∀ w', (binOp .eql 23 (.slice (some a) n cap) (.slice none 0 0)).run Try.prog w' = .ok (.bool false) w' := fun w' => Row.eql_nil uS h w'
    have hE : Ext w (w.alloc (.cells #[] 42)) := (Ext.refl w).alloc _
    obtain ⟨v', w', hrun, hown, hg, _⟩ := append_own (ty := 23) uS hi hz0 hz1 hz2 rfl (by decide) (own_empty w 42 1) (by simp) (h.ext hE) h1 (by omega) (by decide)
    rw [Nat.zero_add, List.nil_append] at hown
    have HF := Lib.hid (And.intro hown (hE.grown hg (fun k hk => by simp [Value.ownBlock] at hk; omega)))
    have HR := Lib.hid hrun
    clear hown hg hrun hcell h h1 hE hl hb hn hnc hcm
    go_enter Try.func77, Try.ntmps77
    go_wp2_with (at_builtin; refine Lib.wpList_append_run _ rfl _ _ _ _ rfl _ _ rfl rfl v' w' HR.out ?_)
    go_ret
    exact ⟨_, rfl, HF.out⟩

theorem clone_n (v : Value) (n : Nat) (cs : List Value) (w : World) (h : Row w 4 48 v n cs) (h1 : ∀ x ∈ cs, x.oneCell' = true) :
    Calls Try.prog 84 #[v] w fun e w' => ∃ v', e = .returned v' ∧ w'.ownsRow w.heap.size 67 4 v' n cs ∧ Ext w w' := by
  have hcopy := h
  obtain ⟨hl, hb, hn, ⟨rfl, rfl⟩ | ⟨a, cap, rfl, hnc, hcm, hcell⟩⟩ := hcopy
  · obtain rfl : cs = [] := by rw [Nat.zero_mul] at hl; exact List.eq_nil_of_length_eq_zero hl
    have hnil : ∀ w', (binOp .eql 22 (.slice none 0 0) (.slice none 0 0)).run Try.prog w' = .ok (.bool true) w' := fun w' => Row.eql_nil uN h w'
    clear hl hb hn h h1
    go_enter Try.func84, Try.ntmps84
    go_wp2_with fail
    go_ret
    exact ⟨_, rfl, World.ownsRow_nil _ _ _ _, Ext.refl w⟩
  · obtain ⟨i0, hi, hz0, hz1, hz2⟩ := info_n
    have hnil : ∀ w', (binOp .eql 22 (.slice (some a) n cap) (.slice none 0 0)).run Try.prog w' = .ok (.bool false) w' := fun w' => Row.eql_nil uN h w'
    have hE : Ext w (w.alloc (.cells #[] 67)) := (Ext.refl w).alloc _
    obtain ⟨v', w', hrun, hown, hg, _⟩ := append_own (ty := 22) uN hi hz0 hz1 hz2 rfl (by decide) (own_empty w 67 4) (by simp) (h.ext hE) h1 (by omega) (by decide)
    rw [Nat.zero_add, List.nil_append] at hown
    have HF := Lib.hid (And.intro hown (hE.grown hg (fun k hk => by simp [Value.ownBlock] at hk; omega)))
    have HR := Lib.hid hrun
    clear hown hg hrun hcell h h1 hE hl hb hn hnc hcm
    go_enter Try.func84, Try.ntmps84
    go_wp2_with (at_builtin; refine Lib.wpList_append_run _ rfl _ _ _ _ rfl _ _ rfl rfl v' w' HR.out ?_)
    go_ret
    exact ⟨_, rfl, HF.out⟩

/-- An element's place in a row of the call's own. -/
theorem own_at {P : Program} {T E : TypeId} {w : World} {base : Nat} {e : TypeId} {s n g cap i : Nat} (ht : P.underlying T = some (.slice E)) (hsz : ∀ w, (sizeOf E).run P w = .ok s w) (hi : i < n) (w' : World) :
    (Instr.indexAt T (.slice (some ⟨g, 0, none⟩) n cap) (.int .i64 i)).run P w' = .ok (.pointer (some ⟨g, i * s, none⟩)) w' := by
  have hi' : ¬ n ≤ i := by omega
  have hadd : (⟨g, 0, none⟩ : Addr).add (i * s) = ⟨g, i * s, none⟩ := by
    unfold Addr.add
    split
    · rename_i h; rw [h]
    · simp
  simp [Instr.indexAt, run_underlying ht, asIntOf, hsz, hi', hadd]

theorem with_u (v : Value) (xs : List Int) (i : Nat) (x : Int) (w : World) (h : Sl .u64 w v xs) (hi : i < xs.length) :
    Calls Try.prog 75 #[v, .int .i64 i, .int .u64 x] w fun e w' => ∃ v', e = .returned v' ∧ w'.ownsRow w.heap.size 26 1 v' (xs.set i x).length ((xs.set i x).map (Value.int .u64)) ∧ Ext w w' := by
  have HC := Lib.hid (clone_u v _ _ w h (oneCells _ _))
  go_enter Try.func75, Try.ntmps75
  go_wp2_with fail
  refine HC.out.mono ?_; rintro e w1 ⟨v', rfl, hown, hx⟩
  obtain ⟨g, cap, rfl, hb, hlt, hc, hf, hset⟩ := own_set hown (i := i) (by simpa using hi)
  have hat := own_at (P := Try.prog) (base := 0) (e := 0) (w := w) uU szU hi (g := g) (cap := cap) (n := xs.length)
  rw [Nat.mul_one] at hat
  have hc' : w1.cell? ⟨g, i, none⟩ = some (.int .u64 (xs.getD i 0)) := by rw [hc]; simp [List.getD_eq_getElem?_getD, hi]
  have HF : Hid ((w1.setCell ⟨g, i, none⟩ (.int .u64 x)).ownsRow w.heap.size 26 1 (.slice (some ⟨g, 0, none⟩) xs.length cap) (xs.set i x).length ((xs.set i x).map (Value.int .u64)) ∧ Ext w (w1.setCell ⟨g, i, none⟩ (.int .u64 x))) := ⟨by
    have := hset (.int .u64 x)
    rw [List.map_set, List.length_set]; exact this, hx.setCell (p := ⟨g, i, none⟩) hb _⟩
  clear hown hx hset hc
  go_wp2_with fail
  go_ret
  exact ⟨_, rfl, HF.out⟩

theorem with_s (v u : Value) (vs : List Value) (i : Nat) (w : World) (h : Row w 1 24 v vs.length vs) (h1 : ∀ x ∈ vs, x.oneCell' = true) (hi : i < vs.length) (ua : Option Addr) (un uc : Nat) (hu : u = .slice ua un uc) :
    Calls Try.prog 63 #[v, .int .i64 i, u] w fun e w' => ∃ v', e = .returned v' ∧ w'.ownsRow w.heap.size 42 1 v' (vs.set i u).length (vs.set i u) ∧ Ext w w' := by
  have HC := Lib.hid (clone_s v _ _ w h h1)
  subst hu
  go_enter Try.func63, Try.ntmps63
  go_wp2_with fail
  refine HC.out.mono ?_; rintro e w1 ⟨v', rfl, hown, hx⟩
  obtain ⟨g, cap, rfl, hb, hlt, hc, hf, hset⟩ := own_set hown (i := i) hi
  have hat := own_at (P := Try.prog) (base := 0) (e := 0) (w := w) uS szS hi (g := g) (cap := cap) (n := vs.length)
  rw [Nat.mul_one] at hat
  have hc' : w1.cell? ⟨g, i, none⟩ = some vs[i] := by rw [hc]; simp [hi]
  have HF : Hid ((w1.setCell ⟨g, i, none⟩ (.slice ua un uc)).ownsRow w.heap.size 42 1 (.slice (some ⟨g, 0, none⟩) vs.length cap) (vs.set i (.slice ua un uc)).length (vs.set i (.slice ua un uc)) ∧ Ext w (w1.setCell ⟨g, i, none⟩ (.slice ua un uc))) := ⟨by
    have := hset (.slice ua un uc)
    rw [List.length_set]; exact this, hx.setCell (p := ⟨g, i, none⟩) hb _⟩
  clear hown hx hset hc
  go_wp2_with fail
  go_ret
  exact ⟨_, rfl, HF.out⟩

theorem ncs_set (ps : List (Hd × Value)) (i : Nat) (p : Hd × Value) (hi : i < ps.length) :
    ncs (ps.set i p) = ((((ncs ps).set (i * 4) (.int .i64 p.1.1)).set (i * 4 + 1) (.int .i64 p.1.2.1)).set (i * 4 + 2) (.int .u64 p.1.2.2)).set (i * 4 + 3) p.2 := by
  induction ps generalizing i with
  | nil => simp at hi
  | cons e r ih =>
    cases i with
    | zero => rfl
    | succ i =>
      have e1 : (i + 1) * 4 = i * 4 + 4 := by omega
      have e2 : i * 4 + 4 + 1 = i * 4 + 1 + 4 := by omega
      have e3 : i * 4 + 4 + 2 = i * 4 + 2 + 4 := by omega
      have e4 : i * 4 + 4 + 3 = i * 4 + 3 + 4 := by omega
      rw [List.set_cons_succ, ncs_cons, ncs_cons, ih i (by simpa using hi), e1, e2, e3, e4]
      rfl
theorem ncs_one {ps : List (Hd × Value)} (h : ∀ p ∈ ps, p.2.oneCell' = true) : ∀ x ∈ ncs ps, x.oneCell' = true := fun x hx => by
  simp only [ncs, List.mem_flatMap, nc] at hx
  obtain ⟨p, hp, hx⟩ := hx
  simp at hx
  rcases hx with rfl | rfl | rfl | rfl
  · rfl
  · rfl
  · rfl
  · exact h p hp

theorem with_n (v : Value) (ps : List (Hd × Value)) (i : Nat) (x : Hd) (fa : Option Addr) (fl fc : Nat) (w : World) (h : Row w 4 48 v ps.length (ncs ps)) (h1 : ∀ p ∈ ps, p.2.oneCell' = true) (hi : i < ps.length) :
    Calls Try.prog 76 #[v, .int .i64 i, .agg #[.int .i64 x.1, .int .i64 x.2.1, .int .u64 x.2.2, .slice fa fl fc]] w fun e w' => ∃ v', e = .returned v' ∧ w'.ownsRow w.heap.size 67 4 v' ps.length (ncs (ps.set i (x, .slice fa fl fc))) ∧ Ext w w' := by
  obtain ⟨wA, hwA⟩ : ∃ wA, wA = w.alloc (.cells #[.int .i64 x.1, .int .i64 x.2.1, .int .u64 x.2.2, .slice fa fl fc] 67) := ⟨_, rfl⟩
  have hxA : Ext w wA := hwA ▸ (Ext.refl w).alloc _
  have hbA : Blk wA w.heap.size #[.int .i64 x.1, .int .i64 x.2.1, .int .u64 x.2.2, .slice fa fl fc] 67 := hwA ▸ Blk.new w _ _
  have hsz : w.heap.size ≤ wA.heap.size := hxA.size
  have HC := Lib.hid (clone_n v _ _ wA (h.ext hxA) (ncs_one h1))
  clear h
  go_enter Try.func76, Try.ntmps76
  go_wp2_with fail
  rw [← hwA]
  clear hwA
  refine HC.out.mono ?_; rintro e w1 ⟨v', rfl, hown, hx⟩
  have hcl := ncs_len ps
  have hbw : Blk w1 w.heap.size _ _ := hbA.ext hx
  have b0 : w1.cell? ⟨w.heap.size, 0, none⟩ = some (.int .i64 x.1) := hbw.cell (i := 0) rfl
  have b1 : w1.cell? ⟨w.heap.size, 1, none⟩ = some (.int .i64 x.2.1) := hbw.cell (i := 1) rfl
  have b2 : w1.cell? ⟨w.heap.size, 2, none⟩ = some (.int .u64 x.2.2) := hbw.cell (i := 2) rfl
  have b3 : w1.cell? ⟨w.heap.size, 3, none⟩ = some (.slice fa fl fc) := hbw.cell (i := 3) rfl
  have hcell : ∀ k, k < ps.length * 4 → ∃ c, (ncs ps)[k]? = some c := fun k hk => ⟨(ncs ps)[k]'(by omega), by simp [hcl, hk]⟩
  obtain ⟨y0, hy0⟩ := hcell (i * 4) (by omega)
  obtain ⟨y1, hy1⟩ := hcell (i * 4 + 1) (by omega)
  obtain ⟨y2, hy2⟩ := hcell (i * 4 + 2) (by omega)
  obtain ⟨y3, hy3⟩ := hcell (i * 4 + 3) (by omega)
  obtain ⟨g, cap, rfl, hb, hlt, c0, f0, s0⟩ := own_set hown (i := i * 4) (by omega)
  have c1 : w1.cell? ⟨g, i * 4 + 1, none⟩ = (ncs ps)[i * 4 + 1]? ∧ w1.frozen? ⟨g, i * 4 + 1, none⟩ = false := by
    obtain ⟨_, _, e, _, _, q1, q2, _⟩ := own_set hown (i := i * 4 + 1) (by omega)
    cases e; exact ⟨q1, q2⟩
  have c2 : w1.cell? ⟨g, i * 4 + 2, none⟩ = (ncs ps)[i * 4 + 2]? ∧ w1.frozen? ⟨g, i * 4 + 2, none⟩ = false := by
    obtain ⟨_, _, e, _, _, q1, q2, _⟩ := own_set hown (i := i * 4 + 2) (by omega)
    cases e; exact ⟨q1, q2⟩
  have c3 : w1.cell? ⟨g, i * 4 + 3, none⟩ = (ncs ps)[i * 4 + 3]? ∧ w1.frozen? ⟨g, i * 4 + 3, none⟩ = false := by
    obtain ⟨_, _, e, _, _, q1, q2, _⟩ := own_set hown (i := i * 4 + 3) (by omega)
    cases e; exact ⟨q1, q2⟩
  obtain ⟨c1, f1⟩ := c1
  obtain ⟨c2, f2⟩ := c2
  obtain ⟨c3, f3⟩ := c3
  rw [hy0] at c0
  rw [hy1] at c1
  rw [hy2] at c2
  rw [hy3] at c3
  have hat := own_at (P := Try.prog) (base := 0) (e := 0) (w := w) uN szN hi (g := g) (cap := cap) (n := ps.length)
  have HF : Hid (((((w1.setCell ⟨g, i * 4, none⟩ (.int .i64 x.1)).setCell ⟨g, i * 4 + 1, none⟩ (.int .i64 x.2.1)).setCell ⟨g, i * 4 + 2, none⟩ (.int .u64 x.2.2)).setCell ⟨g, i * 4 + 3, none⟩ (.slice fa fl fc)).ownsRow w.heap.size 67 4 (.slice (some ⟨g, 0, none⟩) ps.length cap) ps.length (ncs (ps.set i (x, .slice fa fl fc))) ∧ Ext w ((((w1.setCell ⟨g, i * 4, none⟩ (.int .i64 x.1)).setCell ⟨g, i * 4 + 1, none⟩ (.int .i64 x.2.1)).setCell ⟨g, i * 4 + 2, none⟩ (.int .u64 x.2.2)).setCell ⟨g, i * 4 + 3, none⟩ (.slice fa fl fc))) := by
    have o0 := s0 (.int .i64 x.1)
    obtain ⟨_, _, e, _, _, _, _, s1⟩ := own_set o0 (i := i * 4 + 1) (by simp; omega)
    cases e
    have o1 := s1 (.int .i64 x.2.1)
    obtain ⟨_, _, e, _, _, _, _, s2⟩ := own_set o1 (i := i * 4 + 2) (by simp; omega)
    cases e
    have o2 := s2 (.int .u64 x.2.2)
    obtain ⟨_, _, e, _, _, _, _, s3⟩ := own_set o2 (i := i * 4 + 3) (by simp; omega)
    cases e
    have o3 := s3 (.slice fa fl fc)
    refine ⟨?_, ((((hxA.trans hx).setCell (p := ⟨g, _, none⟩) (Nat.le_trans hsz hb) _).setCell (p := ⟨g, _, none⟩) (Nat.le_trans hsz hb) _).setCell (p := ⟨g, _, none⟩) (Nat.le_trans hsz hb) _).setCell (p := ⟨g, _, none⟩) (Nat.le_trans hsz hb) _⟩
    rw [ncs_set ps i _ hi]
    obtain ⟨q1, q2⟩ := o3
    refine ⟨q1, ?_⟩
    rcases q2 with q2 | ⟨g', cap', cur, e1, e2, r⟩
    · exact .inl q2
    · exact .inr ⟨g', cap', cur, e1, by omega, r⟩
  clear hown hx s0 hcell hy0 hy1 hy2 hy3 hbw hbA hxA hcl h1
  go_wp2_with fail
  go_ret
  exact ⟨_, rfl, HF.out⟩
end Go.Proofs.Ytjhmlbhfnogdiaa.Wi
