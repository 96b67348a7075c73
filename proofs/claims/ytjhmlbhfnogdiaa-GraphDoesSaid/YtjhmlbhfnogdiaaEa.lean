/- The reference's Do: its boxes, how it ends; bad arguments, scalars. -/
import Derived.Test.YtjhmlbhfnogdiaaPv
import Derived.Test.YtjhmlbhfnogdiaaDh
import Derived.Test.YtjhmlbhfnogdiaaNo
namespace Go.Proofs.Ytjhmlbhfnogdiaa.Db
open Go.RowKit
open Go.Proofs.Ytjhmlbhfnogdiaa Go.Proofs.Ytjhmlbhfnogdiaa.Hd Go.Proofs.Ytjhmlbhfnogdiaa.Gr Go.Proofs.Ytjhmlbhfnogdiaa.Hg Go.Proofs.Ytjhmlbhfnogdiaa.Ps Go.Proofs.Ytjhmlbhfnogdiaa.Rr Go.Proofs.Ytjhmlbhfnogdiaa.Wk Go.Proofs.Ytjhmlbhfnogdiaa.Wp Go.Proofs.Ytjhmlbhfnogdiaa.Wa Go.Proofs.Ytjhmlbhfnogdiaa.Wc Go.Proofs.Ytjhmlbhfnogdiaa.Wf Go.Proofs.Ytjhmlbhfnogdiaa.Pl Go.Proofs.Ytjhmlbhfnogdiaa.Vf Go.Proofs.Ytjhmlbhfnogdiaa.Co Go.Proofs.Ytjhmlbhfnogdiaa.Ro Go.Proofs.Ytjhmlbhfnogdiaa.Cy Go.Proofs.Ytjhmlbhfnogdiaa.Pv Go.Proofs.Ytjhmlbhfnogdiaa.Dh
set_option linter.unusedVariables false

/-- Do's four boxes. -/
def Bx (B : Nat) (av bv : Value) (o : Opn) (W : World) : Prop :=
  Blk W B #[av, bv] 25 ∧ Blk W (B + 1) #[.int .i64 o.kind, .int .i64 o.h, .int .i64 o.i, .int .i64 o.k, .int .u64 o.v, .int .i64 o.new.1, .int .i64 o.new.2.1, .int .u64 o.new.2.2] 30 ∧ Blk W (B + 2) #[.slice none 0 0, .slice none 0 0] 25 ∧ Blk W (B + 3) #[.int .i64 0, .int .u64 0, .bool false] 35
theorem Bx.ext {B : Nat} {av bv : Value} {o : Opn} {W W' : World} (h : Bx B av bv o W) (he : Ext W W') : Bx B av bv o W' := ⟨h.1.ext he, h.2.1.ext he, h.2.2.1.ext he, h.2.2.2.ext he⟩
theorem bx_start {w w4 : World} {av bv : Value} {o : Opn} {B : Nat} (hB : B = w.heap.size) (h : w4 = (((w.alloc (.cells #[av, bv] 25)).alloc (.cells #[.int .i64 o.kind, .int .i64 o.h, .int .i64 o.i, .int .i64 o.k, .int .u64 o.v, .int .i64 o.new.1, .int .i64 o.new.2.1, .int .u64 o.new.2.2] 30)).alloc (.cells #[.slice none 0 0, .slice none 0 0] 25)).alloc (.cells #[.int .i64 0, .int .u64 0, .bool false] 35)) : Bx B av bv o w4 ∧ Ext w w4 ∧ w4.heap.size = B + 4 := by
  subst hB
  refine ⟨⟨?_, ?_, ?_, ?_⟩, ?_, by rw [h]; simp⟩
  · rw [h]; exact (((Blk.new w _ _).alloc _).alloc _).alloc _
  · rw [h]; exact ((Wf.blk_at (by simp)).alloc _).alloc _
  · rw [h]; exact (Wf.blk_at (by simp)).alloc _
  · rw [h]; exact Wf.blk_at (by simp)
  · rw [h]; exact ((((Ext.refl w).alloc _).alloc _).alloc _).alloc _
theorem Bx.cells {B : Nat} {av bv : Value} {o : Opn} {W : World} (h : Bx B av bv o W) : W.cell? ⟨B, 0, none⟩ = some av ∧ W.cell? ⟨B, 1, none⟩ = some bv ∧ W.cell? ⟨B + 1, 0, none⟩ = some (.int .i64 o.kind) ∧ W.cell? ⟨B + 1, 1, none⟩ = some (.int .i64 o.h) ∧ W.cell? ⟨B + 1, 2, none⟩ = some (.int .i64 o.i) ∧ W.cell? ⟨B + 1, 3, none⟩ = some (.int .i64 o.k) ∧ W.cell? ⟨B + 1, 4, none⟩ = some (.int .u64 o.v) ∧ W.cell? ⟨B + 1, 5, none⟩ = some (.int .i64 o.new.1) ∧ W.cell? ⟨B + 1, 6, none⟩ = some (.int .i64 o.new.2.1) ∧ W.cell? ⟨B + 1, 7, none⟩ = some (.int .u64 o.new.2.2) ∧
    W.cell? ⟨B + 2, 0, none⟩ = some (.slice none 0 0) ∧ W.cell? ⟨B + 2, 1, none⟩ = some (.slice none 0 0) ∧ W.cell? ⟨B + 3, 0, none⟩ = some (.int .i64 0) ∧ W.cell? ⟨B + 3, 1, none⟩ = some (.int .u64 0) ∧ W.cell? ⟨B + 3, 2, none⟩ = some (.bool false) ∧
    W.frozen? ⟨B + 2, 0, none⟩ = false ∧ W.frozen? ⟨B + 2, 1, none⟩ = false ∧ W.frozen? ⟨B + 3, 0, none⟩ = false ∧ W.frozen? ⟨B + 3, 1, none⟩ = false ∧ W.frozen? ⟨B + 3, 2, none⟩ = false :=
  ⟨h.1.cell (i := 0) rfl, h.1.cell (i := 1) rfl, h.2.1.cell (i := 0) rfl, h.2.1.cell (i := 1) rfl, h.2.1.cell (i := 2) rfl, h.2.1.cell (i := 3) rfl, h.2.1.cell (i := 4) rfl, h.2.1.cell (i := 5) rfl, h.2.1.cell (i := 6) rfl, h.2.1.cell (i := 7) rfl,
    h.2.2.1.cell (i := 0) rfl, h.2.2.1.cell (i := 1) rfl, h.2.2.2.cell (i := 0) rfl, h.2.2.2.cell (i := 1) rfl, h.2.2.2.cell (i := 2) rfl, h.2.2.1.free 0, h.2.2.1.free 1, h.2.2.2.free 0, h.2.2.2.free 1, h.2.2.2.free 2⟩

/-- What comes back stays where the boxes of the result are written. -/
def Sb (B : Nat) (w' : World) (a b : Value) (G : Gph) : Prop := ∀ W, Ch (fun k => k = B + 2 ∨ k = B + 3) w' W → Gr W a b G
theorem sb_old {B : Nat} {w w' : World} {a b : Value} {g : Gph} (hB : B = w.heap.size) (h : Gr w a b g) (hx : Ext w w') : Sb B w' a b g := fun W hc => h.ext (hc.ext hx fun k hk => by omega)
theorem sb_gro {B base : Nat} {w w' : World} {a b : Value} {g : Gph} (hB : B = w.heap.size) (h : GrO w base a b g w') (hb : B + 4 ≤ base) : Sb B w' a b g := fun W hc => (h.ch hc fun k hk => ⟨by omega, .inl (by omega)⟩).gr

theorem fin {B : Nat} {w w' : World} {av bv a' b' : Value} {o : Opn} {G : Gph} {e1 e2 : Int} {e3 : Bool} (hB : B = w.heap.size) (hbx : Bx B av bv o w') (hx : Ext w w') (hs : Sb B w' a' b' G) (W8 : World) (hW8 : W8 = ((((w'.setCell ⟨B + 2, 0, none⟩ a').setCell ⟨B + 2, 1, none⟩ b').setCell ⟨B + 3, 0, none⟩ (.int .i64 e1)).setCell ⟨B + 3, 1, none⟩ (.int .u64 e2)).setCell ⟨B + 3, 2, none⟩ (.bool e3)) :
    W8.cell? ⟨B + 2, 0, none⟩ = some a' ∧ W8.cell? ⟨B + 2, 1, none⟩ = some b' ∧ W8.cell? ⟨B + 3, 0, none⟩ = some (.int .i64 e1) ∧ W8.cell? ⟨B + 3, 1, none⟩ = some (.int .u64 e2) ∧ W8.cell? ⟨B + 3, 2, none⟩ = some (.bool e3) ∧ Gr W8 a' b' G ∧ Ext w W8 := by
  have h2 : Blk W8 (B + 2) #[a', b'] 25 := by
    rw [hW8]
    exact ((((hbx.2.2.1.set 0 a').set 1 b').other (p := ⟨B + 3, 0, none⟩) (by simp) _).other (p := ⟨B + 3, 1, none⟩) (by simp) _).other (p := ⟨B + 3, 2, none⟩) (by simp) _
  have h3 : Blk W8 (B + 3) #[.int .i64 e1, .int .u64 e2, .bool e3] 35 := by
    rw [hW8]
    exact ((((hbx.2.2.2.other (p := ⟨B + 2, 0, none⟩) (by simp) _).other (p := ⟨B + 2, 1, none⟩) (by simp) _).set 0 _).set 1 _).set 2 _
  have hc : Ch (fun k => k = B + 2 ∨ k = B + 3) w' W8 := by
    rw [hW8]
    exact ((((Ch.set (fun k => k = B + 2 ∨ k = B + 3) _ _ _ (.inl rfl)).trans (Ch.set (fun k => k = B + 2 ∨ k = B + 3) _ _ _ (.inl rfl)) (fun _ _ h => h)).trans (Ch.set (fun k => k = B + 2 ∨ k = B + 3) _ _ _ (.inr rfl)) (fun _ _ h => h)).trans (Ch.set (fun k => k = B + 2 ∨ k = B + 3) _ _ _ (.inr rfl)) (fun _ _ h => h)).trans (Ch.set (fun k => k = B + 2 ∨ k = B + 3) _ _ _ (.inr rfl)) (fun _ _ h => h)
  exact ⟨h2.cell (i := 0) rfl, h2.cell (i := 1) rfl, h3.cell (i := 0) rfl, h3.cell (i := 1) rfl, h3.cell (i := 2) rfl, hs W8 hc, hc.ext hx fun k hk => by omega⟩

theorem of_ok {g G : Gph} {th : Nat} {o : Opn} {v : Int} {b : Bool} (hth : th < g.2.length) (h : act g th o = .ok (G, v, b)) : doG g (th : Int) o = G ∧ doA g (th : Int) o = (0, v, b) := by
  have e : res g (th : Int) o = .ok (G, v, b) := by
    unfold res
    rw [if_pos (by omega), Int.toNat_natCast]; exact h
  unfold doG doA
  rw [e]; exact ⟨rfl, rfl⟩
theorem of_err {g : Gph} {th : Nat} {o : Opn} {e : Int} (hth : th < g.2.length) (h : act g th o = .error e) : doG g (th : Int) o = g ∧ doA g (th : Int) o = (e, 0, false) := by
  have e' : res g (th : Int) o = .error e := by
    unfold res
    rw [if_pos (by omega), Int.toNat_natCast]; exact h
  unfold doG doA
  rw [e']; exact ⟨rfl, rfl⟩

theorem gr_form {w : World} {a b : Value} {g : Gph} (h : Gr w a b g) : ∃ a0 l c b0 m d, a = .slice a0 l c ∧ b = .slice b0 m d := by
  obtain ⟨a0, c, rfl⟩ := h.1.form
  obtain ⟨b0, d, rfl⟩ := Gr.Ma.form h.2
  exact ⟨a0, _, c, b0, _, d, rfl, rfl⟩

/-- Either of two operations may come up. -/
theorem two {P : Program} {l : List Oper} {Q : Exit → Act → World → Prop} {S : World → Prop} {T : Nat → Bool} {fuel : Nat} {listed : Array Bool} {a : Act} {w : World} (i j : Nat) {oi oj : Oper} (hi : l[i]? = some oi) (hj : l[j]? = some oj) (hr : Region.ready .any l.toArray listed = [i, j]) (hgi : oi.guard = none) (hgj : oj.guard = none)
    (h1 : ∀ K : Act → World → Prop, (∀ a' w', ((T i = true ∨ (S w → S w')) ∧ Rt.wpT P .any l.toArray Q S T fuel (listed.setIfInBounds i true) a' w') → K a' w') → oi.wp P a w K Q)
    (h2 : ∀ K : Act → World → Prop, (∀ a' w', ((T j = true ∨ (S w → S w')) ∧ Rt.wpT P .any l.toArray Q S T fuel (listed.setIfInBounds j true) a' w') → K a' w') → oj.wp P a w K Q) : Rt.wpT P .any l.toArray Q S T (fuel + 1) listed a w := by
  refine ⟨fun h0 => (by rw [hr] at h0; cases h0), ?_⟩
  rw [hr]
  intro k hk
  have hi' : l.toArray[i]? = some oi := by simpa using hi
  have hj' : l.toArray[j]? = some oj := by simpa using hj
  rcases List.mem_cons.1 hk with rfl | hk
  · unfold wpOp
    simp only [hi', Region.wanted, hgi, if_true]
    exact .inl (h1 _ fun _ _ h => h)
  · obtain rfl : k = j := by simpa using hk
    unfold wpOp
    simp only [hj', Region.wanted, hgj, if_true]
    exact .inl (h2 _ fun _ _ h => h)
end Go.Proofs.Ytjhmlbhfnogdiaa.Db

namespace Go.Proofs.Ytjhmlbhfnogdiaa.Do
open Go.RowKit
open Go.Proofs.Ytjhmlbhfnogdiaa Go.Proofs.Ytjhmlbhfnogdiaa.Hd Go.Proofs.Ytjhmlbhfnogdiaa.Gr Go.Proofs.Ytjhmlbhfnogdiaa.Hg Go.Proofs.Ytjhmlbhfnogdiaa.Ps Go.Proofs.Ytjhmlbhfnogdiaa.Rr Go.Proofs.Ytjhmlbhfnogdiaa.Wk Go.Proofs.Ytjhmlbhfnogdiaa.Wp Go.Proofs.Ytjhmlbhfnogdiaa.Wa Go.Proofs.Ytjhmlbhfnogdiaa.Wc Go.Proofs.Ytjhmlbhfnogdiaa.Wf Go.Proofs.Ytjhmlbhfnogdiaa.Pl Go.Proofs.Ytjhmlbhfnogdiaa.Vf Go.Proofs.Ytjhmlbhfnogdiaa.Co Go.Proofs.Ytjhmlbhfnogdiaa.Ro Go.Proofs.Ytjhmlbhfnogdiaa.Cy Go.Proofs.Ytjhmlbhfnogdiaa.Pv Go.Proofs.Ytjhmlbhfnogdiaa.Dh Go.Proofs.Ytjhmlbhfnogdiaa.Db
set_option linter.unusedVariables false

set_option maxRecDepth 100000 in
set_option maxHeartbeats 8000000 in
theorem rdo_bad (a b : Value) (g : Gph) (th : Int) (kind hh i kk v : Int) (x : Hd) (w : World) (h : Gr w a b g) (hr : rightG g = true) (hp : posG g) (hn : g.1.length ≤ 100) (hm : g.2.length ≤ 1048576) (hv0 : 0 ≤ v) (hv1 : v ≤ 18446744073709551615) (hx0 : 0 ≤ x.2.2) (hu : ∀ n ∈ g.1, ∀ y ∈ n.2, y ≤ 18446744073709551615) (hbad : th < 0 ∨ (g.2.length : Int) ≤ th ∨ kind < 1 ∨ 11 < kind) :
    Calls Try.prog 20 #[.agg #[a, b], .int .i64 th, opv ⟨kind, hh, i, kk, v, x⟩] w fun e w' => ∃ a' b', e = .returned (.tuple #[.agg #[a', b'], anv (doA g (th : Int) ⟨kind, hh, i, kk, v, x⟩)]) ∧ Gr w' a' b' (doG g (th : Int) ⟨kind, hh, i, kk, v, x⟩) ∧ Ext w w' := by
  have hd : doG g th ⟨kind, hh, i, kk, v, x⟩ = g ∧ doA g th ⟨kind, hh, i, kk, v, x⟩ = (1, 0, false) := by
    have e : res g th ⟨kind, hh, i, kk, v, x⟩ = .error 1 := by
      unfold res
      split
      · unfold act
        dsimp only
        rw [if_neg (by omega), if_neg (by omega), if_neg (by omega), if_neg (by omega), if_neg (by omega), if_neg (by omega), if_neg (by omega), if_neg (by omega), if_neg (by omega)]
      · rfl
    unfold doG doA
    rw [e]; exact ⟨rfl, rfl⟩
  rw [hd.1, hd.2]
  clear hd
  obtain ⟨a0, c0, rfl⟩ := h.1.form
  obtain ⟨b0, d0, rfl⟩ := Gr.Ma.form h.2
  obtain ⟨B, hB⟩ : ∃ B, B = w.heap.size := ⟨_, rfl⟩
  obtain ⟨w4, hw4⟩ : ∃ w4, w4 = (((w.alloc (.cells #[.slice a0 g.1.length c0, .slice b0 g.2.length d0] 25)).alloc (.cells #[.int .i64 (kind : Int), .int .i64 hh, .int .i64 i, .int .i64 kk, .int .u64 v, .int .i64 x.1, .int .i64 x.2.1, .int .u64 x.2.2] 30)).alloc (.cells #[.slice none 0 0, .slice none 0 0] 25)).alloc (.cells #[.int .i64 0, .int .u64 0, .bool false] 35) := ⟨_, rfl⟩
  obtain ⟨hbx, hx4, hs4⟩ := bx_start (o := ⟨kind, hh, i, kk, v, x⟩) hB hw4
  have HBX := Lib.hid hbx
  have HX4 := Lib.hid hx4
  have HS4 := Lib.hid hs4
  have HBB := Lib.hid hB
  have HG := Lib.hid h
  have hsm := h.2.small
  have hlen := h.2.len uS
  try dsimp only at hw4
  clear hbx hx4 hs4
  by_cases c1 : th < 0
  · have d1 : decide (th < 0) = true := decide_eq_true c1
    unfold opv anv
    clear h
    go_enter Try.func20, Try.ntmps20
    go_wp2_with fail
    rw [← hw4, ← hB]
    clear hw4 hB
    try rw [show B + 1 + 1 + 1 = B + 3 from rfl]
    try rw [show B + 1 + 1 = B + 2 from rfl]
    refine (rno_any _ _ g (1) w4 (HG.out.ext (HX4.out.trans (Ext.refl w4)))).mono ?_; rintro r w6 ⟨rfl, hxn⟩
    unfold anv
    have hx9 := ((Ext.refl w4)).trans hxn
    clear hxn
    obtain ⟨g0, g1, o0, o1, o2, o3, o4, o5, o6, o7, r0, r1, s0, s1, s2, f0, f1, f2, f3, f4⟩ := (HBX.out.ext hx9).cells
    try dsimp only at o0 o1 o2 o3 o4 o5 o6 o7
    obtain ⟨W8, hW8⟩ : ∃ W8, W8 = ((((w6.setCell ⟨B + 2, 0, none⟩ (.slice a0 g.1.length c0)).setCell ⟨B + 2, 1, none⟩ (.slice b0 g.2.length d0)).setCell ⟨B + 3, 0, none⟩ (.int .i64 (1))).setCell ⟨B + 3, 1, none⟩ (.int .u64 (0))).setCell ⟨B + 3, 2, none⟩ (.bool (false)) := ⟨_, rfl⟩
    obtain ⟨q0, q1, q2, q3, q4, hGr, hXr⟩ := fin HBB.out (HBX.out.ext hx9) (HX4.out.trans hx9) (sb_old HBB.out HG.out (HX4.out.trans hx9)) W8 hW8
    have HF := Lib.hid (And.intro hGr hXr)
    clear hGr hXr
    go_wp2_with fail
    rw [← hW8]
    clear hW8
    exact bodyPost_ret (v := .tuple #[.agg #[.slice a0 g.1.length c0, .slice b0 g.2.length d0], .agg #[.int .i64 (1), .int .u64 (0), .bool (false)]]) (by simp [results, Try.results20, go_sem, q0, q1, q2, q3, q4]) rfl ⟨_, _, rfl, HF.out⟩
  have d1 : decide (th < 0) = false := decide_eq_false c1
  by_cases c2 : (g.2.length : Int) ≤ th
  · have d2 : decide ((g.2.length : Int) ≤ th) = true := decide_eq_true c2
    unfold opv anv
    clear h
    go_enter Try.func20, Try.ntmps20
    go_wp2_with fail
    rw [← hw4, ← hB]
    clear hw4 hB
    try rw [show B + 1 + 1 + 1 = B + 3 from rfl]
    try rw [show B + 1 + 1 = B + 2 from rfl]
    refine (rno_any _ _ g (1) w4 (HG.out.ext (HX4.out.trans (Ext.refl w4)))).mono ?_; rintro r w6 ⟨rfl, hxn⟩
    unfold anv
    have hx9 := ((Ext.refl w4)).trans hxn
    clear hxn
    obtain ⟨g0, g1, o0, o1, o2, o3, o4, o5, o6, o7, r0, r1, s0, s1, s2, f0, f1, f2, f3, f4⟩ := (HBX.out.ext hx9).cells
    try dsimp only at o0 o1 o2 o3 o4 o5 o6 o7
    obtain ⟨W8, hW8⟩ : ∃ W8, W8 = ((((w6.setCell ⟨B + 2, 0, none⟩ (.slice a0 g.1.length c0)).setCell ⟨B + 2, 1, none⟩ (.slice b0 g.2.length d0)).setCell ⟨B + 3, 0, none⟩ (.int .i64 (1))).setCell ⟨B + 3, 1, none⟩ (.int .u64 (0))).setCell ⟨B + 3, 2, none⟩ (.bool (false)) := ⟨_, rfl⟩
    obtain ⟨q0, q1, q2, q3, q4, hGr, hXr⟩ := fin HBB.out (HBX.out.ext hx9) (HX4.out.trans hx9) (sb_old HBB.out HG.out (HX4.out.trans hx9)) W8 hW8
    have HF := Lib.hid (And.intro hGr hXr)
    clear hGr hXr
    go_wp2_with fail
    rw [← hW8]
    clear hW8
    exact bodyPost_ret (v := .tuple #[.agg #[.slice a0 g.1.length c0, .slice b0 g.2.length d0], .agg #[.int .i64 (1), .int .u64 (0), .bool (false)]]) (by simp [results, Try.results20, go_sem, q0, q1, q2, q3, q4]) rfl ⟨_, _, rfl, HF.out⟩
  have d2 : decide ((g.2.length : Int) ≤ th) = false := decide_eq_false c2
  by_cases c3 : kind < 1
  · have d3 : decide (kind < 1) = true := decide_eq_true c3
    unfold opv anv
    clear h
    go_enter Try.func20, Try.ntmps20
    go_wp2_with fail
    rw [← hw4, ← hB]
    clear hw4 hB
    try rw [show B + 1 + 1 + 1 = B + 3 from rfl]
    try rw [show B + 1 + 1 = B + 2 from rfl]
    refine (rno_any _ _ g (1) w4 (HG.out.ext (HX4.out.trans (Ext.refl w4)))).mono ?_; rintro r w6 ⟨rfl, hxn⟩
    unfold anv
    have hx9 := ((Ext.refl w4)).trans hxn
    clear hxn
    obtain ⟨g0, g1, o0, o1, o2, o3, o4, o5, o6, o7, r0, r1, s0, s1, s2, f0, f1, f2, f3, f4⟩ := (HBX.out.ext hx9).cells
    try dsimp only at o0 o1 o2 o3 o4 o5 o6 o7
    obtain ⟨W8, hW8⟩ : ∃ W8, W8 = ((((w6.setCell ⟨B + 2, 0, none⟩ (.slice a0 g.1.length c0)).setCell ⟨B + 2, 1, none⟩ (.slice b0 g.2.length d0)).setCell ⟨B + 3, 0, none⟩ (.int .i64 (1))).setCell ⟨B + 3, 1, none⟩ (.int .u64 (0))).setCell ⟨B + 3, 2, none⟩ (.bool (false)) := ⟨_, rfl⟩
    obtain ⟨q0, q1, q2, q3, q4, hGr, hXr⟩ := fin HBB.out (HBX.out.ext hx9) (HX4.out.trans hx9) (sb_old HBB.out HG.out (HX4.out.trans hx9)) W8 hW8
    have HF := Lib.hid (And.intro hGr hXr)
    clear hGr hXr
    go_wp2_with fail
    rw [← hW8]
    clear hW8
    exact bodyPost_ret (v := .tuple #[.agg #[.slice a0 g.1.length c0, .slice b0 g.2.length d0], .agg #[.int .i64 (1), .int .u64 (0), .bool (false)]]) (by simp [results, Try.results20, go_sem, q0, q1, q2, q3, q4]) rfl ⟨_, _, rfl, HF.out⟩
  have d3 : decide (kind < 1) = false := decide_eq_false c3
  have c4 : 11 < kind := by omega
  have d4 : decide (11 < kind) = true := decide_eq_true c4
  unfold opv anv
  clear h
  go_enter Try.func20, Try.ntmps20
  go_wp2_with fail
  rw [← hw4, ← hB]
  clear hw4 hB
  try rw [show B + 1 + 1 + 1 = B + 3 from rfl]
  try rw [show B + 1 + 1 = B + 2 from rfl]
  refine (rno_any _ _ g (1) w4 (HG.out.ext (HX4.out.trans (Ext.refl w4)))).mono ?_; rintro r w6 ⟨rfl, hxn⟩
  unfold anv
  have hx9 := ((Ext.refl w4)).trans hxn
  clear hxn
  obtain ⟨g0, g1, o0, o1, o2, o3, o4, o5, o6, o7, r0, r1, s0, s1, s2, f0, f1, f2, f3, f4⟩ := (HBX.out.ext hx9).cells
  try dsimp only at o0 o1 o2 o3 o4 o5 o6 o7
  obtain ⟨W8, hW8⟩ : ∃ W8, W8 = ((((w6.setCell ⟨B + 2, 0, none⟩ (.slice a0 g.1.length c0)).setCell ⟨B + 2, 1, none⟩ (.slice b0 g.2.length d0)).setCell ⟨B + 3, 0, none⟩ (.int .i64 (1))).setCell ⟨B + 3, 1, none⟩ (.int .u64 (0))).setCell ⟨B + 3, 2, none⟩ (.bool (false)) := ⟨_, rfl⟩
  obtain ⟨q0, q1, q2, q3, q4, hGr, hXr⟩ := fin HBB.out (HBX.out.ext hx9) (HX4.out.trans hx9) (sb_old HBB.out HG.out (HX4.out.trans hx9)) W8 hW8
  have HF := Lib.hid (And.intro hGr hXr)
  clear hGr hXr
  go_wp2_with fail
  rw [← hW8]
  clear hW8
  exact bodyPost_ret (v := .tuple #[.agg #[.slice a0 g.1.length c0, .slice b0 g.2.length d0], .agg #[.int .i64 (1), .int .u64 (0), .bool (false)]]) (by simp [results, Try.results20, go_sem, q0, q1, q2, q3, q4]) rfl ⟨_, _, rfl, HF.out⟩

set_option maxRecDepth 100000 in
set_option maxHeartbeats 8000000 in
theorem rdo_2 (a b : Value) (g : Gph) (th : Nat) (hh i kk v : Int) (x : Hd) (w : World) (h : Gr w a b g) (hth : th < g.2.length) (hr : rightG g = true) (hp : posG g) (hn : g.1.length ≤ 100) (hm : g.2.length ≤ 1048576) (hv0 : 0 ≤ v) (hv1 : v ≤ 18446744073709551615) (hx0 : 0 ≤ x.2.2) (hu : ∀ n ∈ g.1, ∀ y ∈ n.2, y ≤ 18446744073709551615) :
    Calls Try.prog 20 #[.agg #[a, b], .int .i64 th, opv ⟨2, hh, i, kk, v, x⟩] w fun e w' => ∃ a' b', e = .returned (.tuple #[.agg #[a', b'], anv (doA g (th : Int) ⟨2, hh, i, kk, v, x⟩)]) ∧ Gr w' a' b' (doG g (th : Int) ⟨2, hh, i, kk, v, x⟩) ∧ Ext w w' := by
  obtain ⟨a0, c0, rfl⟩ := h.1.form
  obtain ⟨b0, d0, rfl⟩ := Gr.Ma.form h.2
  obtain ⟨B, hB⟩ : ∃ B, B = w.heap.size := ⟨_, rfl⟩
  obtain ⟨w4, hw4⟩ : ∃ w4, w4 = (((w.alloc (.cells #[.slice a0 g.1.length c0, .slice b0 g.2.length d0] 25)).alloc (.cells #[.int .i64 (2 : Int), .int .i64 hh, .int .i64 i, .int .i64 kk, .int .u64 v, .int .i64 x.1, .int .i64 x.2.1, .int .u64 x.2.2] 30)).alloc (.cells #[.slice none 0 0, .slice none 0 0] 25)).alloc (.cells #[.int .i64 0, .int .u64 0, .bool false] 35) := ⟨_, rfl⟩
  obtain ⟨hbx, hx4, hs4⟩ := bx_start (o := ⟨2, hh, i, kk, v, x⟩) hB hw4
  have HBX := Lib.hid hbx
  have HX4 := Lib.hid hx4
  have HS4 := Lib.hid hs4
  have HBB := Lib.hid hB
  have HG := Lib.hid h
  have hsm := h.2.small
  have hlen := h.2.len uS
  try dsimp only at hw4
  clear hbx hx4 hs4
  have HFd := Lib.hid (rfield_any (.slice a0 g.1.length c0) (.slice b0 g.2.length d0) g th ⟨2, hh, i, kk, v, x⟩ false w4 (HG.out.ext HX4.out) hr hp hth)
  unfold opv at HFd
  have hact : act g th ⟨2, hh, i, kk, v, x⟩ = actGet g th ⟨2, hh, i, kk, v, x⟩ := by unfold act; simp
  have t1 : decide ((th : Int) < 0) = false := decide_eq_false (by omega)
  have t2 : decide ((g.2.length : Int) ≤ (th : Int)) = false := decide_eq_false (by omega)
  cases hf : field g th ⟨2, hh, i, kk, v, x⟩ false with
  | error e =>
    have hrf : rf g th ⟨2, hh, i, kk, v, x⟩ false = (0, e) := by unfold rf; rw [hf]
    rw [hrf] at HFd
    have hee : (e == 0) = false := by have := field_err hf; simp; omega
    have hd := of_err hth (hact.trans (by unfold actGet; rw [hf]))
    rw [hd.1, hd.2]
    clear hd hact hf hrf
    unfold opv anv
    clear h
    go_enter Try.func20, Try.ntmps20
    go_wp2_with fail
    rw [← hw4, ← hB]
    clear hw4 hB
    try rw [show B + 1 + 1 + 1 = B + 3 from rfl]
    try rw [show B + 1 + 1 = B + 2 from rfl]
    refine HFd.out.mono ?_; rintro r w5 ⟨rfl, hx5⟩
    obtain ⟨g0, g1, o0, o1, o2, o3, o4, o5, o6, o7, r0, r1, s0, s1, s2, f0, f1, f2, f3, f4⟩ := (HBX.out.ext hx5).cells
    try dsimp only at o0 o1 o2 o3 o4 o5 o6 o7
    go_wp2_with fail
    refine (rno_any _ _ g (e) w5 (HG.out.ext (HX4.out.trans hx5))).mono ?_; rintro r w6 ⟨rfl, hxn⟩
    unfold anv
    have hx9 := (hx5).trans hxn
    clear hxn
    clear g0 g1 o0 o1 o2 o3 o4 o5 o6 o7 r0 r1 s0 s1 s2 f0 f1 f2 f3 f4
    obtain ⟨g0, g1, o0, o1, o2, o3, o4, o5, o6, o7, r0, r1, s0, s1, s2, f0, f1, f2, f3, f4⟩ := (HBX.out.ext hx9).cells
    try dsimp only at o0 o1 o2 o3 o4 o5 o6 o7
    obtain ⟨W8, hW8⟩ : ∃ W8, W8 = ((((w6.setCell ⟨B + 2, 0, none⟩ (.slice a0 g.1.length c0)).setCell ⟨B + 2, 1, none⟩ (.slice b0 g.2.length d0)).setCell ⟨B + 3, 0, none⟩ (.int .i64 (e))).setCell ⟨B + 3, 1, none⟩ (.int .u64 (0))).setCell ⟨B + 3, 2, none⟩ (.bool (false)) := ⟨_, rfl⟩
    obtain ⟨q0, q1, q2, q3, q4, hGr, hXr⟩ := fin HBB.out (HBX.out.ext hx9) (HX4.out.trans hx9) (sb_old HBB.out HG.out (HX4.out.trans hx9)) W8 hW8
    have HF := Lib.hid (And.intro hGr hXr)
    clear hGr hXr
    go_wp2_with fail
    rw [← hW8]
    clear hW8
    exact bodyPost_ret (v := .tuple #[.agg #[.slice a0 g.1.length c0, .slice b0 g.2.length d0], .agg #[.int .i64 (e), .int .u64 (0), .bool (false)]]) (by simp [results, Try.results20, go_sem, q0, q1, q2, q3, q4]) rfl ⟨_, _, rfl, HF.out⟩
  | ok n =>
    have hrf : rf g th ⟨2, hh, i, kk, v, x⟩ false = ((n : Int), 0) := by unfold rf; rw [hf]
    rw [hrf] at HFd
    obtain ⟨hnl, i0, hoi, hil⟩ := word_in hr hth hf
    obtain rfl : i = (i0 : Int) := hoi
    obtain ⟨nl0, nl1, _, _⟩ := right_head hr hp hnl
    obtain ⟨_, _, hlenN, _⟩ := right_node hr hnl
    have hfl : (node g n).2.length ≤ 1000000 := by omega
    have hwl : i0 < (node g n).2.length := hil
    have hwm : (node g n).2.getD i0 0 ∈ (node g n).2 := by simp [List.getD_eq_getElem?_getD, hwl]
    have hwv : word g n ⟨2, hh, (i0 : Int), kk, v, x⟩ = (node g n).2.getD i0 0 := by unfold word; simp
    have hw0 := (pos_node hp hnl).2 _ hwm
    have hw1 := hu _ (node_mem hnl) _ hwm
    obtain ⟨nb1, no1, ns1, u, hix, _, _, _, e3, hus⟩ := HG.out.1.at_ n hnl
    replace hus : Sl .u64 w u (node g n).2 := hus
    obtain ⟨ua, uc, rfl⟩ := Row.form hus
    obtain ⟨q, hqx, hqc⟩ := hus.at_ uU szU (i := (i0 : Int)) (by omega) (by omega)
    rw [Int.toNat_natCast] at hqc
    obtain ⟨fl, hfle⟩ : ∃ fl, (node g n).2.length = fl := ⟨_, rfl⟩
    rw [hfle] at e3 hqx
    obtain ⟨wd, hwd⟩ : ∃ wd, (node g n).2.getD i0 0 = wd := ⟨_, rfl⟩
    rw [hwd] at hwv hw0 hw1 hqc
    have HE3 := Lib.hid e3
    have HQC := Lib.hid hqc
    have hd := of_ok hth (hact.trans (by unfold actGet; rw [hf]))
    rw [hwv] at hd
    rw [hd.1, hd.2]
    clear hd hact hf hrf
    unfold opv anv
    clear h
    go_enter Try.func20, Try.ntmps20
    go_wp2_with fail
    rw [← hw4, ← hB]
    clear hw4 hB
    try rw [show B + 1 + 1 + 1 = B + 3 from rfl]
    try rw [show B + 1 + 1 = B + 2 from rfl]
    refine HFd.out.mono ?_; rintro r w5 ⟨rfl, hx5⟩
    obtain ⟨g0, g1, o0, o1, o2, o3, o4, o5, o6, o7, r0, r1, s0, s1, s2, f0, f1, f2, f3, f4⟩ := (HBX.out.ext hx5).cells
    try dsimp only at o0 o1 o2 o3 o4 o5 o6 o7
    have hS0 : w5.drew.cell? ⟨B, 0, none⟩ = some (.slice a0 g.1.length c0) ∧ w5.drew.cell? ⟨nb1, no1 + 3, none⟩ = some (.slice ua fl uc) ∧ w5.drew.cell? ⟨B + 1, 2, none⟩ = some (.int .i64 i0) ∧ w5.drew.cell? q = some (.int .u64 wd) := ⟨g0, (HX4.out.trans hx5).cell HE3.out, o2, (HX4.out.trans hx5).cell HQC.out⟩
    go_wp2_with fail
    refine wp_region_noPanic ?_
    refine Rt.begin_ (fun W : World => W.cell? ⟨B, 0, none⟩ = some (.slice a0 g.1.length c0) ∧ W.cell? ⟨nb1, no1 + 3, none⟩ = some (.slice ua fl uc) ∧ W.cell? ⟨B + 1, 2, none⟩ = some (.int .i64 i0) ∧ W.cell? q = some (.int .u64 wd)) (fun i => i == 10) (by kernel_rfl) ?_
    simp only [List.length_cons, List.length_nil, Nat.reduceAdd, Array.replicate_succ, Array.replicate_zero]
    refine Rt.takeW 0 (v := ?_) rfl (by kernel_rfl) (fun _ _ _ h => h) rfl ?_ ?_
    rotate_left
    · (intro W; go_simp; try with_reducible rfl)
    try simp only [Act.put, List.setIfInBounds_toArray, List.set_cons_zero, List.set_cons_succ]
    refine Rt.take 1 (v := ?_) rfl (by kernel_rfl) (fun _ _ _ h => h) rfl ?_ hS0 ?_
    rotate_left
    · (intro W hSW; (try dsimp only at hSW); go_simp; try with_reducible rfl)
    try simp only [Act.put, List.setIfInBounds_toArray, List.set_cons_zero, List.set_cons_succ]
    refine Rt.takeW 2 (v := ?_) rfl (by kernel_rfl) (fun _ _ _ h => h) rfl ?_ ?_
    rotate_left
    · (intro W; go_simp; try with_reducible rfl)
    try simp only [Act.put, List.setIfInBounds_toArray, List.set_cons_zero, List.set_cons_succ]
    refine Rt.takeW 3 (v := ?_) rfl (by kernel_rfl) (fun _ _ _ h => h) rfl ?_ ?_
    rotate_left
    · (intro W; go_simp; try with_reducible rfl)
    try simp only [Act.put, List.setIfInBounds_toArray, List.set_cons_zero, List.set_cons_succ]
    refine Rt.takeW 4 (v := ?_) rfl (by kernel_rfl) (fun _ _ _ h => h) rfl ?_ ?_
    rotate_left
    · (intro W; go_simp; try with_reducible rfl)
    try simp only [Act.put, List.setIfInBounds_toArray, List.set_cons_zero, List.set_cons_succ]
    refine Rt.take 5 (v := ?_) rfl (by kernel_rfl) (fun _ _ _ h => h) rfl ?_ hS0 ?_
    rotate_left
    · (intro W hSW; (try dsimp only at hSW); go_simp; try with_reducible rfl)
    try simp only [Act.put, List.setIfInBounds_toArray, List.set_cons_zero, List.set_cons_succ]
    refine Rt.takeW 6 (v := ?_) rfl (by kernel_rfl) (fun _ _ _ h => h) rfl ?_ ?_
    rotate_left
    · (intro W; go_simp; try with_reducible rfl)
    try simp only [Act.put, List.setIfInBounds_toArray, List.set_cons_zero, List.set_cons_succ]
    refine Rt.take 7 (v := ?_) rfl (by kernel_rfl) (fun _ _ _ h => h) rfl ?_ hS0 ?_
    rotate_left
    · (intro W hSW; (try dsimp only at hSW); go_simp; try with_reducible rfl)
    try simp only [Act.put, List.setIfInBounds_toArray, List.set_cons_zero, List.set_cons_succ]
    refine Rt.takeW 8 (v := ?_) rfl (by kernel_rfl) (fun _ _ _ h => h) rfl ?_ ?_
    rotate_left
    · (intro W; go_simp; try with_reducible rfl)
    try simp only [Act.put, List.setIfInBounds_toArray, List.set_cons_zero, List.set_cons_succ]
    refine Rt.take 9 (v := ?_) rfl (by kernel_rfl) (fun _ _ _ h => h) rfl ?_ hS0 ?_
    rotate_left
    · (intro W hSW; (try dsimp only at hSW); go_simp; try with_reducible rfl)
    try simp only [Act.put, List.setIfInBounds_toArray, List.set_cons_zero, List.set_cons_succ]
    refine Rt.step 10 rfl (by kernel_rfl) rfl (fun K hK => ?_)
    go_simp
    refine hK _ _ ⟨.inl rfl, ?_⟩
    clear hK K
    try simp only [Act.put, List.setIfInBounds_toArray, List.set_cons_zero, List.set_cons_succ]
    refine Rt.done (by kernel_rfl) ?_
    refine NoPanic.normal ?_
    obtain ⟨wq, hwq⟩ : ∃ wq, wq = w5.drew := ⟨_, rfl⟩
    have hx6 : Ext w4 wq := hwq ▸ hx5.drew
    rw [← hwq]
    clear hS0 hwq
    clear g0 g1 o0 o1 o2 o3 o4 o5 o6 o7 r0 r1 s0 s1 s2 f0 f1 f2 f3 f4
    obtain ⟨g0, g1, o0, o1, o2, o3, o4, o5, o6, o7, r0, r1, s0, s1, s2, f0, f1, f2, f3, f4⟩ := (HBX.out.ext hx6).cells
    try dsimp only at o0 o1 o2 o3 o4 o5 o6 o7
    obtain ⟨W8, hW8⟩ : ∃ W8, W8 = ((((wq.setCell ⟨B + 2, 0, none⟩ (.slice a0 g.1.length c0)).setCell ⟨B + 2, 1, none⟩ (.slice b0 g.2.length d0)).setCell ⟨B + 3, 0, none⟩ (.int .i64 (0))).setCell ⟨B + 3, 1, none⟩ (.int .u64 (wd))).setCell ⟨B + 3, 2, none⟩ (.bool (false)) := ⟨_, rfl⟩
    obtain ⟨q0, q1, q2, q3, q4, hGr, hXr⟩ := fin HBB.out (HBX.out.ext hx6) (HX4.out.trans hx6) (sb_old HBB.out HG.out (HX4.out.trans hx6)) W8 hW8
    have HF := Lib.hid (And.intro hGr hXr)
    clear hGr hXr
    go_wp2_with fail
    rw [← hW8]
    clear hW8
    exact bodyPost_ret (v := .tuple #[.agg #[.slice a0 g.1.length c0, .slice b0 g.2.length d0], .agg #[.int .i64 (0), .int .u64 (wd), .bool (false)]]) (by simp [results, Try.results20, go_sem, q0, q1, q2, q3, q4]) rfl ⟨_, _, rfl, HF.out⟩

set_option maxRecDepth 100000 in
set_option maxHeartbeats 8000000 in
theorem rdo_4 (a b : Value) (g : Gph) (th : Nat) (hh i kk v : Int) (x : Hd) (w : World) (h : Gr w a b g) (hth : th < g.2.length) (hr : rightG g = true) (hp : posG g) (hn : g.1.length ≤ 100) (hm : g.2.length ≤ 1048576) (hv0 : 0 ≤ v) (hv1 : v ≤ 18446744073709551615) (hx0 : 0 ≤ x.2.2) (hu : ∀ n ∈ g.1, ∀ y ∈ n.2, y ≤ 18446744073709551615) :
    Calls Try.prog 20 #[.agg #[a, b], .int .i64 th, opv ⟨4, hh, i, kk, v, x⟩] w fun e w' => ∃ a' b', e = .returned (.tuple #[.agg #[a', b'], anv (doA g (th : Int) ⟨4, hh, i, kk, v, x⟩)]) ∧ Gr w' a' b' (doG g (th : Int) ⟨4, hh, i, kk, v, x⟩) ∧ Ext w w' := by
  obtain ⟨a0, c0, rfl⟩ := h.1.form
  obtain ⟨b0, d0, rfl⟩ := Gr.Ma.form h.2
  obtain ⟨B, hB⟩ : ∃ B, B = w.heap.size := ⟨_, rfl⟩
  obtain ⟨w4, hw4⟩ : ∃ w4, w4 = (((w.alloc (.cells #[.slice a0 g.1.length c0, .slice b0 g.2.length d0] 25)).alloc (.cells #[.int .i64 (4 : Int), .int .i64 hh, .int .i64 i, .int .i64 kk, .int .u64 v, .int .i64 x.1, .int .i64 x.2.1, .int .u64 x.2.2] 30)).alloc (.cells #[.slice none 0 0, .slice none 0 0] 25)).alloc (.cells #[.int .i64 0, .int .u64 0, .bool false] 35) := ⟨_, rfl⟩
  obtain ⟨hbx, hx4, hs4⟩ := bx_start (o := ⟨4, hh, i, kk, v, x⟩) hB hw4
  have HBX := Lib.hid hbx
  have HX4 := Lib.hid hx4
  have HS4 := Lib.hid hs4
  have HBB := Lib.hid hB
  have HG := Lib.hid h
  have hsm := h.2.small
  have hlen := h.2.len uS
  try dsimp only at hw4
  clear hbx hx4 hs4
  have HFd := Lib.hid (rfield_any (.slice a0 g.1.length c0) (.slice b0 g.2.length d0) g th ⟨4, hh, i, kk, v, x⟩ false w4 (HG.out.ext HX4.out) hr hp hth)
  unfold opv at HFd
  have hact : act g th ⟨4, hh, i, kk, v, x⟩ = actWrite g th ⟨4, hh, i, kk, v, x⟩ := by unfold act; simp
  have t1 : decide ((th : Int) < 0) = false := decide_eq_false (by omega)
  have t2 : decide ((g.2.length : Int) ≤ (th : Int)) = false := decide_eq_false (by omega)
  cases hf : field g th ⟨4, hh, i, kk, v, x⟩ false with
  | error e =>
    have hrf : rf g th ⟨4, hh, i, kk, v, x⟩ false = (0, e) := by unfold rf; rw [hf]
    rw [hrf] at HFd
    have hee : (e == 0) = false := by have := field_err hf; simp; omega
    have hd := of_err hth (hact.trans (by unfold actWrite; rw [hf]))
    rw [hd.1, hd.2]
    clear hd hact hf hrf
    unfold opv anv
    clear h
    go_enter Try.func20, Try.ntmps20
    go_wp2_with fail
    rw [← hw4, ← hB]
    clear hw4 hB
    try rw [show B + 1 + 1 + 1 = B + 3 from rfl]
    try rw [show B + 1 + 1 = B + 2 from rfl]
    refine HFd.out.mono ?_; rintro r w5 ⟨rfl, hx5⟩
    obtain ⟨g0, g1, o0, o1, o2, o3, o4, o5, o6, o7, r0, r1, s0, s1, s2, f0, f1, f2, f3, f4⟩ := (HBX.out.ext hx5).cells
    try dsimp only at o0 o1 o2 o3 o4 o5 o6 o7
    go_wp2_with fail
    refine (rno_any _ _ g (e) w5 (HG.out.ext (HX4.out.trans hx5))).mono ?_; rintro r w6 ⟨rfl, hxn⟩
    unfold anv
    have hx9 := (hx5).trans hxn
    clear hxn
    clear g0 g1 o0 o1 o2 o3 o4 o5 o6 o7 r0 r1 s0 s1 s2 f0 f1 f2 f3 f4
    obtain ⟨g0, g1, o0, o1, o2, o3, o4, o5, o6, o7, r0, r1, s0, s1, s2, f0, f1, f2, f3, f4⟩ := (HBX.out.ext hx9).cells
    try dsimp only at o0 o1 o2 o3 o4 o5 o6 o7
    obtain ⟨W8, hW8⟩ : ∃ W8, W8 = ((((w6.setCell ⟨B + 2, 0, none⟩ (.slice a0 g.1.length c0)).setCell ⟨B + 2, 1, none⟩ (.slice b0 g.2.length d0)).setCell ⟨B + 3, 0, none⟩ (.int .i64 (e))).setCell ⟨B + 3, 1, none⟩ (.int .u64 (0))).setCell ⟨B + 3, 2, none⟩ (.bool (false)) := ⟨_, rfl⟩
    obtain ⟨q0, q1, q2, q3, q4, hGr, hXr⟩ := fin HBB.out (HBX.out.ext hx9) (HX4.out.trans hx9) (sb_old HBB.out HG.out (HX4.out.trans hx9)) W8 hW8
    have HF := Lib.hid (And.intro hGr hXr)
    clear hGr hXr
    go_wp2_with fail
    rw [← hW8]
    clear hW8
    exact bodyPost_ret (v := .tuple #[.agg #[.slice a0 g.1.length c0, .slice b0 g.2.length d0], .agg #[.int .i64 (e), .int .u64 (0), .bool (false)]]) (by simp [results, Try.results20, go_sem, q0, q1, q2, q3, q4]) rfl ⟨_, _, rfl, HF.out⟩
  | ok n =>
    have hrf : rf g th ⟨4, hh, i, kk, v, x⟩ false = ((n : Int), 0) := by unfold rf; rw [hf]
    rw [hrf] at HFd
    obtain ⟨hnl, i0, hoi, hil⟩ := word_in hr hth hf
    obtain rfl : i = (i0 : Int) := hoi
    obtain ⟨nl0, nl1, _, _⟩ := right_head hr hp hnl
    obtain ⟨_, _, hlenN, _⟩ := right_node hr hnl
    have hfl : (node g n).2.length ≤ 1000000 := by omega
    have hwl : i0 < (node g n).2.length := hil
    have hwm : (node g n).2.getD i0 0 ∈ (node g n).2 := by simp [List.getD_eq_getElem?_getD, hwl]
    have hwv : word g n ⟨4, hh, (i0 : Int), kk, v, x⟩ = (node g n).2.getD i0 0 := by unfold word; simp
    have hw0 := (pos_node hp hnl).2 _ hwm
    have hw1 := hu _ (node_mem hnl) _ hwm
    obtain ⟨nb1, no1, ns1, u, hix, _, _, _, e3, hus⟩ := HG.out.1.at_ n hnl
    replace hus : Sl .u64 w u (node g n).2 := hus
    obtain ⟨ua, uc, rfl⟩ := Row.form hus
    obtain ⟨q, hqx, hqc⟩ := hus.at_ uU szU (i := (i0 : Int)) (by omega) (by omega)
    rw [Int.toNat_natCast] at hqc
    obtain ⟨fl, hfle⟩ : ∃ fl, (node g n).2.length = fl := ⟨_, rfl⟩
    rw [hfle] at e3 hqx
    obtain ⟨wd, hwd⟩ : ∃ wd, (node g n).2.getD i0 0 = wd := ⟨_, rfl⟩
    rw [hwd] at hwv hw0 hw1 hqc
    have HE3 := Lib.hid e3
    have HQC := Lib.hid hqc
    have hd := of_ok hth (hact.trans (by unfold actWrite; rw [hf]))
    rw [hwv] at hd
    obtain ⟨nv, hnv⟩ : ∃ nv, wval (4 : Int) wd v = nv := ⟨_, rfl⟩
    rw [show (⟨4, hh, (i0 : Int), kk, v, x⟩ : Opn).i.toNat = i0 from Int.toNat_natCast i0, show (⟨4, hh, (i0 : Int), kk, v, x⟩ : Opn).kind = (4 : Int) from rfl, show (⟨4, hh, (i0 : Int), kk, v, x⟩ : Opn).v = v from rfl, hnv] at hd
    rw [hd.1, hd.2]
    clear hd hact hf hrf
    unfold wval at hnv
    simp only [if_neg (show ¬ (4 : Int) = 6 by decide), if_neg (show ¬ (4 : Int) = 7 by decide)] at hnv
    subst hnv
    unfold opv anv
    clear h
    go_enter Try.func20, Try.ntmps20
    go_wp2_with fail
    rw [← hw4, ← hB]
    clear hw4 hB
    try rw [show B + 1 + 1 + 1 = B + 3 from rfl]
    try rw [show B + 1 + 1 = B + 2 from rfl]
    refine HFd.out.mono ?_; rintro r w5 ⟨rfl, hx5⟩
    obtain ⟨g0, g1, o0, o1, o2, o3, o4, o5, o6, o7, r0, r1, s0, s1, s2, f0, f1, f2, f3, f4⟩ := (HBX.out.ext hx5).cells
    try dsimp only at o0 o1 o2 o3 o4 o5 o6 o7
    have hS0 : w5.drew.cell? ⟨B, 0, none⟩ = some (.slice a0 g.1.length c0) ∧ w5.drew.cell? ⟨nb1, no1 + 3, none⟩ = some (.slice ua fl uc) ∧ w5.drew.cell? ⟨B + 1, 2, none⟩ = some (.int .i64 i0) ∧ w5.drew.cell? q = some (.int .u64 wd) := ⟨g0, (HX4.out.trans hx5).cell HE3.out, o2, (HX4.out.trans hx5).cell HQC.out⟩
    go_wp2_with fail
    refine wp_region_noPanic ?_
    refine Rt.begin_ (fun W : World => W.cell? ⟨B, 0, none⟩ = some (.slice a0 g.1.length c0) ∧ W.cell? ⟨nb1, no1 + 3, none⟩ = some (.slice ua fl uc) ∧ W.cell? ⟨B + 1, 2, none⟩ = some (.int .i64 i0) ∧ W.cell? q = some (.int .u64 wd)) (fun i => i == 10) (by kernel_rfl) ?_
    simp only [List.length_cons, List.length_nil, Nat.reduceAdd, Array.replicate_succ, Array.replicate_zero]
    refine Rt.takeW 0 (v := ?_) rfl (by kernel_rfl) (fun _ _ _ h => h) rfl ?_ ?_
    rotate_left
    · (intro W; go_simp; try with_reducible rfl)
    try simp only [Act.put, List.setIfInBounds_toArray, List.set_cons_zero, List.set_cons_succ]
    refine Rt.take 1 (v := ?_) rfl (by kernel_rfl) (fun _ _ _ h => h) rfl ?_ hS0 ?_
    rotate_left
    · (intro W hSW; (try dsimp only at hSW); go_simp; try with_reducible rfl)
    try simp only [Act.put, List.setIfInBounds_toArray, List.set_cons_zero, List.set_cons_succ]
    refine Rt.takeW 2 (v := ?_) rfl (by kernel_rfl) (fun _ _ _ h => h) rfl ?_ ?_
    rotate_left
    · (intro W; go_simp; try with_reducible rfl)
    try simp only [Act.put, List.setIfInBounds_toArray, List.set_cons_zero, List.set_cons_succ]
    refine Rt.takeW 3 (v := ?_) rfl (by kernel_rfl) (fun _ _ _ h => h) rfl ?_ ?_
    rotate_left
    · (intro W; go_simp; try with_reducible rfl)
    try simp only [Act.put, List.setIfInBounds_toArray, List.set_cons_zero, List.set_cons_succ]
    refine Rt.takeW 4 (v := ?_) rfl (by kernel_rfl) (fun _ _ _ h => h) rfl ?_ ?_
    rotate_left
    · (intro W; go_simp; try with_reducible rfl)
    try simp only [Act.put, List.setIfInBounds_toArray, List.set_cons_zero, List.set_cons_succ]
    refine Rt.take 5 (v := ?_) rfl (by kernel_rfl) (fun _ _ _ h => h) rfl ?_ hS0 ?_
    rotate_left
    · (intro W hSW; (try dsimp only at hSW); go_simp; try with_reducible rfl)
    try simp only [Act.put, List.setIfInBounds_toArray, List.set_cons_zero, List.set_cons_succ]
    refine Rt.takeW 6 (v := ?_) rfl (by kernel_rfl) (fun _ _ _ h => h) rfl ?_ ?_
    rotate_left
    · (intro W; go_simp; try with_reducible rfl)
    try simp only [Act.put, List.setIfInBounds_toArray, List.set_cons_zero, List.set_cons_succ]
    refine Rt.take 7 (v := ?_) rfl (by kernel_rfl) (fun _ _ _ h => h) rfl ?_ hS0 ?_
    rotate_left
    · (intro W hSW; (try dsimp only at hSW); go_simp; try with_reducible rfl)
    try simp only [Act.put, List.setIfInBounds_toArray, List.set_cons_zero, List.set_cons_succ]
    refine Rt.takeW 8 (v := ?_) rfl (by kernel_rfl) (fun _ _ _ h => h) rfl ?_ ?_
    rotate_left
    · (intro W; go_simp; try with_reducible rfl)
    try simp only [Act.put, List.setIfInBounds_toArray, List.set_cons_zero, List.set_cons_succ]
    refine Rt.take 9 (v := ?_) rfl (by kernel_rfl) (fun _ _ _ h => h) rfl ?_ hS0 ?_
    rotate_left
    · (intro W hSW; (try dsimp only at hSW); go_simp; try with_reducible rfl)
    try simp only [Act.put, List.setIfInBounds_toArray, List.set_cons_zero, List.set_cons_succ]
    refine Rt.step 10 rfl (by kernel_rfl) rfl (fun K hK => ?_)
    go_simp
    refine hK _ _ ⟨.inl rfl, ?_⟩
    clear hK K
    try simp only [Act.put, List.setIfInBounds_toArray, List.set_cons_zero, List.set_cons_succ]
    refine Rt.done (by kernel_rfl) ?_
    refine NoPanic.normal ?_
    obtain ⟨wq, hwq⟩ : ∃ wq, wq = w5.drew := ⟨_, rfl⟩
    have hx6 : Ext w4 wq := hwq ▸ hx5.drew
    rw [← hwq]
    clear hS0 hwq
    clear g0 g1 o0 o1 o2 o3 o4 o5 o6 o7 r0 r1 s0 s1 s2 f0 f1 f2 f3 f4
    obtain ⟨g0, g1, o0, o1, o2, o3, o4, o5, o6, o7, r0, r1, s0, s1, s2, f0, f1, f2, f3, f4⟩ := (HBX.out.ext hx6).cells
    try dsimp only at o0 o1 o2 o3 o4 o5 o6 o7
    go_wp2_with fail
    refine (rset_any (.slice a0 g.1.length c0) (.slice b0 g.2.length d0) g n i0 (v) w (wq) (World.heap (wq)).size (GI.of HG.out (HX4.out.trans hx6)) hnl hil hfl (by omega) hm).mono ?_; rintro r w7 ⟨a', b', rfl, hG7, hx7⟩
    obtain ⟨aa, al, ac, ba, bl, bc, rfl, rfl⟩ := gr_form hG7.gr
    have hx9 := (hx6).trans hx7
    have hbs : B + 4 ≤ (World.heap (wq)).size := by have := (hx6).size; have := HS4.out; omega
    clear hx7
    clear g0 g1 o0 o1 o2 o3 o4 o5 o6 o7 r0 r1 s0 s1 s2 f0 f1 f2 f3 f4
    obtain ⟨g0, g1, o0, o1, o2, o3, o4, o5, o6, o7, r0, r1, s0, s1, s2, f0, f1, f2, f3, f4⟩ := (HBX.out.ext hx9).cells
    try dsimp only at o0 o1 o2 o3 o4 o5 o6 o7
    obtain ⟨W8, hW8⟩ : ∃ W8, W8 = ((((w7.setCell ⟨B + 2, 0, none⟩ (.slice aa al ac)).setCell ⟨B + 2, 1, none⟩ (.slice ba bl bc)).setCell ⟨B + 3, 0, none⟩ (.int .i64 (0))).setCell ⟨B + 3, 1, none⟩ (.int .u64 (0))).setCell ⟨B + 3, 2, none⟩ (.bool (false)) := ⟨_, rfl⟩
    obtain ⟨q0, q1, q2, q3, q4, hGr, hXr⟩ := fin HBB.out (HBX.out.ext hx9) (HX4.out.trans hx9) (sb_gro HBB.out hG7 hbs) W8 hW8
    have HF := Lib.hid (And.intro hGr hXr)
    clear hGr hXr
    go_wp2_with fail
    rw [← hW8]
    clear hW8
    exact bodyPost_ret (v := .tuple #[.agg #[.slice aa al ac, .slice ba bl bc], .agg #[.int .i64 (0), .int .u64 (0), .bool (false)]]) (by simp [results, Try.results20, go_sem, q0, q1, q2, q3, q4]) rfl ⟨_, _, rfl, HF.out⟩

set_option maxRecDepth 100000 in
set_option maxHeartbeats 8000000 in
theorem rdo_6 (a b : Value) (g : Gph) (th : Nat) (hh i kk v : Int) (x : Hd) (w : World) (h : Gr w a b g) (hth : th < g.2.length) (hr : rightG g = true) (hp : posG g) (hn : g.1.length ≤ 100) (hm : g.2.length ≤ 1048576) (hv0 : 0 ≤ v) (hv1 : v ≤ 18446744073709551615) (hx0 : 0 ≤ x.2.2) (hu : ∀ n ∈ g.1, ∀ y ∈ n.2, y ≤ 18446744073709551615) :
    Calls Try.prog 20 #[.agg #[a, b], .int .i64 th, opv ⟨6, hh, i, kk, v, x⟩] w fun e w' => ∃ a' b', e = .returned (.tuple #[.agg #[a', b'], anv (doA g (th : Int) ⟨6, hh, i, kk, v, x⟩)]) ∧ Gr w' a' b' (doG g (th : Int) ⟨6, hh, i, kk, v, x⟩) ∧ Ext w w' := by
  obtain ⟨a0, c0, rfl⟩ := h.1.form
  obtain ⟨b0, d0, rfl⟩ := Gr.Ma.form h.2
  obtain ⟨B, hB⟩ : ∃ B, B = w.heap.size := ⟨_, rfl⟩
  obtain ⟨w4, hw4⟩ : ∃ w4, w4 = (((w.alloc (.cells #[.slice a0 g.1.length c0, .slice b0 g.2.length d0] 25)).alloc (.cells #[.int .i64 (6 : Int), .int .i64 hh, .int .i64 i, .int .i64 kk, .int .u64 v, .int .i64 x.1, .int .i64 x.2.1, .int .u64 x.2.2] 30)).alloc (.cells #[.slice none 0 0, .slice none 0 0] 25)).alloc (.cells #[.int .i64 0, .int .u64 0, .bool false] 35) := ⟨_, rfl⟩
  obtain ⟨hbx, hx4, hs4⟩ := bx_start (o := ⟨6, hh, i, kk, v, x⟩) hB hw4
  have HBX := Lib.hid hbx
  have HX4 := Lib.hid hx4
  have HS4 := Lib.hid hs4
  have HBB := Lib.hid hB
  have HG := Lib.hid h
  have hsm := h.2.small
  have hlen := h.2.len uS
  try dsimp only at hw4
  clear hbx hx4 hs4
  have HFd := Lib.hid (rfield_any (.slice a0 g.1.length c0) (.slice b0 g.2.length d0) g th ⟨6, hh, i, kk, v, x⟩ false w4 (HG.out.ext HX4.out) hr hp hth)
  unfold opv at HFd
  have hact : act g th ⟨6, hh, i, kk, v, x⟩ = actWrite g th ⟨6, hh, i, kk, v, x⟩ := by unfold act; simp
  have t1 : decide ((th : Int) < 0) = false := decide_eq_false (by omega)
  have t2 : decide ((g.2.length : Int) ≤ (th : Int)) = false := decide_eq_false (by omega)
  cases hf : field g th ⟨6, hh, i, kk, v, x⟩ false with
  | error e =>
    have hrf : rf g th ⟨6, hh, i, kk, v, x⟩ false = (0, e) := by unfold rf; rw [hf]
    rw [hrf] at HFd
    have hee : (e == 0) = false := by have := field_err hf; simp; omega
    have hd := of_err hth (hact.trans (by unfold actWrite; rw [hf]))
    rw [hd.1, hd.2]
    clear hd hact hf hrf
    unfold opv anv
    clear h
    go_enter Try.func20, Try.ntmps20
    go_wp2_with fail
    rw [← hw4, ← hB]
    clear hw4 hB
    try rw [show B + 1 + 1 + 1 = B + 3 from rfl]
    try rw [show B + 1 + 1 = B + 2 from rfl]
    refine HFd.out.mono ?_; rintro r w5 ⟨rfl, hx5⟩
    obtain ⟨g0, g1, o0, o1, o2, o3, o4, o5, o6, o7, r0, r1, s0, s1, s2, f0, f1, f2, f3, f4⟩ := (HBX.out.ext hx5).cells
    try dsimp only at o0 o1 o2 o3 o4 o5 o6 o7
    go_wp2_with fail
    refine (rno_any _ _ g (e) w5 (HG.out.ext (HX4.out.trans hx5))).mono ?_; rintro r w6 ⟨rfl, hxn⟩
    unfold anv
    have hx9 := (hx5).trans hxn
    clear hxn
    clear g0 g1 o0 o1 o2 o3 o4 o5 o6 o7 r0 r1 s0 s1 s2 f0 f1 f2 f3 f4
    obtain ⟨g0, g1, o0, o1, o2, o3, o4, o5, o6, o7, r0, r1, s0, s1, s2, f0, f1, f2, f3, f4⟩ := (HBX.out.ext hx9).cells
    try dsimp only at o0 o1 o2 o3 o4 o5 o6 o7
    obtain ⟨W8, hW8⟩ : ∃ W8, W8 = ((((w6.setCell ⟨B + 2, 0, none⟩ (.slice a0 g.1.length c0)).setCell ⟨B + 2, 1, none⟩ (.slice b0 g.2.length d0)).setCell ⟨B + 3, 0, none⟩ (.int .i64 (e))).setCell ⟨B + 3, 1, none⟩ (.int .u64 (0))).setCell ⟨B + 3, 2, none⟩ (.bool (false)) := ⟨_, rfl⟩
    obtain ⟨q0, q1, q2, q3, q4, hGr, hXr⟩ := fin HBB.out (HBX.out.ext hx9) (HX4.out.trans hx9) (sb_old HBB.out HG.out (HX4.out.trans hx9)) W8 hW8
    have HF := Lib.hid (And.intro hGr hXr)
    clear hGr hXr
    go_wp2_with fail
    rw [← hW8]
    clear hW8
    exact bodyPost_ret (v := .tuple #[.agg #[.slice a0 g.1.length c0, .slice b0 g.2.length d0], .agg #[.int .i64 (e), .int .u64 (0), .bool (false)]]) (by simp [results, Try.results20, go_sem, q0, q1, q2, q3, q4]) rfl ⟨_, _, rfl, HF.out⟩
  | ok n =>
    have hrf : rf g th ⟨6, hh, i, kk, v, x⟩ false = ((n : Int), 0) := by unfold rf; rw [hf]
    rw [hrf] at HFd
    obtain ⟨hnl, i0, hoi, hil⟩ := word_in hr hth hf
    obtain rfl : i = (i0 : Int) := hoi
    obtain ⟨nl0, nl1, _, _⟩ := right_head hr hp hnl
    obtain ⟨_, _, hlenN, _⟩ := right_node hr hnl
    have hfl : (node g n).2.length ≤ 1000000 := by omega
    have hwl : i0 < (node g n).2.length := hil
    have hwm : (node g n).2.getD i0 0 ∈ (node g n).2 := by simp [List.getD_eq_getElem?_getD, hwl]
    have hwv : word g n ⟨6, hh, (i0 : Int), kk, v, x⟩ = (node g n).2.getD i0 0 := by unfold word; simp
    have hw0 := (pos_node hp hnl).2 _ hwm
    have hw1 := hu _ (node_mem hnl) _ hwm
    obtain ⟨nb1, no1, ns1, u, hix, _, _, _, e3, hus⟩ := HG.out.1.at_ n hnl
    replace hus : Sl .u64 w u (node g n).2 := hus
    obtain ⟨ua, uc, rfl⟩ := Row.form hus
    obtain ⟨q, hqx, hqc⟩ := hus.at_ uU szU (i := (i0 : Int)) (by omega) (by omega)
    rw [Int.toNat_natCast] at hqc
    obtain ⟨fl, hfle⟩ : ∃ fl, (node g n).2.length = fl := ⟨_, rfl⟩
    rw [hfle] at e3 hqx
    obtain ⟨wd, hwd⟩ : ∃ wd, (node g n).2.getD i0 0 = wd := ⟨_, rfl⟩
    rw [hwd] at hwv hw0 hw1 hqc
    have HE3 := Lib.hid e3
    have HQC := Lib.hid hqc
    have hd := of_ok hth (hact.trans (by unfold actWrite; rw [hf]))
    rw [hwv] at hd
    obtain ⟨nv, hnv⟩ : ∃ nv, wval (6 : Int) wd v = nv := ⟨_, rfl⟩
    rw [show (⟨6, hh, (i0 : Int), kk, v, x⟩ : Opn).i.toNat = i0 from Int.toNat_natCast i0, show (⟨6, hh, (i0 : Int), kk, v, x⟩ : Opn).kind = (6 : Int) from rfl, show (⟨6, hh, (i0 : Int), kk, v, x⟩ : Opn).v = v from rfl, hnv] at hd
    rw [hd.1, hd.2]
    clear hd hact hf hrf
    unfold wval at hnv
    simp only [if_true] at hnv
    have HNV := Lib.hid hnv
    clear hnv
    unfold opv anv
    clear h
    go_enter Try.func20, Try.ntmps20
    go_wp2_with fail
    rw [← hw4, ← hB]
    clear hw4 hB
    try rw [show B + 1 + 1 + 1 = B + 3 from rfl]
    try rw [show B + 1 + 1 = B + 2 from rfl]
    refine HFd.out.mono ?_; rintro r w5 ⟨rfl, hx5⟩
    obtain ⟨g0, g1, o0, o1, o2, o3, o4, o5, o6, o7, r0, r1, s0, s1, s2, f0, f1, f2, f3, f4⟩ := (HBX.out.ext hx5).cells
    try dsimp only at o0 o1 o2 o3 o4 o5 o6 o7
    have hS0 : w5.drew.cell? ⟨B, 0, none⟩ = some (.slice a0 g.1.length c0) ∧ w5.drew.cell? ⟨nb1, no1 + 3, none⟩ = some (.slice ua fl uc) ∧ w5.drew.cell? ⟨B + 1, 2, none⟩ = some (.int .i64 i0) ∧ w5.drew.cell? q = some (.int .u64 wd) := ⟨g0, (HX4.out.trans hx5).cell HE3.out, o2, (HX4.out.trans hx5).cell HQC.out⟩
    go_wp2_with fail
    refine wp_region_noPanic ?_
    refine Rt.begin_ (fun W : World => W.cell? ⟨B, 0, none⟩ = some (.slice a0 g.1.length c0) ∧ W.cell? ⟨nb1, no1 + 3, none⟩ = some (.slice ua fl uc) ∧ W.cell? ⟨B + 1, 2, none⟩ = some (.int .i64 i0) ∧ W.cell? q = some (.int .u64 wd)) (fun i => i == 10) (by kernel_rfl) ?_
    simp only [List.length_cons, List.length_nil, Nat.reduceAdd, Array.replicate_succ, Array.replicate_zero]
    refine Rt.takeW 0 (v := ?_) rfl (by kernel_rfl) (fun _ _ _ h => h) rfl ?_ ?_
    rotate_left
    · (intro W; go_simp; try with_reducible rfl)
    try simp only [Act.put, List.setIfInBounds_toArray, List.set_cons_zero, List.set_cons_succ]
    refine Rt.take 1 (v := ?_) rfl (by kernel_rfl) (fun _ _ _ h => h) rfl ?_ hS0 ?_
    rotate_left
    · (intro W hSW; (try dsimp only at hSW); go_simp; try with_reducible rfl)
    try simp only [Act.put, List.setIfInBounds_toArray, List.set_cons_zero, List.set_cons_succ]
    refine Rt.takeW 2 (v := ?_) rfl (by kernel_rfl) (fun _ _ _ h => h) rfl ?_ ?_
    rotate_left
    · (intro W; go_simp; try with_reducible rfl)
    try simp only [Act.put, List.setIfInBounds_toArray, List.set_cons_zero, List.set_cons_succ]
    refine Rt.takeW 3 (v := ?_) rfl (by kernel_rfl) (fun _ _ _ h => h) rfl ?_ ?_
    rotate_left
    · (intro W; go_simp; try with_reducible rfl)
    try simp only [Act.put, List.setIfInBounds_toArray, List.set_cons_zero, List.set_cons_succ]
    refine Rt.takeW 4 (v := ?_) rfl (by kernel_rfl) (fun _ _ _ h => h) rfl ?_ ?_
    rotate_left
    · (intro W; go_simp; try with_reducible rfl)
    try simp only [Act.put, List.setIfInBounds_toArray, List.set_cons_zero, List.set_cons_succ]
    refine Rt.take 5 (v := ?_) rfl (by kernel_rfl) (fun _ _ _ h => h) rfl ?_ hS0 ?_
    rotate_left
    · (intro W hSW; (try dsimp only at hSW); go_simp; try with_reducible rfl)
    try simp only [Act.put, List.setIfInBounds_toArray, List.set_cons_zero, List.set_cons_succ]
    refine Rt.takeW 6 (v := ?_) rfl (by kernel_rfl) (fun _ _ _ h => h) rfl ?_ ?_
    rotate_left
    · (intro W; go_simp; try with_reducible rfl)
    try simp only [Act.put, List.setIfInBounds_toArray, List.set_cons_zero, List.set_cons_succ]
    refine Rt.take 7 (v := ?_) rfl (by kernel_rfl) (fun _ _ _ h => h) rfl ?_ hS0 ?_
    rotate_left
    · (intro W hSW; (try dsimp only at hSW); go_simp; try with_reducible rfl)
    try simp only [Act.put, List.setIfInBounds_toArray, List.set_cons_zero, List.set_cons_succ]
    refine Rt.takeW 8 (v := ?_) rfl (by kernel_rfl) (fun _ _ _ h => h) rfl ?_ ?_
    rotate_left
    · (intro W; go_simp; try with_reducible rfl)
    try simp only [Act.put, List.setIfInBounds_toArray, List.set_cons_zero, List.set_cons_succ]
    refine Rt.take 9 (v := ?_) rfl (by kernel_rfl) (fun _ _ _ h => h) rfl ?_ hS0 ?_
    rotate_left
    · (intro W hSW; (try dsimp only at hSW); go_simp; try with_reducible rfl)
    try simp only [Act.put, List.setIfInBounds_toArray, List.set_cons_zero, List.set_cons_succ]
    refine Rt.step 10 rfl (by kernel_rfl) rfl (fun K hK => ?_)
    go_simp
    refine hK _ _ ⟨.inl rfl, ?_⟩
    clear hK K
    try simp only [Act.put, List.setIfInBounds_toArray, List.set_cons_zero, List.set_cons_succ]
    refine Rt.done (by kernel_rfl) ?_
    refine NoPanic.normal ?_
    obtain ⟨wq, hwq⟩ : ∃ wq, wq = w5.drew := ⟨_, rfl⟩
    have hx6 : Ext w4 wq := hwq ▸ hx5.drew
    rw [← hwq]
    clear hS0 hwq
    clear g0 g1 o0 o1 o2 o3 o4 o5 o6 o7 r0 r1 s0 s1 s2 f0 f1 f2 f3 f4
    obtain ⟨g0, g1, o0, o1, o2, o3, o4, o5, o6, o7, r0, r1, s0, s1, s2, f0, f1, f2, f3, f4⟩ := (HBX.out.ext hx6).cells
    try dsimp only at o0 o1 o2 o3 o4 o5 o6 o7
    go_wp2_with fail
    refine (No.add_any wd v hw0 hw1 hv0 hv1 _).mono ?_; rintro r w9 ⟨rfl, rfl⟩
    rw [HNV.out]
    go_wp2_with fail
    refine (rset_any (.slice a0 g.1.length c0) (.slice b0 g.2.length d0) g n i0 (nv) w (wq) (World.heap (wq)).size (GI.of HG.out (HX4.out.trans hx6)) hnl hil hfl (by omega) hm).mono ?_; rintro r w7 ⟨a', b', rfl, hG7, hx7⟩
    obtain ⟨aa, al, ac, ba, bl, bc, rfl, rfl⟩ := gr_form hG7.gr
    have hx9 := (hx6).trans hx7
    have hbs : B + 4 ≤ (World.heap (wq)).size := by have := (hx6).size; have := HS4.out; omega
    clear hx7
    clear g0 g1 o0 o1 o2 o3 o4 o5 o6 o7 r0 r1 s0 s1 s2 f0 f1 f2 f3 f4
    obtain ⟨g0, g1, o0, o1, o2, o3, o4, o5, o6, o7, r0, r1, s0, s1, s2, f0, f1, f2, f3, f4⟩ := (HBX.out.ext hx9).cells
    try dsimp only at o0 o1 o2 o3 o4 o5 o6 o7
    obtain ⟨W8, hW8⟩ : ∃ W8, W8 = ((((w7.setCell ⟨B + 2, 0, none⟩ (.slice aa al ac)).setCell ⟨B + 2, 1, none⟩ (.slice ba bl bc)).setCell ⟨B + 3, 0, none⟩ (.int .i64 (0))).setCell ⟨B + 3, 1, none⟩ (.int .u64 (0))).setCell ⟨B + 3, 2, none⟩ (.bool (false)) := ⟨_, rfl⟩
    obtain ⟨q0, q1, q2, q3, q4, hGr, hXr⟩ := fin HBB.out (HBX.out.ext hx9) (HX4.out.trans hx9) (sb_gro HBB.out hG7 hbs) W8 hW8
    have HF := Lib.hid (And.intro hGr hXr)
    clear hGr hXr
    go_wp2_with fail
    rw [← hW8]
    clear hW8
    exact bodyPost_ret (v := .tuple #[.agg #[.slice aa al ac, .slice ba bl bc], .agg #[.int .i64 (0), .int .u64 (0), .bool (false)]]) (by simp [results, Try.results20, go_sem, q0, q1, q2, q3, q4]) rfl ⟨_, _, rfl, HF.out⟩

set_option maxRecDepth 100000 in
set_option maxHeartbeats 8000000 in
theorem rdo_7 (a b : Value) (g : Gph) (th : Nat) (hh i kk v : Int) (x : Hd) (w : World) (h : Gr w a b g) (hth : th < g.2.length) (hr : rightG g = true) (hp : posG g) (hn : g.1.length ≤ 100) (hm : g.2.length ≤ 1048576) (hv0 : 0 ≤ v) (hv1 : v ≤ 18446744073709551615) (hx0 : 0 ≤ x.2.2) (hu : ∀ n ∈ g.1, ∀ y ∈ n.2, y ≤ 18446744073709551615) :
    Calls Try.prog 20 #[.agg #[a, b], .int .i64 th, opv ⟨7, hh, i, kk, v, x⟩] w fun e w' => ∃ a' b', e = .returned (.tuple #[.agg #[a', b'], anv (doA g (th : Int) ⟨7, hh, i, kk, v, x⟩)]) ∧ Gr w' a' b' (doG g (th : Int) ⟨7, hh, i, kk, v, x⟩) ∧ Ext w w' := by
  obtain ⟨a0, c0, rfl⟩ := h.1.form
  obtain ⟨b0, d0, rfl⟩ := Gr.Ma.form h.2
  obtain ⟨B, hB⟩ : ∃ B, B = w.heap.size := ⟨_, rfl⟩
  obtain ⟨w4, hw4⟩ : ∃ w4, w4 = (((w.alloc (.cells #[.slice a0 g.1.length c0, .slice b0 g.2.length d0] 25)).alloc (.cells #[.int .i64 (7 : Int), .int .i64 hh, .int .i64 i, .int .i64 kk, .int .u64 v, .int .i64 x.1, .int .i64 x.2.1, .int .u64 x.2.2] 30)).alloc (.cells #[.slice none 0 0, .slice none 0 0] 25)).alloc (.cells #[.int .i64 0, .int .u64 0, .bool false] 35) := ⟨_, rfl⟩
  obtain ⟨hbx, hx4, hs4⟩ := bx_start (o := ⟨7, hh, i, kk, v, x⟩) hB hw4
  have HBX := Lib.hid hbx
  have HX4 := Lib.hid hx4
  have HS4 := Lib.hid hs4
  have HBB := Lib.hid hB
  have HG := Lib.hid h
  have hsm := h.2.small
  have hlen := h.2.len uS
  try dsimp only at hw4
  clear hbx hx4 hs4
  have HFd := Lib.hid (rfield_any (.slice a0 g.1.length c0) (.slice b0 g.2.length d0) g th ⟨7, hh, i, kk, v, x⟩ false w4 (HG.out.ext HX4.out) hr hp hth)
  unfold opv at HFd
  have hact : act g th ⟨7, hh, i, kk, v, x⟩ = actWrite g th ⟨7, hh, i, kk, v, x⟩ := by unfold act; simp
  have t1 : decide ((th : Int) < 0) = false := decide_eq_false (by omega)
  have t2 : decide ((g.2.length : Int) ≤ (th : Int)) = false := decide_eq_false (by omega)
  cases hf : field g th ⟨7, hh, i, kk, v, x⟩ false with
  | error e =>
    have hrf : rf g th ⟨7, hh, i, kk, v, x⟩ false = (0, e) := by unfold rf; rw [hf]
    rw [hrf] at HFd
    have hee : (e == 0) = false := by have := field_err hf; simp; omega
    have hd := of_err hth (hact.trans (by unfold actWrite; rw [hf]))
    rw [hd.1, hd.2]
    clear hd hact hf hrf
    unfold opv anv
    clear h
    go_enter Try.func20, Try.ntmps20
    go_wp2_with fail
    rw [← hw4, ← hB]
    clear hw4 hB
    try rw [show B + 1 + 1 + 1 = B + 3 from rfl]
    try rw [show B + 1 + 1 = B + 2 from rfl]
    refine HFd.out.mono ?_; rintro r w5 ⟨rfl, hx5⟩
    obtain ⟨g0, g1, o0, o1, o2, o3, o4, o5, o6, o7, r0, r1, s0, s1, s2, f0, f1, f2, f3, f4⟩ := (HBX.out.ext hx5).cells
    try dsimp only at o0 o1 o2 o3 o4 o5 o6 o7
    go_wp2_with fail
    refine (rno_any _ _ g (e) w5 (HG.out.ext (HX4.out.trans hx5))).mono ?_; rintro r w6 ⟨rfl, hxn⟩
    unfold anv
    have hx9 := (hx5).trans hxn
    clear hxn
    clear g0 g1 o0 o1 o2 o3 o4 o5 o6 o7 r0 r1 s0 s1 s2 f0 f1 f2 f3 f4
    obtain ⟨g0, g1, o0, o1, o2, o3, o4, o5, o6, o7, r0, r1, s0, s1, s2, f0, f1, f2, f3, f4⟩ := (HBX.out.ext hx9).cells
    try dsimp only at o0 o1 o2 o3 o4 o5 o6 o7
    obtain ⟨W8, hW8⟩ : ∃ W8, W8 = ((((w6.setCell ⟨B + 2, 0, none⟩ (.slice a0 g.1.length c0)).setCell ⟨B + 2, 1, none⟩ (.slice b0 g.2.length d0)).setCell ⟨B + 3, 0, none⟩ (.int .i64 (e))).setCell ⟨B + 3, 1, none⟩ (.int .u64 (0))).setCell ⟨B + 3, 2, none⟩ (.bool (false)) := ⟨_, rfl⟩
    obtain ⟨q0, q1, q2, q3, q4, hGr, hXr⟩ := fin HBB.out (HBX.out.ext hx9) (HX4.out.trans hx9) (sb_old HBB.out HG.out (HX4.out.trans hx9)) W8 hW8
    have HF := Lib.hid (And.intro hGr hXr)
    clear hGr hXr
    go_wp2_with fail
    rw [← hW8]
    clear hW8
    exact bodyPost_ret (v := .tuple #[.agg #[.slice a0 g.1.length c0, .slice b0 g.2.length d0], .agg #[.int .i64 (e), .int .u64 (0), .bool (false)]]) (by simp [results, Try.results20, go_sem, q0, q1, q2, q3, q4]) rfl ⟨_, _, rfl, HF.out⟩
  | ok n =>
    have hrf : rf g th ⟨7, hh, i, kk, v, x⟩ false = ((n : Int), 0) := by unfold rf; rw [hf]
    rw [hrf] at HFd
    obtain ⟨hnl, i0, hoi, hil⟩ := word_in hr hth hf
    obtain rfl : i = (i0 : Int) := hoi
    obtain ⟨nl0, nl1, _, _⟩ := right_head hr hp hnl
    obtain ⟨_, _, hlenN, _⟩ := right_node hr hnl
    have hfl : (node g n).2.length ≤ 1000000 := by omega
    have hwl : i0 < (node g n).2.length := hil
    have hwm : (node g n).2.getD i0 0 ∈ (node g n).2 := by simp [List.getD_eq_getElem?_getD, hwl]
    have hwv : word g n ⟨7, hh, (i0 : Int), kk, v, x⟩ = (node g n).2.getD i0 0 := by unfold word; simp
    have hw0 := (pos_node hp hnl).2 _ hwm
    have hw1 := hu _ (node_mem hnl) _ hwm
    obtain ⟨nb1, no1, ns1, u, hix, _, _, _, e3, hus⟩ := HG.out.1.at_ n hnl
    replace hus : Sl .u64 w u (node g n).2 := hus
    obtain ⟨ua, uc, rfl⟩ := Row.form hus
    obtain ⟨q, hqx, hqc⟩ := hus.at_ uU szU (i := (i0 : Int)) (by omega) (by omega)
    rw [Int.toNat_natCast] at hqc
    obtain ⟨fl, hfle⟩ : ∃ fl, (node g n).2.length = fl := ⟨_, rfl⟩
    rw [hfle] at e3 hqx
    obtain ⟨wd, hwd⟩ : ∃ wd, (node g n).2.getD i0 0 = wd := ⟨_, rfl⟩
    rw [hwd] at hwv hw0 hw1 hqc
    have HE3 := Lib.hid e3
    have HQC := Lib.hid hqc
    have hd := of_ok hth (hact.trans (by unfold actWrite; rw [hf]))
    rw [hwv] at hd
    obtain ⟨nv, hnv⟩ : ∃ nv, wval (7 : Int) wd v = nv := ⟨_, rfl⟩
    rw [show (⟨7, hh, (i0 : Int), kk, v, x⟩ : Opn).i.toNat = i0 from Int.toNat_natCast i0, show (⟨7, hh, (i0 : Int), kk, v, x⟩ : Opn).kind = (7 : Int) from rfl, show (⟨7, hh, (i0 : Int), kk, v, x⟩ : Opn).v = v from rfl, hnv] at hd
    rw [hd.1, hd.2]
    clear hd hact hf hrf
    unfold wval at hnv
    simp only [if_neg (show ¬ (7 : Int) = 6 by decide), if_true] at hnv
    have HNV := Lib.hid hnv
    clear hnv
    unfold opv anv
    clear h
    go_enter Try.func20, Try.ntmps20
    go_wp2_with fail
    rw [← hw4, ← hB]
    clear hw4 hB
    try rw [show B + 1 + 1 + 1 = B + 3 from rfl]
    try rw [show B + 1 + 1 = B + 2 from rfl]
    refine HFd.out.mono ?_; rintro r w5 ⟨rfl, hx5⟩
    obtain ⟨g0, g1, o0, o1, o2, o3, o4, o5, o6, o7, r0, r1, s0, s1, s2, f0, f1, f2, f3, f4⟩ := (HBX.out.ext hx5).cells
    try dsimp only at o0 o1 o2 o3 o4 o5 o6 o7
    have hS0 : w5.drew.cell? ⟨B, 0, none⟩ = some (.slice a0 g.1.length c0) ∧ w5.drew.cell? ⟨nb1, no1 + 3, none⟩ = some (.slice ua fl uc) ∧ w5.drew.cell? ⟨B + 1, 2, none⟩ = some (.int .i64 i0) ∧ w5.drew.cell? q = some (.int .u64 wd) := ⟨g0, (HX4.out.trans hx5).cell HE3.out, o2, (HX4.out.trans hx5).cell HQC.out⟩
    go_wp2_with fail
    refine wp_region_noPanic ?_
    refine Rt.begin_ (fun W : World => W.cell? ⟨B, 0, none⟩ = some (.slice a0 g.1.length c0) ∧ W.cell? ⟨nb1, no1 + 3, none⟩ = some (.slice ua fl uc) ∧ W.cell? ⟨B + 1, 2, none⟩ = some (.int .i64 i0) ∧ W.cell? q = some (.int .u64 wd)) (fun i => i == 10) (by kernel_rfl) ?_
    simp only [List.length_cons, List.length_nil, Nat.reduceAdd, Array.replicate_succ, Array.replicate_zero]
    refine Rt.takeW 0 (v := ?_) rfl (by kernel_rfl) (fun _ _ _ h => h) rfl ?_ ?_
    rotate_left
    · (intro W; go_simp; try with_reducible rfl)
    try simp only [Act.put, List.setIfInBounds_toArray, List.set_cons_zero, List.set_cons_succ]
    refine Rt.take 1 (v := ?_) rfl (by kernel_rfl) (fun _ _ _ h => h) rfl ?_ hS0 ?_
    rotate_left
    · (intro W hSW; (try dsimp only at hSW); go_simp; try with_reducible rfl)
    try simp only [Act.put, List.setIfInBounds_toArray, List.set_cons_zero, List.set_cons_succ]
    refine Rt.takeW 2 (v := ?_) rfl (by kernel_rfl) (fun _ _ _ h => h) rfl ?_ ?_
    rotate_left
    · (intro W; go_simp; try with_reducible rfl)
    try simp only [Act.put, List.setIfInBounds_toArray, List.set_cons_zero, List.set_cons_succ]
    refine Rt.takeW 3 (v := ?_) rfl (by kernel_rfl) (fun _ _ _ h => h) rfl ?_ ?_
    rotate_left
    · (intro W; go_simp; try with_reducible rfl)
    try simp only [Act.put, List.setIfInBounds_toArray, List.set_cons_zero, List.set_cons_succ]
    refine Rt.takeW 4 (v := ?_) rfl (by kernel_rfl) (fun _ _ _ h => h) rfl ?_ ?_
    rotate_left
    · (intro W; go_simp; try with_reducible rfl)
    try simp only [Act.put, List.setIfInBounds_toArray, List.set_cons_zero, List.set_cons_succ]
    refine Rt.take 5 (v := ?_) rfl (by kernel_rfl) (fun _ _ _ h => h) rfl ?_ hS0 ?_
    rotate_left
    · (intro W hSW; (try dsimp only at hSW); go_simp; try with_reducible rfl)
    try simp only [Act.put, List.setIfInBounds_toArray, List.set_cons_zero, List.set_cons_succ]
    refine Rt.takeW 6 (v := ?_) rfl (by kernel_rfl) (fun _ _ _ h => h) rfl ?_ ?_
    rotate_left
    · (intro W; go_simp; try with_reducible rfl)
    try simp only [Act.put, List.setIfInBounds_toArray, List.set_cons_zero, List.set_cons_succ]
    refine Rt.take 7 (v := ?_) rfl (by kernel_rfl) (fun _ _ _ h => h) rfl ?_ hS0 ?_
    rotate_left
    · (intro W hSW; (try dsimp only at hSW); go_simp; try with_reducible rfl)
    try simp only [Act.put, List.setIfInBounds_toArray, List.set_cons_zero, List.set_cons_succ]
    refine Rt.takeW 8 (v := ?_) rfl (by kernel_rfl) (fun _ _ _ h => h) rfl ?_ ?_
    rotate_left
    · (intro W; go_simp; try with_reducible rfl)
    try simp only [Act.put, List.setIfInBounds_toArray, List.set_cons_zero, List.set_cons_succ]
    refine Rt.take 9 (v := ?_) rfl (by kernel_rfl) (fun _ _ _ h => h) rfl ?_ hS0 ?_
    rotate_left
    · (intro W hSW; (try dsimp only at hSW); go_simp; try with_reducible rfl)
    try simp only [Act.put, List.setIfInBounds_toArray, List.set_cons_zero, List.set_cons_succ]
    refine Rt.step 10 rfl (by kernel_rfl) rfl (fun K hK => ?_)
    go_simp
    refine hK _ _ ⟨.inl rfl, ?_⟩
    clear hK K
    try simp only [Act.put, List.setIfInBounds_toArray, List.set_cons_zero, List.set_cons_succ]
    refine Rt.done (by kernel_rfl) ?_
    refine NoPanic.normal ?_
    obtain ⟨wq, hwq⟩ : ∃ wq, wq = w5.drew := ⟨_, rfl⟩
    have hx6 : Ext w4 wq := hwq ▸ hx5.drew
    rw [← hwq]
    clear hS0 hwq
    clear g0 g1 o0 o1 o2 o3 o4 o5 o6 o7 r0 r1 s0 s1 s2 f0 f1 f2 f3 f4
    obtain ⟨g0, g1, o0, o1, o2, o3, o4, o5, o6, o7, r0, r1, s0, s1, s2, f0, f1, f2, f3, f4⟩ := (HBX.out.ext hx6).cells
    try dsimp only at o0 o1 o2 o3 o4 o5 o6 o7
    go_wp2_with fail
    refine (No.mul_any wd v hw0 hw1 hv0 hv1 _).mono ?_; rintro r w9 ⟨rfl, rfl⟩
    rw [HNV.out]
    go_wp2_with fail
    refine (rset_any (.slice a0 g.1.length c0) (.slice b0 g.2.length d0) g n i0 (nv) w (wq) (World.heap (wq)).size (GI.of HG.out (HX4.out.trans hx6)) hnl hil hfl (by omega) hm).mono ?_; rintro r w7 ⟨a', b', rfl, hG7, hx7⟩
    obtain ⟨aa, al, ac, ba, bl, bc, rfl, rfl⟩ := gr_form hG7.gr
    have hx9 := (hx6).trans hx7
    have hbs : B + 4 ≤ (World.heap (wq)).size := by have := (hx6).size; have := HS4.out; omega
    clear hx7
    clear g0 g1 o0 o1 o2 o3 o4 o5 o6 o7 r0 r1 s0 s1 s2 f0 f1 f2 f3 f4
    obtain ⟨g0, g1, o0, o1, o2, o3, o4, o5, o6, o7, r0, r1, s0, s1, s2, f0, f1, f2, f3, f4⟩ := (HBX.out.ext hx9).cells
    try dsimp only at o0 o1 o2 o3 o4 o5 o6 o7
    obtain ⟨W8, hW8⟩ : ∃ W8, W8 = ((((w7.setCell ⟨B + 2, 0, none⟩ (.slice aa al ac)).setCell ⟨B + 2, 1, none⟩ (.slice ba bl bc)).setCell ⟨B + 3, 0, none⟩ (.int .i64 (0))).setCell ⟨B + 3, 1, none⟩ (.int .u64 (0))).setCell ⟨B + 3, 2, none⟩ (.bool (false)) := ⟨_, rfl⟩
    obtain ⟨q0, q1, q2, q3, q4, hGr, hXr⟩ := fin HBB.out (HBX.out.ext hx9) (HX4.out.trans hx9) (sb_gro HBB.out hG7 hbs) W8 hW8
    have HF := Lib.hid (And.intro hGr hXr)
    clear hGr hXr
    go_wp2_with fail
    rw [← hW8]
    clear hW8
    exact bodyPost_ret (v := .tuple #[.agg #[.slice aa al ac, .slice ba bl bc], .agg #[.int .i64 (0), .int .u64 (0), .bool (false)]]) (by simp [results, Try.results20, go_sem, q0, q1, q2, q3, q4]) rfl ⟨_, _, rfl, HF.out⟩

end Go.Proofs.Ytjhmlbhfnogdiaa.Do
