/- Two appends one behind the other, 'append(append([]Entry{}, l...), e)', in a statement that draws its order: what each order comes to. -/
import Derived.Test.YtgfehdjahjpfhaaAd
namespace Go.Proofs.Ytgfehdjahjpfhaa.Gw
open Go.RowKit
open Go.Proofs.Ytgfehdjahjpfhaa Go.Proofs.Ytgfehdjahjpfhaa.En
set_option linter.unusedVariables false

abbrev App (v u : Value) (w : World) (v1 : Value) (w1 : World) : Prop := (Builtin.append_ #[22, 22] 22 #[v, u]).run Try.prog w = .ok v1 w1
abbrev cell (x : E) : Obj := .cells #[.int .u64 x.1, .int .i64 x.2] 28
abbrev none_ : Obj := .cells #[] 28

/-- append to a row of the call's own. -/
theorem app_own {base : Nat} {w W : World} {v u : Value} {xs ys : List E} (hE : Ext w W) (hbase : w.heap.size = base) (hv : W.ownsRow base 28 2 v xs.length (cs xs)) (hu : Es W u ys) (hb : (xs.length + ys.length) * 16 ≤ 140737488355328) :
    ∃ v' w', App v u W v' w' ∧ w'.ownsRow base 28 2 v' (xs ++ ys).length (cs (xs ++ ys)) ∧ W.grownBy w' v.ownBlock ∧ Ext w w' := by
  obtain ⟨i0, hi, hz0, hz1, hz2⟩ := info_e
  obtain ⟨v', w', hrun, hown, hg, _⟩ := append_own (ty := 22) uT hi hz0 hz1 hz2 rfl (by decide) hv (by rw [← hbase]; exact hE.size) hu (cs_one _) hb (by decide)
  refine ⟨v', w', hrun, by rw [cs_append, List.length_append]; exact hown, hg, hE.grown hg (fun k hk => by rw [hbase]; exact (hv.lt k hk).1)⟩

theorem one_at {w : World} {b : Nat} {x : E} (h : Blk w b #[.int .u64 x.1, .int .i64 x.2] 28) : Es w (.slice (some ⟨b, 0, none⟩) 1 1) [x] := by
  refine ⟨rfl, by simp, by simp, .inr ⟨_, 1, rfl, Nat.le_refl _, by unfold maxLen; omega, fun j c hj => ?_⟩⟩
  have hadd : (⟨b, 0, none⟩ : Addr).add j = ⟨b, j, none⟩ := by unfold Addr.add; split <;> simp_all
  rw [hadd]
  refine h.cell ?_
  simpa [cs, ec] using hj

theorem es_of {base : Nat} {w : World} {v : Value} {xs : List E} (hv : w.ownsRow base 28 2 v xs.length (cs xs)) (hb : xs.length * 16 ≤ 140737488355328) : Es w v xs := Row.of_own hv hb (by omega)

/-- The empty row, l behind it, then the entry's own cells. -/
theorem first_ {w : World} {l : Value} {es : List E} (h : Es w l es) (x : E) (hb : (es.length + 1) * 16 ≤ 140737488355328) :
    ∃ v1 w1 v2 w2, App (.slice (some ⟨w.heap.size, 0, none⟩) 0 0) l (w.alloc none_) v1 w1 ∧ Ext w w1 ∧ App v1 (.slice (some ⟨w1.heap.size, 0, none⟩) 1 1) (w1.alloc (cell x)) v2 w2 ∧ Ext w w2 ∧ Es w2 v2 (es ++ [x]) := by
  have hE : Ext w (w.alloc none_) := (Ext.refl w).alloc _
  obtain ⟨v1, w1, hr1, ho1, _, hx1⟩ := app_own (xs := []) hE rfl (own_empty w 28 2) (h.ext hE) (by simp; omega)
  have ho1' := own_ext ho1 ((Ext.refl w1).alloc (cell x))
  obtain ⟨v2, w2, hr2, ho2, _, hx2⟩ := app_own (hx1.alloc (cell x)) rfl ho1' (one_at (Blk.new w1 _ _)) (by simpa using hb)
  exact ⟨v1, w1, v2, w2, hr1, hx1, hr2, hx2, by simpa using es_of ho2 (by simpa using hb)⟩

/-- The entry's cells lie ahead of the first append. -/
theorem other_ {w W : World} {g b : Nat} {l : Value} {es : List E} (hE : Ext w W) (hg : W.ownsRow w.heap.size 28 2 (.slice (some ⟨g, 0, none⟩) 0 0) 0 []) (h : Es w l es) (x : E) (hx : Blk W b #[.int .u64 x.1, .int .i64 x.2] 28) (hne : b ≠ g) (hb : (es.length + 1) * 16 ≤ 140737488355328) :
    ∃ v1 w1 v2 w2, App (.slice (some ⟨g, 0, none⟩) 0 0) l W v1 w1 ∧ Ext w w1 ∧ App v1 (.slice (some ⟨b, 0, none⟩) 1 1) w1 v2 w2 ∧ Ext w w2 ∧ Es w2 v2 (es ++ [x]) := by
  obtain ⟨v1, w1, hr1, ho1, hgr, hx1⟩ := app_own (xs := []) hE rfl hg (h.ext hE) (by simp; omega)
  obtain ⟨v2, w2, hr2, ho2, _, hx2⟩ := app_own hx1 rfl ho1 (one_at (hx.kept hgr (by simp [Value.ownBlock]; exact hne))) (by simpa using hb)
  exact ⟨v1, w1, v2, w2, hr1, hx1, hr2, hx2, by simpa using es_of ho2 (by simpa using hb)⟩

theorem second_ {w : World} {l : Value} {es : List E} (h : Es w l es) (x : E) (hb : (es.length + 1) * 16 ≤ 140737488355328) :
    ∃ v1 w1 v2 w2, App (.slice (some ⟨w.heap.size, 0, none⟩) 0 0) l ((w.alloc none_).alloc (cell x)) v1 w1 ∧ Ext w w1 ∧ App v1 (.slice (some ⟨w.heap.size + 1, 0, none⟩) 1 1) w1 v2 w2 ∧ Ext w w2 ∧ Es w2 v2 (es ++ [x]) := by
  have hE : Ext w ((w.alloc none_).alloc (cell x)) := ((Ext.refl w).alloc _).alloc _
  have hbk := Blk.new (w.alloc none_) #[.int .u64 x.1, .int .i64 x.2] 28
  rw [World.size_alloc] at hbk
  exact other_ hE (own_ext (own_empty w 28 2) ((Ext.refl _).alloc _)) h x hbk (by omega) hb

theorem third_ {w : World} {l : Value} {es : List E} (h : Es w l es) (x : E) (hb : (es.length + 1) * 16 ≤ 140737488355328) :
    ∃ v1 w1 v2 w2, App (.slice (some ⟨w.heap.size + 1, 0, none⟩) 0 0) l ((w.alloc (cell x)).alloc none_) v1 w1 ∧ Ext w w1 ∧ App v1 (.slice (some ⟨w.heap.size, 0, none⟩) 1 1) w1 v2 w2 ∧ Ext w w2 ∧ Es w2 v2 (es ++ [x]) := by
  have hE : Ext w ((w.alloc (cell x)).alloc none_) := ((Ext.refl w).alloc _).alloc _
  have hbk := (Blk.new w #[.int .u64 x.1, .int .i64 x.2] 28).alloc none_
  have ho := own_empty (w.alloc (cell x)) 28 2
  have hsz : (w.alloc (cell x)).heap.size = w.heap.size + 1 := World.size_alloc ..
  rw [hsz] at ho
  have ho' : ((w.alloc (cell x)).alloc none_).ownsRow w.heap.size 28 2 (.slice (some ⟨w.heap.size + 1, 0, none⟩) 0 0) 0 [] := by
    obtain ⟨h1, h2⟩ := ho
    refine ⟨h1, ?_⟩
    rcases h2 with h2 | ⟨g, cap, cur, e1, e2, r⟩
    · exact .inl h2
    · exact .inr ⟨g, cap, cur, e1, by omega, r⟩
  exact other_ hE ho' h x hbk (by omega) hb

/-- All three, behind the draw. -/
theorem drawn_ {w : World} {l : Value} {es : List E} (h : Es w l es) (x : E) (hb : (es.length + 1) * 16 ≤ 140737488355328) :
    (∃ v1 w1 v2 w2, App (.slice (some ⟨w.heap.size, 0, none⟩) 0 0) l (w.alloc none_).drew v1 w1 ∧ Ext w w1 ∧ App v1 (.slice (some ⟨w1.heap.size, 0, none⟩) 1 1) (w1.alloc (cell x)) v2 w2 ∧ Ext w w2 ∧ Es w2 v2 (es ++ [x])) ∧
    (∃ v1 w1 v2 w2, App (.slice (some ⟨w.heap.size, 0, none⟩) 0 0) l ((w.alloc none_).alloc (cell x)).drew v1 w1 ∧ Ext w w1 ∧ App v1 (.slice (some ⟨w.heap.size + 1, 0, none⟩) 1 1) w1 v2 w2 ∧ Ext w w2 ∧ Es w2 v2 (es ++ [x])) ∧
    (∃ v1 w1 v2 w2, App (.slice (some ⟨w.heap.size + 1, 0, none⟩) 0 0) l ((w.alloc (cell x)).alloc none_).drew v1 w1 ∧ Ext w w1 ∧ App v1 (.slice (some ⟨w.heap.size, 0, none⟩) 1 1) w1 v2 w2 ∧ Ext w w2 ∧ Es w2 v2 (es ++ [x])) := by
  have k : Ext w w.drew := (Ext.refl w).drew
  obtain ⟨v1, w1, v2, w2, a1, x1, a2, x2, z1⟩ := first_ (h.ext k) x hb
  obtain ⟨v3, w3, v4, w4, a3, x3, a4, x4, z2⟩ := second_ (h.ext k) x hb
  obtain ⟨v5, w5, v6, w6, a5, x5, a6, x6, z3⟩ := third_ (h.ext k) x hb
  exact ⟨⟨v1, w1, v2, w2, a1, k.trans x1, a2, k.trans x2, z1⟩, ⟨v3, w3, v4, w4, a3, k.trans x3, a4, k.trans x4, z2⟩, ⟨v5, w5, v6, w6, a5, k.trans x5, a6, k.trans x6, z3⟩⟩
end Go.Proofs.Ytgfehdjahjpfhaa.Gw
