/- Once of package log: each entry once, where it came last. -/
import Derived.Test.YtgfehdjahjpfhaaBw
import Derived.Test.YtgfehdjahjpfhaaBk
namespace Go.Proofs.Ytgfehdjahjpfhaa.Oc
open Go.RowKit Go.Shelf
open Go.Proofs.Ytgfehdjahjpfhaa Go.Proofs.Ytgfehdjahjpfhaa.En Go.Proofs.Ytgfehdjahjpfhaa.Ok Go.Proofs.Ytgfehdjahjpfhaa.Bw
set_option linter.unusedVariables false
attribute [local go_sem] Oper.semAt_some

theorem run_store_fn {P : Program} {w : World} {a : Addr} {m : Mode} {f : Fn} {x y : Array Value} : (store a (.func f x y) m).run P w = stored P w a (.func f x y) m := run_store P w a _ m rfl
attribute [local go_sem] run_store_fn

theorem back_in (n : Nat) (a : Option Addr) (len cap : Nat) (w : World) :
    CallsIn Fence.wide n Try.prog 23 #[.slice a len cap] w fun e w' => e = .returned (.func (.func 25) #[] #[.pointer (some ⟨w.heap.size, 0, none⟩)]) ∧ w' = w.alloc (.cells #[.slice a len cap] 22) := by
  refine callsIn_of_wp Try.func23 rfl trivial ?_ rfl
  simp only [Try.ntmps23, List.size_toArray, List.length_cons, List.length_nil, Nat.reduceAdd, Nat.reduceSub, Array.replicate_succ, Array.replicate_zero, List.push_toArray, List.append_toArray, List.nil_append, List.cons_append]
  gi_wp2
  go_ret
  exact ⟨rfl, rfl⟩

theorem kp_t {n₀ B : Nat} {v : Value} {X Y Z : World} (h : Kp n₀ B v X Y) (k : Kp n₀ B v Y Z) : Kp n₀ B v X Z := ⟨h.1.trans k.1, fun hb => k.2 (h.2 hb)⟩
theorem kp_b {n₀ B : Nat} {v : Value} {w : World} (hn : n₀ ≤ w.heap.size) (W : World) (l : Nat) (o o' : Obj) (hl : w.heap.size ≤ l) (h : W.heap[l]? = some o) (hc : o.isCells = false) (hw : o.isWalk = false) : Kp n₀ B v W (W.putObj l o') :=
  ⟨belowK_b hn W l o o' hl h hc hw, fun hb => hb.kept (grownBy_putObj' W l o') (fun e => by
    obtain rfl : B = l := by simpa using e
    rw [show W.heap[B]? = _ from hb] at h; cases h; cases hc)⟩

/-- The entries that have come. -/
def got (pre : List (Nat × EU)) : List E := vals (pre.map (·.2))
theorem got_snoc (pre : List (Nat × EU)) (x : Nat × EU) : got (pre ++ [x]) = got pre ++ [x.2.1] := by simp [got, vals]
theorem got_len (pre : List (Nat × EU)) : (got pre).length = pre.length := by simp [got, vals]
theorem got_wf (pre : List (Nat × EU)) : ∀ e ∈ got pre, wfE e := vals_wf _

theorem back_stops (n : Nat) (hn : 1 ≤ n) (Bs : Nat) (w0 : World) (v : Value) (ues : List EU) (hS : Es w0 v (vals ues)) (w : World) (hX : Ext w0 w) (hB : Boxed w Bs 22 v) :
    SeqStopsK Fence.wide n Try.prog 25 #[.pointer (some ⟨Bs, 0, none⟩)] (fun x : Nat × EU => #[Value.int .i64 x.1, .agg #[.int .u64 x.2.1.1, .int .i64 x.2.1.2]]) (Kp w0.heap.size Bs v) (fun ys => ys.map (·.2) = ues.reverse) (fun _ => True) ues.length w := fun ly J Jx W hW hJ _ hY h0 =>
  bw1 n hn ly Bs w0 v ues hS J Jx hY W (hX.trans hW) (hB.kept (Ext.grownBy hW) (by simp)) h0

theorem cell_two_new (w : World) (a b : Value) (T : TypeId) : ∀ (j : Nat) (v : Value), [a, b][j]? = some v → (w.alloc (.cells #[a, b] T)).cell? ((⟨w.heap.size, 0, none⟩ : Addr).add j) = some v := fun j v hj => by
  have h := Blk.new w #[a, b] T
  match j, hj with
  | 0, hj => simp at hj; subst hj; exact h.cell rfl
  | 1, hj => simp at hj; subst hj; exact h.cell (i := 1) rfl
  | j + 2, hj => simp at hj

/-- What holds between rounds. -/
def I (w : World) (pre : List (Nat × EU)) (W : World) : Prop :=
  (∃ v, Boxed W (w.heap.size + 1 + 1 + 1) 22 v ∧ W.ownsRow w.heap.size 28 2 v (firsts (got pre)).length (cs (firsts (got pre))) ∧ True) ∧
  (Boxed W (w.heap.size + 1) 48 (.map (some w.heap.size)) ∧
  (Boxed W (w.heap.size + 1 + 1) 49 (.func (.func 22) #[] #[.pointer (some ⟨w.heap.size + 1, 0, none⟩)]) ∧
  (MSet Try.prog 28 4 W w.heap.size pre.length (had (got pre)) ∧ Below w.heap.size w W)))

theorem own_I (w : World) (B : Nat) (hB : w.heap.size + 4 < B) : OwnFrom B (I w) :=
  OwnFrom.and (Own.from (holdsRow_own w.heap.size (w.heap.size + 1 + 1 + 1) 22 28 2 (fun pre => (firsts (got pre)).length) (fun pre => cs (firsts (got pre))) (fun _ _ => True)) _)
    (OwnFrom.and (Own.from (boxed_own _ _ _) _) (OwnFrom.and (Own.from (boxed_own _ _ _) _) (OwnFrom.and (fun s X Y row hs hg hr => hs.kept hg (fun e => by have := (hr _ e.symm).1; omega)) (ownFrom_below (Nat.le_refl _) (by omega)))))

theorem obj_kept {W w1 : World} {base size k D : Nat} {e : TypeId} {v : Value} {xs : List Value} {o : Obj} (hrow : W.ownsRow base e size v k xs) (hg : W.grownBy w1 v.ownBlock) (hK : W.heap[D]? = some o) (ho : o.isCells = false) : w1.heap[D]? = some o := by
  refine (hg.block D (Array.getElem?_eq_some_iff.1 hK).1 fun e' => ?_).trans hK
  rcases hrow.2 with ⟨rfl, _⟩ | ⟨g, cap, cur, rfl, _, hgb, _⟩
  · simp [Value.ownBlock] at e'
  · obtain rfl : D = g := by simpa [Value.ownBlock] using e'
    rw [hgb] at hK; cases hK; cases ho

/-- The round's own box. -/
def Ax (w : World) (t : Array Value) (a0 : Option Addr) (len c0 : Nat) (x : Nat × EU) (a' : Act) (W : World) : Prop := ∃ p, w.heap.size + 1 + 1 + 1 < p ∧ a' = { tmps := #[.slice a0 len c0, undef, .slice none 0 0, .pointer (some ⟨w.heap.size + 1, 0, none⟩), .pointer (some ⟨w.heap.size + 1 + 1, 0, none⟩), .pointer (some ⟨w.heap.size + 1 + 1 + 1, 0, none⟩), undef, .pointer (some ⟨p, 0, none⟩), .map (some w.heap.size), .func (.func 22) #[] #[.pointer (some ⟨w.heap.size + 1, 0, none⟩)], .slice a0 len c0, .func (.func 25) #[] #[.pointer (some ⟨w.heap.size + 1 + 1 + 1 + 1, 0, none⟩)], .int .i64 x.1, .agg #[.int .u64 x.2.1.1, .int .i64 x.2.1.2], undef, undef, undef, undef, undef, undef, undef, undef, undef, undef, undef], defers := [] } ∧ Blk W p #[.int .u64 x.2.1.1, .int .i64 x.2.1.2] 28

theorem own_Ax (w : World) (t : Array Value) (a0 : Option Addr) (len c0 : Nat) (x : Nat × EU) (a' : Act) (B : Nat) : OwnFrom B (fun (_ : Unit) W => Ax w t a0 len c0 x a' W) := fun _ X Y row hs hg hr => by
  obtain ⟨p, hp, ha, hb⟩ := hs
  refine ⟨p, hp, ha, hb.kept hg fun e => ?_⟩
  obtain ⟨o, ho, hc⟩ := (hr _ e.symm).2
  rw [show X.heap[p]? = _ from hb] at ho
  cases ho; cases hc

/-- What a round leaves behind it, where the entry came before. -/
theorem body_hit {w W w2 : World} {pre : List (Nat × EU)} {x : Nat × EU} {B Bs : Nat} {v : Value} (hI : I w pre W) (hx : x.2.1 ∈ got pre) (hset2 : MSet Try.prog 28 4 w2 w.heap.size (pre.length + 1) (had (got (pre ++ [x])))) (hg : W.grownBy w2 (some w.heap.size)) (hB : w.heap.size < B) (hBs : w.heap.size < Bs) :
    KeepsFrom B W w2 ∧ Kp w.heap.size Bs v W w2 ∧ I w (pre ++ [x]) w2 := by
  obtain ⟨⟨u, hv, hrow, _⟩, hh, hf, hset, hBe⟩ := hI
  have hE : Below w.heap.size W w2 := (Below.refl _ W).grown hg hBe.size (fun k e => by cases e; exact Nat.le_refl _)
  have hfi : firsts (got (pre ++ [x])) = firsts (got pre) := by
    rw [got_snoc, firsts_snoc]
    unfold Ok.step
    rw [if_pos ((firsts_mem _ _).2 hx)]
  refine ⟨KeepsFrom.of_grownBy hg (fun j e => by cases e; exact hB), ⟨hE, fun hb => hb.kept hg (fun e => by simp at e; omega)⟩, ⟨u, hv.kept hg (fun e => by simp at e; omega), ?_, trivial⟩, hh.kept hg (fun e => by simp at e), hf.kept hg (fun e => by simp at e; omega), ?_, hBe.trans hE⟩
  · rw [hfi]; exact hrow.kept hg (hset.not_row hrow)
  · rw [List.length_append]; exact hset2

/-- .. and where it is new. -/
theorem body_miss {w W w2 w3 : World} {pre : List (Nat × EU)} {x : Nat × EU} {B Bs : Nat} {v u u' : Value} {tmp : Obj} (hI : I w pre W) (hx : x.2.1 ∉ got pre) (hset2 : MSet Try.prog 28 4 w2 w.heap.size (pre.length + 1) (had (got (pre ++ [x])))) (hg : W.grownBy w2 (some w.heap.size)) (hB : w.heap.size < B) (hBs : w.heap.size + 1 + 1 + 1 < Bs)
    (hv2 : Boxed w2 (w.heap.size + 1 + 1 + 1) 22 u) (hrow2 : w2.ownsRow w.heap.size 28 2 u (firsts (got pre)).length (cs (firsts (got pre))))
    (hown : w3.ownsRow w.heap.size 28 2 u' ((firsts (got pre)).length + 1) (cs (firsts (got pre)) ++ [.int .u64 x.2.1.1, .int .i64 x.2.1.2])) (hg3 : (w2.alloc tmp).grownBy w3 u.ownBlock) :
    KeepsFrom B W (w3.setCell ⟨w.heap.size + 1 + 1 + 1, 0, none⟩ u') ∧ Kp w.heap.size Bs v W (w3.setCell ⟨w.heap.size + 1 + 1 + 1, 0, none⟩ u') ∧ I w (pre ++ [x]) (w3.setCell ⟨w.heap.size + 1 + 1 + 1, 0, none⟩ u') := by
  obtain ⟨_, hh, hf, hset, hBe⟩ := hI
  have hE : Below w.heap.size W w2 := (Below.refl _ W).grown hg hBe.size (fun k e => by cases e; exact Nat.le_refl _)
  have hfi : firsts (got (pre ++ [x])) = firsts (got pre) ++ [x.2.1] := by
    rw [got_snoc, firsts_snoc]
    unfold Ok.step
    rw [if_neg (fun h => hx ((firsts_mem _ _).1 h))]
  obtain ⟨q1, q2, q3, q4, q5⟩ := hv2.appended (by decide) hrow2 (hBe.trans hE).size (by omega) hown hg3
  have hbox : ∀ {b : Nat} {T : TypeId} {y : Value}, b ≠ w.heap.size → b ≠ w.heap.size + 1 + 1 + 1 → T ≠ 28 → Boxed W b T y → Boxed (w3.setCell ⟨w.heap.size + 1 + 1 + 1, 0, none⟩ u') b T y := fun {b T y} hne hne2 hT hb => by
    have b2 : Boxed w2 b T y := hb.kept hg (fun e => by simp at e; exact hne e)
    exact ((b2.alloc tmp).kept hg3 (b2.not_row hT hrow2)).other hne2 _
  refine ⟨(KeepsFrom.of_grownBy hg (fun j e => by cases e; exact hB)).trans (q4.from _), ⟨hE.trans q5, fun hb => hbox (by omega) (by omega) (by decide) hb⟩, ⟨u', q2, ?_, trivial⟩, hbox (by omega) (by omega) (by decide) hh, hbox (by omega) (by omega) (by decide) hf, ?_, (hBe.trans hE).trans q5⟩
  · rw [hfi, cs_append, List.length_append]; exact q3
  · rw [List.length_append]; exact hset2.keeps q4

set_option maxRecDepth 100000 in
set_option maxHeartbeats 4000000 in
theorem once_in (n : Nat) (hn : 3 ≤ n) (v : Value) (ues : List EU) (w : World) (hS : Es w v (vals ues)) :
    CallsIn Fence.wide n Try.prog 11 #[v] w fun e W' => ∃ o, e = .returned o ∧ W'.ownsRow w.heap.size 28 2 o (once (vals ues)).length (cs (once (vals ues))) ∧ Below w.heap.size w W' := by
  have h1 : 1 ≤ n := by omega
  obtain ⟨a0, c0, rfl⟩ := Row.form hS
  obtain ⟨i0, hi, hz0, hz1, hz2⟩ := info_e
  have hmm := @run_makeMap Try.prog
  refine callsIn_of_wp_marks Try.func11 rfl trivial ?_ rfl
  simp only [Try.ntmps11, List.size_toArray, List.length_cons, List.length_nil, Nat.reduceAdd, Nat.reduceSub, Array.replicate_succ, Array.replicate_zero, List.push_toArray, List.append_toArray, List.nil_append, List.cons_append]
  have h23 : Fence.wide.fn 23 := trivial
  have h22 : Fence.wide.fn 22 := trivial
  have h24 : Fence.wide.fn 24 := trivial
  have hsb : ues.length * 16 ≤ 140737488355328 := by have := hS.2.1; rw [vals_length] at this; exact this
  gi_wp2_with (gi_at_call 23; refine (back_in (n - 1) _ _ _ _).mono ?_; rintro e w' ⟨rfl, rfl⟩)
  obtain ⟨wR, hwR⟩ : ∃ wR, wR = (((((w.alloc (.map #[] 0)).alloc (.cells #[.map (some w.heap.size)] 48)).alloc (.cells #[.func (.func 22) #[] #[.pointer (some ⟨w.heap.size + 1, 0, none⟩)]] 49)).alloc (.cells #[.slice none 0 0] 22)).alloc (.cells #[.slice a0 (vals ues).length c0] 22)) := ⟨_, rfl⟩
  have hxR : Ext w wR := by rw [hwR]; exact (((((Ext.refl w).alloc _).alloc _).alloc _).alloc _).alloc _
  have hsz : wR.heap.size = w.heap.size + 1 + 1 + 1 + 1 + 1 := by rw [hwR]; simp
  have bN : Boxed wR (w.heap.size + 1 + 1 + 1 + 1) 22 (.slice a0 (vals ues).length c0) := by rw [hwR]; simpa using Boxed.new ((((w.alloc (.map #[] 0)).alloc (.cells #[.map (some w.heap.size)] 48)).alloc (.cells #[.func (.func 22) #[] #[.pointer (some ⟨w.heap.size + 1, 0, none⟩)]] 49)).alloc (.cells #[.slice none 0 0] 22)) 22 (.slice a0 (vals ues).length c0)
  have hI0 : I w [] wR := by
    have b1 := Boxed.new (w.alloc (.map #[] 0)) 48 (.map (some w.heap.size))
    have b2 := Boxed.new ((w.alloc (.map #[] 0)).alloc (.cells #[.map (some w.heap.size)] 48)) 49 (.func (.func 22) #[] #[.pointer (some ⟨w.heap.size + 1, 0, none⟩)])
    have b3 := Boxed.new (((w.alloc (.map #[] 0)).alloc (.cells #[.map (some w.heap.size)] 48)).alloc (.cells #[.func (.func 22) #[] #[.pointer (some ⟨w.heap.size + 1, 0, none⟩)]] 49)) 22 (.slice none 0 0)
    simp only [World.size_alloc] at b1 b2 b3
    rw [hwR]
    refine ⟨⟨_, b3.alloc _, World.ownsRow_nil _ _ _ _, trivial⟩, ((b1.alloc _).alloc _).alloc _, (b2.alloc _).alloc _, ?_, by rw [← hwR]; exact hxR⟩
    have hm := ((((MSet.made w Try.prog 28 4).alloc (.cells #[.map (some w.heap.size)] 48)).alloc (.cells #[.func (.func 22) #[] #[.pointer (some ⟨w.heap.size + 1, 0, none⟩)]] 49)).alloc (.cells #[.slice none 0 0] 22)).alloc (.cells #[.slice a0 (vals ues).length c0] 22)
    have he : had (got []) = fun _ => false := by funext z; unfold had got; simp [vals]
    rw [he]
    exact hm
  rw [← hwR]
  refine wpIn_rangeFunc_ownH rfl h1 (gf := 25) (lb := #[.pointer (some ⟨w.heap.size + 1 + 1 + 1 + 1, 0, none⟩)]) rfl trivial (enters_of Try.func25 (by kernel_rfl) rfl)
    (back_stops (n - 1) (by omega) (w.heap.size + 1 + 1 + 1 + 1) w (.slice a0 (vals ues).length c0) ues hS wR hxR bN) kp_t (kp_b (by omega)) (Below.refl _ _) (fun _ => rfl)
    (I w) (fun _ _ _ => False) (own_I w _ (by omega)) (fun _ _ _ _ _ hs _ _ => hs) hI0 (Ax w #[] a0 (vals ues).length c0) (fun x a' => own_Ax w #[] a0 _ c0 x a' _) ?assign ?body ?done ?stop
  case assign =>
    intro l pre x W K hI hK
    have hE := hI.2.2.2.2
    have hBs := hI.1
    gi_wp2
    refine hK _ _ ((KeepsOthers.alloc W _).from _) ⟨(Below.refl _ _).alloc hE.size _, fun hb => hb.alloc _⟩ ((own_I w wR.heap.size (by omega)).alloc _ hI) ⟨W.heap.size, ?_, rfl, Blk.new W _ _⟩
    obtain ⟨u, h4, _⟩ := hI.1
    exact h4.lt
  case body =>
    rintro ly pre x a' W hly hrec hI ⟨p, hp, rfl, hblk⟩ hlt
    have hI2 := Lib.hid hI
    obtain ⟨⟨v, hv, hrow, _⟩, hh, hf, hset, hB⟩ := hI
    have hcO := hv.cell
    have hcM := hh.cell
    have hcF := hf.cell
    have e0 := hblk.cell (i := 0) rfl
    have e1 := hblk.cell (i := 1) rfl
    have hfl := firsts_len (got pre)
    rw [got_len] at hfl
    have HG := again_any x.2.1 w.heap.size (w.heap.size + 1) pre.length (had (got pre)) (had (got (pre ++ [x]))) W x.2.2 hcM hset (by unfold maxLen; omega) (by rw [got_snoc]; exact had_self _ _) (fun z hz => by rw [got_snoc]; exact had_step _ _ _ hz)
    rw [had_at (got_wf pre) x.2.2] at HG
    have HGG := Lib.hid (CallsIn.inRound ly (callsIn_wide.2 HG : CallsIn Fence.wide (n - 1 - 1 - 1) Try.prog _ _ W _))
    have h1' : 1 ≤ n - 1 - 1 := by omega
    clear HG
    by_cases hin : x.2.1 ∈ got pre
    · rw [decide_eq_true hin] at HGG
      gi_wp2_with (gi_at_call 22; refine HGG.out.mono ?_; rintro e w2 ⟨rfl, hset2, hg2⟩; have HF := Lib.hid (body_hit (B := wR.heap.size) (Bs := w.heap.size + 1 + 1 + 1 + 1) (v := .slice a0 (vals ues).length c0) hI2.out hin hset2 hg2 (by omega) (by omega)); clear hset2 hg2)
      exact HF.out
    · rw [decide_eq_false hin] at HGG
      gi_wp2_with (first | (gi_at_call 22; refine HGG.out.mono ?_; rintro e w2 ⟨rfl, hset2, hg2⟩; have hE2 : Below w.heap.size W w2 := ((Below.refl _ W).grown hg2 hB.size (fun k e => by cases e; exact Nat.le_refl _)); have hv2 := hv.kept hg2 (fun e => by simp at e; omega); have hrow2 := hrow.kept hg2 (hset.not_row hrow); have hblk2 := hblk.kept hg2 (fun e => by simp at e; omega); have hcO2 := hv2.cell; have hfO2 := hv2.frozen; have e02 := hblk2.cell (i := 0) rfl; have e12 := hblk2.cell (i := 1) rfl) | (gi_at_builtin; refine wpListIn_append_own _ rfl _ _ 22 rfl w.heap.size 28 i0 (.agg #[.int .u64 0, .int .i64 0]) 2 16 Try.underlying22 hi hz0 hz1 hz2 rfl (by decide) _ _ _ rfl (hrow2.alloc _) ⟨w2.heap.size, 0, none⟩ 1 1 [.int .u64 x.2.1.1, .int .i64 x.2.1.2] rfl rfl (cell_two_new _ _ _ _) (by simp [Value.oneCell']) (by unfold maxLen; omega) (by omega) (by have := hB.size; have := hE2.size; simp; omega) ?_; intro v' w3 hown' hgrow _; obtain ⟨g', cap', rfl⟩ := ownsRow_succ hown'; obtain ⟨q1, q2, q3, q4, q5⟩ := hv2.appended (by decide) hrow2 (hB.trans hE2).size (by omega) hown' hgrow; have hc1 := q1.cell; have hf1 := q1.frozen; have HF := Lib.hid (body_miss (B := wR.heap.size) (Bs := w.heap.size + 1 + 1 + 1 + 1) (v := .slice a0 (vals ues).length c0) hI2.out hin hset2 hg2 (by omega) (by omega) hv2 hrow2 hown' hgrow); clear hset2 hg2 q1 q2 q3 q4 q5 hown' hgrow))
      exact HF.out
  case done =>
    rintro D ys W hD hys ⟨⟨v, hv, hrow, _⟩, hh, hf, hset, hB⟩ hK
    have hc := hv.cell
    have hg : got ys = (vals ues).reverse := by unfold got; rw [hys]; simp [vals]
    rw [hg] at hrow
    have hfl := firsts_len (vals ues).reverse
    rw [List.length_reverse, vals_length] at hfl
    have hon : (once (vals ues)).length = (firsts (vals ues).reverse).length := by simp [once]
    have hlo : w.heap.size ≤ W.heap.size := hB.size
    gi_wp2_with (gi_at_call 24; refine (callsIn_wide.2 (Rv.rev_any v _ w.heap.size W hrow (by omega))).mono ?_; rintro e w1 ⟨rfl, hr1, hg1⟩; have hv1 := hv.kept hg1 (hv.not_row (by decide) hrow); have hc1 := hv1.cell; have hK1 := obj_kept hrow hg1 hK rfl; have hB1 : Below w.heap.size w w1 := (hB.grown hg1 hlo (fun k hk => (hrow.lt k hk).1)))
    refine ⟨by simp, .inl ⟨_, _, rfl, run_takeDeferred hK1, ?_⟩⟩
    exact ⟨_, results_tmp rfl _ _ _, v, rfl, ownsRow_putObj (by rw [hon]; exact hr1) _ hK1 rfl, hB1.trans (belowK_b (w := w) (Nat.le_refl _) w1 D _ _ (by omega) hK1 rfl rfl)⟩
  case stop =>
    rintro D c pre W _ _ h _
    exact h.elim

/-- Once, with no fence. -/
theorem once_any (v : Value) (es : List E) (hw : ∀ e ∈ es, wfE e) (w : World) (hS : Es w v es) :
    Calls Try.prog 11 #[v] w fun e w' => ∃ o, e = .returned o ∧ Es w' o (once es) ∧ Ext w w' := by
  obtain ⟨ues, rfl⟩ : ∃ ues : List EU, vals ues = es := by
    have : ∀ l : List E, (∀ e ∈ l, wfE e) → ∃ ues : List EU, vals ues = l := fun l => by
      induction l with
      | nil => exact fun _ => ⟨[], rfl⟩
      | cons x r ih =>
        intro h
        obtain ⟨ys, rfl⟩ := ih fun y hy => h y (List.mem_cons_of_mem _ hy)
        exact ⟨⟨x, h x (List.mem_cons_self ..)⟩ :: ys, rfl⟩
    exact this es hw
  have hb : (once (vals ues)).length ≤ (vals ues).length := by
    have := firsts_len (vals ues).reverse
    rw [List.length_reverse] at this
    simpa [once] using this
  have hs := hS.2.1
  refine ((callsIn_wide (n := 3)).1 (once_in 3 (by omega) v ues w hS)).mono ?_
  rintro e w' ⟨o, rfl, ho, hx⟩
  exact ⟨o, rfl, Row.of_own (b := 16) ho (by omega) (by omega), hx⟩
end Go.Proofs.Ytgfehdjahjpfhaa.Oc
