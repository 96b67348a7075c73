/- All addresses of all rows, each once: what the program's All computes, said of lists; and the reference's. -/
import Derived.Test.YtmkpbdibhjjmpaaIt
import Derived.Test.YtmkpbdibhjjmpaaMt
namespace Go.Proofs.Ytmkpbdibhjjmpaa.Al
open Go.RowKit Go.Shelf
open Go.Proofs.Ytmkpbdibhjjmpaa Go.Proofs.Ytmkpbdibhjjmpaa.It
set_option linter.unusedVariables false
attribute [local go_sem] Oper.semAt_some

/-- One address more. -/
def step (out : List Int) (a : Int) : List Int := if a = 0 ∨ a ∈ out then out else out ++ [a]
def all (xs : List Int) : List Int := xs.foldl step []
theorem all_snoc (xs : List Int) (a : Int) : all (xs ++ [a]) = step (all xs) a := by simp [all]
theorem fold_len (xs : List Int) : ∀ out : List Int, (xs.foldl step out).length ≤ out.length + xs.length := by
  induction xs with
  | nil => intro out; simp
  | cons x r ih =>
    intro out
    have h1 := ih (step out x)
    have h2 : (step out x).length ≤ out.length + 1 := by unfold step; split <;> simp
    simp only [List.foldl_cons, List.length_cons]
    omega
theorem all_len (xs : List Int) : (all xs).length ≤ xs.length := by have := fold_len xs []; simpa [all] using this
theorem fold_mem (xs : List Int) : ∀ (out : List Int) (a : Int), a ∈ xs.foldl step out ↔ a ∈ out ∨ (a ≠ 0 ∧ a ∈ xs) := by
  induction xs with
  | nil => intro out a; simp
  | cons x r ih =>
    intro out a
    simp only [List.foldl_cons, ih, List.mem_cons]
    unfold step
    by_cases h : x = 0 ∨ x ∈ out
    · rw [if_pos h]
      constructor
      · rintro (h1 | ⟨h1, h2⟩)
        · exact .inl h1
        · exact .inr ⟨h1, .inr h2⟩
      · rintro (h1 | ⟨h1, rfl | h2⟩)
        · exact .inl h1
        · rcases h with h | h
          · exact absurd h h1
          · exact .inl h
        · exact .inr ⟨h1, h2⟩
    · rw [if_neg h]
      constructor
      · rintro (h1 | ⟨h1, h2⟩)
        · rcases List.mem_append.1 h1 with h1 | h1
          · exact .inl h1
          · obtain rfl : a = x := by simpa using h1
            exact .inr ⟨fun e => h (.inl e), .inl rfl⟩
        · exact .inr ⟨h1, .inr h2⟩
      · rintro (h1 | ⟨h1, rfl | h2⟩)
        · exact .inl (List.mem_append.2 (.inl h1))
        · exact .inl (List.mem_append.2 (.inr (by simp)))
        · exact .inr ⟨h1, h2⟩
theorem all_mem (xs : List Int) (a : Int) : a ∈ all xs ↔ a ≠ 0 ∧ a ∈ xs := by unfold all; rw [fold_mem]; simp
theorem fold_nodup (xs : List Int) : ∀ out : List Int, out.Nodup → (xs.foldl step out).Nodup := by
  induction xs with
  | nil => intro out h; exact h
  | cons x r ih =>
    intro out h
    simp only [List.foldl_cons]
    refine ih _ ?_
    unfold step
    split
    · exact h
    · rename_i hc
      refine List.nodup_append.2 ⟨h, by simp, fun a ha b hb e => ?_⟩
      obtain rfl : b = x := by simpa using hb
      exact hc (.inr (e ▸ ha))
theorem all_nodup (xs : List Int) : (all xs).Nodup := fold_nodup xs [] (by simp)

/-- What the map answers when pre has come. -/
def had (pre : List U) : Lit → Bool
  | .int .u64 a => decide (a = 0 ∨ a ∈ vals pre)
  | _ => false

theorem each_in (F : Fence) (n : Nat) (hf : F.fn 27) (hro : F.round = none) (a : Option Addr) (len cap : Nat) (w : World) :
    CallsIn F n Try.prog 27 #[.slice a len cap] w fun e w' => e = .returned (.func (.func 31) #[] #[.pointer (some ⟨w.heap.size, 0, none⟩)]) ∧ w' = w.alloc (.cells #[.slice a len cap] 34) := by
  refine callsIn_of_wp Try.func27 rfl hf ?_ hro
  simp only [Try.ntmps27, List.size_toArray, List.length_cons, List.length_nil, Nat.reduceAdd, Nat.reduceSub, Array.replicate_succ, Array.replicate_zero, List.push_toArray, List.append_toArray, List.nil_append, List.cons_append]
  gi_wp2
  go_ret
  exact ⟨rfl, rfl⟩

theorem each_stops (F : Fence) (n : Nat) (hf : F.fn 31) (hro : F.round = none) (hn : 1 ≤ n) (Bs : Nat) (w0 : World) (v : Value) (rows : List (List U)) (hM : Ma .u64 w0 v (mat rows)) (w : World) (hBs : Bs < w.heap.size) (hx : Ext w0 w)
    (hc : w.cell? ⟨Bs, 0, none⟩ = some v) :
    SeqStopsK F n Try.prog 31 #[.pointer (some ⟨Bs, 0, none⟩)] (fun x : U => #[Value.int .u64 x.1]) (Below w0.heap.size) (fun ys => ys = rows.flatten) (fun pre => pre <+: rows.flatten) rows.flatten.length w := fun l J Jx W hW _ _ hY h0 =>
  each1_in F n hf hro hn l Bs w0 v rows hM J Jx hY W (hx.trans hW) ((hW.cell (p := ⟨Bs, 0, none⟩) hBs).trans hc) h0

theorem had_step (pre : List U) (x : U) (z : Lit) (h : z ≠ .int .u64 x.1) : had (pre ++ [x]) z = had pre z := by
  cases z with
  | int k a =>
    cases k <;> first | rfl | skip
    show decide _ = decide _
    have hne : a ≠ x.1 := fun e => h (by rw [e])
    rw [decide_eq_decide]
    simp [vals, hne]
  | _ => rfl
theorem had_self (pre : List U) (x : U) : had (pre ++ [x]) (.int .u64 x.1) = true := by
  show decide _ = true
  refine decide_eq_true (.inr ?_)
  simp [vals]
theorem had_at (pre : List U) (x : U) : had pre (.int .u64 x.1) = decide (x.1 = 0 ∨ x.1 ∈ vals pre) := rfl
theorem vals_snoc (pre : List U) (x : U) : vals (pre ++ [x]) = vals pre ++ [x.1] := by simp [vals]
theorem step_hit (pre : List U) (x : U) (h : had pre (.int .u64 x.1) = true) : all (vals (pre ++ [x])) = all (vals pre) := by
  rw [vals_snoc, all_snoc]
  unfold step
  rw [if_pos]
  rcases of_decide_eq_true h with h1 | h1
  · exact .inl h1
  · by_cases h0 : x.1 = 0
    · exact .inl h0
    · exact .inr ((all_mem _ _).2 ⟨h0, h1⟩)
theorem step_miss (pre : List U) (x : U) (h : had pre (.int .u64 x.1) = false) : all (vals (pre ++ [x])) = all (vals pre) ++ [x.1] := by
  rw [vals_snoc, all_snoc]
  unfold step
  rw [if_neg]
  have hn := of_decide_eq_false h
  rintro (h1 | h1)
  · exact hn (.inl h1)
  · exact hn (.inr ((all_mem _ _).1 h1).2)

/-- What a round leaves behind it, where the address is new. -/
theorem body_miss {w w1 W W3 w4 : World} {pre : List U} {x : U} {Bd : Nat} {vn : Value} (hb : had pre (.int .u64 x.1) = false) (hk2 : KeepsOthers W W3) (hb2 : Below w.heap.size W W3) (hB : Below w.heap.size w W)
    (hv2 : Boxed W3 (w1.heap.size + 1) 22 vn) (hr2 : W3.ownsRow w.heap.size 23 1 vn ((all (vals pre)).length + 1) ((all (vals pre)).map (Value.int .u64) ++ [.int .u64 x.1])) (hh3 : Boxed W3 w1.heap.size 49 (.map (some w.heap.size)))
    (hset3 : MSet Try.prog 23 4 W3 w.heap.size (pre.length + 1) (had pre)) (hset4 : MSet Try.prog 23 4 w4 w.heap.size (pre.length + 1 + 1) (had (pre ++ [x]))) (hg4 : W3.grownBy w4 (some w.heap.size)) (hlt : w.heap.size < Bd) :
    KeepsFrom Bd W w4 ∧ Below w.heap.size W w4 ∧
      ((∃ v, Boxed w4 (w1.heap.size + 1) 22 v ∧ w4.ownsRow w.heap.size 23 1 v (all (vals (pre ++ [x]))).length ((all (vals (pre ++ [x]))).map (Value.int .u64)) ∧ True) ∧ (Boxed w4 w1.heap.size 49 (.map (some w.heap.size)) ∧ (MSet Try.prog 23 4 w4 w.heap.size ((pre ++ [x]).length + 1) (had (pre ++ [x])) ∧ Below w.heap.size w w4))) := by
  have hE : Below w.heap.size W w4 := hb2.grown hg4 (hB.trans hb2).size (fun k e => by cases e; exact Nat.le_refl _)
  have hr4 := hr2.kept hg4 (hset3.not_row hr2)
  refine ⟨(hk2.from _).trans (KeepsFrom.of_grownBy hg4 (fun j e => by cases e; exact hlt)), hE, ⟨vn, hv2.kept hg4 (hset3.not_box hv2), ?_, trivial⟩, hh3.kept hg4 (hset3.not_box hh3), by rw [List.length_append]; exact hset4, hB.trans hE⟩
  rw [step_miss pre x hb]
  simpa using hr4

set_option maxRecDepth 100000 in
set_option maxHeartbeats 4000000 in
theorem all_in (F : Fence) (n : Nat) (h17 : F.fn 17) (h27 : F.fn 27) (h31 : F.fn 31) (hro : F.round = none) (hn : 3 ≤ n) (v : Value) (rows : List (List U)) (w : World) (hM : Ma .u64 w v (mat rows)) (hb : rows.flatten.length ≤ 1048576) :
    CallsIn F n Try.prog 17 #[v] w fun e W' => ∃ o, e = .returned o ∧ W'.ownsRow w.heap.size 23 1 o (all (vals rows.flatten)).length ((all (vals rows.flatten)).map (Value.int .u64)) ∧ Below w.heap.size w W' := by
  have h1 : 1 ≤ n := by omega
  obtain ⟨a0, c0, hv⟩ : ∃ a cap, v = .slice a rows.length cap := by
    obtain ⟨vs, hl, hr, _⟩ := hM
    obtain ⟨a, cap, rfl⟩ := hr.form
    rw [mat_length] at hl
    exact ⟨a, cap, by rw [hl]⟩
  subst hv
  obtain ⟨i0, hi, hz0, hz1, hz2⟩ := Sk.info_u64
  have hmm := @run_makeMap Try.prog
  refine callsIn_of_wp_marks Try.func17 rfl h17 ?_ hro
  simp only [Try.ntmps17, List.size_toArray, List.length_cons, List.length_nil, Nat.reduceAdd, Nat.reduceSub, Array.replicate_succ, Array.replicate_zero, List.push_toArray, List.append_toArray, List.nil_append, List.cons_append]
  have hz0' : ∀ w, (zeroValue 4).run Try.prog w = .ok (.bool false) w := fun _ => by kernel_rfl
  obtain ⟨w1, hput, hset, hgrow⟩ := (MSet.made w Try.prog 23 4).put (t := 49) (Maps.int_keyed Try.underlying23) Try.underlying49 Try.underlying4 (by unfold maxLen; omega) (Maps.keyOf_int_mk Try.underlying23 (a := 0) (by decide)) true (S' := had []) rfl (fun z hz => by
    cases z with
    | int k a =>
      cases k <;> first | rfl | skip
      show decide _ = false
      refine decide_eq_false (fun h => ?_)
      simp [vals] at h
      exact hz (by rw [h])
    | _ => rfl)
  have hx1 : Ext w w1 := ((Ext.refl w).alloc _).grown hgrow (fun k hk => by cases hk; exact Nat.le_refl _)
  have hlt1 : w.heap.size < w1.heap.size := hset.lt
  have HSET := Lib.hid hset
  have HX1 := Lib.hid hx1
  clear hset hgrow hx1
  gi_wp2_with (gi_at_call 27; refine (each_in F (n - 1) h27 hro _ _ _ _).mono ?_; rintro e w' ⟨rfl, rfl⟩)
  have bH := ((Boxed.new w1 49 (.map (some w.heap.size))).alloc (.cells #[.slice none 0 0] 22)).alloc (.cells #[.slice a0 rows.length c0] 34)
  have bO := Boxed.new (w1.alloc (.cells #[.map (some w.heap.size)] 49)) 22 (.slice none 0 0)
  have bN := Boxed.new ((w1.alloc (.cells #[.map (some w.heap.size)] 49)).alloc (.cells #[.slice none 0 0] 22)) 34 (.slice a0 rows.length c0)
  simp only [World.size_alloc] at bO bN
  have hB0 : Below w.heap.size w (((w1.alloc (.cells #[.map (some w.heap.size)] 49)).alloc (.cells #[.slice none 0 0] 22)).alloc (.cells #[.slice a0 rows.length c0] 34)) := ((HX1.out.alloc _).alloc _).alloc _
  have hS0 := ((HSET.out.alloc (.cells #[.map (some w.heap.size)] 49)).alloc (.cells #[.slice none 0 0] 22)).alloc (.cells #[.slice a0 rows.length c0] 34)
  refine wpIn_rangeFunc_ownG hro h1 (gf := 31) (lb := #[.pointer (some ⟨w1.heap.size + 1 + 1, 0, none⟩)]) rfl h31 (enters_of Try.func31 (by kernel_rfl) rfl)
    (each_stops F (n - 1) h31 hro (by omega) (w1.heap.size + 1 + 1) w (.slice a0 rows.length c0) rows hM _ (by simp) hB0 bN.cell) belowK_t (belowK_b (by simp; omega)) (Below.refl _ _) (fun _ => rfl)
    (fun pre W => (∃ v, Boxed W (w1.heap.size + 1) 22 v ∧ W.ownsRow w.heap.size 23 1 v (all (vals pre)).length ((all (vals pre)).map (Value.int .u64)) ∧ True) ∧ (Boxed W w1.heap.size 49 (.map (some w.heap.size)) ∧ (MSet Try.prog 23 4 W w.heap.size (pre.length + 1) (had pre) ∧ Below w.heap.size w W)))
    (fun _ _ _ => False)
    (OwnFrom.and (Own.from (holdsRow_own w.heap.size (w1.heap.size + 1) 22 23 1 (fun pre => (all (vals pre)).length) (fun pre => (all (vals pre)).map (Value.int .u64)) (fun _ _ => True)) _)
      (OwnFrom.and (Own.from (boxed_own _ _ _) _) (OwnFrom.and (fun s X Y row hs hg hr => hs.kept hg (fun e => by have := (hr _ e.symm).1; simp at this; omega)) (ownFrom_below (Nat.le_refl _) (by simp; omega)))))
    (fun _ _ _ _ _ hs _ _ => hs)
    ⟨⟨_, bO.alloc _, World.ownsRow_nil _ _ _ _, trivial⟩, bH, hS0, hB0⟩
    (fun x => { tmps := #[.slice a0 rows.length c0, undef, .slice none 0 0, .pointer (some ⟨w1.heap.size, 0, none⟩), .pointer (some ⟨w1.heap.size + 1, 0, none⟩), .int .u64 x.1, .map (some w.heap.size), .map (some w.heap.size), .slice a0 rows.length c0, .func (.func 31) #[] #[.pointer (some ⟨w1.heap.size + 1 + 1, 0, none⟩)], .int .u64 x.1, undef, undef, undef, undef, undef, undef, undef, undef, undef, undef, undef], defers := [] }) ?assign ?body ?done ?stop
  case assign =>
    intro l x W K hK
    gi_wp2
    exact hK
  case body =>
    rintro l pre x W ⟨⟨v, hv, hrow, _⟩, hh, hset, hB⟩ hlt
    have hc := hv.cell
    have hc2 := hh.cell
    have hal := all_len (vals pre)
    rw [vals_length] at hal
    have hkey := Maps.keyOf_int_mk (P := Try.prog) (k := 23) Try.underlying23 x.2
    have hlook := hset.look (t := 49) (Maps.int_keyed Try.underlying23) Try.underlying49 Try.underlying4 (hz0' W) hkey
    cases hb : had pre (.int .u64 x.1) with
    | true =>
      rw [hb] at hlook
      obtain ⟨w2, hput2, hset2, hg2⟩ := hset.put (t := 49) (Maps.int_keyed Try.underlying23) Try.underlying49 Try.underlying4 (by unfold maxLen; omega) hkey true (S' := had (pre ++ [x])) (had_self pre x) (had_step pre x)
      have hE : Below w.heap.size W w2 := (Below.refl _ W).grown hg2 hB.size (fun k e => by cases e; exact Nat.le_refl _)
      have HF : Hid (KeepsFrom ((((w1.alloc (.cells #[.map (some w.heap.size)] 49)).alloc (.cells #[.slice none 0 0] 22)).alloc (.cells #[.slice a0 rows.length c0] 34)).heap.size) W w2 ∧ Below w.heap.size W w2 ∧
          ((∃ v, Boxed w2 (w1.heap.size + 1) 22 v ∧ w2.ownsRow w.heap.size 23 1 v (all (vals (pre ++ [x]))).length ((all (vals (pre ++ [x]))).map (Value.int .u64)) ∧ True) ∧ (Boxed w2 w1.heap.size 49 (.map (some w.heap.size)) ∧ (MSet Try.prog 23 4 w2 w.heap.size ((pre ++ [x]).length + 1) (had (pre ++ [x])) ∧ Below w.heap.size w w2)))) :=
        ⟨KeepsFrom.of_grownBy hg2 (fun j e => by cases e; simp; omega), hE, ⟨v, hv.kept hg2 (hset.not_box hv), by rw [step_hit pre x hb]; exact hrow.kept hg2 (hset.not_row hrow), trivial⟩, hh.kept hg2 (hset.not_box hh), by rw [List.length_append]; exact hset2, hB.trans hE⟩
      clear hset2 hg2 hE hal hrow hv hh hset hB hb
      gi_wp2
      exact HF.out
    | false =>
      rw [hb] at hlook
      gi_wp2_with (gi_at_builtin; refine wpListIn_append_own _ rfl _ _ 22 rfl w.heap.size 23 i0 (.int .u64 0) 1 8 Try.underlying22 hi hz0 hz1 hz2 rfl (by decide) _ _ _ rfl (hrow.alloc _) ⟨W.heap.size, 0, none⟩ 1 1 [.int .u64 x.1] rfl rfl (cell_one_new _ _ _) (by simp [Value.oneCell']) (by unfold maxLen; omega) (by omega) (by have := hB.size; simp; omega) ?_; intro v' w2 hown' hgrow _; obtain ⟨g', cap', rfl⟩ := ownsRow_succ hown'; obtain ⟨hv1, hv2, hr2, hk2, hb2⟩ := hv.appended (by decide) hrow hB.size (by omega) hown' hgrow; have hc1 := hv1.cell; have hf1 := hv1.frozen; have hh3 := ((hh.alloc _).kept hgrow (hh.not_row (by decide) hrow)).other (B' := w1.heap.size + 1) (by omega) (.slice (some ⟨g', 0, none⟩) ((all (vals pre)).length + 1) cap'); have hc3 := hh3.cell; have hset3 := hset.keeps hk2; obtain ⟨w4, hput4, hset4, hg4⟩ := hset3.put (t := 49) (Maps.int_keyed Try.underlying23) Try.underlying49 Try.underlying4 (by unfold maxLen; omega) hkey true (S' := had (pre ++ [x])) (had_self pre x) (had_step pre x); have HF := Lib.hid (body_miss (Bd := ((((w1.alloc (.cells #[.map (some w.heap.size)] 49)).alloc (.cells #[.slice none 0 0] 22)).alloc (.cells #[.slice a0 rows.length c0] 34)).heap.size)) hb hk2 hb2 hB hv2 hr2 hh3 hset3 hset4 hg4 (by simp; omega)); clear hset3 hset4 hg4 hh3 hb2 hk2 hr2 hv2 hgrow hown')
      exact HF.out
  case done =>
    rintro D ys W hD rfl ⟨⟨v, hv, hrow, _⟩, hh, hset, hB⟩ hK
    have hc := hv.cell
    gi_wp2
    refine ⟨by simp, .inl ⟨_, _, rfl, run_takeDeferred hK, ?_⟩⟩
    exact ⟨_, results_tmp rfl _ _ _, v, rfl, ownsRow_putObj hrow _ hK rfl, hB.trans (belowK_b (w := w) (Nat.le_refl _) W D _ _ (by simp at hD; omega) hK rfl rfl)⟩
  case stop =>
    rintro D c pre W _ _ h _
    exact h.elim
end Go.Proofs.Ytmkpbdibhjjmpaa.Al
