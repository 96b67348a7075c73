/- New of package graph; and the document's example at the head of chapter 15's statements comes out true. -/
import Derived.Test.YtjhmlbhfnogdiaaWg
import Derived.Test.YtjhmlbhfnogdiaaPl
namespace Go.Proofs.Ytjhmlbhfnogdiaa.Sh
open Go.RowKit
open Go.Proofs.Ytjhmlbhfnogdiaa Go.Proofs.Ytjhmlbhfnogdiaa.Hd Go.Proofs.Ytjhmlbhfnogdiaa.Gr Go.Proofs.Ytjhmlbhfnogdiaa.Hg Go.Proofs.Ytjhmlbhfnogdiaa.Rr Go.Proofs.Ytjhmlbhfnogdiaa.Wk Go.Proofs.Ytjhmlbhfnogdiaa.Wp Go.Proofs.Ytjhmlbhfnogdiaa.Wa Go.Proofs.Ytjhmlbhfnogdiaa.Wc Go.Proofs.Ytjhmlbhfnogdiaa.Wf Go.Proofs.Ytjhmlbhfnogdiaa.Pl
set_option linter.unusedVariables false

theorem mk_s (n : Nat) (n1 : n ≤ 1048576) (u : World) : (Instr.makeSlice 23 (.int .i64 n) (.int .i64 n)).run Try.prog u =
    .ok (.slice (some ⟨u.heap.size, 0, none⟩) n n) (u.alloc (.cells (madeCells #[.slice none 0 0] n) 42)) := by
  obtain ⟨i0, hi, hz0, hz1, hz2⟩ := info_s
  have h := run_make (P := Try.prog) u 23 42 i0 (.slice none 0 0) uS hi hz0 .i64 .i64 n n (by omega) (Int.le_refl _) (by rw [hz2]; omega) (by omega)
  simpa [hz1, Value.cells] using h
theorem made_rows (w : World) (n : Nat) (hn : n ≤ 1048576) : Ma .i64 (w.alloc (.cells (madeCells #[.slice none 0 0] n) 42)) (.slice (some ⟨w.heap.size, 0, none⟩) n n) (List.replicate n []) := by
  have ho : (w.alloc (.cells (madeCells #[.slice none 0 0] n) 42)).ownsRow w.heap.size 42 1 (.slice (some ⟨w.heap.size, 0, none⟩) n n) n (List.replicate n (.slice none 0 0)) := by
    refine ⟨by simp, .inr ⟨w.heap.size, n, _, rfl, Nat.le_refl _, Blk.new w _ _, Nat.le_refl _, by unfold maxLen; omega, by simp [size_madeCells], ?_⟩⟩
    rw [toList_madeCells_one]
    simp
  refine ⟨List.replicate n (.slice none 0 0), by simp, ?_, fun u hu => by rw [(List.mem_replicate.1 hu).2]; rfl, fun i u r hu hr => ?_⟩
  · rw [List.length_replicate]
    exact Row.of_own (b := 24) ho (by omega) (by omega)
  · obtain ⟨hi, rfl⟩ := List.getElem?_eq_some_iff.1 hu
    obtain ⟨hi', rfl⟩ := List.getElem?_eq_some_iff.1 hr
    rw [List.getElem_replicate, List.getElem_replicate]
    exact Sl.nil _ _

def clamp (t : Int) : Nat := if t < 0 then 0 else if 16 < t then 16 else t.toNat
def newG (t : Int) : Gph := ([], List.replicate (clamp t) [])

theorem new_any (t : Int) (w : World) :
    Calls Try.prog 18 #[.int .i64 t] w fun e w' => ∃ a c, e = .returned (.agg #[.slice none 0 0, .slice a (clamp t) c]) ∧ Gr w' (.slice none 0 0) (.slice a (clamp t) c) (newG t) ∧ Ext w w' := by
  have hk : clamp t ≤ 16 := by unfold clamp; split; omega; split <;> omega
  have hmk := mk_s (clamp t) (by omega)
  have hc0 : t < 0 → (clamp t : Int) = 0 := fun h => by unfold clamp; rw [if_pos h]; rfl
  have hc1 : ¬ t < 0 → 16 < t → (clamp t : Int) = 16 := fun h h' => by unfold clamp; rw [if_neg h, if_pos h']; rfl
  have hc2 : ¬ t < 0 → ¬ 16 < t → (clamp t : Int) = t := fun h h' => by unfold clamp; rw [if_neg h, if_neg h']; omega
  unfold newG
  generalize clamp t = n at hk hmk hc0 hc1 hc2 ⊢
  have hMa := made_rows (w.alloc (.cells #[.slice none 0 0, .slice (some ⟨w.heap.size + 1, 0, none⟩) n n] 25)) n (by omega)
  rw [World.size_alloc] at hMa
  have hb := (Blk.new w #[.slice none 0 0, .slice (some ⟨w.heap.size + 1, 0, none⟩) n n] 25).alloc (.cells (madeCells #[.slice none 0 0] n) 42)
  have g0 := hb.cell (i := 0) rfl
  have g1 := hb.cell (i := 1) rfl
  have HF : Hid (∃ a c, (Ending.returned (.agg #[.slice none 0 0, .slice (some ⟨w.heap.size + 1, 0, none⟩) n n])) = .returned (.agg #[.slice none 0 0, .slice a n c]) ∧ Gr ((w.alloc (.cells #[.slice none 0 0, .slice (some ⟨w.heap.size + 1, 0, none⟩) n n] 25)).alloc (.cells (madeCells #[.slice none 0 0] n) 42)) (.slice none 0 0) (.slice a n c) ([], List.replicate n []) ∧ Ext w ((w.alloc (.cells #[.slice none 0 0, .slice (some ⟨w.heap.size + 1, 0, none⟩) n n] 25)).alloc (.cells (madeCells #[.slice none 0 0] n) 42))) :=
    ⟨_, _, rfl, ⟨No.nil _, hMa⟩, ((Ext.refl w).alloc _).alloc _⟩
  clear hMa hb
  obtain ⟨q, hq⟩ : ∃ q : Int, (n : Int) = q := ⟨_, rfl⟩
  rw [hq] at hmk hc0 hc1 hc2
  clear hk hq
  go_enter Try.func18, Try.ntmps18
  by_cases h0 : t < 0
  · obtain rfl := hc0 h0
    clear hc0 hc1 hc2
    go_wp2
    exact bodyPost_ret (v := .agg #[.slice none 0 0, .slice (some ⟨w.heap.size + 1, 0, none⟩) n n]) (by simp [results, Try.results18, go_sem, g0, g1]) rfl HF.out
  · by_cases h1 : 16 < t
    · obtain rfl := hc1 h0 h1
      clear hc0 hc1 hc2
      go_wp2
      exact bodyPost_ret (v := .agg #[.slice none 0 0, .slice (some ⟨w.heap.size + 1, 0, none⟩) n n]) (by simp [results, Try.results18, go_sem, g0, g1]) rfl HF.out
    · obtain rfl := hc2 h0 h1
      clear hc0 hc1 hc2
      go_wp2
      exact bodyPost_ret (v := .agg #[.slice none 0 0, .slice (some ⟨w.heap.size + 1, 0, none⟩) n n]) (by simp [results, Try.results18, go_sem, g0, g1]) rfl HF.out

def O1 : Opn := ⟨1, 0, 0, 0, 0, (1, 0, 0)⟩
def O8 : Opn := ⟨8, 0, 0, 0, 0, (0, 0, 0)⟩
def G1 : Gph := ([((1, 0, 0), [])], [[1]])
theorem do1 : doG (newG 1) 0 O1 = G1 ∧ doA (newG 1) 0 O1 = (0, 0, false) := by decide
theorem do8 : doG G1 0 O8 = G1 ∧ doA G1 0 O8 = (0, 0, true) := by decide
theorem rightN : rightG (newG 1) = true ∧ rightG G1 = true := by decide

theorem posN : posG (newG 1) := fun n hn => by cases hn
theorem posG1 : posG G1 := fun n hn => by
  obtain rfl : n = ((1, 0, 0), []) := by simpa [G1] using hn
  exact ⟨by decide, fun x hx => by cases hx⟩

theorem shown_any (w : World) : Calls Try.prog 11 #[] w fun e w' => e = .returned (.bool true) ∧ Ext w w' := by
  have HN := Lib.hid (new_any 1)
  rw [show clamp 1 = 1 by decide] at HN
  have HD := Lib.hid (fun (a b : Value) (w : World) (h : Gr w a b (newG 1)) => Wg.do_any a b (newG 1) 0 O1 w h rightN.1 posN (by decide) (by decide))
  rw [do1.1, do1.2] at HD
  have HE := Lib.hid (fun (a b : Value) (w : World) (h : Gr w a b G1) => Wg.do_any a b G1 0 O8 w h rightN.2 posG1 (by decide) (by decide))
  rw [do8.1, do8.2] at HE
  go_enter Try.func11, Try.ntmps11
  go_wp2_with fail
  refine (HN.out _).mono ?_; rintro e w1 ⟨a, c, rfl, hg1, hx1⟩
  have HX1 := Lib.hid hx1
  clear hx1
  go_wp2_with fail
  refine (HD.out _ _ _ hg1).mono ?_; rintro e w2 ⟨a2, b2, rfl, hg2, hx2⟩
  obtain ⟨an, ac, rfl⟩ : ∃ a c, a2 = .slice a 1 c := hg2.1.form
  obtain ⟨sn, sc, rfl⟩ : ∃ a c, b2 = .slice a 1 c := Ma.form hg2.2
  obtain ⟨w3, hw3⟩ : ∃ w3, w3 = (w2.alloc (.cells #[.slice an 1 ac, .slice sn 1 sc] 25)).alloc (.cells #[.int .i64 0, .int .u64 0, .bool false] 35) := ⟨_, rfl⟩
  have hx3 : Ext w2 w3 := hw3 ▸ ((Ext.refl w2).alloc _).alloc _
  have HG3 := Lib.hid (hg2.ext hx3)
  have HX3 := Lib.hid ((HX1.out.trans hx2).trans hx3)
  have HB3 := Lib.hid (show Blk w3 w2.heap.size #[.slice an 1 ac, .slice sn 1 sc] 25 from hw3 ▸ (Blk.new w2 _ _).alloc _)
  have HC3 := Lib.hid (show Blk w3 (w2.heap.size + 1) #[.int .i64 0, .int .u64 0, .bool false] 35 from hw3 ▸ blk_at (by simp))
  have d0 := HB3.out.cell (i := 0) rfl
  have d1 := HB3.out.cell (i := 1) rfl
  clear hx2 hx3 hg1 hg2
  unfold anv
  go_wp2_with fail
  rw [← hw3]
  clear hw3
  go_wp2_with fail
  refine (HE.out _ _ _ HG3.out).mono ?_; rintro e w4 ⟨a4, b4, rfl, hg4, hx4⟩
  obtain ⟨an4, ac4, rfl⟩ : ∃ a c, a4 = .slice a 1 c := hg4.1.form
  obtain ⟨sn4, sc4, rfl⟩ : ∃ a c, b4 = .slice a 1 c := Ma.form hg4.2
  obtain ⟨w5, hw5⟩ : ∃ w5, w5 = (w4.alloc (.cells #[.slice an4 1 ac4, .slice sn4 1 sc4] 25)).alloc (.cells #[.int .i64 0, .int .u64 0, .bool true] 35) := ⟨_, rfl⟩
  have hx5 : Ext w4 w5 := hw5 ▸ ((Ext.refl w4).alloc _).alloc _
  have HX5 := Lib.hid ((HX3.out.trans hx4).trans hx5)
  have c0 : w5.cell? ⟨w2.heap.size + 1, 0, none⟩ = some (.int .i64 0) := (HC3.out.ext (hx4.trans hx5)).cell (i := 0) rfl
  have g0 : w5.cell? ⟨w2.heap.size, 0, none⟩ = some (.slice an 1 ac) := (HB3.out.ext (hx4.trans hx5)).cell (i := 0) rfl
  have hl := (HG3.out.ext (hx4.trans hx5)).1.len
  replace hl : ∀ ty W, (Builtin.len_ #[22] ty #[.slice an 1 ac]).run Try.prog W = .ok (.int .i64 1) W := hl
  have hb5 : Blk w5 (w4.heap.size + 1) #[.int .i64 0, .int .u64 0, .bool true] 35 := hw5 ▸ blk_at (by simp)
  have e0 : w5.cell? ⟨w4.heap.size + 1, 0, none⟩ = some (.int .i64 0) := hb5.cell (i := 0) rfl
  have e2 : w5.cell? ⟨w4.heap.size + 1, 2, none⟩ = some (.bool true) := hb5.cell (i := 2) rfl
  clear hx4 hx5 hg4 d0 d1 hb5
  unfold anv
  subst hw5
  go_wp2_with fail
  go_ret
  exact ⟨by first | rfl | (simp; done), HX5.out⟩
end Go.Proofs.Ytjhmlbhfnogdiaa.Sh
