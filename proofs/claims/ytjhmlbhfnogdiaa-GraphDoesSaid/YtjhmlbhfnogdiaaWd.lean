/- The closures of acts: a field is got, followed, linked; handles are compared, pushed, popped; nothing. -/
import Derived.Test.YtjhmlbhfnogdiaaWc
namespace Go.Proofs.Ytjhmlbhfnogdiaa.Wd
open Go.RowKit
open Go.Proofs.Ytjhmlbhfnogdiaa Go.Proofs.Ytjhmlbhfnogdiaa.Hd Go.Proofs.Ytjhmlbhfnogdiaa.Gr Go.Proofs.Ytjhmlbhfnogdiaa.Hg Go.Proofs.Ytjhmlbhfnogdiaa.Ps Go.Proofs.Ytjhmlbhfnogdiaa.Rr Go.Proofs.Ytjhmlbhfnogdiaa.Wk Go.Proofs.Ytjhmlbhfnogdiaa.Wp Go.Proofs.Ytjhmlbhfnogdiaa.Ws Go.Proofs.Ytjhmlbhfnogdiaa.Wa Go.Proofs.Ytjhmlbhfnogdiaa.Wc
set_option linter.unusedVariables false

theorem box_kept {B C : Nat} {w w' : World} (h : Blk w C #[.pointer (some ⟨B, 0, none⟩)] 59) (hCB : C ≠ B) (hg : w.grownBy w' (some B)) : Blk w' C #[.pointer (some ⟨B, 0, none⟩)] 59 := h.kept hg (fun e => hCB (by cases e; rfl))
theorem popped {B : Nat} {w : World} {v : Value} {xs : List Int} {k : Nat} (h : St B w (fun W => Sl .i64 W v xs)) (hk : xs.length = k + 1) :
    ∃ u, (∀ w', (Instr.sliceAt 42 v none (some (.int .i64 (k : Nat))) (some (.int .i64 (k : Nat)))).run Try.prog w' = .ok u w') ∧ St B w (fun W => Sl .i64 W u xs.dropLast) ∧ ∃ a c, u = .slice a k c := by
  obtain ⟨u, hu, hr, hf⟩ := Row.slice3 uI szI h.here (k := k) (by omega)
  have hd : (xs.map (Value.int .i64)).take (k * 1) = xs.dropLast.map (Value.int .i64) := by
    rw [Nat.mul_one, ← List.map_take, List.dropLast_eq_take, hk]; rfl
  refine ⟨u, hu, fun W hW => ?_, ?_⟩
  · obtain ⟨u', hu', hr', _⟩ := Row.slice3 uI szI (h W hW) (k := k) (by omega)
    have e : u' = u := by
      have h1 := hu W
      rw [hu' W] at h1
      cases h1; rfl
    subst e
    exact Sl.of_row hr' hd
  · obtain ⟨a, rfl⟩ := hf
    exact ⟨a, k, rfl⟩
theorem box_cell {B C : Nat} {w : World} (h : Blk w C #[.pointer (some ⟨B, 0, none⟩)] 59) : w.cell? ⟨C, 0, none⟩ = some (.pointer (some ⟨B, 0, none⟩)) := h.cell (i := 0) rfl

set_option maxHeartbeats 8000000 in
theorem get_any (B C : Nat) (g : Gph) (th : Nat) (o : Opn) (w : World) (hW : Wk B w g th o a0) (hC : Blk w C #[.pointer (some ⟨B, 0, none⟩)] 59) (hCB : C ≠ B) (hth : th < g.2.length) (hr : rightG g = true) (hp : posG g) :
    Calls Try.prog 51 #[.pointer (some ⟨C, 0, none⟩)] w fun r w' => r = .returned (.tuple #[]) ∧ Done B w g th o (actGet g th o) w' := by
  unfold actGet
  cases hf : field g th o false with
  | error e =>
    have HC1 := Lib.hid (field_no hW hth hr hp hf)
    have cC := box_cell hC
    clear hW hf hr hp hC
    go_enter Try.func51, Try.ntmps51
    go_wp2_with fail
    with_reducible refine HC1.out.mono ?_
    rintro r w1 ⟨rfl, hp1⟩
    have HP := Lib.hid hp1
    clear hp1
    go_wp2_with fail
    (first | go_end0 | ((try simp only [Exit.inBlock, Exit.then]); refine bodyPost_ret (results_none rfl _ _ _) rfl ?_))
    exact ⟨rfl, HP.out⟩
  | ok n =>
    obtain ⟨hn, i, hoi, hi⟩ := word_in hr hth hf
    have HC1 := Lib.hid (field_yes hW hth hr hp hf)
    have cC := box_cell hC
    dsimp only
    obtain ⟨wd, hwd'⟩ : ∃ wd, word g n o = wd := ⟨_, rfl⟩
    rw [hwd']
    clear hW hf hr hp
    go_enter Try.func51, Try.ntmps51
    go_wp2_with fail
    with_reducible refine HC1.out.mono ?_
    rintro r w1 ⟨rfl, hp1⟩
    obtain ⟨hW1, hg1⟩ := hp1
    have HW1 := Lib.hid hW1
    have HC := Lib.hid (box_kept hC hCB hg1)
    replace cC := box_cell HC.out
    obtain ⟨na, nc, sa, sc, hb, hs⟩ := hW1
    have c0 : w1.cell? ⟨B, 0, none⟩ = some (.slice na g.1.length nc) := hb.cell (i := 0) rfl
    have c5 : w1.cell? ⟨B, 5, none⟩ = some (.int .i64 o.i) := hb.cell (i := 5) rfl
    rw [hoi] at c5
    have nlen := hs.here.1.len
    have nsm := hs.here.1.small
    obtain ⟨b1, o1, s1, ua, uc, hix, _, _, _, e3, hF⟩ := hs.1.at_ n hn
    replace e3 : w1.cell? ⟨b1, o1 + 3, none⟩ = some (.slice ua (node g n).2.length uc) := e3
    replace hF : St B w1 (fun W => Sl .u64 W (.slice ua (node g n).2.length uc) (node g n).2) := hF
    obtain ⟨pv, hpv, hpvc⟩ := hF.here.at_ uU szU (i := i) (by omega) (by omega)
    have hwd : w1.cell? pv = some (.int .u64 (word g n o)) := by
      rw [hpvc]; unfold word; rw [hoi]
    have HG1 := Lib.hid hg1
    have HB := Lib.hid hb
    have HS := Lib.hid hs
    rw [hwd'] at hwd
    have k12 : w1.cell? ⟨B, 12, none⟩ = some (.int .u64 0) := hb.cell (i := 12) rfl
    have f12 := hb.free 12
    clear hb hs hF hg1 hpvc hoi hi hn hwd'
    generalize (node g n).2.length = fl at *
    have HFin : Hid (Done B w g th o (.ok (g, wd, false)) (w1.setCell ⟨B, 12, none⟩ (.int .u64 wd)).drew) := by
      refine ⟨⟨na, nc, sa, sc, (HB.out.set 12 _).ext ((Ext.refl _).drew), (HS.out.step (grown_set _ _ _ _)).ext ((Ext.refl _).drew)⟩, (HG1.out.trans (grown_set _ _ _ _)).trans (grown_of_ext ((Ext.refl _).drew) _)⟩
    have hS0 : w1.drew.cell? ⟨C, 0, none⟩ = some (.pointer (some ⟨B, 0, none⟩)) ∧ w1.drew.cell? ⟨B, 0, none⟩ = some (.slice na g.1.length nc) ∧ w1.drew.cell? ⟨B, 5, none⟩ = some (.int .i64 i) ∧ w1.drew.cell? ⟨b1, o1 + 3, none⟩ = some (.slice ua fl uc) ∧ w1.drew.cell? pv = some (.int .u64 wd) := ⟨cC, c0, c5, e3, hwd⟩
    go_wp2_with fail
    refine wp_region_noPanic ?_
    refine Rt.begin_ (fun W : World => W.cell? ⟨C, 0, none⟩ = some (.pointer (some ⟨B, 0, none⟩)) ∧ W.cell? ⟨B, 0, none⟩ = some (.slice na g.1.length nc) ∧ W.cell? ⟨B, 5, none⟩ = some (.int .i64 i) ∧ W.cell? ⟨b1, o1 + 3, none⟩ = some (.slice ua fl uc) ∧ W.cell? pv = some (.int .u64 wd)) (fun i => i == 20) (by kernel_rfl) ?_
    simp only [List.length_cons, List.length_nil, Nat.reduceAdd, Array.replicate_succ, Array.replicate_zero]
    refine Rt.take 0 (v := ?_) rfl (by kernel_rfl) (fun _ _ _ h => h) rfl ?_ hS0 ?_
    rotate_left
    · (intro W hSW; (try dsimp only at hSW); go_simp; try with_reducible rfl)
    try simp only [Act.put, List.setIfInBounds_toArray, List.set_cons_zero, List.set_cons_succ]
    refine Rt.take 1 (v := ?_) rfl (by kernel_rfl) (fun _ _ _ h => h) rfl ?_ hS0 ?_
    rotate_left
    · (intro W hSW; (try dsimp only at hSW); go_simp; try with_reducible rfl)
    try simp only [Act.put, List.setIfInBounds_toArray, List.set_cons_zero, List.set_cons_succ]
    refine Rt.takeW 2 (v := ?_) rfl (by kernel_rfl) (fun _ _ _ h => h) rfl ?_ ?_
    rotate_left
    · (intro W; go_simp; try with_reducible rfl)
    try simp only [Act.put, List.setIfInBounds_toArray, List.set_cons_zero, List.set_cons_succ]
    refine Rt.takeW 3 (v := ?_) rfl (by kernel_rfl) (fun _ _ _ h => h) rfl ?_ ?_
    rotate_left
    · (intro W; go_simp; try with_reducible rfl)
    try simp only [Act.put, List.setIfInBounds_toArray, List.set_cons_zero, List.set_cons_succ]
    refine Rt.takeW 4 (v := ?_) rfl (by kernel_rfl) (fun _ _ _ h => h) rfl ?_ ?_
    rotate_left
    · (intro W; go_simp; try with_reducible rfl)
    try simp only [Act.put, List.setIfInBounds_toArray, List.set_cons_zero, List.set_cons_succ]
    refine Rt.take 5 (v := ?_) rfl (by kernel_rfl) (fun _ _ _ h => h) rfl ?_ hS0 ?_
    rotate_left
    · (intro W hSW; (try dsimp only at hSW); go_simp; try with_reducible rfl)
    try simp only [Act.put, List.setIfInBounds_toArray, List.set_cons_zero, List.set_cons_succ]
    refine Rt.takeW 6 (v := ?_) rfl (by kernel_rfl) (fun _ _ _ h => h) rfl ?_ ?_
    rotate_left
    · (intro W; go_simp; try with_reducible rfl)
    try simp only [Act.put, List.setIfInBounds_toArray, List.set_cons_zero, List.set_cons_succ]
    refine Rt.takeW 7 (v := ?_) rfl (by kernel_rfl) (fun _ _ _ h => h) rfl ?_ ?_
    rotate_left
    · (intro W; go_simp; try with_reducible rfl)
    try simp only [Act.put, List.setIfInBounds_toArray, List.set_cons_zero, List.set_cons_succ]
    refine Rt.takeW 8 (v := ?_) rfl (by kernel_rfl) (fun _ _ _ h => h) rfl ?_ ?_
    rotate_left
    · (intro W; go_simp; try with_reducible rfl)
    try simp only [Act.put, List.setIfInBounds_toArray, List.set_cons_zero, List.set_cons_succ]
    refine Rt.take 9 (v := ?_) rfl (by kernel_rfl) (fun _ _ _ h => h) rfl ?_ hS0 ?_
    rotate_left
    · (intro W hSW; (try dsimp only at hSW); go_simp; try with_reducible rfl)
    try simp only [Act.put, List.setIfInBounds_toArray, List.set_cons_zero, List.set_cons_succ]
    refine Rt.take 10 (v := ?_) rfl (by kernel_rfl) (fun _ _ _ h => h) rfl ?_ hS0 ?_
    rotate_left
    · (intro W hSW; (try dsimp only at hSW); go_simp; try with_reducible rfl)
    try simp only [Act.put, List.setIfInBounds_toArray, List.set_cons_zero, List.set_cons_succ]
    refine Rt.takeW 11 (v := ?_) rfl (by kernel_rfl) (fun _ _ _ h => h) rfl ?_ ?_
    rotate_left
    · (intro W; go_simp; try with_reducible rfl)
    try simp only [Act.put, List.setIfInBounds_toArray, List.set_cons_zero, List.set_cons_succ]
    refine Rt.takeW 12 (v := ?_) rfl (by kernel_rfl) (fun _ _ _ h => h) rfl ?_ ?_
    rotate_left
    · (intro W; go_simp; try with_reducible rfl)
    try simp only [Act.put, List.setIfInBounds_toArray, List.set_cons_zero, List.set_cons_succ]
    refine Rt.takeW 13 (v := ?_) rfl (by kernel_rfl) (fun _ _ _ h => h) rfl ?_ ?_
    rotate_left
    · (intro W; go_simp; try with_reducible rfl)
    try simp only [Act.put, List.setIfInBounds_toArray, List.set_cons_zero, List.set_cons_succ]
    refine Rt.take 14 (v := ?_) rfl (by kernel_rfl) (fun _ _ _ h => h) rfl ?_ hS0 ?_
    rotate_left
    · (intro W hSW; (try dsimp only at hSW); go_simp; try with_reducible rfl)
    try simp only [Act.put, List.setIfInBounds_toArray, List.set_cons_zero, List.set_cons_succ]
    refine Rt.takeW 15 (v := ?_) rfl (by kernel_rfl) (fun _ _ _ h => h) rfl ?_ ?_
    rotate_left
    · (intro W; go_simp; try with_reducible rfl)
    try simp only [Act.put, List.setIfInBounds_toArray, List.set_cons_zero, List.set_cons_succ]
    refine Rt.take 16 (v := ?_) rfl (by kernel_rfl) (fun _ _ _ h => h) rfl ?_ hS0 ?_
    rotate_left
    · (intro W hSW; (try dsimp only at hSW); go_simp; try with_reducible rfl)
    try simp only [Act.put, List.setIfInBounds_toArray, List.set_cons_zero, List.set_cons_succ]
    refine Rt.takeW 17 (v := ?_) rfl (by kernel_rfl) (fun _ _ _ h => h) rfl ?_ ?_
    rotate_left
    · (intro W; go_simp; try with_reducible rfl)
    try simp only [Act.put, List.setIfInBounds_toArray, List.set_cons_zero, List.set_cons_succ]
    refine Rt.takeW 18 (v := ?_) rfl (by kernel_rfl) (fun _ _ _ h => h) rfl ?_ ?_
    rotate_left
    · (intro W; go_simp; try with_reducible rfl)
    try simp only [Act.put, List.setIfInBounds_toArray, List.set_cons_zero, List.set_cons_succ]
    refine Rt.takeW 19 (v := ?_) rfl (by kernel_rfl) (fun _ _ _ h => h) rfl ?_ ?_
    rotate_left
    · (intro W; go_simp; try with_reducible rfl)
    try simp only [Act.put, List.setIfInBounds_toArray, List.set_cons_zero, List.set_cons_succ]
    refine Rt.step 20 rfl (by kernel_rfl) rfl (fun K hK => ?_)
    go_simp
    refine hK _ _ ⟨.inl rfl, ?_⟩
    clear hK K
    try simp only [Act.put, List.setIfInBounds_toArray, List.set_cons_zero, List.set_cons_succ]
    refine Rt.done (by kernel_rfl) ?_
    refine NoPanic.normal ?_
    go_wp2_with fail
    (first | go_end0 | ((try simp only [Exit.inBlock, Exit.then]); refine bodyPost_ret (results_none rfl _ _ _) rfl ?_))
    exact ⟨rfl, HFin.out⟩

set_option maxHeartbeats 8000000 in
theorem follow_any (B C : Nat) (g : Gph) (th : Nat) (o : Opn) (w : World) (hW : Wk B w g th o a0) (hC : Blk w C #[.pointer (some ⟨B, 0, none⟩)] 59) (hCB : C ≠ B) (hth : th < g.2.length) (hr : rightG g = true) (hp : posG g) :
    Calls Try.prog 53 #[.pointer (some ⟨C, 0, none⟩)] w fun r w' => r = .returned (.tuple #[]) ∧ Done B w g th o (actFollow g th o) w' := by
  unfold actFollow
  cases hf : field g th o true with
  | error e =>
    have HC1 := Lib.hid (field_no hW hth hr hp hf)
    have cC := box_cell hC
    clear hW hf hr hp hC
    go_enter Try.func53, Try.ntmps53
    go_wp2_with fail
    with_reducible refine HC1.out.mono ?_
    rintro r w1 ⟨rfl, hp1⟩
    have HP := Lib.hid hp1
    clear hp1
    go_wp2_with fail
    (first | go_end0 | ((try simp only [Exit.inBlock, Exit.then]); refine bodyPost_ret (results_none rfl _ _ _) rfl ?_))
    exact ⟨rfl, HP.out⟩
  | ok n =>
    obtain ⟨hn, i, hoi, hi⟩ := word_in hr hth hf
    have HC1 := Lib.hid (field_yes hW hth hr hp hf)
    have cC := box_cell hC
    dsimp only
    have hwp := word_ptr hr hp hth hf
    obtain ⟨wd, hwd'⟩ : ∃ wd, word g n o = wd := ⟨_, rfl⟩
    rw [hwd'] at hwp ⊢
    clear hW hf hr hp
    go_enter Try.func53, Try.ntmps53
    go_wp2_with fail
    with_reducible refine HC1.out.mono ?_
    rintro r w1 ⟨rfl, hp1⟩
    obtain ⟨hW1, hg1⟩ := hp1
    have HW1 := Lib.hid hW1
    have HC := Lib.hid (box_kept hC hCB hg1)
    replace cC := box_cell HC.out
    obtain ⟨na, nc, sa, sc, hb, hs⟩ := hW1
    have c0 : w1.cell? ⟨B, 0, none⟩ = some (.slice na g.1.length nc) := hb.cell (i := 0) rfl
    have c5 : w1.cell? ⟨B, 5, none⟩ = some (.int .i64 o.i) := hb.cell (i := 5) rfl
    rw [hoi] at c5
    have nlen := hs.here.1.len
    have nsm := hs.here.1.small
    obtain ⟨b1, o1, s1, ua, uc, hix, _, _, _, e3, hF⟩ := hs.1.at_ n hn
    replace e3 : w1.cell? ⟨b1, o1 + 3, none⟩ = some (.slice ua (node g n).2.length uc) := e3
    replace hF : St B w1 (fun W => Sl .u64 W (.slice ua (node g n).2.length uc) (node g n).2) := hF
    obtain ⟨pv, hpv, hpvc⟩ := hF.here.at_ uU szU (i := i) (by omega) (by omega)
    have hwd : w1.cell? pv = some (.int .u64 (word g n o)) := by
      rw [hpvc]; unfold word; rw [hoi]
    have HG1 := Lib.hid hg1
    have HB := Lib.hid hb
    have HS := Lib.hid hs
    rw [hwd'] at hwd
    have HPU := Lib.hid (pushed_done (x := wd) (HW1.out.ext ((Ext.refl w1).drew)) hth)
    clear hb hs hF hg1 hpvc hoi hi hn hwd'
    generalize (node g n).2.length = fl at *
    obtain ⟨hw0, hw1⟩ := hwp
    have hwr : IntKind.i64.wrap wd = wd := by rw [IntKind.wrap_i64]; omega
    have hS0 : w1.drew.cell? ⟨C, 0, none⟩ = some (.pointer (some ⟨B, 0, none⟩)) ∧ w1.drew.cell? ⟨B, 0, none⟩ = some (.slice na g.1.length nc) ∧ w1.drew.cell? ⟨B, 5, none⟩ = some (.int .i64 i) ∧ w1.drew.cell? ⟨b1, o1 + 3, none⟩ = some (.slice ua fl uc) ∧ w1.drew.cell? pv = some (.int .u64 wd) := ⟨cC, c0, c5, e3, hwd⟩
    go_wp2_with fail
    refine wp_region_noPanic ?_
    refine Rt.begin_ (fun W : World => W.cell? ⟨C, 0, none⟩ = some (.pointer (some ⟨B, 0, none⟩)) ∧ W.cell? ⟨B, 0, none⟩ = some (.slice na g.1.length nc) ∧ W.cell? ⟨B, 5, none⟩ = some (.int .i64 i) ∧ W.cell? ⟨b1, o1 + 3, none⟩ = some (.slice ua fl uc) ∧ W.cell? pv = some (.int .u64 wd)) (fun i => i == 18) (by kernel_rfl) ?_
    simp only [List.length_cons, List.length_nil, Nat.reduceAdd, Array.replicate_succ, Array.replicate_zero]
    refine Rt.take 0 (v := ?_) rfl (by kernel_rfl) (fun _ _ _ h => h) rfl ?_ hS0 ?_
    rotate_left
    · (intro W hSW; (try dsimp only at hSW); go_simp; try with_reducible rfl)
    try simp only [Act.put, List.setIfInBounds_toArray, List.set_cons_zero, List.set_cons_succ]
    refine Rt.take 1 (v := ?_) rfl (by kernel_rfl) (fun _ _ _ h => h) rfl ?_ hS0 ?_
    rotate_left
    · (intro W hSW; (try dsimp only at hSW); go_simp; try with_reducible rfl)
    try simp only [Act.put, List.setIfInBounds_toArray, List.set_cons_zero, List.set_cons_succ]
    refine Rt.takeW 2 (v := ?_) rfl (by kernel_rfl) (fun _ _ _ h => h) rfl ?_ ?_
    rotate_left
    · (intro W; go_simp; try with_reducible rfl)
    try simp only [Act.put, List.setIfInBounds_toArray, List.set_cons_zero, List.set_cons_succ]
    refine Rt.takeW 3 (v := ?_) rfl (by kernel_rfl) (fun _ _ _ h => h) rfl ?_ ?_
    rotate_left
    · (intro W; go_simp; try with_reducible rfl)
    try simp only [Act.put, List.setIfInBounds_toArray, List.set_cons_zero, List.set_cons_succ]
    refine Rt.takeW 4 (v := ?_) rfl (by kernel_rfl) (fun _ _ _ h => h) rfl ?_ ?_
    rotate_left
    · (intro W; go_simp; try with_reducible rfl)
    try simp only [Act.put, List.setIfInBounds_toArray, List.set_cons_zero, List.set_cons_succ]
    refine Rt.take 5 (v := ?_) rfl (by kernel_rfl) (fun _ _ _ h => h) rfl ?_ hS0 ?_
    rotate_left
    · (intro W hSW; (try dsimp only at hSW); go_simp; try with_reducible rfl)
    try simp only [Act.put, List.setIfInBounds_toArray, List.set_cons_zero, List.set_cons_succ]
    refine Rt.takeW 6 (v := ?_) rfl (by kernel_rfl) (fun _ _ _ h => h) rfl ?_ ?_
    rotate_left
    · (intro W; go_simp; try with_reducible rfl)
    try simp only [Act.put, List.setIfInBounds_toArray, List.set_cons_zero, List.set_cons_succ]
    refine Rt.takeW 7 (v := ?_) rfl (by kernel_rfl) (fun _ _ _ h => h) rfl ?_ ?_
    rotate_left
    · (intro W; go_simp; try with_reducible rfl)
    try simp only [Act.put, List.setIfInBounds_toArray, List.set_cons_zero, List.set_cons_succ]
    refine Rt.takeW 8 (v := ?_) rfl (by kernel_rfl) (fun _ _ _ h => h) rfl ?_ ?_
    rotate_left
    · (intro W; go_simp; try with_reducible rfl)
    try simp only [Act.put, List.setIfInBounds_toArray, List.set_cons_zero, List.set_cons_succ]
    refine Rt.take 9 (v := ?_) rfl (by kernel_rfl) (fun _ _ _ h => h) rfl ?_ hS0 ?_
    rotate_left
    · (intro W hSW; (try dsimp only at hSW); go_simp; try with_reducible rfl)
    try simp only [Act.put, List.setIfInBounds_toArray, List.set_cons_zero, List.set_cons_succ]
    refine Rt.take 10 (v := ?_) rfl (by kernel_rfl) (fun _ _ _ h => h) rfl ?_ hS0 ?_
    rotate_left
    · (intro W hSW; (try dsimp only at hSW); go_simp; try with_reducible rfl)
    try simp only [Act.put, List.setIfInBounds_toArray, List.set_cons_zero, List.set_cons_succ]
    refine Rt.takeW 11 (v := ?_) rfl (by kernel_rfl) (fun _ _ _ h => h) rfl ?_ ?_
    rotate_left
    · (intro W; go_simp; try with_reducible rfl)
    try simp only [Act.put, List.setIfInBounds_toArray, List.set_cons_zero, List.set_cons_succ]
    refine Rt.takeW 12 (v := ?_) rfl (by kernel_rfl) (fun _ _ _ h => h) rfl ?_ ?_
    rotate_left
    · (intro W; go_simp; try with_reducible rfl)
    try simp only [Act.put, List.setIfInBounds_toArray, List.set_cons_zero, List.set_cons_succ]
    refine Rt.takeW 13 (v := ?_) rfl (by kernel_rfl) (fun _ _ _ h => h) rfl ?_ ?_
    rotate_left
    · (intro W; go_simp; try with_reducible rfl)
    try simp only [Act.put, List.setIfInBounds_toArray, List.set_cons_zero, List.set_cons_succ]
    refine Rt.take 14 (v := ?_) rfl (by kernel_rfl) (fun _ _ _ h => h) rfl ?_ hS0 ?_
    rotate_left
    · (intro W hSW; (try dsimp only at hSW); go_simp; try with_reducible rfl)
    try simp only [Act.put, List.setIfInBounds_toArray, List.set_cons_zero, List.set_cons_succ]
    refine Rt.takeW 15 (v := ?_) rfl (by kernel_rfl) (fun _ _ _ h => h) rfl ?_ ?_
    rotate_left
    · (intro W; go_simp; try with_reducible rfl)
    try simp only [Act.put, List.setIfInBounds_toArray, List.set_cons_zero, List.set_cons_succ]
    refine Rt.take 16 (v := ?_) rfl (by kernel_rfl) (fun _ _ _ h => h) rfl ?_ hS0 ?_
    rotate_left
    · (intro W hSW; (try dsimp only at hSW); go_simp; try with_reducible rfl)
    try simp only [Act.put, List.setIfInBounds_toArray, List.set_cons_zero, List.set_cons_succ]
    refine Rt.takeW 17 (v := ?_) rfl (by kernel_rfl) (fun _ _ _ h => h) rfl ?_ ?_
    rotate_left
    · (intro W; go_simp; try with_reducible rfl)
    try simp only [Act.put, List.setIfInBounds_toArray, List.set_cons_zero, List.set_cons_succ]
    refine Rt.step 18 rfl (by kernel_rfl) rfl (fun K hK => ?_)
    go_simp
    refine HPU.out.mono ?_; rintro r w2 ⟨rfl, hp2⟩
    refine hK _ _ ⟨.inl rfl, ?_⟩
    clear hK K
    try simp only [Act.put, List.setIfInBounds_toArray, List.set_cons_zero, List.set_cons_succ]
    refine Rt.done (by kernel_rfl) ?_
    refine NoPanic.normal ?_
    have HP := Lib.hid (Done.trans (HG1.out.trans (grown_of_ext ((Ext.refl w1).drew) _)) hp2)
    clear hp2
    go_wp2_with fail
    (first | go_end0 | ((try simp only [Exit.inBlock, Exit.then]); refine bodyPost_ret (results_none rfl _ _ _) rfl ?_))
    exact ⟨rfl, HP.out⟩

set_option maxHeartbeats 8000000 in
theorem link_any (B C : Nat) (g : Gph) (th : Nat) (o : Opn) (w : World) (hW : Wk B w g th o a0) (hC : Blk w C #[.pointer (some ⟨B, 0, none⟩)] 59) (hCB : C ≠ B) (hth : th < g.2.length) (hr : rightG g = true) (hp : posG g) :
    Calls Try.prog 56 #[.pointer (some ⟨C, 0, none⟩)] w fun r w' => r = .returned (.tuple #[]) ∧ Done B w g th o (actLink g th o) w' := by
  unfold actLink
  cases hf : field g th o true with
  | error e =>
    have HC1 := Lib.hid (field_no hW hth hr hp hf)
    have cC := box_cell hC
    clear hW hf hr hp hC
    go_enter Try.func56, Try.ntmps56
    go_wp2_with fail
    with_reducible refine HC1.out.mono ?_
    rintro r w1 ⟨rfl, hp1⟩
    have HP := Lib.hid hp1
    clear hp1
    go_wp2_with fail
    (first | go_end0 | ((try simp only [Exit.inBlock, Exit.then]); refine bodyPost_ret (results_none rfl _ _ _) rfl ?_))
    exact ⟨rfl, HP.out⟩
  | ok n =>
    obtain ⟨hn, i, hoi, hi⟩ := word_in hr hth hf
    have HC1 := Lib.hid (field_yes hW hth hr hp hf)
    have cC := box_cell hC
    dsimp only
    cases hk : handle g th o.k with
    | none =>
      dsimp only
      clear hW hf hr hp hn hoi hi
      go_enter Try.func56, Try.ntmps56
      go_wp2_with fail
      with_reducible refine HC1.out.mono ?_
      rintro r w1 ⟨rfl, hp1⟩
      obtain ⟨hW1, hg1⟩ := hp1
      have HC := Lib.hid (box_kept hC hCB hg1)
      replace cC := box_cell HC.out
      have HH := Lib.hid (handle_no (hW1.ext ((Ext.refl w1).drew)) hth hk)
      obtain ⟨na, nc, sa, sc, hb, hs⟩ := hW1
      have c6 : w1.cell? ⟨B, 6, none⟩ = some (.int .i64 o.k) := hb.cell (i := 6) rfl
      have HG1 := Lib.hid hg1
      have hS0 : w1.drew.cell? ⟨C, 0, none⟩ = some (.pointer (some ⟨B, 0, none⟩)) ∧ w1.drew.cell? ⟨B, 6, none⟩ = some (.int .i64 o.k) := ⟨cC, c6⟩
      clear hb hs hg1
      go_wp2_with fail
      refine wp_region_noPanic ?_
      refine Rt.begin_ (fun W : World => W.cell? ⟨C, 0, none⟩ = some (.pointer (some ⟨B, 0, none⟩)) ∧ W.cell? ⟨B, 6, none⟩ = some (.int .i64 o.k)) (fun i => i == 6) (by kernel_rfl) ?_
      simp only [List.length_cons, List.length_nil, Nat.reduceAdd, Array.replicate_succ, Array.replicate_zero]
      refine Rt.take 0 (v := ?_) rfl (by kernel_rfl) (fun _ _ _ h => h) rfl ?_ hS0 ?_
      rotate_left
      · (intro W hSW; (try dsimp only at hSW); go_simp; try with_reducible rfl)
      try simp only [Act.put, List.setIfInBounds_toArray, List.set_cons_zero, List.set_cons_succ]
      refine Rt.take 1 (v := ?_) rfl (by kernel_rfl) (fun _ _ _ h => h) rfl ?_ hS0 ?_
      rotate_left
      · (intro W hSW; (try dsimp only at hSW); go_simp; try with_reducible rfl)
      try simp only [Act.put, List.setIfInBounds_toArray, List.set_cons_zero, List.set_cons_succ]
      refine Rt.takeW 2 (v := ?_) rfl (by kernel_rfl) (fun _ _ _ h => h) rfl ?_ ?_
      rotate_left
      · (intro W; go_simp; try with_reducible rfl)
      try simp only [Act.put, List.setIfInBounds_toArray, List.set_cons_zero, List.set_cons_succ]
      refine Rt.takeW 3 (v := ?_) rfl (by kernel_rfl) (fun _ _ _ h => h) rfl ?_ ?_
      rotate_left
      · (intro W; go_simp; try with_reducible rfl)
      try simp only [Act.put, List.setIfInBounds_toArray, List.set_cons_zero, List.set_cons_succ]
      refine Rt.takeW 4 (v := ?_) rfl (by kernel_rfl) (fun _ _ _ h => h) rfl ?_ ?_
      rotate_left
      · (intro W; go_simp; try with_reducible rfl)
      try simp only [Act.put, List.setIfInBounds_toArray, List.set_cons_zero, List.set_cons_succ]
      refine Rt.take 5 (v := ?_) rfl (by kernel_rfl) (fun _ _ _ h => h) rfl ?_ hS0 ?_
      rotate_left
      · (intro W hSW; (try dsimp only at hSW); go_simp; try with_reducible rfl)
      try simp only [Act.put, List.setIfInBounds_toArray, List.set_cons_zero, List.set_cons_succ]
      refine Rt.step 6 rfl (by kernel_rfl) rfl (fun K hK => ?_)
      go_simp
      refine HH.out.mono ?_; rintro r w2 ⟨rfl, hp2⟩
      refine hK _ _ ⟨.inl rfl, ?_⟩
      clear hK K
      try simp only [Act.put, List.setIfInBounds_toArray, List.set_cons_zero, List.set_cons_succ]
      refine Rt.takeW 7 (v := ?_) rfl (by kernel_rfl) (fun _ _ _ h => h) rfl ?_ ?_
      rotate_left
      · (intro W; go_simp; try with_reducible rfl)
      try simp only [Act.put, List.setIfInBounds_toArray, List.set_cons_zero, List.set_cons_succ]
      refine Rt.takeW 8 (v := ?_) rfl (by kernel_rfl) (fun _ _ _ h => h) rfl ?_ ?_
      rotate_left
      · (intro W; go_simp; try with_reducible rfl)
      try simp only [Act.put, List.setIfInBounds_toArray, List.set_cons_zero, List.set_cons_succ]
      refine Rt.takeW 9 (v := ?_) rfl (by kernel_rfl) (fun _ _ _ h => h) rfl ?_ ?_
      rotate_left
      · (intro W; go_simp; try with_reducible rfl)
      try simp only [Act.put, List.setIfInBounds_toArray, List.set_cons_zero, List.set_cons_succ]
      refine Rt.takeW 10 (v := ?_) rfl (by kernel_rfl) (fun _ _ _ h => h) rfl ?_ ?_
      rotate_left
      · (intro W; go_simp; try with_reducible rfl)
      try simp only [Act.put, List.setIfInBounds_toArray, List.set_cons_zero, List.set_cons_succ]
      refine Rt.takeW 11 (v := ?_) rfl (by kernel_rfl) (fun _ _ _ h => h) rfl ?_ ?_
      rotate_left
      · (intro W; go_simp; try with_reducible rfl)
      try simp only [Act.put, List.setIfInBounds_toArray, List.set_cons_zero, List.set_cons_succ]
      refine Rt.done (by kernel_rfl) ?_
      refine NoPanic.normal ?_
      have HP := Lib.hid (Pw.trans (g := g) (a := a0) (HG1.out.trans (grown_of_ext ((Ext.refl w1).drew) _)) hp2)
      clear hp2
      go_wp2_with fail
      (first | go_end0 | ((try simp only [Exit.inBlock, Exit.then]); refine bodyPost_ret (results_none rfl _ _ _) rfl ?_))
      exact ⟨rfl, HP.out⟩
    | some x =>
      dsimp only
      have hx0 := right_handle hr hth hk
      clear hW hf hr hp
      go_enter Try.func56, Try.ntmps56
      go_wp2_with fail
      with_reducible refine HC1.out.mono ?_
      rintro r w1 ⟨rfl, hp1⟩
      obtain ⟨hW1, hg1⟩ := hp1
      have HC := Lib.hid (box_kept hC hCB hg1)
      replace cC := box_cell HC.out
      have HH := Lib.hid (handle_yes (hW1.ext ((Ext.refl w1).drew)) hth hk)
      obtain ⟨na, nc, sa, sc, hb, hs⟩ := hW1
      have c6 : w1.cell? ⟨B, 6, none⟩ = some (.int .i64 o.k) := hb.cell (i := 6) rfl
      have nsm := hs.here.1.small
      have HG1 := Lib.hid hg1
      have hS0 : w1.drew.cell? ⟨C, 0, none⟩ = some (.pointer (some ⟨B, 0, none⟩)) ∧ w1.drew.cell? ⟨B, 6, none⟩ = some (.int .i64 o.k) := ⟨cC, c6⟩
      clear hb hs hg1
      go_wp2_with fail
      refine wp_region_noPanic ?_
      refine Rt.begin_ (fun W : World => W.cell? ⟨C, 0, none⟩ = some (.pointer (some ⟨B, 0, none⟩)) ∧ W.cell? ⟨B, 6, none⟩ = some (.int .i64 o.k)) (fun i => i == 6) (by kernel_rfl) ?_
      simp only [List.length_cons, List.length_nil, Nat.reduceAdd, Array.replicate_succ, Array.replicate_zero]
      refine Rt.take 0 (v := ?_) rfl (by kernel_rfl) (fun _ _ _ h => h) rfl ?_ hS0 ?_
      rotate_left
      · (intro W hSW; (try dsimp only at hSW); go_simp; try with_reducible rfl)
      try simp only [Act.put, List.setIfInBounds_toArray, List.set_cons_zero, List.set_cons_succ]
      refine Rt.take 1 (v := ?_) rfl (by kernel_rfl) (fun _ _ _ h => h) rfl ?_ hS0 ?_
      rotate_left
      · (intro W hSW; (try dsimp only at hSW); go_simp; try with_reducible rfl)
      try simp only [Act.put, List.setIfInBounds_toArray, List.set_cons_zero, List.set_cons_succ]
      refine Rt.takeW 2 (v := ?_) rfl (by kernel_rfl) (fun _ _ _ h => h) rfl ?_ ?_
      rotate_left
      · (intro W; go_simp; try with_reducible rfl)
      try simp only [Act.put, List.setIfInBounds_toArray, List.set_cons_zero, List.set_cons_succ]
      refine Rt.takeW 3 (v := ?_) rfl (by kernel_rfl) (fun _ _ _ h => h) rfl ?_ ?_
      rotate_left
      · (intro W; go_simp; try with_reducible rfl)
      try simp only [Act.put, List.setIfInBounds_toArray, List.set_cons_zero, List.set_cons_succ]
      refine Rt.takeW 4 (v := ?_) rfl (by kernel_rfl) (fun _ _ _ h => h) rfl ?_ ?_
      rotate_left
      · (intro W; go_simp; try with_reducible rfl)
      try simp only [Act.put, List.setIfInBounds_toArray, List.set_cons_zero, List.set_cons_succ]
      refine Rt.take 5 (v := ?_) rfl (by kernel_rfl) (fun _ _ _ h => h) rfl ?_ hS0 ?_
      rotate_left
      · (intro W hSW; (try dsimp only at hSW); go_simp; try with_reducible rfl)
      try simp only [Act.put, List.setIfInBounds_toArray, List.set_cons_zero, List.set_cons_succ]
      refine Rt.step 6 rfl (by kernel_rfl) rfl (fun K hK => ?_)
      go_simp
      refine HH.out.mono ?_; rintro r w2 ⟨rfl, hp2⟩
      refine hK _ _ ⟨.inl rfl, ?_⟩
      clear hK K
      try simp only [Act.put, List.setIfInBounds_toArray, List.set_cons_zero, List.set_cons_succ]
      refine Rt.takeW 7 (v := ?_) rfl (by kernel_rfl) (fun _ _ _ h => h) rfl ?_ ?_
      rotate_left
      · (intro W; go_simp; try with_reducible rfl)
      try simp only [Act.put, List.setIfInBounds_toArray, List.set_cons_zero, List.set_cons_succ]
      refine Rt.takeW 8 (v := ?_) rfl (by kernel_rfl) (fun _ _ _ h => h) rfl ?_ ?_
      rotate_left
      · (intro W; go_simp; try with_reducible rfl)
      try simp only [Act.put, List.setIfInBounds_toArray, List.set_cons_zero, List.set_cons_succ]
      refine Rt.takeW 9 (v := ?_) rfl (by kernel_rfl) (fun _ _ _ h => h) rfl ?_ ?_
      rotate_left
      · (intro W; go_simp; try with_reducible rfl)
      try simp only [Act.put, List.setIfInBounds_toArray, List.set_cons_zero, List.set_cons_succ]
      refine Rt.takeW 10 (v := ?_) rfl (by kernel_rfl) (fun _ _ _ h => h) rfl ?_ ?_
      rotate_left
      · (intro W; go_simp; try with_reducible rfl)
      try simp only [Act.put, List.setIfInBounds_toArray, List.set_cons_zero, List.set_cons_succ]
      refine Rt.takeW 11 (v := ?_) rfl (by kernel_rfl) (fun _ _ _ h => h) rfl ?_ ?_
      rotate_left
      · (intro W; go_simp; try with_reducible rfl)
      try simp only [Act.put, List.setIfInBounds_toArray, List.set_cons_zero, List.set_cons_succ]
      refine Rt.done (by kernel_rfl) ?_
      refine NoPanic.normal ?_
      obtain ⟨hW2, hg2⟩ := hp2
      have hCC := box_kept (HC.out.ext ((Ext.refl w1).drew)) hCB hg2
      have cC2 := box_cell hCC
      have hSA := set_any B g th o a0 n x i w2 hW2 hn hoi hi
      have ei : o.i.toNat = i := by omega
      rw [← ei] at hSA
      have HSA := Lib.hid hSA
      have HG2 := Lib.hid ((HG1.out.trans (grown_of_ext ((Ext.refl w1).drew) _)).trans hg2)
      obtain ⟨x0, x1⟩ := hx0
      have hwr : IntKind.u64.wrap x = x := by rw [IntKind.wrap_u64]; omega
      clear hSA hg2 hW2 hCC ei
      go_wp2_with fail
      with_reducible refine HSA.out.mono ?_
      rintro r w3 ⟨rfl, hp3⟩
      have HP := Lib.hid (Pw.trans (g := g) (a := a0) HG2.out hp3)
      clear hp3
      go_wp2_with fail
      (first | go_end0 | ((try simp only [Exit.inBlock, Exit.then]); refine bodyPost_ret (results_none rfl _ _ _) rfl ?_))
      exact ⟨rfl, HP.out⟩

set_option maxHeartbeats 8000000 in
theorem push_act (B C : Nat) (g : Gph) (th : Nat) (o : Opn) (w : World) (hW : Wk B w g th o a0) (hC : Blk w C #[.pointer (some ⟨B, 0, none⟩)] 59) (hCB : C ≠ B) (hth : th < g.2.length) (hr : rightG g = true) (hp : posG g) :
    Calls Try.prog 60 #[.pointer (some ⟨C, 0, none⟩)] w fun r w' => r = .returned (.tuple #[]) ∧ Done B w g th o (actPush g th o) w' := by
  unfold actPush
  cases hh : handle g th o.h with
  | none =>
    dsimp only
    have cC := box_cell hC
    have HH := Lib.hid (handle_no (hW.ext ((Ext.refl w).drew)) hth hh)
    obtain ⟨na, nc, sa, sc, hb, hs⟩ := hW
    have c4 : w.cell? ⟨B, 4, none⟩ = some (.int .i64 o.h) := hb.cell (i := 4) rfl
    have hS0 : w.drew.cell? ⟨C, 0, none⟩ = some (.pointer (some ⟨B, 0, none⟩)) ∧ w.drew.cell? ⟨B, 4, none⟩ = some (.int .i64 o.h) := ⟨cC, c4⟩
    clear hb hs hr hp
    go_enter Try.func60, Try.ntmps60
    go_wp2_with fail
    refine wp_region_noPanic ?_
    refine Rt.begin_ (fun W : World => W.cell? ⟨C, 0, none⟩ = some (.pointer (some ⟨B, 0, none⟩)) ∧ W.cell? ⟨B, 4, none⟩ = some (.int .i64 o.h)) (fun i => i == 6) (by kernel_rfl) ?_
    simp only [List.length_cons, List.length_nil, Nat.reduceAdd, Array.replicate_succ, Array.replicate_zero]
    refine Rt.take 0 (v := ?_) rfl (by kernel_rfl) (fun _ _ _ h => h) rfl ?_ hS0 ?_
    rotate_left
    · (intro W hSW; (try dsimp only at hSW); go_simp; try with_reducible rfl)
    try simp only [Act.put, List.setIfInBounds_toArray, List.set_cons_zero, List.set_cons_succ]
    refine Rt.take 1 (v := ?_) rfl (by kernel_rfl) (fun _ _ _ h => h) rfl ?_ hS0 ?_
    rotate_left
    · (intro W hSW; (try dsimp only at hSW); go_simp; try with_reducible rfl)
    try simp only [Act.put, List.setIfInBounds_toArray, List.set_cons_zero, List.set_cons_succ]
    refine Rt.takeW 2 (v := ?_) rfl (by kernel_rfl) (fun _ _ _ h => h) rfl ?_ ?_
    rotate_left
    · (intro W; go_simp; try with_reducible rfl)
    try simp only [Act.put, List.setIfInBounds_toArray, List.set_cons_zero, List.set_cons_succ]
    refine Rt.takeW 3 (v := ?_) rfl (by kernel_rfl) (fun _ _ _ h => h) rfl ?_ ?_
    rotate_left
    · (intro W; go_simp; try with_reducible rfl)
    try simp only [Act.put, List.setIfInBounds_toArray, List.set_cons_zero, List.set_cons_succ]
    refine Rt.takeW 4 (v := ?_) rfl (by kernel_rfl) (fun _ _ _ h => h) rfl ?_ ?_
    rotate_left
    · (intro W; go_simp; try with_reducible rfl)
    try simp only [Act.put, List.setIfInBounds_toArray, List.set_cons_zero, List.set_cons_succ]
    refine Rt.take 5 (v := ?_) rfl (by kernel_rfl) (fun _ _ _ h => h) rfl ?_ hS0 ?_
    rotate_left
    · (intro W hSW; (try dsimp only at hSW); go_simp; try with_reducible rfl)
    try simp only [Act.put, List.setIfInBounds_toArray, List.set_cons_zero, List.set_cons_succ]
    refine Rt.step 6 rfl (by kernel_rfl) rfl (fun K hK => ?_)
    go_simp
    refine HH.out.mono ?_; rintro r w2 ⟨rfl, hp2⟩
    refine hK _ _ ⟨.inl rfl, ?_⟩
    clear hK K
    try simp only [Act.put, List.setIfInBounds_toArray, List.set_cons_zero, List.set_cons_succ]
    refine Rt.takeW 7 (v := ?_) rfl (by kernel_rfl) (fun _ _ _ h => h) rfl ?_ ?_
    rotate_left
    · (intro W; go_simp; try with_reducible rfl)
    try simp only [Act.put, List.setIfInBounds_toArray, List.set_cons_zero, List.set_cons_succ]
    refine Rt.takeW 8 (v := ?_) rfl (by kernel_rfl) (fun _ _ _ h => h) rfl ?_ ?_
    rotate_left
    · (intro W; go_simp; try with_reducible rfl)
    try simp only [Act.put, List.setIfInBounds_toArray, List.set_cons_zero, List.set_cons_succ]
    refine Rt.takeW 9 (v := ?_) rfl (by kernel_rfl) (fun _ _ _ h => h) rfl ?_ ?_
    rotate_left
    · (intro W; go_simp; try with_reducible rfl)
    try simp only [Act.put, List.setIfInBounds_toArray, List.set_cons_zero, List.set_cons_succ]
    refine Rt.takeW 10 (v := ?_) rfl (by kernel_rfl) (fun _ _ _ h => h) rfl ?_ ?_
    rotate_left
    · (intro W; go_simp; try with_reducible rfl)
    try simp only [Act.put, List.setIfInBounds_toArray, List.set_cons_zero, List.set_cons_succ]
    refine Rt.takeW 11 (v := ?_) rfl (by kernel_rfl) (fun _ _ _ h => h) rfl ?_ ?_
    rotate_left
    · (intro W; go_simp; try with_reducible rfl)
    try simp only [Act.put, List.setIfInBounds_toArray, List.set_cons_zero, List.set_cons_succ]
    refine Rt.done (by kernel_rfl) ?_
    refine NoPanic.normal ?_
    have HP := Lib.hid (Pw.trans (g := g) (a := a0) (grown_of_ext ((Ext.refl w).drew) _) hp2)
    clear hp2
    go_wp2_with fail
    (first | go_end0 | ((try simp only [Exit.inBlock, Exit.then]); refine bodyPost_ret (results_none rfl _ _ _) rfl ?_))
    exact ⟨rfl, HP.out⟩
  | some x =>
    dsimp only
    have cC := box_cell hC
    have HH := Lib.hid (handle_yes (hW.ext ((Ext.refl w).drew)) hth hh)
    obtain ⟨na, nc, sa, sc, hb, hs⟩ := hW
    have c4 : w.cell? ⟨B, 4, none⟩ = some (.int .i64 o.h) := hb.cell (i := 4) rfl
    have hS0 : w.drew.cell? ⟨C, 0, none⟩ = some (.pointer (some ⟨B, 0, none⟩)) ∧ w.drew.cell? ⟨B, 4, none⟩ = some (.int .i64 o.h) := ⟨cC, c4⟩
    clear hb hs hr hp
    go_enter Try.func60, Try.ntmps60
    go_wp2_with fail
    refine wp_region_noPanic ?_
    refine Rt.begin_ (fun W : World => W.cell? ⟨C, 0, none⟩ = some (.pointer (some ⟨B, 0, none⟩)) ∧ W.cell? ⟨B, 4, none⟩ = some (.int .i64 o.h)) (fun i => i == 6) (by kernel_rfl) ?_
    simp only [List.length_cons, List.length_nil, Nat.reduceAdd, Array.replicate_succ, Array.replicate_zero]
    refine Rt.take 0 (v := ?_) rfl (by kernel_rfl) (fun _ _ _ h => h) rfl ?_ hS0 ?_
    rotate_left
    · (intro W hSW; (try dsimp only at hSW); go_simp; try with_reducible rfl)
    try simp only [Act.put, List.setIfInBounds_toArray, List.set_cons_zero, List.set_cons_succ]
    refine Rt.take 1 (v := ?_) rfl (by kernel_rfl) (fun _ _ _ h => h) rfl ?_ hS0 ?_
    rotate_left
    · (intro W hSW; (try dsimp only at hSW); go_simp; try with_reducible rfl)
    try simp only [Act.put, List.setIfInBounds_toArray, List.set_cons_zero, List.set_cons_succ]
    refine Rt.takeW 2 (v := ?_) rfl (by kernel_rfl) (fun _ _ _ h => h) rfl ?_ ?_
    rotate_left
    · (intro W; go_simp; try with_reducible rfl)
    try simp only [Act.put, List.setIfInBounds_toArray, List.set_cons_zero, List.set_cons_succ]
    refine Rt.takeW 3 (v := ?_) rfl (by kernel_rfl) (fun _ _ _ h => h) rfl ?_ ?_
    rotate_left
    · (intro W; go_simp; try with_reducible rfl)
    try simp only [Act.put, List.setIfInBounds_toArray, List.set_cons_zero, List.set_cons_succ]
    refine Rt.takeW 4 (v := ?_) rfl (by kernel_rfl) (fun _ _ _ h => h) rfl ?_ ?_
    rotate_left
    · (intro W; go_simp; try with_reducible rfl)
    try simp only [Act.put, List.setIfInBounds_toArray, List.set_cons_zero, List.set_cons_succ]
    refine Rt.take 5 (v := ?_) rfl (by kernel_rfl) (fun _ _ _ h => h) rfl ?_ hS0 ?_
    rotate_left
    · (intro W hSW; (try dsimp only at hSW); go_simp; try with_reducible rfl)
    try simp only [Act.put, List.setIfInBounds_toArray, List.set_cons_zero, List.set_cons_succ]
    refine Rt.step 6 rfl (by kernel_rfl) rfl (fun K hK => ?_)
    go_simp
    refine HH.out.mono ?_; rintro r w2 ⟨rfl, hp2⟩
    refine hK _ _ ⟨.inl rfl, ?_⟩
    clear hK K
    try simp only [Act.put, List.setIfInBounds_toArray, List.set_cons_zero, List.set_cons_succ]
    refine Rt.takeW 7 (v := ?_) rfl (by kernel_rfl) (fun _ _ _ h => h) rfl ?_ ?_
    rotate_left
    · (intro W; go_simp; try with_reducible rfl)
    try simp only [Act.put, List.setIfInBounds_toArray, List.set_cons_zero, List.set_cons_succ]
    refine Rt.takeW 8 (v := ?_) rfl (by kernel_rfl) (fun _ _ _ h => h) rfl ?_ ?_
    rotate_left
    · (intro W; go_simp; try with_reducible rfl)
    try simp only [Act.put, List.setIfInBounds_toArray, List.set_cons_zero, List.set_cons_succ]
    refine Rt.takeW 9 (v := ?_) rfl (by kernel_rfl) (fun _ _ _ h => h) rfl ?_ ?_
    rotate_left
    · (intro W; go_simp; try with_reducible rfl)
    try simp only [Act.put, List.setIfInBounds_toArray, List.set_cons_zero, List.set_cons_succ]
    refine Rt.takeW 10 (v := ?_) rfl (by kernel_rfl) (fun _ _ _ h => h) rfl ?_ ?_
    rotate_left
    · (intro W; go_simp; try with_reducible rfl)
    try simp only [Act.put, List.setIfInBounds_toArray, List.set_cons_zero, List.set_cons_succ]
    refine Rt.takeW 11 (v := ?_) rfl (by kernel_rfl) (fun _ _ _ h => h) rfl ?_ ?_
    rotate_left
    · (intro W; go_simp; try with_reducible rfl)
    try simp only [Act.put, List.setIfInBounds_toArray, List.set_cons_zero, List.set_cons_succ]
    refine Rt.done (by kernel_rfl) ?_
    refine NoPanic.normal ?_
    obtain ⟨hW2, hg2⟩ := hp2
    have hCC := box_kept (hC.ext ((Ext.refl w).drew)) hCB hg2
    have cC2 := box_cell hCC
    have HPU := Lib.hid (pushed_done (x := x) hW2 hth)
    have HG2 := Lib.hid ((grown_of_ext ((Ext.refl w).drew) (some B)).trans hg2)
    clear hg2 hW2 hCC
    go_wp2_with fail
    with_reducible refine HPU.out.mono ?_
    rintro r w3 ⟨rfl, hp3⟩
    have HP := Lib.hid (Done.trans HG2.out hp3)
    clear hp3
    go_wp2_with fail
    (first | go_end0 | ((try simp only [Exit.inBlock, Exit.then]); refine bodyPost_ret (results_none rfl _ _ _) rfl ?_))
    exact ⟨rfl, HP.out⟩

set_option maxHeartbeats 8000000 in
theorem same_act (B C : Nat) (g : Gph) (th : Nat) (o : Opn) (w : World) (hW : Wk B w g th o a0) (hC : Blk w C #[.pointer (some ⟨B, 0, none⟩)] 59) (hCB : C ≠ B) (hth : th < g.2.length) (hr : rightG g = true) (hp : posG g) :
    Calls Try.prog 59 #[.pointer (some ⟨C, 0, none⟩)] w fun r w' => r = .returned (.tuple #[]) ∧ Done B w g th o (actSame g th o) w' := by
  unfold actSame
  cases hh : handle g th o.h with
  | none =>
    dsimp only
    have cC := box_cell hC
    have HH := Lib.hid (handle_no (hW.ext ((Ext.refl w).drew)) hth hh)
    obtain ⟨na, nc, sa, sc, hb, hs⟩ := hW
    have c4 : w.cell? ⟨B, 4, none⟩ = some (.int .i64 o.h) := hb.cell (i := 4) rfl
    have hS0 : w.drew.cell? ⟨C, 0, none⟩ = some (.pointer (some ⟨B, 0, none⟩)) ∧ w.drew.cell? ⟨B, 4, none⟩ = some (.int .i64 o.h) := ⟨cC, c4⟩
    clear hb hs hr hp
    go_enter Try.func59, Try.ntmps59
    go_wp2_with fail
    refine wp_region_noPanic ?_
    refine Rt.begin_ (fun W : World => W.cell? ⟨C, 0, none⟩ = some (.pointer (some ⟨B, 0, none⟩)) ∧ W.cell? ⟨B, 4, none⟩ = some (.int .i64 o.h)) (fun i => i == 6) (by kernel_rfl) ?_
    simp only [List.length_cons, List.length_nil, Nat.reduceAdd, Array.replicate_succ, Array.replicate_zero]
    refine Rt.take 0 (v := ?_) rfl (by kernel_rfl) (fun _ _ _ h => h) rfl ?_ hS0 ?_
    rotate_left
    · (intro W hSW; (try dsimp only at hSW); go_simp; try with_reducible rfl)
    try simp only [Act.put, List.setIfInBounds_toArray, List.set_cons_zero, List.set_cons_succ]
    refine Rt.take 1 (v := ?_) rfl (by kernel_rfl) (fun _ _ _ h => h) rfl ?_ hS0 ?_
    rotate_left
    · (intro W hSW; (try dsimp only at hSW); go_simp; try with_reducible rfl)
    try simp only [Act.put, List.setIfInBounds_toArray, List.set_cons_zero, List.set_cons_succ]
    refine Rt.takeW 2 (v := ?_) rfl (by kernel_rfl) (fun _ _ _ h => h) rfl ?_ ?_
    rotate_left
    · (intro W; go_simp; try with_reducible rfl)
    try simp only [Act.put, List.setIfInBounds_toArray, List.set_cons_zero, List.set_cons_succ]
    refine Rt.takeW 3 (v := ?_) rfl (by kernel_rfl) (fun _ _ _ h => h) rfl ?_ ?_
    rotate_left
    · (intro W; go_simp; try with_reducible rfl)
    try simp only [Act.put, List.setIfInBounds_toArray, List.set_cons_zero, List.set_cons_succ]
    refine Rt.takeW 4 (v := ?_) rfl (by kernel_rfl) (fun _ _ _ h => h) rfl ?_ ?_
    rotate_left
    · (intro W; go_simp; try with_reducible rfl)
    try simp only [Act.put, List.setIfInBounds_toArray, List.set_cons_zero, List.set_cons_succ]
    refine Rt.take 5 (v := ?_) rfl (by kernel_rfl) (fun _ _ _ h => h) rfl ?_ hS0 ?_
    rotate_left
    · (intro W hSW; (try dsimp only at hSW); go_simp; try with_reducible rfl)
    try simp only [Act.put, List.setIfInBounds_toArray, List.set_cons_zero, List.set_cons_succ]
    refine Rt.step 6 rfl (by kernel_rfl) rfl (fun K hK => ?_)
    go_simp
    refine HH.out.mono ?_; rintro r w2 ⟨rfl, hp2⟩
    refine hK _ _ ⟨.inl rfl, ?_⟩
    clear hK K
    try simp only [Act.put, List.setIfInBounds_toArray, List.set_cons_zero, List.set_cons_succ]
    refine Rt.takeW 7 (v := ?_) rfl (by kernel_rfl) (fun _ _ _ h => h) rfl ?_ ?_
    rotate_left
    · (intro W; go_simp; try with_reducible rfl)
    try simp only [Act.put, List.setIfInBounds_toArray, List.set_cons_zero, List.set_cons_succ]
    refine Rt.takeW 8 (v := ?_) rfl (by kernel_rfl) (fun _ _ _ h => h) rfl ?_ ?_
    rotate_left
    · (intro W; go_simp; try with_reducible rfl)
    try simp only [Act.put, List.setIfInBounds_toArray, List.set_cons_zero, List.set_cons_succ]
    refine Rt.takeW 9 (v := ?_) rfl (by kernel_rfl) (fun _ _ _ h => h) rfl ?_ ?_
    rotate_left
    · (intro W; go_simp; try with_reducible rfl)
    try simp only [Act.put, List.setIfInBounds_toArray, List.set_cons_zero, List.set_cons_succ]
    refine Rt.takeW 10 (v := ?_) rfl (by kernel_rfl) (fun _ _ _ h => h) rfl ?_ ?_
    rotate_left
    · (intro W; go_simp; try with_reducible rfl)
    try simp only [Act.put, List.setIfInBounds_toArray, List.set_cons_zero, List.set_cons_succ]
    refine Rt.takeW 11 (v := ?_) rfl (by kernel_rfl) (fun _ _ _ h => h) rfl ?_ ?_
    rotate_left
    · (intro W; go_simp; try with_reducible rfl)
    try simp only [Act.put, List.setIfInBounds_toArray, List.set_cons_zero, List.set_cons_succ]
    refine Rt.done (by kernel_rfl) ?_
    refine NoPanic.normal ?_
    have HP := Lib.hid (Pw.trans (g := g) (a := a0) (grown_of_ext ((Ext.refl w).drew) _) hp2)
    clear hp2
    go_wp2_with fail
    (first | go_end0 | ((try simp only [Exit.inBlock, Exit.then]); refine bodyPost_ret (results_none rfl _ _ _) rfl ?_))
    exact ⟨rfl, HP.out⟩
  | some x =>
    dsimp only
    cases hk : handle g th o.k with
    | none =>
      dsimp only
      have cC := box_cell hC
      have HH := Lib.hid (handle_yes (hW.ext ((Ext.refl w).drew)) hth hh)
      obtain ⟨na, nc, sa, sc, hb, hs⟩ := hW
      have c4 : w.cell? ⟨B, 4, none⟩ = some (.int .i64 o.h) := hb.cell (i := 4) rfl
      have hS0 : w.drew.cell? ⟨C, 0, none⟩ = some (.pointer (some ⟨B, 0, none⟩)) ∧ w.drew.cell? ⟨B, 4, none⟩ = some (.int .i64 o.h) := ⟨cC, c4⟩
      clear hb hs hr hp
      go_enter Try.func59, Try.ntmps59
      go_wp2_with fail
      refine wp_region_noPanic ?_
      refine Rt.begin_ (fun W : World => W.cell? ⟨C, 0, none⟩ = some (.pointer (some ⟨B, 0, none⟩)) ∧ W.cell? ⟨B, 4, none⟩ = some (.int .i64 o.h)) (fun i => i == 6) (by kernel_rfl) ?_
      simp only [List.length_cons, List.length_nil, Nat.reduceAdd, Array.replicate_succ, Array.replicate_zero]
      refine Rt.take 0 (v := ?_) rfl (by kernel_rfl) (fun _ _ _ h => h) rfl ?_ hS0 ?_
      rotate_left
      · (intro W hSW; (try dsimp only at hSW); go_simp; try with_reducible rfl)
      try simp only [Act.put, List.setIfInBounds_toArray, List.set_cons_zero, List.set_cons_succ]
      refine Rt.take 1 (v := ?_) rfl (by kernel_rfl) (fun _ _ _ h => h) rfl ?_ hS0 ?_
      rotate_left
      · (intro W hSW; (try dsimp only at hSW); go_simp; try with_reducible rfl)
      try simp only [Act.put, List.setIfInBounds_toArray, List.set_cons_zero, List.set_cons_succ]
      refine Rt.takeW 2 (v := ?_) rfl (by kernel_rfl) (fun _ _ _ h => h) rfl ?_ ?_
      rotate_left
      · (intro W; go_simp; try with_reducible rfl)
      try simp only [Act.put, List.setIfInBounds_toArray, List.set_cons_zero, List.set_cons_succ]
      refine Rt.takeW 3 (v := ?_) rfl (by kernel_rfl) (fun _ _ _ h => h) rfl ?_ ?_
      rotate_left
      · (intro W; go_simp; try with_reducible rfl)
      try simp only [Act.put, List.setIfInBounds_toArray, List.set_cons_zero, List.set_cons_succ]
      refine Rt.takeW 4 (v := ?_) rfl (by kernel_rfl) (fun _ _ _ h => h) rfl ?_ ?_
      rotate_left
      · (intro W; go_simp; try with_reducible rfl)
      try simp only [Act.put, List.setIfInBounds_toArray, List.set_cons_zero, List.set_cons_succ]
      refine Rt.take 5 (v := ?_) rfl (by kernel_rfl) (fun _ _ _ h => h) rfl ?_ hS0 ?_
      rotate_left
      · (intro W hSW; (try dsimp only at hSW); go_simp; try with_reducible rfl)
      try simp only [Act.put, List.setIfInBounds_toArray, List.set_cons_zero, List.set_cons_succ]
      refine Rt.step 6 rfl (by kernel_rfl) rfl (fun K hK => ?_)
      go_simp
      refine HH.out.mono ?_; rintro r w2 ⟨rfl, hp2⟩
      refine hK _ _ ⟨.inl rfl, ?_⟩
      clear hK K
      try simp only [Act.put, List.setIfInBounds_toArray, List.set_cons_zero, List.set_cons_succ]
      refine Rt.takeW 7 (v := ?_) rfl (by kernel_rfl) (fun _ _ _ h => h) rfl ?_ ?_
      rotate_left
      · (intro W; go_simp; try with_reducible rfl)
      try simp only [Act.put, List.setIfInBounds_toArray, List.set_cons_zero, List.set_cons_succ]
      refine Rt.takeW 8 (v := ?_) rfl (by kernel_rfl) (fun _ _ _ h => h) rfl ?_ ?_
      rotate_left
      · (intro W; go_simp; try with_reducible rfl)
      try simp only [Act.put, List.setIfInBounds_toArray, List.set_cons_zero, List.set_cons_succ]
      refine Rt.takeW 9 (v := ?_) rfl (by kernel_rfl) (fun _ _ _ h => h) rfl ?_ ?_
      rotate_left
      · (intro W; go_simp; try with_reducible rfl)
      try simp only [Act.put, List.setIfInBounds_toArray, List.set_cons_zero, List.set_cons_succ]
      refine Rt.takeW 10 (v := ?_) rfl (by kernel_rfl) (fun _ _ _ h => h) rfl ?_ ?_
      rotate_left
      · (intro W; go_simp; try with_reducible rfl)
      try simp only [Act.put, List.setIfInBounds_toArray, List.set_cons_zero, List.set_cons_succ]
      refine Rt.takeW 11 (v := ?_) rfl (by kernel_rfl) (fun _ _ _ h => h) rfl ?_ ?_
      rotate_left
      · (intro W; go_simp; try with_reducible rfl)
      try simp only [Act.put, List.setIfInBounds_toArray, List.set_cons_zero, List.set_cons_succ]
      refine Rt.done (by kernel_rfl) ?_
      refine NoPanic.normal ?_
      obtain ⟨hW2, hg2⟩ := hp2
      have hCC := Lib.hid (box_kept (hC.ext ((Ext.refl w).drew)) hCB hg2)
      have cC2 := box_cell hCC.out
      have HH2 := Lib.hid (handle_no (hW2.ext ((Ext.refl w2).drew)) hth hk)
      have HG2 := Lib.hid ((grown_of_ext ((Ext.refl w).drew) (some B)).trans hg2)
      obtain ⟨na2, nc2, sa2, sc2, hb2, hs2⟩ := hW2
      have c6 : w2.cell? ⟨B, 6, none⟩ = some (.int .i64 o.k) := hb2.cell (i := 6) rfl
      have hS2 : w2.drew.cell? ⟨C, 0, none⟩ = some (.pointer (some ⟨B, 0, none⟩)) ∧ w2.drew.cell? ⟨B, 6, none⟩ = some (.int .i64 o.k) := ⟨cC2, c6⟩
      clear hg2 hb2 hs2
      go_wp2_with fail
      refine wp_region_noPanic ?_
      refine Rt.begin_ (fun W : World => W.cell? ⟨C, 0, none⟩ = some (.pointer (some ⟨B, 0, none⟩)) ∧ W.cell? ⟨B, 6, none⟩ = some (.int .i64 o.k)) (fun i => i == 6) (by kernel_rfl) ?_
      simp only [List.length_cons, List.length_nil, Nat.reduceAdd, Array.replicate_succ, Array.replicate_zero]
      refine Rt.take 0 (v := ?_) rfl (by kernel_rfl) (fun _ _ _ h => h) rfl ?_ hS2 ?_
      rotate_left
      · (intro W hSW; (try dsimp only at hSW); go_simp; try with_reducible rfl)
      try simp only [Act.put, List.setIfInBounds_toArray, List.set_cons_zero, List.set_cons_succ]
      refine Rt.take 1 (v := ?_) rfl (by kernel_rfl) (fun _ _ _ h => h) rfl ?_ hS2 ?_
      rotate_left
      · (intro W hSW; (try dsimp only at hSW); go_simp; try with_reducible rfl)
      try simp only [Act.put, List.setIfInBounds_toArray, List.set_cons_zero, List.set_cons_succ]
      refine Rt.takeW 2 (v := ?_) rfl (by kernel_rfl) (fun _ _ _ h => h) rfl ?_ ?_
      rotate_left
      · (intro W; go_simp; try with_reducible rfl)
      try simp only [Act.put, List.setIfInBounds_toArray, List.set_cons_zero, List.set_cons_succ]
      refine Rt.takeW 3 (v := ?_) rfl (by kernel_rfl) (fun _ _ _ h => h) rfl ?_ ?_
      rotate_left
      · (intro W; go_simp; try with_reducible rfl)
      try simp only [Act.put, List.setIfInBounds_toArray, List.set_cons_zero, List.set_cons_succ]
      refine Rt.takeW 4 (v := ?_) rfl (by kernel_rfl) (fun _ _ _ h => h) rfl ?_ ?_
      rotate_left
      · (intro W; go_simp; try with_reducible rfl)
      try simp only [Act.put, List.setIfInBounds_toArray, List.set_cons_zero, List.set_cons_succ]
      refine Rt.take 5 (v := ?_) rfl (by kernel_rfl) (fun _ _ _ h => h) rfl ?_ hS2 ?_
      rotate_left
      · (intro W hSW; (try dsimp only at hSW); go_simp; try with_reducible rfl)
      try simp only [Act.put, List.setIfInBounds_toArray, List.set_cons_zero, List.set_cons_succ]
      refine Rt.step 6 rfl (by kernel_rfl) rfl (fun K hK => ?_)
      go_simp
      refine HH2.out.mono ?_; rintro r w3 ⟨rfl, hp3⟩
      refine hK _ _ ⟨.inl rfl, ?_⟩
      clear hK K
      try simp only [Act.put, List.setIfInBounds_toArray, List.set_cons_zero, List.set_cons_succ]
      refine Rt.takeW 7 (v := ?_) rfl (by kernel_rfl) (fun _ _ _ h => h) rfl ?_ ?_
      rotate_left
      · (intro W; go_simp; try with_reducible rfl)
      try simp only [Act.put, List.setIfInBounds_toArray, List.set_cons_zero, List.set_cons_succ]
      refine Rt.takeW 8 (v := ?_) rfl (by kernel_rfl) (fun _ _ _ h => h) rfl ?_ ?_
      rotate_left
      · (intro W; go_simp; try with_reducible rfl)
      try simp only [Act.put, List.setIfInBounds_toArray, List.set_cons_zero, List.set_cons_succ]
      refine Rt.takeW 9 (v := ?_) rfl (by kernel_rfl) (fun _ _ _ h => h) rfl ?_ ?_
      rotate_left
      · (intro W; go_simp; try with_reducible rfl)
      try simp only [Act.put, List.setIfInBounds_toArray, List.set_cons_zero, List.set_cons_succ]
      refine Rt.takeW 10 (v := ?_) rfl (by kernel_rfl) (fun _ _ _ h => h) rfl ?_ ?_
      rotate_left
      · (intro W; go_simp; try with_reducible rfl)
      try simp only [Act.put, List.setIfInBounds_toArray, List.set_cons_zero, List.set_cons_succ]
      refine Rt.takeW 11 (v := ?_) rfl (by kernel_rfl) (fun _ _ _ h => h) rfl ?_ ?_
      rotate_left
      · (intro W; go_simp; try with_reducible rfl)
      try simp only [Act.put, List.setIfInBounds_toArray, List.set_cons_zero, List.set_cons_succ]
      refine Rt.done (by kernel_rfl) ?_
      refine NoPanic.normal ?_
      have HP := Lib.hid (Pw.trans (g := g) (a := a0) (HG2.out.trans (grown_of_ext ((Ext.refl w2).drew) _)) hp3)
      clear hp3
      go_wp2_with fail
      (first | go_end0 | ((try simp only [Exit.inBlock, Exit.then]); refine bodyPost_ret (results_none rfl _ _ _) rfl ?_))
      exact ⟨rfl, HP.out⟩
    | some y =>
      dsimp only
      have cC := box_cell hC
      have HH := Lib.hid (handle_yes (hW.ext ((Ext.refl w).drew)) hth hh)
      obtain ⟨na, nc, sa, sc, hb, hs⟩ := hW
      have c4 : w.cell? ⟨B, 4, none⟩ = some (.int .i64 o.h) := hb.cell (i := 4) rfl
      have hS0 : w.drew.cell? ⟨C, 0, none⟩ = some (.pointer (some ⟨B, 0, none⟩)) ∧ w.drew.cell? ⟨B, 4, none⟩ = some (.int .i64 o.h) := ⟨cC, c4⟩
      clear hb hs hr hp
      go_enter Try.func59, Try.ntmps59
      go_wp2_with fail
      refine wp_region_noPanic ?_
      refine Rt.begin_ (fun W : World => W.cell? ⟨C, 0, none⟩ = some (.pointer (some ⟨B, 0, none⟩)) ∧ W.cell? ⟨B, 4, none⟩ = some (.int .i64 o.h)) (fun i => i == 6) (by kernel_rfl) ?_
      simp only [List.length_cons, List.length_nil, Nat.reduceAdd, Array.replicate_succ, Array.replicate_zero]
      refine Rt.take 0 (v := ?_) rfl (by kernel_rfl) (fun _ _ _ h => h) rfl ?_ hS0 ?_
      rotate_left
      · (intro W hSW; (try dsimp only at hSW); go_simp; try with_reducible rfl)
      try simp only [Act.put, List.setIfInBounds_toArray, List.set_cons_zero, List.set_cons_succ]
      refine Rt.take 1 (v := ?_) rfl (by kernel_rfl) (fun _ _ _ h => h) rfl ?_ hS0 ?_
      rotate_left
      · (intro W hSW; (try dsimp only at hSW); go_simp; try with_reducible rfl)
      try simp only [Act.put, List.setIfInBounds_toArray, List.set_cons_zero, List.set_cons_succ]
      refine Rt.takeW 2 (v := ?_) rfl (by kernel_rfl) (fun _ _ _ h => h) rfl ?_ ?_
      rotate_left
      · (intro W; go_simp; try with_reducible rfl)
      try simp only [Act.put, List.setIfInBounds_toArray, List.set_cons_zero, List.set_cons_succ]
      refine Rt.takeW 3 (v := ?_) rfl (by kernel_rfl) (fun _ _ _ h => h) rfl ?_ ?_
      rotate_left
      · (intro W; go_simp; try with_reducible rfl)
      try simp only [Act.put, List.setIfInBounds_toArray, List.set_cons_zero, List.set_cons_succ]
      refine Rt.takeW 4 (v := ?_) rfl (by kernel_rfl) (fun _ _ _ h => h) rfl ?_ ?_
      rotate_left
      · (intro W; go_simp; try with_reducible rfl)
      try simp only [Act.put, List.setIfInBounds_toArray, List.set_cons_zero, List.set_cons_succ]
      refine Rt.take 5 (v := ?_) rfl (by kernel_rfl) (fun _ _ _ h => h) rfl ?_ hS0 ?_
      rotate_left
      · (intro W hSW; (try dsimp only at hSW); go_simp; try with_reducible rfl)
      try simp only [Act.put, List.setIfInBounds_toArray, List.set_cons_zero, List.set_cons_succ]
      refine Rt.step 6 rfl (by kernel_rfl) rfl (fun K hK => ?_)
      go_simp
      refine HH.out.mono ?_; rintro r w2 ⟨rfl, hp2⟩
      refine hK _ _ ⟨.inl rfl, ?_⟩
      clear hK K
      try simp only [Act.put, List.setIfInBounds_toArray, List.set_cons_zero, List.set_cons_succ]
      refine Rt.takeW 7 (v := ?_) rfl (by kernel_rfl) (fun _ _ _ h => h) rfl ?_ ?_
      rotate_left
      · (intro W; go_simp; try with_reducible rfl)
      try simp only [Act.put, List.setIfInBounds_toArray, List.set_cons_zero, List.set_cons_succ]
      refine Rt.takeW 8 (v := ?_) rfl (by kernel_rfl) (fun _ _ _ h => h) rfl ?_ ?_
      rotate_left
      · (intro W; go_simp; try with_reducible rfl)
      try simp only [Act.put, List.setIfInBounds_toArray, List.set_cons_zero, List.set_cons_succ]
      refine Rt.takeW 9 (v := ?_) rfl (by kernel_rfl) (fun _ _ _ h => h) rfl ?_ ?_
      rotate_left
      · (intro W; go_simp; try with_reducible rfl)
      try simp only [Act.put, List.setIfInBounds_toArray, List.set_cons_zero, List.set_cons_succ]
      refine Rt.takeW 10 (v := ?_) rfl (by kernel_rfl) (fun _ _ _ h => h) rfl ?_ ?_
      rotate_left
      · (intro W; go_simp; try with_reducible rfl)
      try simp only [Act.put, List.setIfInBounds_toArray, List.set_cons_zero, List.set_cons_succ]
      refine Rt.takeW 11 (v := ?_) rfl (by kernel_rfl) (fun _ _ _ h => h) rfl ?_ ?_
      rotate_left
      · (intro W; go_simp; try with_reducible rfl)
      try simp only [Act.put, List.setIfInBounds_toArray, List.set_cons_zero, List.set_cons_succ]
      refine Rt.done (by kernel_rfl) ?_
      refine NoPanic.normal ?_
      obtain ⟨hW2, hg2⟩ := hp2
      have hCC := Lib.hid (box_kept (hC.ext ((Ext.refl w).drew)) hCB hg2)
      have cC2 := box_cell hCC.out
      have HH2 := Lib.hid (handle_yes (hW2.ext ((Ext.refl w2).drew)) hth hk)
      have HG2 := Lib.hid ((grown_of_ext ((Ext.refl w).drew) (some B)).trans hg2)
      obtain ⟨na2, nc2, sa2, sc2, hb2, hs2⟩ := hW2
      have c6 : w2.cell? ⟨B, 6, none⟩ = some (.int .i64 o.k) := hb2.cell (i := 6) rfl
      have hS2 : w2.drew.cell? ⟨C, 0, none⟩ = some (.pointer (some ⟨B, 0, none⟩)) ∧ w2.drew.cell? ⟨B, 6, none⟩ = some (.int .i64 o.k) := ⟨cC2, c6⟩
      clear hg2 hb2 hs2
      go_wp2_with fail
      refine wp_region_noPanic ?_
      refine Rt.begin_ (fun W : World => W.cell? ⟨C, 0, none⟩ = some (.pointer (some ⟨B, 0, none⟩)) ∧ W.cell? ⟨B, 6, none⟩ = some (.int .i64 o.k)) (fun i => i == 6) (by kernel_rfl) ?_
      simp only [List.length_cons, List.length_nil, Nat.reduceAdd, Array.replicate_succ, Array.replicate_zero]
      refine Rt.take 0 (v := ?_) rfl (by kernel_rfl) (fun _ _ _ h => h) rfl ?_ hS2 ?_
      rotate_left
      · (intro W hSW; (try dsimp only at hSW); go_simp; try with_reducible rfl)
      try simp only [Act.put, List.setIfInBounds_toArray, List.set_cons_zero, List.set_cons_succ]
      refine Rt.take 1 (v := ?_) rfl (by kernel_rfl) (fun _ _ _ h => h) rfl ?_ hS2 ?_
      rotate_left
      · (intro W hSW; (try dsimp only at hSW); go_simp; try with_reducible rfl)
      try simp only [Act.put, List.setIfInBounds_toArray, List.set_cons_zero, List.set_cons_succ]
      refine Rt.takeW 2 (v := ?_) rfl (by kernel_rfl) (fun _ _ _ h => h) rfl ?_ ?_
      rotate_left
      · (intro W; go_simp; try with_reducible rfl)
      try simp only [Act.put, List.setIfInBounds_toArray, List.set_cons_zero, List.set_cons_succ]
      refine Rt.takeW 3 (v := ?_) rfl (by kernel_rfl) (fun _ _ _ h => h) rfl ?_ ?_
      rotate_left
      · (intro W; go_simp; try with_reducible rfl)
      try simp only [Act.put, List.setIfInBounds_toArray, List.set_cons_zero, List.set_cons_succ]
      refine Rt.takeW 4 (v := ?_) rfl (by kernel_rfl) (fun _ _ _ h => h) rfl ?_ ?_
      rotate_left
      · (intro W; go_simp; try with_reducible rfl)
      try simp only [Act.put, List.setIfInBounds_toArray, List.set_cons_zero, List.set_cons_succ]
      refine Rt.take 5 (v := ?_) rfl (by kernel_rfl) (fun _ _ _ h => h) rfl ?_ hS2 ?_
      rotate_left
      · (intro W hSW; (try dsimp only at hSW); go_simp; try with_reducible rfl)
      try simp only [Act.put, List.setIfInBounds_toArray, List.set_cons_zero, List.set_cons_succ]
      refine Rt.step 6 rfl (by kernel_rfl) rfl (fun K hK => ?_)
      go_simp
      refine HH2.out.mono ?_; rintro r w3 ⟨rfl, hp3⟩
      refine hK _ _ ⟨.inl rfl, ?_⟩
      clear hK K
      try simp only [Act.put, List.setIfInBounds_toArray, List.set_cons_zero, List.set_cons_succ]
      refine Rt.takeW 7 (v := ?_) rfl (by kernel_rfl) (fun _ _ _ h => h) rfl ?_ ?_
      rotate_left
      · (intro W; go_simp; try with_reducible rfl)
      try simp only [Act.put, List.setIfInBounds_toArray, List.set_cons_zero, List.set_cons_succ]
      refine Rt.takeW 8 (v := ?_) rfl (by kernel_rfl) (fun _ _ _ h => h) rfl ?_ ?_
      rotate_left
      · (intro W; go_simp; try with_reducible rfl)
      try simp only [Act.put, List.setIfInBounds_toArray, List.set_cons_zero, List.set_cons_succ]
      refine Rt.takeW 9 (v := ?_) rfl (by kernel_rfl) (fun _ _ _ h => h) rfl ?_ ?_
      rotate_left
      · (intro W; go_simp; try with_reducible rfl)
      try simp only [Act.put, List.setIfInBounds_toArray, List.set_cons_zero, List.set_cons_succ]
      refine Rt.takeW 10 (v := ?_) rfl (by kernel_rfl) (fun _ _ _ h => h) rfl ?_ ?_
      rotate_left
      · (intro W; go_simp; try with_reducible rfl)
      try simp only [Act.put, List.setIfInBounds_toArray, List.set_cons_zero, List.set_cons_succ]
      refine Rt.takeW 11 (v := ?_) rfl (by kernel_rfl) (fun _ _ _ h => h) rfl ?_ ?_
      rotate_left
      · (intro W; go_simp; try with_reducible rfl)
      try simp only [Act.put, List.setIfInBounds_toArray, List.set_cons_zero, List.set_cons_succ]
      refine Rt.done (by kernel_rfl) ?_
      refine NoPanic.normal ?_
      obtain ⟨hW3, hg3⟩ := hp3
      have hC3 := box_kept (hCC.out.ext ((Ext.refl w2).drew)) hCB hg3
      have cC3 := box_cell hC3
      obtain ⟨na3, nc3, sa3, sc3, hb3, hs3⟩ := hW3
      have k13 : w3.cell? ⟨B, 13, none⟩ = some (.bool false) := hb3.cell (i := 13) rfl
      have f13 := hb3.free 13
      have HFin : Hid (∀ b, Pw B w g th o (0, 0, b) (w3.setCell ⟨B, 13, none⟩ (.bool b))) := fun b =>
        ⟨⟨na3, nc3, sa3, sc3, hb3.set 13 _, hs3.step (grown_set _ _ _ _)⟩, ((HG2.out.trans (grown_of_ext ((Ext.refl w2).drew) _)).trans hg3).trans (grown_set _ _ _ _)⟩
      have hbd : decide (x = y) = (x == y) := by by_cases h : x = y <;> simp [h]
      have HBD := Lib.hid hbd
      clear hb3 hs3 hg3 hC3 hbd
      obtain ⟨bxy, hbxy⟩ : ∃ b, (x == y) = b := ⟨_, rfl⟩
      have HBX := Lib.hid hbxy
      cases bxy
      all_goals
        go_wp2_with fail
        (first | go_end0 | ((try simp only [Exit.inBlock, Exit.then]); refine bodyPost_ret (results_none rfl _ _ _) rfl ?_))
        refine ⟨rfl, ?_⟩
        rw [HBD.out, HBX.out]
        exact HFin.out _

set_option maxHeartbeats 8000000 in
theorem pop_act (B C : Nat) (g : Gph) (th : Nat) (o : Opn) (w : World) (hW : Wk B w g th o a0) (hC : Blk w C #[.pointer (some ⟨B, 0, none⟩)] 59) (hCB : C ≠ B) (hth : th < g.2.length) (hr : rightG g = true) (hp : posG g) :
    Calls Try.prog 61 #[.pointer (some ⟨C, 0, none⟩)] w fun r w' => r = .returned (.tuple #[]) ∧ Done B w g th o (actPop g th) w' := by
  have HW := Lib.hid hW
  have cC := box_cell hC
  obtain ⟨na, nc, sa, sc, hb, hs⟩ := hW
  have c1 : w.cell? ⟨B, 1, none⟩ = some (.slice sa g.2.length sc) := hb.cell (i := 1) rfl
  have c2 : w.cell? ⟨B, 2, none⟩ = some (.int .i64 th) := hb.cell (i := 2) rfl
  have mlen := hs.here.2.len uS
  have msm := hs.here.2.small
  obtain ⟨p, ua, uc, hp0, hpc, hS⟩ := hs.2.at_ th hth
  replace hS : St B w (fun W => Sl .i64 W (.slice ua (rowOf g th).length uc) (rowOf g th)) := hS
  replace hpc : w.cell? p = some (.slice ua (rowOf g th).length uc) := hpc
  have husm : ((rowOf g th).length : Int) ≤ 140737488355328 := hS.here.small
  have HB := Lib.hid hb
  have HGS := Lib.hid hs
  have HTH := Lib.hid hth
  have HC := Lib.hid hC
  have HS := Lib.hid hS
  clear hb hs hS hC hr hp
  unfold actPop
  by_cases hz : (rowOf g th).length = 0
  · rw [if_pos hz]
    rw [hz] at hpc
    clear hz husm
    go_enter Try.func61, Try.ntmps61
    go_wp2_with fail
    go_quiet (fail)
    go_wp2_with fail
    with_reducible refine (no_any B g th o a0 9 _ (HW.out.ext ((Ext.refl w).drewN _))).mono ?_
    rintro r w1 ⟨rfl, hp1⟩
    have HP := Lib.hid (Pw.trans (g := g) (a := a0) (grown_of_ext ((Ext.refl w).drewN _) _) hp1)
    clear hp1
    go_wp2_with fail
    (first | go_end0 | ((try simp only [Exit.inBlock, Exit.then]); refine bodyPost_ret (results_none rfl _ _ _) rfl ?_))
    exact ⟨rfl, HP.out⟩
  · rw [if_neg hz]
    obtain ⟨k, hk⟩ : ∃ k, (rowOf g th).length = k + 1 := ⟨(rowOf g th).length - 1, by omega⟩
    have HK1 := Lib.hid hk
    rw [hk] at hpc
    have hks : (k : Int) + 1 ≤ 140737488355328 := by rw [hk] at husm; omega
    have hq0 : ((k : Int) + 1 == 0) = false := beq_eq_false_iff_ne.2 (by omega)
    have hqw : IntKind.i64.wrap ((k : Int) + 1 - 1) = (k : Int) := by rw [IntKind.wrap_i64]; omega
    have hqw2 : IntKind.i64.wrap (k : Int) = (k : Int) := by rw [IntKind.wrap_i64]; omega
    obtain ⟨u, hsl, hSu, ul, uul, hform⟩ := popped HS.out hk
    subst hform
    rw [hk] at hsl
    clear hz hk husm
    go_enter Try.func61, Try.ntmps61
    go_wp2_with fail
    go_quiet (fail)
    go_wp2_with fail
    obtain ⟨wq, hwq⟩ : ∃ wq, wq = w.drewN nq := ⟨_, rfl⟩
    have hxq : Ext w wq := hwq ▸ (Ext.refl w).drewN _
    rw [← hwq]
    clear hwq
    have hbq := HB.out.ext hxq
    have hGq := HGS.out.step (grown_of_ext hxq (some B))
    replace c1 := hxq.cell c1
    replace c2 := hxq.cell c2
    replace cC := hxq.cell cC
    replace hpc := hxq.cell hpc
    have HCall := Lib.hid (with_row B (.slice sa g.2.length sc) ul k uul g.2 th (rowOf g th).dropLast wq.drew (Blk.ext hbq ((Ext.refl wq).drew)).lt (hGq.2.step (grown_of_ext ((Ext.refl wq).drew) _)) (hSu.ext (hxq.trans ((Ext.refl wq).drew))) HTH.out)
    have hS0 : wq.drew.cell? ⟨C, 0, none⟩ = some (.pointer (some ⟨B, 0, none⟩)) ∧ wq.drew.cell? ⟨B, 1, none⟩ = some (.slice sa g.2.length sc) ∧ wq.drew.cell? ⟨B, 2, none⟩ = some (.int .i64 th) := ⟨cC, c1, c2⟩
    have HB2 := Lib.hid (Blk.ext hbq ((Ext.refl wq).drew))
    have HFin : Hid (∀ w3 a3 c3, Ext wq.drew w3 → MaS B w3 (.slice a3 g.2.length c3) (g.2.set th (rowOf g th).dropLast) → Pw B w (popG g th) th o a0 (w3.setCell ⟨B, 1, none⟩ (.slice a3 g.2.length c3))) := fun w3 a3 c3 hx3 hM => by
      have hx : Ext w w3 := hxq.trans (((Ext.refl wq).drew).trans hx3)
      have e : (popG g th).2.length = g.2.length := by simp [popG]
      refine ⟨⟨na, nc, a3, c3, ?_, ((HGS.out.1.step (grown_of_ext hx _)).step (grown_set _ _ _ _)), ?_⟩, (grown_of_ext hx _).trans (grown_set _ _ _ _)⟩
      · rw [e]; exact (HB.out.ext hx).set 1 _
      · rw [e]; exact hM.step (grown_set _ _ _ _)
    clear hbq hGq hSu hxq
    refine wp_region_noPanic ?_
    refine Rt.begin_ (fun W : World => W.cell? ⟨C, 0, none⟩ = some (.pointer (some ⟨B, 0, none⟩)) ∧ W.cell? ⟨B, 1, none⟩ = some (.slice sa g.2.length sc) ∧ W.cell? ⟨B, 2, none⟩ = some (.int .i64 th)) (fun i => i == 22) (by kernel_rfl) ?_
    simp only [List.length_cons, List.length_nil, Nat.reduceAdd, Array.replicate_succ, Array.replicate_zero]
    refine Rt.take 0 (v := ?_) rfl (by kernel_rfl) (fun _ _ _ h => h) rfl ?_ hS0 ?_
    rotate_left
    · (intro W hSW; (try dsimp only at hSW); go_simp; try with_reducible rfl)
    try simp only [Act.put, List.setIfInBounds_toArray, List.set_cons_zero, List.set_cons_succ]
    refine Rt.take 1 (v := ?_) rfl (by kernel_rfl) (fun _ _ _ h => h) rfl ?_ hS0 ?_
    rotate_left
    · (intro W hSW; (try dsimp only at hSW); go_simp; try with_reducible rfl)
    try simp only [Act.put, List.setIfInBounds_toArray, List.set_cons_zero, List.set_cons_succ]
    refine Rt.takeW 2 (v := ?_) rfl (by kernel_rfl) (fun _ _ _ h => h) rfl ?_ ?_
    rotate_left
    · (intro W; go_simp; try with_reducible rfl)
    try simp only [Act.put, List.setIfInBounds_toArray, List.set_cons_zero, List.set_cons_succ]
    refine Rt.takeW 3 (v := ?_) rfl (by kernel_rfl) (fun _ _ _ h => h) rfl ?_ ?_
    rotate_left
    · (intro W; go_simp; try with_reducible rfl)
    try simp only [Act.put, List.setIfInBounds_toArray, List.set_cons_zero, List.set_cons_succ]
    refine Rt.takeW 4 (v := ?_) rfl (by kernel_rfl) (fun _ _ _ h => h) rfl ?_ ?_
    rotate_left
    · (intro W; go_simp; try with_reducible rfl)
    try simp only [Act.put, List.setIfInBounds_toArray, List.set_cons_zero, List.set_cons_succ]
    refine Rt.take 5 (v := ?_) rfl (by kernel_rfl) (fun _ _ _ h => h) rfl ?_ hS0 ?_
    rotate_left
    · (intro W hSW; (try dsimp only at hSW); go_simp; try with_reducible rfl)
    try simp only [Act.put, List.setIfInBounds_toArray, List.set_cons_zero, List.set_cons_succ]
    refine Rt.take 6 (v := ?_) rfl (by kernel_rfl) (fun _ _ _ h => h) rfl ?_ hS0 ?_
    rotate_left
    · (intro W hSW; (try dsimp only at hSW); go_simp; try with_reducible rfl)
    try simp only [Act.put, List.setIfInBounds_toArray, List.set_cons_zero, List.set_cons_succ]
    refine Rt.takeW 7 (v := ?_) rfl (by kernel_rfl) (fun _ _ _ h => h) rfl ?_ ?_
    rotate_left
    · (intro W; go_simp; try with_reducible rfl)
    try simp only [Act.put, List.setIfInBounds_toArray, List.set_cons_zero, List.set_cons_succ]
    refine Rt.takeW 8 (v := ?_) rfl (by kernel_rfl) (fun _ _ _ h => h) rfl ?_ ?_
    rotate_left
    · (intro W; go_simp; try with_reducible rfl)
    try simp only [Act.put, List.setIfInBounds_toArray, List.set_cons_zero, List.set_cons_succ]
    refine Rt.take 9 (v := ?_) rfl (by kernel_rfl) (fun _ _ _ h => h) rfl ?_ hS0 ?_
    rotate_left
    · (intro W hSW; (try dsimp only at hSW); go_simp; try with_reducible rfl)
    try simp only [Act.put, List.setIfInBounds_toArray, List.set_cons_zero, List.set_cons_succ]
    refine Rt.takeW 10 (v := ?_) rfl (by kernel_rfl) (fun _ _ _ h => h) rfl ?_ ?_
    rotate_left
    · (intro W; go_simp; try with_reducible rfl)
    try simp only [Act.put, List.setIfInBounds_toArray, List.set_cons_zero, List.set_cons_succ]
    refine Rt.takeW 11 (v := ?_) rfl (by kernel_rfl) (fun _ _ _ h => h) rfl ?_ ?_
    rotate_left
    · (intro W; go_simp; try with_reducible rfl)
    try simp only [Act.put, List.setIfInBounds_toArray, List.set_cons_zero, List.set_cons_succ]
    refine Rt.takeW 12 (v := ?_) rfl (by kernel_rfl) (fun _ _ _ h => h) rfl ?_ ?_
    rotate_left
    · (intro W; go_simp; try with_reducible rfl)
    try simp only [Act.put, List.setIfInBounds_toArray, List.set_cons_zero, List.set_cons_succ]
    refine Rt.takeW 13 (v := ?_) rfl (by kernel_rfl) (fun _ _ _ h => h) rfl ?_ ?_
    rotate_left
    · (intro W; go_simp; try with_reducible rfl)
    try simp only [Act.put, List.setIfInBounds_toArray, List.set_cons_zero, List.set_cons_succ]
    refine Rt.takeW 14 (v := ?_) rfl (by kernel_rfl) (fun _ _ _ h => h) rfl ?_ ?_
    rotate_left
    · (intro W; go_simp; try with_reducible rfl)
    try simp only [Act.put, List.setIfInBounds_toArray, List.set_cons_zero, List.set_cons_succ]
    refine Rt.takeW 15 (v := ?_) rfl (by kernel_rfl) (fun _ _ _ h => h) rfl ?_ ?_
    rotate_left
    · (intro W; go_simp; try with_reducible rfl)
    try simp only [Act.put, List.setIfInBounds_toArray, List.set_cons_zero, List.set_cons_succ]
    refine Rt.takeW 16 (v := ?_) rfl (by kernel_rfl) (fun _ _ _ h => h) rfl ?_ ?_
    rotate_left
    · (intro W; go_simp; try with_reducible rfl)
    try simp only [Act.put, List.setIfInBounds_toArray, List.set_cons_zero, List.set_cons_succ]
    refine Rt.takeW 17 (v := ?_) rfl (by kernel_rfl) (fun _ _ _ h => h) rfl ?_ ?_
    rotate_left
    · (intro W; go_simp; try with_reducible rfl)
    try simp only [Act.put, List.setIfInBounds_toArray, List.set_cons_zero, List.set_cons_succ]
    refine Rt.step 18 rfl (by kernel_rfl) rfl (fun K hK => ?_)
    go_simp
    refine HCall.out.mono ?_; rintro r w3 ⟨a3, c3, rfl, hM3, hx3⟩
    have k3 : w3.cell? ⟨B, 1, none⟩ = some (.slice sa g.2.length sc) := (HB2.out.ext hx3).cell (i := 1) rfl
    have f3 := (HB2.out.ext hx3).free 1
    refine hK _ _ ⟨.inr fun h => ⟨hx3.cell hS0.1, hx3.cell hS0.2.1, hx3.cell hS0.2.2⟩, ?_⟩
    clear hK K
    try simp only [Act.put, List.setIfInBounds_toArray, List.set_cons_zero, List.set_cons_succ]
    refine Rt.takeW 19 (v := ?_) rfl (by kernel_rfl) (fun _ _ _ h => h) rfl ?_ ?_
    rotate_left
    · (intro W; go_simp; try with_reducible rfl)
    try simp only [Act.put, List.setIfInBounds_toArray, List.set_cons_zero, List.set_cons_succ]
    refine Rt.takeW 20 (v := ?_) rfl (by kernel_rfl) (fun _ _ _ h => h) rfl ?_ ?_
    rotate_left
    · (intro W; go_simp; try with_reducible rfl)
    try simp only [Act.put, List.setIfInBounds_toArray, List.set_cons_zero, List.set_cons_succ]
    refine Rt.takeW 21 (v := ?_) rfl (by kernel_rfl) (fun _ _ _ h => h) rfl ?_ ?_
    rotate_left
    · (intro W; go_simp; try with_reducible rfl)
    try simp only [Act.put, List.setIfInBounds_toArray, List.set_cons_zero, List.set_cons_succ]
    refine Rt.step 22 rfl (by kernel_rfl) rfl (fun K hK => ?_)
    go_simp
    refine hK _ _ ⟨.inl rfl, ?_⟩
    clear hK K
    try simp only [Act.put, List.setIfInBounds_toArray, List.set_cons_zero, List.set_cons_succ]
    refine Rt.done (by kernel_rfl) ?_
    refine NoPanic.normal ?_
    have HP := Lib.hid (HFin.out _ _ _ hx3 hM3)
    clear hx3 hM3 k3 f3
    go_wp2_with fail
    (first | go_end0 | ((try simp only [Exit.inBlock, Exit.then]); refine bodyPost_ret (results_none rfl _ _ _) rfl ?_))
    exact ⟨rfl, HP.out⟩

theorem nothing_any (w : World) : Calls Try.prog 64 #[] w fun r w' => r = .returned (.tuple #[]) ∧ w = w' := by
  go_enter Try.func64, Try.ntmps64
  go_wp2_with fail
  (first | go_end0 | ((try simp only [Exit.inBlock, Exit.then]); refine bodyPost_ret (results_none rfl _ _ _) rfl ?_))
  exact ⟨rfl, rfl⟩
end Go.Proofs.Ytjhmlbhfnogdiaa.Wd
