/- What may be done on the graph that goes on: a field is written, got, followed, linked; handles are compared, pushed, popped. -/
import Derived.Test.YtjhmlbhfnogdiaaWa
import Derived.Test.YtjhmlbhfnogdiaaNg
namespace Go.Proofs.Ytjhmlbhfnogdiaa.Wc
open Go.RowKit
open Go.Proofs.Ytjhmlbhfnogdiaa Go.Proofs.Ytjhmlbhfnogdiaa.Hd Go.Proofs.Ytjhmlbhfnogdiaa.Gr Go.Proofs.Ytjhmlbhfnogdiaa.Hg Go.Proofs.Ytjhmlbhfnogdiaa.Ps Go.Proofs.Ytjhmlbhfnogdiaa.Rr Go.Proofs.Ytjhmlbhfnogdiaa.Wk Go.Proofs.Ytjhmlbhfnogdiaa.Wp Go.Proofs.Ytjhmlbhfnogdiaa.Ws Go.Proofs.Ytjhmlbhfnogdiaa.Wa
set_option linter.unusedVariables false

/-- What comes of it: a graph, a word, yes or no; or why not. -/
abbrev Res := Except Int (Gph × Int × Bool)
def Done (B : Nat) (w : World) (g : Gph) (th : Int) (o : Opn) (r : Res) (w' : World) : Prop :=
  match r with
  | .ok x => Pw B w x.1 th o (0, x.2.1, x.2.2) w'
  | .error e => Pw B w g th o (e, 0, false) w'
def a0 : Ans := (0, 0, false)

def wval (kind old v : Int) : Int := if kind = 6 then Nm.addW old v else if kind = 7 then Nm.mulW old v else v
def word (g : Gph) (n : Nat) (o : Opn) : Int := (node g n).2.getD o.i.toNat 0
def actGet (g : Gph) (th : Nat) (o : Opn) : Res := match field g th o false with
  | .error e => .error e
  | .ok n => .ok (g, word g n o, false)
def actWrite (g : Gph) (th : Nat) (o : Opn) : Res := match field g th o false with
  | .error e => .error e
  | .ok n => .ok (setG g n o.i.toNat (wval o.kind (word g n o) o.v), 0, false)
def pushed (g : Gph) (th : Nat) (x : Int) : Res := if (rowOf g th).length < 16 then .ok (pushG g th x, 0, false) else .error 4
def actFollow (g : Gph) (th : Nat) (o : Opn) : Res := match field g th o true with
  | .error e => .error e
  | .ok n => pushed g th (word g n o)
def actLink (g : Gph) (th : Nat) (o : Opn) : Res := match field g th o true with
  | .error e => .error e
  | .ok n => match handle g th o.k with
    | none => .error 5
    | some x => .ok (setG g n o.i.toNat x, 0, false)
def actSame (g : Gph) (th : Nat) (o : Opn) : Res := match handle g th o.h with
  | none => .error 5
  | some x => match handle g th o.k with
    | none => .error 5
    | some y => .ok (g, 0, decide (x = y))
def actPush (g : Gph) (th : Nat) (o : Opn) : Res := match handle g th o.h with
  | none => .error 5
  | some x => pushed g th x
def popG (g : Gph) (th : Nat) : Gph := (g.1, g.2.set th (rowOf g th).dropLast)
def actPop (g : Gph) (th : Nat) : Res := if (rowOf g th).length = 0 then .error 9 else .ok (popG g th, 0, false)

section
variable {B : Nat} {g : Gph} {th : Nat} {o : Opn} {a : Ans} {w : World}
theorem handle_yes {h x : Int} (hW : Wk B w g th o a) (hth : th < g.2.length) (hh : handle g th h = some x) :
    Calls Try.prog 57 #[.pointer (some ⟨B, 0, none⟩), .int .i64 h] w fun r w' => r = .returned (.tuple #[.int .i64 x, .bool true]) ∧ Pw B w g th o a w' := by
  refine (handle_any B g th o a h w hW hth).mono ?_
  rintro r w' (⟨y, hy, rfl, hp⟩ | ⟨hn, _⟩)
  · rw [hh] at hy; cases hy; exact ⟨rfl, hp⟩
  · rw [hh] at hn; cases hn
theorem handle_no {h : Int} (hW : Wk B w g th o a) (hth : th < g.2.length) (hh : handle g th h = none) :
    Calls Try.prog 57 #[.pointer (some ⟨B, 0, none⟩), .int .i64 h] w fun r w' => r = .returned (.tuple #[.int .i64 0, .bool false]) ∧ Pw B w g th o (5, 0, false) w' := by
  refine (handle_any B g th o a h w hW hth).mono ?_
  rintro r w' (⟨y, hy, rfl, hp⟩ | ⟨_, rfl, hp⟩)
  · rw [hh] at hy; cases hy
  · exact ⟨rfl, hp⟩
theorem field_yes {p : Bool} {n : Nat} (hW : Wk B w g th o a) (hth : th < g.2.length) (hr : rightG g = true) (hp : posG g) (hf : field g th o p = .ok n) :
    Calls Try.prog 52 #[.pointer (some ⟨B, 0, none⟩), .bool p] w fun r w' => r = .returned (.tuple #[.int .i64 n, .bool true]) ∧ Pw B w g th o a w' := by
  refine (field_any B g th o a p w hW hth hr hp).mono ?_
  rintro r w' (⟨m, hm, rfl, hp⟩ | ⟨e, he, _⟩)
  · rw [hf] at hm; cases hm; exact ⟨rfl, hp⟩
  · rw [hf] at he; cases he
theorem field_no {p : Bool} {e : Int} (hW : Wk B w g th o a) (hth : th < g.2.length) (hr : rightG g = true) (hp : posG g) (hf : field g th o p = .error e) :
    Calls Try.prog 52 #[.pointer (some ⟨B, 0, none⟩), .bool p] w fun r w' => r = .returned (.tuple #[.int .i64 0, .bool false]) ∧ Pw B w g th o (e, 0, false) w' := by
  refine (field_any B g th o a p w hW hth hr hp).mono ?_
  rintro r w' (⟨m, hm, rfl, hp⟩ | ⟨e', he, rfl, hp⟩)
  · rw [hf] at hm; cases hm
  · rw [hf] at he; cases he; exact ⟨rfl, hp⟩
theorem push_yes {x : Int} (hW : Wk B w g th o a) (hth : th < g.2.length) (hl : (rowOf g th).length < 16) :
    Calls Try.prog 54 #[.pointer (some ⟨B, 0, none⟩), .int .i64 x] w fun r w' => r = .returned (.tuple #[]) ∧ Pw B w (pushG g th x) th o a w' := by
  refine (push_any B g th o a x w hW hth).mono ?_
  rintro r w' ⟨rfl, ⟨_, hp⟩ | ⟨hge, _⟩⟩
  · exact ⟨rfl, hp⟩
  · omega
theorem pushed_done {x : Int} (hW : Wk B w g th o a0) (hth : th < g.2.length) :
    Calls Try.prog 54 #[.pointer (some ⟨B, 0, none⟩), .int .i64 x] w fun r w' => r = .returned (.tuple #[]) ∧ Done B w g th o (pushed g th x) w' := by
  refine (push_any B g th o a0 x w hW hth).mono ?_
  rintro r w' ⟨rfl, ⟨hl, hp⟩ | ⟨hge, hp⟩⟩
  · refine ⟨rfl, ?_⟩
    unfold pushed
    rw [if_pos hl]; exact hp
  · refine ⟨rfl, ?_⟩
    unfold pushed
    rw [if_neg (by omega)]; exact hp
theorem Done.trans {w1 w2 : World} {r : Res} (h : w.grownBy w1 (some B)) (k : Done B w1 g th o r w2) : Done B w g th o r w2 := by
  unfold Done at *
  cases r with
  | ok x => exact Pw.trans (g := g) (a := a0) h k
  | error e => exact Pw.trans (g := g) (a := a0) h k
end

theorem word_in {g : Gph} {th : Nat} {o : Opn} {p : Bool} {n : Nat} (hr : rightG g = true) (hth : th < g.2.length) (hf : field g th o p = .ok n) : n < g.1.length ∧ ∃ i : Nat, o.i = (i : Int) ∧ i < (node g n).2.length := by
  obtain ⟨_, h1, h2, h3, _⟩ := field_ok hr hth hf
  obtain ⟨_, _, h4, _⟩ := right_node hr h1
  exact ⟨h1, o.i.toNat, by omega, by omega⟩
theorem word_ptr {g : Gph} {th : Nat} {o : Opn} {n : Nat} (hr : rightG g = true) (hp : posG g) (hth : th < g.2.length) (hf : field g th o true = .ok n) : 0 ≤ word g n o ∧ word g n o ≤ g.1.length := by
  obtain ⟨_, h1, h2, h3, h4⟩ := field_ok hr hth hf
  obtain ⟨_, _, h5, h6⟩ := right_node hr h1
  constructor
  · refine (pos_node hp h1).2 _ ?_
    unfold word
    have : o.i.toNat < (node g n).2.length := by omega
    simp [List.getD_eq_getElem?_getD, this]
  · unfold okP at h6
    have := List.all_eq_true.1 h6 o.i (by
      have e : o.i = ((o.i.toNat : Nat) : Int) := by omega
      rw [e]
      exact mem_ptrs (by omega) (by rw [← e]; exact h4))
    unfold word
    simpa using this

set_option maxHeartbeats 8000000 in
theorem write_any (B : Nat) (g : Gph) (th : Nat) (o : Opn) (w : World) (hW : Wk B w g th o a0) (hth : th < g.2.length) (hr : rightG g = true) (hp : posG g) :
    Calls Try.prog 55 #[.pointer (some ⟨B, 0, none⟩)] w fun r w' => r = .returned (.tuple #[]) ∧ Done B w g th o (actWrite g th o) w' := by
  unfold actWrite
  cases hf : field g th o false with
  | error e =>
    have HC := Lib.hid (field_no hW hth hr hp hf)
    clear hW hf hr hp
    go_enter Try.func55, Try.ntmps55
    go_wp2_with fail
    with_reducible refine HC.out.mono ?_
    rintro r w1 ⟨rfl, hp1⟩
    have HP := Lib.hid hp1
    clear hp1
    go_wp2_with fail
    (first | go_end0 | ((try simp only [Exit.inBlock, Exit.then]); refine bodyPost_ret (results_none rfl _ _ _) rfl ?_))
    exact ⟨rfl, HP.out⟩
  | ok n =>
    obtain ⟨hn, i, hoi, hi⟩ := word_in hr hth hf
    have HC := Lib.hid (field_yes hW hth hr hp hf)
    have HN := Lib.hid (And.intro hn (And.intro hoi hi))
    dsimp only
    obtain ⟨wv, hwv⟩ : ∃ wv, wval o.kind (word g n o) o.v = wv := ⟨_, rfl⟩
    rw [hwv]
    clear hW hf hr hp
    go_enter Try.func55, Try.ntmps55
    go_wp2_with fail
    with_reducible refine HC.out.mono ?_
    rintro r w1 ⟨rfl, hp1⟩
    obtain ⟨hW1, hg1⟩ := hp1
    have HW1 := Lib.hid hW1
    obtain ⟨na, nc, sa, sc, hb, hs⟩ := hW1
    have c0 : w1.cell? ⟨B, 0, none⟩ = some (.slice na g.1.length nc) := hb.cell (i := 0) rfl
    have c3 : w1.cell? ⟨B, 3, none⟩ = some (.int .i64 o.kind) := hb.cell (i := 3) rfl
    have c5 : w1.cell? ⟨B, 5, none⟩ = some (.int .i64 o.i) := hb.cell (i := 5) rfl
    have c7 : w1.cell? ⟨B, 7, none⟩ = some (.int .u64 o.v) := hb.cell (i := 7) rfl
    rw [hoi] at c5
    have nlen := hs.here.1.len
    have nsm := hs.here.1.small
    obtain ⟨b1, o1, s1, ua, uc, hix, _, _, _, e3, hF⟩ := hs.1.at_ n hn
    replace e3 : w1.cell? ⟨b1, o1 + 3, none⟩ = some (.slice ua (node g n).2.length uc) := e3
    replace hF : St B w1 (fun W => Sl .u64 W (.slice ua (node g n).2.length uc) (node g n).2) := hF
    obtain ⟨pv, hpv, hpvc⟩ := hF.here.at_ uU szU (i := i) (by omega) (by omega)
    have hwd : w1.cell? pv = some (.int .u64 (word g n o)) := by
      rw [hpvc]; unfold word; rw [hoi]
    have HG1 := Lib.hid hg1
    have hSA := fun v => set_any B g th o a0 n v i
    have HSA : Hid (∀ v W, Wk B W g th o a0 → Calls Try.prog 58 #[.pointer (some ⟨B, 0, none⟩), .int .i64 n, .int .u64 v] W fun r w' => r = .returned (.tuple #[]) ∧ Pw B W (setG g n o.i.toNat v) th o a0 w') := fun v W h => by
      have := set_any B g th o a0 n v i W h hn hoi hi
      have e : o.i.toNat = i := by omega
      rw [e]; exact this
    clear hb hs hF hg1 hSA hpvc hoi hi hn
    generalize (node g n).2.length = fl at *
    have HA := Lib.hid (fun W => Ng.add_any (word g n o) o.v W)
    have HM := Lib.hid (fun W => Ng.mul_any (word g n o) o.v W)
    have hk6 : o.kind = 6 → wv = Nm.addW (word g n o) o.v := fun h => by rw [← hwv]; unfold wval; rw [if_pos h]
    have hk7 : o.kind = 7 → wv = Nm.mulW (word g n o) o.v := fun h => by rw [← hwv]; unfold wval; rw [if_neg (by omega), if_pos h]
    have hk0 : o.kind ≠ 6 → o.kind ≠ 7 → wv = o.v := fun h k => by rw [← hwv]; unfold wval; rw [if_neg h, if_neg k]
    clear hwv
    generalize Nm.addW (word g n o) o.v = wa at *
    generalize Nm.mulW (word g n o) o.v = wm at *
    generalize word g n o = wd at *
    by_cases h6 : o.kind = 6
    · obtain rfl := hk6 h6
      rw [h6] at c3
      clear hk6 hk7 hk0 h6
      go_wp2_with fail
      go_quiet (fail)
      go_wp2_with fail
      with_reducible refine (HA.out _).mono ?_
      rintro r w2 ⟨rfl, rfl⟩
      go_wp2_with fail
      with_reducible refine (HSA.out _ _ (HW1.out.ext ((Ext.refl w1).drewN _))).mono ?_
      rintro r w2 ⟨rfl, hp2⟩
      have HP := Lib.hid (Pw.trans (g := g) (a := a0) (HG1.out.trans (grown_of_ext ((Ext.refl w1).drewN _) _)) hp2)
      clear hp2
      go_wp2_with fail
      (first | go_end0 | ((try simp only [Exit.inBlock, Exit.then]); refine bodyPost_ret (results_none rfl _ _ _) rfl ?_))
      exact ⟨rfl, HP.out⟩
    by_cases h7 : o.kind = 7
    · obtain rfl := hk7 h7
      rw [h7] at c3
      clear hk6 hk7 hk0 h6 h7
      go_wp2_with fail
      go_quiet (fail)
      go_wp2_with fail
      with_reducible refine (HM.out _).mono ?_
      rintro r w2 ⟨rfl, rfl⟩
      go_wp2_with fail
      with_reducible refine (HSA.out _ _ (HW1.out.ext ((Ext.refl w1).drewN _))).mono ?_
      rintro r w2 ⟨rfl, hp2⟩
      have HP := Lib.hid (Pw.trans (g := g) (a := a0) (HG1.out.trans (grown_of_ext ((Ext.refl w1).drewN _) _)) hp2)
      clear hp2
      go_wp2_with fail
      (first | go_end0 | ((try simp only [Exit.inBlock, Exit.then]); refine bodyPost_ret (results_none rfl _ _ _) rfl ?_))
      exact ⟨rfl, HP.out⟩
    · have hwv := hk0 h6 h7
      have j6 : (o.kind == 6) = false := beq_eq_false_iff_ne.2 h6
      have j7 : (o.kind == 7) = false := beq_eq_false_iff_ne.2 h7
      have HWV := Lib.hid hwv
      clear hk6 hk7 hk0 h6 h7 hwv
      go_wp2_with fail
      go_quiet (fail)
      go_wp2_with fail
      with_reducible refine (HSA.out _ _ (HW1.out.ext ((Ext.refl w1).drewN _))).mono ?_
      rintro r w2 ⟨rfl, hp2⟩
      have HP := Lib.hid (Pw.trans (g := g) (a := a0) (HG1.out.trans (grown_of_ext ((Ext.refl w1).drewN _) _)) hp2)
      clear hp2
      go_wp2_with fail
      (first | go_end0 | ((try simp only [Exit.inBlock, Exit.then]); refine bodyPost_ret (results_none rfl _ _ _) rfl ?_))
      exact ⟨rfl, by rw [HWV.out]; exact HP.out⟩
end Go.Proofs.Ytjhmlbhfnogdiaa.Wc
