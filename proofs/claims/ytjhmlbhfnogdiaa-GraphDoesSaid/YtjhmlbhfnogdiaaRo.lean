/- The reference's Pointers as a row of the call's own; what its Canon keeps in memory while it goes on. -/
import Derived.Test.YtjhmlbhfnogdiaaVr
import Derived.Test.YtjhmlbhfnogdiaaCn
namespace Go.Proofs.Ytjhmlbhfnogdiaa.Ro
open Go.RowKit
open Go.Proofs.Ytjhmlbhfnogdiaa Go.Proofs.Ytjhmlbhfnogdiaa.Hd Go.Proofs.Ytjhmlbhfnogdiaa.Gr Go.Proofs.Ytjhmlbhfnogdiaa.Hg Go.Proofs.Ytjhmlbhfnogdiaa.Ps Go.Proofs.Ytjhmlbhfnogdiaa.Rr Go.Proofs.Ytjhmlbhfnogdiaa.Wk Go.Proofs.Ytjhmlbhfnogdiaa.Pl Go.Proofs.Ytjhmlbhfnogdiaa.Vs Go.Proofs.Ytjhmlbhfnogdiaa.Cp Go.Proofs.Ytjhmlbhfnogdiaa.Vf Go.Proofs.Ytjhmlbhfnogdiaa.Co Go.Proofs.Ytjhmlbhfnogdiaa.Cn
set_option linter.unusedVariables false

set_option maxHeartbeats 4000000 in
theorem rptrs_own (t m : Int) (l : Nat) (hl : l ≤ 16) (m0 : 0 ≤ m) (m1 : m ≤ 65535) (w : World) :
    Calls Try.prog 25 #[.agg #[.int .i64 t, .int .i64 l, .int .u64 m]] w fun e w' => ∃ o, e = .returned o ∧ w'.ownsRow w.heap.size 3 1 o (ptrs l m).length ((ptrs l m).map (Value.int .i64)) ∧ Ext w w' := by
  have HP : Hid (∀ (i : Nat) w, i < l → Calls Try.prog 66 #[.agg #[.int .i64 t, .int .i64 l, .int .u64 m], .int .i64 i] w fun e w' => e = .returned (.bool (bit m i)) ∧ Ext w w') := fun i w hi => rpointer_in t l m i (by omega) (by omega) m0 m1 w
  obtain ⟨i0, hi, hz0, hz1, hz2⟩ := info_i
  obtain ⟨wA, hwA⟩ : ∃ wA, wA = w.alloc (.cells #[.int .i64 t, .int .i64 l, .int .u64 m] 28) := ⟨_, rfl⟩
  have hx : Ext w wA := hwA ▸ (Ext.refl w).alloc _
  have hb : Blk wA w.heap.size #[.int .i64 t, .int .i64 l, .int .u64 m] 28 := hwA ▸ Blk.new w _ _
  go_enter Try.func25, Try.ntmps25
  go_wp2_with fail
  rw [← hwA]
  clear hwA
  go_loopw [3, 4] (fun a i wr => ∃ (k : Nat), i = .int .i64 k ∧ k ≤ l ∧ wr.ownsRow wA.heap.size 3 1 a (ptrs k m).length ((ptrs k m).map (Value.int .i64)) ∧ Ext wA wr) (fun _ i _ => l - (intOf i).toNat)
  case atStart => exact ⟨0, rfl, Nat.zero_le _, World.ownsRow_nil _ _ _ _, Ext.refl _⟩
  case round =>
    obtain ⟨k, rfl, hk, hown, hXk⟩ := hrel
    obtain ⟨wk, hwk⟩ : ∃ wk, wk = wr := ⟨_, rfl⟩
    subst hwk
    have HXk := Lib.hid hXk
    have HOWN := Lib.hid hown
    have hbk := hb.ext hXk
    have d0 : wk.cell? ⟨w.heap.size, 0, none⟩ = some (.int .i64 t) := hbk.cell (i := 0) rfl
    have d1 : wk.cell? ⟨w.heap.size, 1, none⟩ = some (.int .i64 l) := hbk.cell (i := 1) rfl
    have d2 : wk.cell? ⟨w.heap.size, 2, none⟩ = some (.int .u64 m) := hbk.cell (i := 2) rfl
    clear hXk hown hbk
    by_cases hklt : k < l
    · have hps := ptrs_succ k m
      have hpl := ptrs_len k m
      have HC := Lib.hid (fun w => HP.out k w hklt)
      obtain ⟨b, hbb⟩ : ∃ b, bit m (k : Int) = b := ⟨_, rfl⟩
      rw [hbb] at HC hps
      have HPS := Lib.hid hps
      have HPL := Lib.hid hpl
      clear hbb hps hpl
      cases b with
      | false =>
        have HE : Hid (ptrs (k + 1) m = ptrs k m) := by show _ = _; rw [HPS.out]; simp
        go_wp2_with fail
        refine (HC.out _).mono ?_; rintro e w1 ⟨rfl, hx1⟩
        have HX1 := Lib.hid hx1
        clear hx1
        go_wp2_with fail
        go_roundw
        case rel => exact ⟨k + 1, by go_num, hklt, by rw [HE.out]; exact own_ext HOWN.out HX1.out, HXk.out.trans HX1.out⟩
        case measure => simp [intOf]; omega
      | true =>
        have HE : Hid (ptrs (k + 1) m = ptrs k m ++ [(k : Int)]) := by show _ = _; rw [HPS.out]; simp
        go_wp2_with fail
        refine (HC.out _).mono ?_; rintro e w1 ⟨rfl, hx1⟩
        have hE1 : Ext w1 (w1.alloc (.cells #[.int .i64 k] 3)) := (Ext.refl w1).alloc _
        have hrow : Row (w1.alloc (.cells #[.int .i64 k] 3)) 1 8 (.slice (some ⟨w1.heap.size, 0, none⟩) 1 1) 1 [.int .i64 k] := ⟨rfl, by omega, by omega, .inr ⟨_, 1, rfl, Nat.le_refl _, by unfold maxLen; omega, cell_one_new _ _ _⟩⟩
        obtain ⟨v', w2, hrun, hown2, hg2, _⟩ := append_own (ty := 42) uI hi hz0 hz1 hz2 rfl (by decide) (own_ext HOWN.out (hx1.trans hE1)) (HXk.out.trans (hx1.trans hE1)).size hrow (by simp [Value.oneCell']) (by have := HPL.out; omega) (by decide)
        have HF : Hid (w2.ownsRow wA.heap.size 3 1 v' (ptrs (k + 1) m).length ((ptrs (k + 1) m).map (Value.int .i64)) ∧ Ext wA w2) := by
          rw [HE.out, List.length_append, List.map_append]
          exact ⟨hown2, (HXk.out.trans (hx1.trans hE1)).grown hg2 (fun k hk => (HOWN.out.lt k hk).1)⟩
        have HR := Lib.hid hrun
        clear hrun hown2 hg2 hrow hE1 hx1
        go_wp2_with (at_builtin; refine Lib.wpList_append_run _ rfl _ _ _ _ rfl _ _ rfl rfl v' w2 HR.out ?_)
        go_roundw
        case rel => exact ⟨k + 1, by go_num, hklt, HF.out.1, HF.out.2⟩
        case measure => simp [intOf]; omega
    · obtain rfl : k = l := by omega
      have hpl := ptrs_len k m
      have HF : Hid (∀ a, wk.ownsRow wA.heap.size 3 1 a (ptrs k m).length ((ptrs k m).map (Value.int .i64)) → wk.ownsRow w.heap.size 3 1 a (ptrs k m).length ((ptrs k m).map (Value.int .i64))) := fun a h => own_le h hx.size
      have HZ := Lib.hid (hx.trans HXk.out)
      clear hpl
      go_wp2_with fail
      go_ret
      exact ⟨_, rfl, HF.out _ HOWN.out, HZ.out⟩

/-- Rows that were made stay where a block of another type is written. -/
theorem rows_ch {S : Nat → Prop} {w w1 : World} {base : Nat} {o : Value} {rows : List (List Int)} (h : Rows .i64 42 3 w base o rows) (hc : Ch S w w1)
    (h1 : ∀ g, o.ownBlock = some g → ¬ S g) (h2 : ∀ (u : Value) (r : List Int) (g : Nat), w.ownsRow base 3 1 u r.length (r.map (Value.int .i64)) → u.ownBlock = some g → ¬ S g) : Rows .i64 42 3 w1 base o rows := by
  obtain ⟨vs, hl, ho, h1', hs⟩ := h
  exact ⟨vs, hl, hc.own ho h1, h1', fun i u r hu hr => ⟨hc.own (hs i u r hu hr).1 fun g hg => h2 u r g (hs i u r hu hr).1 hg, (hs i u r hu hr).2⟩⟩

/-- Canon of the reference: what comes of it, in a block of its own. -/
structure R3 (w3 : World) (nv : Value) (ns : List Nd) (rv : Value) (rows : List (List Int)) (W : World) : Prop where
  ext : Ext w3 W
  bo : Blk W w3.heap.size #[nv, rv] 25
  nd : ∃ ps : List (Hd × Value), ps.length = ns.length ∧ W.ownsRow (w3.heap.size + 1) 67 4 nv ns.length (ncs ps) ∧ ∀ (i : Nat) (p : Hd × Value) (n : Nd), ps[i]? = some p → ns[i]? = some n → p.1 = n.1 ∧ W.ownsRow (w3.heap.size + 1) 26 1 p.2 n.2.length (n.2.map (Value.int .u64)) ∧ n.2.length ≤ 1000
  rw : Rows .i64 42 3 W (w3.heap.size + 1) rv rows
section
variable {w3 w w' : World} {nv rv : Value} {ns : List Nd} {rows : List (List Int)}
theorem R3.ext' (h : R3 w3 nv ns rv rows w) (he : Ext w w') : R3 w3 nv ns rv rows w' := by
  obtain ⟨ps, h1, h2, h3⟩ := h.nd
  exact ⟨h.ext.trans he, h.bo.ext he, ⟨ps, h1, own_ext h2 he, fun i p n hp hn => ⟨(h3 i p n hp hn).1, own_ext (h3 i p n hp hn).2.1 he, (h3 i p n hp hn).2.2⟩⟩, h.rw.ext he⟩
theorem R3.start (w3 : World) : R3 w3 (.slice none 0 0) [] (.slice none 0 0) [] (w3.alloc (.cells #[.slice none 0 0, .slice none 0 0] 25)) :=
  ⟨(Ext.refl w3).alloc _, Blk.new w3 _ _, ⟨[], rfl, World.ownsRow_nil _ _ _ _, fun i p n hp => by simp at hp⟩, Rows.nil _ _ _ _ _⟩
theorem R3.size (h : R3 w3 nv ns rv rows w) : w3.heap.size + 1 ≤ w.heap.size := h.bo.lt
theorem R3.pushN (h : R3 w3 nv ns rv rows w) (x : Hd) (f : List Int) (fv : Value) (hf : w.ownsRow (w3.heap.size + 1) 26 1 fv f.length (f.map (Value.int .u64))) (hfl : f.length ≤ 1000) (hn : ns.length ≤ 1000) :
    ∃ nv' w2, (Builtin.append_ #[22, 22] 22 #[nv, .slice (some ⟨w.heap.size, 0, none⟩) 1 1]).run Try.prog (w.alloc (.cells #[.int .i64 x.1, .int .i64 x.2.1, .int .u64 x.2.2, fv] 67)) = .ok nv' w2 ∧ (∃ ga gc, nv' = .slice ga (ns.length + 1) gc) ∧
      w2.cell? ⟨w3.heap.size, 0, none⟩ = some nv ∧ w2.frozen? ⟨w3.heap.size, 0, none⟩ = false ∧ R3 w3 nv' (ns ++ [(x, f)]) rv rows (w2.setCell ⟨w3.heap.size, 0, none⟩ nv') := by
  obtain ⟨i0, hi, hz0, hz1, hz2⟩ := info_n
  have hE : Ext w (w.alloc (.cells #[.int .i64 x.1, .int .i64 x.2.1, .int .u64 x.2.2, fv] 67)) := (Ext.refl w).alloc _
  have h' := h.ext' hE
  obtain ⟨ps, h1, h2, h3⟩ := h'.nd
  have hf1 : fv.oneCell' = true := by
    obtain ⟨a, c, rfl⟩ := Vc.own_form hf; rfl
  obtain ⟨nv', w2, hrun, hown, hg, hat⟩ := append_own (ty := 22) uN hi hz0 hz1 hz2 rfl (by decide) h2 (Nat.le_trans h.size hE.size) (nc_row w (x, fv)) (by
    intro c hc
    simp [ncs, nc] at hc
    rcases hc with rfl | rfl | rfl | rfl
    · rfl
    · rfl
    · rfl
    · exact hf1) (by omega) (by decide)
  have hch : Ch (fun k => nv.ownBlock = some k) (w.alloc (.cells #[.int .i64 x.1, .int .i64 x.2.1, .int .u64 x.2.2, fv] 67)) w2 := Ch.of_grown hg fun k hk => hk
  have hlo : ∀ k, k < w3.heap.size + 1 → ¬ nv.ownBlock = some k := fun k hk e => by have := (h2.lt k e).1; omega
  have hc2 : Ch (fun k => k = w3.heap.size) w2 (w2.setCell ⟨w3.heap.size, 0, none⟩ nv') := Ch.set _ _ _ _ rfl
  have bo2 := hch.blk h'.bo (hlo _ (by omega))
  have hfar : ∀ {e : TypeId} {s n : Nat} {v : Value} {cs : List Value}, w2.ownsRow (w3.heap.size + 1) e s v n cs → (w2.setCell ⟨w3.heap.size, 0, none⟩ nv').ownsRow (w3.heap.size + 1) e s v n cs := fun ho => hc2.own ho fun k hk e => by have := (ho.lt k hk).1; omega
  refine ⟨nv', w2, hrun, Vc.own_form hown, bo2.cell (i := 0) rfl, bo2.free 0, ⟨(hch.ext h'.ext fun k hk => by have := (h2.lt k hk).1; omega).setCell (p := ⟨w3.heap.size, 0, none⟩) (Nat.le_refl _) _, bo2.set 0 nv', ⟨ps ++ [(x, fv)], by simp [h1], ?_, fun i p n hp hn => ?_⟩, ?_⟩⟩
  · rw [List.length_append, ncs_append]
    exact hfar hown
  · by_cases hj : i < ps.length
    · rw [List.getElem?_append_left hj] at hp
      rw [List.getElem?_append_left (by omega)] at hn
      have h4 := h3 i p n hp hn
      exact ⟨h4.1, hfar (hch.own h4.2.1 fun k hk hk' => own_apart h2 h4.2.1 (by decide) hk' hk), h4.2.2⟩
    · rw [List.getElem?_append_right (by omega)] at hp
      rw [List.getElem?_append_right (by omega), ← h1] at hn
      have : i - ps.length = 0 := by
        rcases Nat.eq_zero_or_pos (i - ps.length) with h | h
        · exact h
        · rw [List.getElem?_eq_none (by simp; omega)] at hp; cases hp
      rw [this] at hp hn
      simp at hp hn
      cases hp; cases hn
      exact ⟨rfl, hfar (hch.own (own_ext hf hE) fun k hk hk' => own_apart h2 (own_ext hf hE) (by decide) hk' hk), hfl⟩
  · have r2 := rows_ch h'.rw hch (fun g hg hk => by
      obtain ⟨vs, _, ho, _⟩ := h'.rw
      exact own_apart ho h2 (by decide) hg hk) (fun u r g hu hg hk => own_apart h2 hu (by decide) hk hg)
    refine rows_ch r2 hc2 (fun g hg e => ?_) (fun u r g hu hg e => ?_)
    · have := (r2.lt g hg).1; omega
    · have := (hu.lt g hg).1; omega
theorem R3.pushR (h : R3 w3 nv ns rv rows w) (u : Value) (r : List Int) (hu : w.ownsRow (w3.heap.size + 1) 3 1 u r.length (r.map (Value.int .i64))) (hr : r.length * 8 ≤ 140737488355328) (hn : (rows.length + 1) * 24 ≤ 140737488355328) :
    ∃ rv' w2, (Builtin.append_ #[23, 23] 23 #[rv, .slice (some ⟨w.heap.size, 0, none⟩) 1 1]).run Try.prog (w.alloc (.cells #[u] 42)) = .ok rv' w2 ∧ (∃ ga gc, rv' = .slice ga (rows.length + 1) gc) ∧
      w2.cell? ⟨w3.heap.size, 1, none⟩ = some rv ∧ w2.frozen? ⟨w3.heap.size, 1, none⟩ = false ∧ R3 w3 nv ns rv' (rows ++ [r]) (w2.setCell ⟨w3.heap.size, 1, none⟩ rv') := by
  obtain ⟨i0, hi, hz0, hz1, hz2⟩ := info_s
  have hE : Ext w (w.alloc (.cells #[u] 42)) := (Ext.refl w).alloc _
  have h' := h.ext' hE
  obtain ⟨vs, hvl, hro, _⟩ := id h'.rw
  have hne : u.ownBlock = none ∨ u.ownBlock ≠ rv.ownBlock := by
    cases hv : u.ownBlock with
    | none => exact .inl rfl
    | some g => exact .inr fun e => own_apart (own_ext hu hE) hro (by decide) hv e.symm
  obtain ⟨rv', w2, hrun, hR, hg⟩ := Rows.append (ty := 23) uS hi hz0 hz1 hz2 rfl h.rw hu hr hne h.size hn
  obtain ⟨ps, h1, h2, h3⟩ := h'.nd
  have hch : Ch (fun k => rv.ownBlock = some k) (w.alloc (.cells #[u] 42)) w2 := Ch.of_grown hg fun k hk => hk
  have hlo : ∀ k, k < w3.heap.size + 1 → ¬ rv.ownBlock = some k := fun k hk e => by have := (hro.lt k e).1; omega
  have hc2 : Ch (fun k => k = w3.heap.size) w2 (w2.setCell ⟨w3.heap.size, 1, none⟩ rv') := Ch.set _ _ _ _ rfl
  have bo2 := hch.blk h'.bo (hlo _ (by omega))
  have hfar : ∀ {e : TypeId} {s n : Nat} {v : Value} {cs : List Value}, w2.ownsRow (w3.heap.size + 1) e s v n cs → (w2.setCell ⟨w3.heap.size, 1, none⟩ rv').ownsRow (w3.heap.size + 1) e s v n cs := fun ho => hc2.own ho fun k hk e => by have := (ho.lt k hk).1; omega
  have hform : ∃ ga gc, rv' = .slice ga (rows.length + 1) gc := by
    obtain ⟨vs2, hl2, ho2, _⟩ := hR
    obtain ⟨a, c, rfl⟩ := Vc.own_form ho2
    exact ⟨a, c, by rw [hl2, List.length_append]; rfl⟩
  refine ⟨rv', w2, hrun, hform, bo2.cell (i := 1) rfl, bo2.free 1, ⟨(hch.ext h'.ext fun k hk => by have := (hro.lt k hk).1; omega).setCell (p := ⟨w3.heap.size, 1, none⟩) (Nat.le_refl _) _, bo2.set 1 rv', ⟨ps, h1, hfar (hch.own h2 fun k hk hk' => own_apart h2 hro (by decide) hk hk'), fun i p n hp hn => ?_⟩, ?_⟩⟩
  · have h4 := h3 i p n hp hn
    exact ⟨h4.1, hfar (hch.own h4.2.1 fun k hk hk' => own_apart h4.2.1 hro (by decide) hk hk'), h4.2.2⟩
  · refine rows_ch hR hc2 (fun g hg e => ?_) (fun u r g hu hg e => ?_)
    · have := (hR.lt g hg).1; omega
    · have := (hu.lt g hg).1; omega
theorem R3.fin {w0 : World} (h : R3 w3 nv ns rv rows w) (hn : ns.length ≤ 1000) (hm : rows.length ≤ 1048576) {b : Nat} {x y : Value} (hb : Blk w b #[x, y] 25) (hbl : b < w3.heap.size) (h0 : Ext w0 w3) (hb0 : w0.heap.size ≤ b) (W : World) (hW : W = (w.setCell ⟨b, 0, none⟩ nv).setCell ⟨b, 1, none⟩ rv) :
    W.cell? ⟨b, 0, none⟩ = some nv ∧ W.cell? ⟨b, 1, none⟩ = some rv ∧ Gr W nv rv (ns, rows) ∧ Ext w0 W := by
  have hc : Ch (fun k => k = b) w W := by
    rw [hW]
    exact (Ch.set (fun k => k = b) w ⟨b, 0, none⟩ nv rfl).trans (Ch.set (fun k => k = b) _ ⟨b, 1, none⟩ rv rfl) (fun _ _ h => h)
  have hbW : Blk W b #[nv, rv] 25 := by
    rw [hW]; exact (hb.set 0 _).set 1 _
  have hfar : ∀ {e : TypeId} {s n : Nat} {v : Value} {cs : List Value}, w.ownsRow (w3.heap.size + 1) e s v n cs → W.ownsRow (w3.heap.size + 1) e s v n cs := fun ho => hc.own ho fun k hk e => by have := (ho.lt k hk).1; omega
  obtain ⟨ps, h1, h2, h3⟩ := h.nd
  have hR := rows_ch h.rw hc (fun g hg e => by have := (h.rw.lt g hg).1; omega) (fun u r g hu hg e => by have := (hu.lt g hg).1; omega)
  exact ⟨hbW.cell (i := 0) rfl, hbW.cell (i := 1) rfl, ⟨⟨ps, h1, by rw [h1]; exact Row.of_own (hfar h2) (by omega) (by omega), fun i p n hp hn => ⟨(h3 i p n hp hn).1, Sl.of_own (hfar (h3 i p n hp hn).2.1) (by have := (h3 i p n hp hn).2.2; omega)⟩⟩, hR.ma (by omega)⟩, hc.ext (h0.trans h.ext) fun k hk => by omega⟩
end
end Go.Proofs.Ytjhmlbhfnogdiaa.Ro
