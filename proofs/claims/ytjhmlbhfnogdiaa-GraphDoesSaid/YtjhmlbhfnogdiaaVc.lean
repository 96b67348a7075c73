/- The closure visit of Canon: what is reached, in order. -/
import Derived.Test.YtjhmlbhfnogdiaaVf
import Derived.Test.YtjhmlbhfnogdiaaRt
namespace Go.Proofs.Ytjhmlbhfnogdiaa.Vc
open Go.RowKit
open Go.Proofs.Ytjhmlbhfnogdiaa Go.Proofs.Ytjhmlbhfnogdiaa.Hd Go.Proofs.Ytjhmlbhfnogdiaa.Gr Go.Proofs.Ytjhmlbhfnogdiaa.Hg Go.Proofs.Ytjhmlbhfnogdiaa.Ps Go.Proofs.Ytjhmlbhfnogdiaa.Rr Go.Proofs.Ytjhmlbhfnogdiaa.Wk Go.Proofs.Ytjhmlbhfnogdiaa.Pl Go.Proofs.Ytjhmlbhfnogdiaa.Vs Go.Proofs.Ytjhmlbhfnogdiaa.Cp Go.Proofs.Ytjhmlbhfnogdiaa.Vf
set_option linter.unusedVariables false

theorem own_form {w : World} {base : Nat} {e : TypeId} {s n : Nat} {v : Value} {cs : List Value} (h : w.ownsRow base e s v n cs) : ∃ a c, v = .slice a n c := by
  obtain ⟨_, ⟨rfl, rfl⟩ | ⟨g, cap, cur, rfl, _⟩⟩ := h
  · exact ⟨none, 0, rfl⟩
  · exact ⟨_, cap, rfl⟩
theorem zInt : ∀ w, (zeroValue 3).run Try.prog w = .ok (.int .i64 0) w := Try.zeroValue3

/-- A handle that is told is there, in the map. -/
theorem look_had {B : Nat} {w0 w : World} {a b vo : Value} {out : List Int} {N : Nat} (hV : Vw B w0 a b out vo w) (hi : In N out) (h : Int) (hh : h = 0 ∨ h ∈ out) : (Instr.lookup 72 (.map (some (B + 2))) (.int .i64 h) true).run Try.prog w = .ok (.tuple #[.int .i64 (num out h), .bool true]) w := by
  have h1 := hV.fm.look Try.underlying72 Try.underlying3 (zInt w) h true
  rw [flook_num hi] at h1
  have h2 : (flook h (asV out) 0).isSome = true := by
    by_cases h0 : h = 0
    · subst h0; rw [flook_asV0]; rfl
    · rw [flook_asV hi (hh.resolve_left h0)]; rfl
  rw [h2] at h1
  exact h1
theorem look_not {B : Nat} {w0 w : World} {a b vo : Value} {out : List Int} {N : Nat} (hV : Vw B w0 a b out vo w) (h : Int) (h0 : h ≠ 0) (hn : h ∉ out) : (Instr.lookup 72 (.map (some (B + 2))) (.int .i64 h) true).run Try.prog w = .ok (.tuple #[.int .i64 0, .bool false]) w := by
  have h1 := hV.fm.look Try.underlying72 Try.underlying3 (zInt w) h true
  rw [flook_none' h0 hn] at h1
  exact h1

set_option maxRecDepth 100000 in
/-- A new handle is told: the row in order, and the map. -/
theorem told {B : Nat} {w0 w : World} {a b vo : Value} {out : List Int} {h : Int} (hV : Vw B w0 a b out vo w) (hb : out.length ≤ 1000000) (h0 : h ≠ 0) (hn : h ∉ out) (n1 : Nat) (hn1 : out.length + 1 = n1) :
    ∃ ga gc w2 w4, (Builtin.append_ #[42, 42] 42 #[vo, .slice (some ⟨w.heap.size, 0, none⟩) 1 1]).run Try.prog (w.alloc (.cells #[.int .i64 h] 3)) = .ok (.slice (some ga) n1 gc) w2 ∧
      w2.cell? ⟨B + 4, 0, none⟩ = some vo ∧ w2.frozen? ⟨B + 4, 0, none⟩ = false ∧
      (w2.setCell ⟨B + 4, 0, none⟩ (.slice (some ga) n1 gc)).cell? ⟨B + 3, 0, none⟩ = some (.map (some (B + 2))) ∧ (w2.setCell ⟨B + 4, 0, none⟩ (.slice (some ga) n1 gc)).cell? ⟨B + 4, 0, none⟩ = some (.slice (some ga) n1 gc) ∧
      (Instr.mapUpdate 72 (.map (some (B + 2))) (.int .i64 h) (.int .i64 n1)).run Try.prog (w2.setCell ⟨B + 4, 0, none⟩ (.slice (some ga) n1 gc)) = .ok () w4 ∧
      Vw B w0 a b (out ++ [h]) (.slice (some ga) n1 gc) w4 ∧ Fr B vo (.slice (some ga) n1 gc) w w4 := by
  subst hn1
  obtain ⟨v', w2, hrun, hown, hch, hob, ga, gc, rfl⟩ := ord_append (h := h) hV hb
  have hlo : ∀ k, k < B + 8 → vo.ownBlock ≠ some k := fun k hk e => by have := (hV.own.lt k e).1; omega
  have hlo' : ∀ k, k < B + 8 → (Value.slice (some ga) (out.length + 1) gc).ownBlock ≠ some k := fun k hk e => by have := (hown.lt k e).1; omega
  have hbo : Blk w2 (B + 4) #[vo] 42 := hch.blk hV.bo (hlo _ (by omega))
  have hch2 : Ch (fun k => k = B + 4) w2 (w2.setCell ⟨B + 4, 0, none⟩ (.slice (some ga) (out.length + 1) gc)) := Ch.set _ _ _ _ rfl
  have hbx := hch2.blk (hch.blk hV.bx (hlo _ (by omega))) (by omega)
  have hfm := hch2.fm (hch.fm hV.fm (hlo _ (by omega))) (by omega)
  have hbg := hch2.blk (hch.blk hV.bg (hlo _ (by omega))) (by omega)
  have hbv := hch2.blk (hch.blk hV.bv (hlo _ (by omega))) (by omega)
  have hbo2 := hbo.set 0 (.slice (some ga) (out.length + 1) gc)
  have how := hch2.own hown (fun g hg e => hlo' g (by omega) hg)
  have hx := hch2.ext (hch.ext hV.ext (fun k hk => by have := (hV.own.lt k hk).1; have := hV.hB; omega)) (fun k hk => by have := hV.hB; omega)
  have hs2 := Nat.le_trans hch.size hch2.size
  have hfr : Fr B vo (.slice (some ga) (out.length + 1) gc) w (w2.setCell ⟨B + 4, 0, none⟩ (.slice (some ga) (out.length + 1) gc)) :=
    ⟨(hch.mono (T := Sv B vo) fun i _ h => .inr (.inr h)).trans hch2 (fun i _ h => .inr (.inl h)), hob⟩
  obtain ⟨w3, hw3⟩ : ∃ w3, w2.setCell ⟨B + 4, 0, none⟩ (.slice (some ga) (out.length + 1) gc) = w3 := ⟨_, rfl⟩
  rw [hw3] at hch2 hbx hfm hbg hbv hbo2 how hx hs2 hfr
  obtain ⟨w4, hput, hfm4, hg4⟩ := hfm.put Try.underlying72 Try.underlying3 h (.int .i64 ((out.length : Int) + 1)) (asV_new h0 hn)
  rw [← asV_snoc] at hfm4
  have hch4 : Ch (fun k => k = B + 2) w3 w4 := Ch.of_grown hg4 (fun k hk => by cases hk; rfl)
  refine ⟨ga, gc, w2, w4, hrun, hbo.cell (i := 0) rfl, hbo.free 0, ?_, ?_, ?_, ?_, ?_⟩
  all_goals try rw [hw3]
  all_goals first
    | exact hbx.cell (i := 0) rfl
    | exact hbo2.cell (i := 0) rfl
    | (rw [Int.natCast_add, Int.natCast_one]; exact hput)
    | exact ⟨hV.hB, by have := hch4.size; have := hV.hs; omega, hch4.ext hx (fun k hk => by have := hV.hB; omega), hch4.blk hbg (by omega), hfm4, hch4.blk hbx (by omega), hch4.blk hbo2 (by omega), hch4.blk hbv (by omega), by
        rw [List.length_append]
        exact hch4.own how (fun g hg e => hlo' g (by omega) hg)⟩
    | exact ⟨hfr.1.trans hch4 (fun i _ h => .inl h), hob⟩

set_option maxRecDepth 100000 in
set_option maxHeartbeats 8000000 in
theorem visit_in (B : Nat) (w0 : World) (a b : Value) (g : Gph) (hG : Gr w0 a b g) (hr : rightG g = true) (hp : posG g) (hN : g.1.length ≤ 1000) : ∀ (k : Nat) (h : Int) (out : List Int) (vo : Value) (w : World), Vw B w0 a b out vo w → In g.1.length out → g.1.length < out.length + k → 0 ≤ h → h ≤ g.1.length →
    Calls Try.prog 28 #[.int .i64 h, .pointer (some ⟨B + 3, 0, none⟩), .pointer (some ⟨B + 4, 0, none⟩), .pointer (some ⟨B, 0, none⟩), .pointer (some ⟨B + 5, 0, none⟩)] w fun e w' => e = .returned (.tuple #[]) ∧ ∃ vo', Vw B w0 a b (dfs g k out h) vo' w' ∧ Fr B vo vo' w w'
  | 0, h, out, vo, w, hV, hi, hk, h0, h1 => by
    have := in_len _ _ hi
    omega
  | k + 1, h, out, vo, w, hV, hi, hk, h0, h1 => by
    have IH := Lib.hid (visit_in B w0 a b g hG hr hp hN k)
    have HV := Lib.hid hV
    have c3 : w.cell? ⟨B + 3, 0, none⟩ = some (.map (some (B + 2))) := hV.bx.cell (i := 0) rfl
    unfold dfs
    by_cases hh : h = 0 ∨ h ∈ out
    · rw [if_pos hh]
      have hl := look_had hV hi h hh
      clear hV hi hh hk IH
      go_enter Try.func28, Try.ntmps28
      go_wp2_with fail
      (first | go_end0 | ((try simp only [Exit.inBlock, Exit.then]); refine bodyPost_ret (results_none rfl _ _ _) rfl ?_))
      exact ⟨rfl, vo, HV.out, Fr.refl _ _ _⟩
    · rw [if_neg hh]
      have hh' : h ≠ 0 ∧ h ∉ out := ⟨fun e => hh (.inl e), fun e => hh (.inr e)⟩
      have hl := look_not (N := g.1.length) hV h hh'.1 hh'.2
      have hlen := in_len _ _ hi
      obtain ⟨va, vc, rfl⟩ := own_form hV.own
      obtain ⟨ol, hol⟩ : ∃ ol, out.length = ol := ⟨_, rfl⟩
      obtain ⟨ga, gc, w2, w4, hrun, q1, q2, q3, q4, hput, hV4, hF4⟩ := told hV (by omega) hh'.1 hh'.2 (ol + 1) (by omega)
      obtain ⟨n1, hn1⟩ : ∃ n1, ol + 1 = n1 := ⟨_, rfl⟩
      rw [hn1] at hrun q3 q4 hput hV4 hF4
      rw [hol] at hrun q1
      have c4 : w.cell? ⟨B + 4, 0, none⟩ = some (.slice va ol vc) := by rw [← hol]; exact hV.bo.cell (i := 0) rfl
      have HR := Lib.hid hrun
      have hi' : In g.1.length (out ++ [h]) := in_snoc hi (by omega) h1 hh'.2
      have HI := Lib.hid hi'
      have HK : Hid (g.1.length < (out ++ [h]).length + k) := by show _ < _; rw [List.length_append]; simp; omega
      have HKids := Lib.hid (kids_in hr hp (h := h) (by omega) h1)
      have HKe : Hid (kids g h = kids g h) := rfl
      obtain ⟨n, rfl⟩ : ∃ n : Nat, h = (n : Int) + 1 := ⟨(h - 1).toNat, by omega⟩
      have hn : n < g.1.length := by omega
      have hsmall : (n : Int) < 1000 := by omega
      obtain ⟨l0, l1, m0, m1⟩ := right_head hr hp hn
      obtain ⟨_, _, hfl, _⟩ := right_node hr hn
      have hpos := (pos_node hp hn).2
      obtain ⟨a0, c0, rfl⟩ := hG.1.form
      have d0 : w4.cell? ⟨B, 0, none⟩ = some (.slice a0 g.1.length c0) := hV4.bg.cell (i := 0) rfl
      obtain ⟨b1, o1, s1, u, hix, e0, e1, e2, e3, hu⟩ := hG.1.at_ n hn
      replace e0 := hV4.ext.cell e0
      replace e1 := hV4.ext.cell e1
      replace e2 := hV4.ext.cell e2
      replace e3 := hV4.ext.cell e3
      have hkd : kids g ((n : Int) + 1) = (ptrs (node g n).1.2.1.toNat (node g n).1.2.2).map fun p => (node g n).2.getD p.toNat 0 := by
        unfold kids
        rw [show ((n : Int) + 1 - 1).toNat = n by omega]
      obtain ⟨ks, hks⟩ : ∃ ks, kids g ((n : Int) + 1) = ks := ⟨_, rfl⟩
      rw [hks] at hkd HKids ⊢
      replace e0 : w4.cell? ⟨b1, o1, s1⟩ = some (.int .i64 (node g n).1.1) := e0
      replace e1 : w4.cell? ⟨b1, o1 + 1, none⟩ = some (.int .i64 (node g n).1.2.1) := e1
      replace e2 : w4.cell? ⟨b1, o1 + 2, none⟩ = some (.int .u64 (node g n).1.2.2) := e2
      replace hu : Sl .u64 w0 u (node g n).2 := hu
      generalize node g n = nd at *
      obtain ⟨⟨t, l, m⟩, f⟩ := nd
      dsimp only at *
      obtain ⟨l', rfl⟩ : ∃ l' : Nat, l = (l' : Int) := ⟨l.toNat, by omega⟩
      rw [Int.toNat_natCast] at hkd
      have hfl' : f.length = l' := by omega
      obtain ⟨ua, uc, rfl⟩ := Row.form hu
      rw [hfl'] at e3
      have hwr : IntKind.i64.wrap ((n : Int) + 1 - 1) = n := by rw [IntKind.wrap_i64]; omega
      obtain ⟨wN, hwN⟩ : ∃ wN, wN = w4.alloc (.cells #[.int .i64 t, .int .i64 l', .int .u64 m, .slice ua l' uc] 67) := ⟨_, rfl⟩
      obtain ⟨nb, hnb⟩ : ∃ nb, nb = w4.heap.size := ⟨_, rfl⟩
      have hxN : Ext w4 wN := hwN ▸ (Ext.refl w4).alloc _
      have hbN : Blk wN nb #[.int .i64 t, .int .i64 l', .int .u64 m, .slice ua l' uc] 67 := by rw [hwN, hnb]; exact Blk.new w4 _ _
      have b0 : wN.cell? ⟨nb, 0, none⟩ = some (.int .i64 t) := hbN.cell (i := 0) rfl
      have b1' : wN.cell? ⟨nb, 1, none⟩ = some (.int .i64 l') := hbN.cell (i := 1) rfl
      have b2 : wN.cell? ⟨nb, 2, none⟩ = some (.int .u64 m) := hbN.cell (i := 2) rfl
      have HP := Lib.hid (ptrs_own t m l' (by omega) m0 m1 wN)
      have HVN := Lib.hid (hV4.ext' hxN)
      have HFN := Lib.hid (Fr.trans hF4 (Fr.of_ext B _ hxN))
      have HBN := Lib.hid hbN
      have HU := Lib.hid hu
      have HRP := Lib.hid (And.intro hr hp)
      have HKD := Lib.hid hkd
      have HFL := Lib.hid hfl'
      have HPOS := Lib.hid hpos
      have hnbN : nb < wN.heap.size := hbN.lt
      have hnbv : Hid (B + 8 ≤ nb ∧ ∀ g, (Value.slice (some ga) n1 gc).ownBlock = some g → g < nb) := ⟨by rw [hnb]; exact hV4.hs, fun g hg => by rw [hnb]; exact (hV4.own.lt g hg).2⟩
      have HL := Lib.hid (And.intro l1 hN)
      clear hV hi hh hk hh' hlen hol hrun hV4 hF4 hi' hn1 hG hr hp hN h0 h1 hn hks hkd hu hfl hfl' hpos l0 l1 m0 m1 hbN
      go_enter Try.func28, Try.ntmps28
      go_wp2_with (at_builtin; refine Lib.wpList_append_run _ rfl _ _ _ _ rfl _ _ rfl rfl _ w2 HR.out ?_)
      rw [← hwN, ← hnb]
      clear hnb
      refine HP.out.mono ?_; rintro e wL ⟨po, rfl, hpo, hxL⟩
      obtain ⟨pa, pc, rfl⟩ := own_form hpo
      obtain ⟨pl, hpl⟩ : ∃ pl, (ptrs l' m).length = pl := ⟨_, rfl⟩
      have hpl16 : pl ≤ 16 := by rw [← hpl]; have := ptrs_len l' m; have := HL.out.1; omega
      have HPO := Lib.hid hpo
      have HPL := Lib.hid hpl
      have HXL := Lib.hid hxL
      have HVL := Lib.hid (HVN.out.ext' hxL)
      have HFLL := Lib.hid (Fr.trans HFN.out (Fr.of_ext B _ hxL))
      rw [hpl]
      clear hpo hpl hxL hwN c3 c4 q1 q2 q3 q4 hl hput e0 e1 e2 e3 d0 b0 b1' b2 hix
      go_wp2_with fail
      go_loopw [36] (fun i wr => ∃ (j : Nat) (o : List Int) (v : Value), i = .int .i64 j ∧ j ≤ pl ∧ o = (ks.take j).foldl (dfs g k) (out ++ [(n : Int) + 1]) ∧ In g.1.length o ∧ (out ++ [(n : Int) + 1]).length ≤ o.length ∧ Vw B w0 (.slice a0 g.1.length c0) b o v wr ∧ Fr B (.slice va out.length vc) v w wr ∧ Fr B (.slice (some ga) n1 gc) v wL wr) (fun i _ => pl - (intOf i).toNat)
      case atStart => exact ⟨0, _, _, rfl, Nat.zero_le _, rfl, HI.out, Nat.le_refl _, HVL.out, HFLL.out, Fr.refl _ _ _⟩
      case round =>
        obtain ⟨j, o, v, rfl, hj, ho, hio, hlo, hVr, hF1, hF2⟩ := hrel
        by_cases hlt : j < pl
        · have hown := hF2.1.own HPO.out (fun z hz hs => by
            have h1 := HPO.out.lt z hz
            have h2 := hnbv.out
            rcases hs with hs | hs | hs
            · omega
            · omega
            · have := h2.2 z hs; omega)
          have hrow : Row wr 1 8 (.slice pa (ptrs l' m).length pc) (ptrs l' m).length ((ptrs l' m).map (Value.int .i64)) := Row.of_own hown (by rw [HPL.out]; omega) (by rw [HPL.out]; omega)
          obtain ⟨p, hix, hpc⟩ := Row.at1 (P := Try.prog) uI szI hrow (i := (j : Int)) (by omega) (by rw [HPL.out]; omega)
          rw [HPL.out] at hix
          have hxj : ∃ xi : Nat, (ptrs l' m).getD j 0 = (xi : Int) ∧ xi < l' := by
            have hjl : j < (ptrs l' m).length := by rw [HPL.out]; exact hlt
            obtain ⟨xi, h1, h2, _⟩ := ptrs_mem (List.getElem_mem hjl)
            exact ⟨xi, by simp [List.getD_eq_getElem?_getD, hjl, h1], h2⟩
          obtain ⟨xi, hxi, hxl⟩ := hxj
          have hpc : wr.cell? p = some (.int .i64 xi) := hpc _ (by
            have hjl : j < (ptrs l' m).length := by rw [HPL.out]; exact hlt
            rw [← hxi]
            simp [List.getD_eq_getElem?_getD, hjl])
          have hkj : ks[j]? = some (f.getD xi 0) := by
            have hjl : j < (ptrs l' m).length := by rw [HPL.out]; exact hlt
            rw [HKD.out, List.getElem?_map, List.getElem?_eq_getElem hjl]
            have : (ptrs l' m)[j] = (xi : Int) := by rw [← hxi]; simp [List.getD_eq_getElem?_getD, hjl]
            simp [this]
          have hkb := HKids.out (f.getD xi 0) (List.mem_of_getElem? hkj)
          have hbr := hF2.1.blk (HBN.out.ext HXL.out) (fun hs => by
            have h2 := hnbv.out
            rcases hs with hs | hs | hs
            · omega
            · omega
            · have := h2.2 nb hs; omega)
          have r3 : wr.cell? ⟨nb, 3, none⟩ = some (.slice ua l' uc) := hbr.cell (i := 3) rfl
          have r5 : wr.cell? ⟨B + 5, 0, none⟩ = some (fv B) := hVr.bv.cell (i := 0) rfl
          obtain ⟨y, hy⟩ : ∃ y, f.getD xi 0 = y := ⟨_, rfl⟩
          rw [hy] at hkj hkb
          have hU := HU.out.ext hVr.ext
          rw [HFL.out] at hU
          obtain ⟨q, hqx, hqc⟩ := hU.at_ uU szU (i := (xi : Int)) (by omega) (by rw [HFL.out]; omega)
          rw [Int.toNat_natCast, hy] at hqc
          have hyw : IntKind.i64.wrap y = y := by
            have := HL.out.2
            rw [IntKind.wrap_i64]; omega
          have hS0 : wr.drew.cell? ⟨B + 5, 0, none⟩ = some (.func (.func 28) #[] #[.pointer (some ⟨B + 3, 0, none⟩), .pointer (some ⟨B + 4, 0, none⟩), .pointer (some ⟨B, 0, none⟩), .pointer (some ⟨B + 5, 0, none⟩)]) ∧ wr.drew.cell? ⟨nb, 3, none⟩ = some (.slice ua l' uc) ∧ wr.drew.cell? q = some (.int .u64 y) := ⟨r5, r3, hqc⟩
          have HC := Lib.hid (IH.out y o v wr.drew (hVr.ext' ((Ext.refl wr).drew)) hio (by have := HK.out; omega) hkb.1 hkb.2)
          have HFin : Hid (∀ w5 v5, Vw B w0 (.slice a0 g.1.length c0) b (dfs g k o y) v5 w5 → Fr B v v5 wr.drew w5 → ∃ (o : List Int) (v : Value), o = (ks.take (j + 1)).foldl (dfs g k) (out ++ [(n : Int) + 1]) ∧ In g.1.length o ∧ (out ++ [(n : Int) + 1]).length ≤ o.length ∧ Vw B w0 (.slice a0 g.1.length c0) b o v w5 ∧ Fr B (.slice va out.length vc) v w w5 ∧ Fr B (.slice (some ga) n1 gc) v wL w5) := fun w5 v5 hV5 hF5 => by
            obtain ⟨i1, i2⟩ := dfs_in HRP.out.1 HRP.out.2 k o y hio hkb.1 hkb.2
            have hF5' := (Fr.of_ext B v ((Ext.refl wr).drew)).trans hF5
            refine ⟨_, v5, ?_, i1, Nat.le_trans hlo i2.length_le, hV5, hF1.trans hF5', hF2.trans hF5'⟩
            rw [List.take_add_one, hkj, List.foldl_append, ← ho]
            rfl
          clear hown hrow hkj hkb hbr hy hU hqc r3 r5 hio hlo hVr hF1 hF2 ho hxi
          go_wp2_with fail
          refine wp_region_noPanic ?_
          refine Rt.begin_ (fun W : World => W.cell? ⟨B + 5, 0, none⟩ = some (.func (.func 28) #[] #[.pointer (some ⟨B + 3, 0, none⟩), .pointer (some ⟨B + 4, 0, none⟩), .pointer (some ⟨B, 0, none⟩), .pointer (some ⟨B + 5, 0, none⟩)]) ∧ W.cell? ⟨nb, 3, none⟩ = some (.slice ua l' uc) ∧ W.cell? q = some (.int .u64 y)) (fun i => i == 7) (by kernel_rfl) ?_
          simp only [List.length_cons, List.length_nil, Nat.reduceAdd, Array.replicate_succ, Array.replicate_zero]
          refine Rt.take 0 (v := ?_) rfl (by kernel_rfl) (fun _ _ _ h => h) rfl ?_ hS0 ?_
          rotate_left
          · (intro W hSW; (try dsimp only at hSW); go_simp; try with_reducible rfl)
          try simp only [Act.put, List.setIfInBounds_toArray, List.set_cons_zero, List.set_cons_succ]
          refine Rt.takeW 1 (v := ?_) rfl (by kernel_rfl) (fun _ _ _ h => h) rfl ?_ ?_
          rotate_left
          · (intro W; go_simp; try with_reducible rfl)
          try simp only [Act.put, List.setIfInBounds_toArray, List.set_cons_zero, List.set_cons_succ]
          refine Rt.take 2 (v := ?_) rfl (by kernel_rfl) (fun _ _ _ h => h) rfl ?_ hS0 ?_
          rotate_left
          · (intro W hSW; (try dsimp only at hSW); go_simp; try with_reducible rfl)
          try simp only [Act.put, List.setIfInBounds_toArray, List.set_cons_zero, List.set_cons_succ]
          refine Rt.takeW 3 (v := ?_) rfl (by kernel_rfl) (fun _ _ _ h => h) rfl ?_ ?_
          rotate_left
          · (intro W; go_simp; try with_reducible rfl)
          try simp only [Act.put, List.setIfInBounds_toArray, List.set_cons_zero, List.set_cons_succ]
          refine Rt.takeW 4 (v := ?_) rfl (by kernel_rfl) (fun _ _ _ h => h) rfl ?_ ?_
          rotate_left
          · (intro W; go_simp; try with_reducible rfl)
          try simp only [Act.put, List.setIfInBounds_toArray, List.set_cons_zero, List.set_cons_succ]
          refine Rt.take 5 (v := ?_) rfl (by kernel_rfl) (fun _ _ _ h => h) rfl ?_ hS0 ?_
          rotate_left
          · (intro W hSW; (try dsimp only at hSW); go_simp; try with_reducible rfl)
          try simp only [Act.put, List.setIfInBounds_toArray, List.set_cons_zero, List.set_cons_succ]
          refine Rt.takeW 6 (v := ?_) rfl (by kernel_rfl) (fun _ _ _ h => h) rfl ?_ ?_
          rotate_left
          · (intro W; go_simp; try with_reducible rfl)
          try simp only [Act.put, List.setIfInBounds_toArray, List.set_cons_zero, List.set_cons_succ]
          refine Rt.step 7 rfl (by kernel_rfl) rfl (fun K hK => ?_)
          go_simp
          refine HC.out.mono ?_; rintro e w5 ⟨rfl, v5, hV5, hF5⟩
          refine hK _ _ ⟨.inl rfl, ?_⟩
          clear hK K
          try simp only [Act.put, List.setIfInBounds_toArray, List.set_cons_zero, List.set_cons_succ]
          refine Rt.done (by kernel_rfl) ?_
          refine NoPanic.normal ?_
          obtain ⟨o5, v5', h51, h52, h53, h54, h55, h56⟩ := HFin.out _ _ hV5 hF5
          clear hV5 hF5 hS0 HC
          go_wp2_with fail
          go_roundw
          case rel => exact ⟨j + 1, o5, v5', by go_num, hlt, h51, h52, h53, h54, h55, h56⟩
          case measure => simp [intOf]; omega
        · obtain rfl : j = pl := by omega
          have hkl : ks.length = j := by rw [HKD.out, List.length_map, HPL.out]
          have HFin : Hid (Vw B w0 (.slice a0 g.1.length c0) b (ks.foldl (dfs g k) (out ++ [(n : Int) + 1])) v wr ∧ Fr B (.slice va out.length vc) v w wr) := ⟨by rw [← List.take_of_length_le (l := ks) (i := j) (by omega), ← ho]; exact hVr, hF1⟩
          clear hVr hF1 hF2 ho hio hlo hkl
          go_wp2_with fail
          (first | go_end0 | ((try simp only [Exit.inBlock, Exit.then]); refine bodyPost_ret (results_none rfl _ _ _) rfl ?_))
          exact ⟨rfl, v, HFin.out⟩
end Go.Proofs.Ytjhmlbhfnogdiaa.Vc
