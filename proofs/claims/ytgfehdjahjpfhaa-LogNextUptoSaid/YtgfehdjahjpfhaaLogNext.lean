/- LogNext, where what comes in is of bounded bulk: the first log with an entry is told just if there are some; all ahead of it are empty. -/
import Derived.Test.YtgfehdjahjpfhaaRows
import Derived.Test.YtgfehdjahjpfhaaSh10
import Derived.Test.YtgfehdjahjpfhaaNx
import Derived.Test.YtgfehdjahjpfhaaRb10
namespace Go.Proofs.Ytgfehdjahjpfhaa.logNext
open Go.RowKit Go.Proofs.Ytgfehdjahjpfhaa Go.Proofs.Ytgfehdjahjpfhaa.En Go.Proofs.Ytgfehdjahjpfhaa.Mr

theorem many_zero : ∀ (rows : List (List E)), (∀ r ∈ rows, r.length = 0) → many rows = 0 := fun rows h => by
  have key : ∀ (rows : List (List E)), (∀ r ∈ rows, r.length = 0) → rows.foldl (fun n r => IntKind.i64.wrap (n + (r.length : Int))) 0 = 0 := fun rows => by
    induction rows with
    | nil => intro _; rfl
    | cons r l ih =>
      intro h
      have e : IntKind.i64.wrap (0 + (r.length : Int)) = 0 := by rw [h r (List.mem_cons_self ..)]; rfl
      simp only [List.foldl_cons, e]
      exact ih fun x hx => h x (List.mem_cons_of_mem _ hx)
  exact key rows h
theorem le_sum : ∀ (rows : List (List E)) (r : List E), r ∈ rows → r.length ≤ (rows.map List.length).sum
  | [], _, h => by simp at h
  | x :: l, r, h => by
    simp only [List.map_cons, List.sum_cons]
    rcases List.mem_cons.1 h with rfl | h
    · omega
    · have := le_sum l r h; omega
theorem facts (rows : List (List E)) (hb : (rows.map List.length).sum ≤ 1048576) :
    (∃ i, i < rows.length ∧ Nx.nxB rows = true ∧ Nx.nxI rows = (i : Nat) ∧ 0 < many rows ∧ 0 < (rows.getD i []).length ∧ many (rows.take i) = 0) ∨ (Nx.nxB rows = false ∧ Nx.nxI rows = 0 ∧ many rows = 0) := by
  by_cases h : ∃ i, i < rows.length ∧ 0 < (rows.getD i []).length ∧ ∀ t, t < i → (rows.getD t []).length = 0
  · obtain ⟨i, hi, h1, h2⟩ := h
    have e := Nx.idx_eq hi h1 h2
    refine .inl ⟨i, hi, by unfold Nx.nxB; rw [e]; exact decide_eq_true hi, by unfold Nx.nxI; rw [e, if_pos hi], ?_, h1, ?_⟩
    · rw [Rb.many_eq hb]
      have := le_sum rows (rows.getD i []) (by simp [List.getD_eq_getElem?_getD, hi])
      omega
    · refine many_zero _ fun r hr => ?_
      obtain ⟨t, ht, rfl⟩ := List.getElem_of_mem hr
      have ht' : t < i := by simp at ht; omega
      have := h2 t ht'
      simpa [List.getD_eq_getElem?_getD, show t < rows.length by omega] using this
  · have h0 : ∀ n t, t < n → t < rows.length → (rows.getD t []).length = 0 := fun n => by
      induction n with
      | zero => intro t ht; omega
      | succ n ih =>
        intro t ht htl
        by_cases e : t < n
        · exact ih t e htl
        · obtain rfl : t = n := by omega
          exact Classical.byContradiction fun hne => h ⟨t, htl, by omega, fun q hq => ih q hq (by omega)⟩
    have h1 : ∀ t, t < rows.length → (rows.getD t []).length = 0 := fun t ht => h0 (t + 1) t (by omega) ht
    have hno := Nx.idx_none h1
    refine .inr ⟨by unfold Nx.nxB; exact decide_eq_false hno, by unfold Nx.nxI; rw [if_neg hno], many_zero _ fun r hr => ?_⟩
    obtain ⟨t, ht, rfl⟩ := List.getElem_of_mem hr
    have := h1 t ht
    simpa [List.getD_eq_getElem?_getD, ht] using this

theorem go (v : Value) (rows : List (List E)) (w : World) (h : Me w v rows) (hb : (rows.map List.length).sum ≤ 1048576) : Calls Try.prog 8 #[v] w fun e w' => e = .returned (.bool true) ∧ Ext w w' := by
  have hlen := h.len
  have hsm := h.small
  have HN := Lib.hid (fun w h => Nx.next_any v rows w h)
  have HM := Lib.hid (fun w h => many_any v rows w h)
  have hf := facts rows hb
  have H := Lib.hid h
  clear h hb
  rcases hf with ⟨i, hi, e1, e2, e3, e4, e5⟩ | ⟨e1, e2, e3⟩
  · rw [e1, e2] at HN
    obtain ⟨s, hs⟩ : ∃ s, many rows = s := ⟨_, rfl⟩
    rw [hs] at HM e3
    have hcmp : decide (0 < s) = true := decide_eq_true e3
    have his : (i : Int) ≤ 140737488355328 := by omega
    have hil : (i : Int) < rows.length := by omega
    have hi0 : decide ((i : Int) < 0) = false := decide_eq_false (by omega)
    clear e1 e2 hs
    go_enter Try.func8, Try.ntmps8
    go_wp2_with fail
    refine (Sh.shown_any _).mono ?_; rintro e w0 ⟨rfl, hx0⟩
    obtain ⟨p, u, hp, hcp, hu⟩ := (H.out.ext hx0).at_ i hi
    obtain ⟨u2, hs2, hu2⟩ := (H.out.ext hx0).take i (by omega)
    have hul := hu.len
    have husm := hu.small
    obtain ⟨l, hl⟩ : ∃ l, (rows.getD i []).length = l := ⟨_, rfl⟩
    rw [hl] at hul husm e4
    have hl0 : ((l : Int) == 0) = false := by rw [beq_eq_false_iff_ne]; omega
    have HM2 := Lib.hid (many_any u2 _ _ hu2)
    rw [e5] at HM2
    have HX := Lib.hid hx0
    clear hu hu2 hl hx0 e5 e4
    go_wp2_with fail
    refine (HN.out _ (H.out.ext HX.out)).mono ?_; rintro e w' ⟨rfl, rfl⟩
    go_wp2_with fail
    refine (HM.out _ (H.out.ext HX.out)).mono ?_; rintro e w' ⟨rfl, rfl⟩
    go_wp2_with fail
    refine HM2.out.mono ?_; rintro e w' ⟨rfl, rfl⟩
    go_wp2_with fail
    go_ret
    exact ⟨by first | rfl | (simp; done), HX.out⟩
  · rw [e1, e2] at HN
    rw [e3] at HM
    clear e1 e2 e3
    go_enter Try.func8, Try.ntmps8
    go_wp2_with fail
    refine (Sh.shown_any _).mono ?_; rintro e w0 ⟨rfl, hx0⟩
    have HX := Lib.hid hx0
    clear hx0
    go_wp2_with fail
    refine (HN.out _ (H.out.ext HX.out)).mono ?_; rintro e w' ⟨rfl, rfl⟩
    go_wp2_with fail
    refine (HM.out _ (H.out.ext HX.out)).mono ?_; rintro e w' ⟨rfl, rfl⟩
    go_wp2_with fail
    go_ret
    exact ⟨by first | rfl | (simp; done), HX.out⟩

theorem walk (v0 : Value) (W : World) (r0 : Rb.V Try.prog W 35 v0 1048576) : Calls Try.prog 8 #[v0] W fun e w' => e = .returned (.bool true) ∧ Below W.heap.size W w' := by
  obtain ⟨a0, n0, c0, rfl, h⟩ := r0.slice Try.underlying35
  obtain ⟨rows, hm, _⟩ := Me.of_R h.rd
  have hle := Rb.me_le h hm
  exact (go _ rows W hm hle).mono fun e w' ⟨he, hw⟩ => ⟨he, hw.below⟩

open Go.ChangeShapes Go.WideShapes Go.ChangeAt Go.RowKit
theorem own : ownKnob Try.prog.godebug = none := by kernel_rfl
theorem laidOut : laidOutB Try.prog = true := by kernel_rfl

theorem contract (H : Type) (enc : TypeId × Value → H) (W : World) (base : Nat) (args : Array Value) (ds gs : List (DataW H)) (before : List MemPlace)
    (hval0 : ∀ (j : Nat) t v, Try.f8.params[j]? = some t → args[j]? = some v → Value.okWide Try.prog W .any base t v)
    (hW : DataW.Whole enc Try.prog Try.f8.params.toList Rows.logNextSpec.vars false W args.toList ds gs before) (hk : Rows.uptoSmall H (ds ++ gs) = true)
    (hsz0 : (DataW.weightsEach Try.prog (Try.f8.params.toList ++ []) (ds ++ gs)).all (· ≤ reachBytes) = true) :
    Calls Try.prog 8 args W fun e W' => ∃ v, e = .returned v ∧ Rows.logNextSpec.post enc Try.prog Try.f8 false true false false W args v W' := by
  have hval : ∀ (j : Nat) t v, Try.f8.params[j]? = some t → args[j]? = some v → Value.okWide Try.prog W .any base t v := hval0
  have hW' := hW
  obtain ⟨p, q, hA0, hV, rfl, _, _⟩ := hW
  have hA : DataW.TrodAll enc Try.prog W 0 (fun _ => true) true Try.f8.params.toList args.toList ds p := hA0
  obtain ⟨rfl, rfl⟩ := trodVars_none hV
  have hsz : (DataW.weightsEach Try.prog (Try.f8.params.toList ++ []) (ds ++ [])).all (· ≤ reachBytes) = true := hsz0
  have hkk := Rb.small hk
  rw [List.append_nil] at hkk
  rw [Try.params8] at hA hval hsz
  have hA2 := hA
  obtain ⟨v0, vs0, d0, ds0, p0, q0, hargs, rfl, rfl, h0, r0⟩ := trodAll_cons hA2
  obtain ⟨rfl, rfl, rfl⟩ := trodAll_nil r0
  obtain rfl : args = #[v0] := by cases args; simp_all
  have hR := Rb.trodAll_V hA (fun n hn => by simpa using List.all_eq_true.1 hsz n (by simpa using hn)) hkk (fun j t v hj hv => hval j t v (by simpa using hj) (by simpa using hv))
  clear hA0 hval0 hA2
  refine (walk v0 W (hR 0 35 v0 rfl rfl)).mono fun e W' ⟨he, bel⟩ => ?_
  subst he
  exact ⟨_, rfl, _, _, _, [], _, [], hW', trodAll_mk1 (shut_bool Try.underlying4 _), Rd.trodAll_below laidOut bel (List.forall_mem_cons.2 ⟨⟨by kernel_rfl, of_decide_eq_true (by kernel_rfl)⟩, fun _ h => by cases h⟩) hA, rfl, bel.frame _, fun h => by cases h⟩

set_option maxRecDepth 100000 in
theorem lifted (os : Os) (started : os.Started) (H : Type) (enc : TypeId × Value → H) (F : Stop.Interp) :
    ReturnsInHanded {} Try.checked os 8 .any ((Rows.OpenSpec.upto Rows.logNextSpec).pre6 enc Try.prog Try.f8 Rows.logNextUptoRow.domain false) (((Rows.OpenSpec.upto Rows.logNextSpec).at F).post enc Try.prog Try.f8 false true false false) := by
  refine returnsInHanded_of_cond_sized (C := Try.checked) (s := Rows.OpenSpec.upto Rows.logNextSpec) (k := Rows.uptoSmall) rfl own started (by kernel_rfl) Try.func8
    (OpenSpec.witness (enc := enc) (C := Try.checked) (s := Rows.OpenSpec.upto Rows.logNextSpec) (k := Rows.uptoSmall) rfl false ⟨#[], #[.slice none 0 0], []⟩ 12 (by kernel_rfl) (by kernel_rfl) (by kernel_rfl)
      (x := ([.nil], [], [])) (by kernel_rfl) rfl (by kernel_rfl)) ?_
  intro W base args ds gs before hval hW _ hk hsz _
  exact contract H enc W base args ds gs before hval hW hk hsz

theorem proved : Rows.LogNextUptoSaid :=
  OpenClaim.holds_of_cond 8 Try.f8 rfl rfl rfl rfl rfl rfl rfl ⟨rfl, rfl, rfl, rfl, rfl⟩ rfl rfl rfl rfl rfl (by kernel_rfl) Try.func8 (by kernel_rfl)
    (of_decide_eq_true (by kernel_rfl)) (by unfold Func.isWrapper; first | (rw [if_pos (by decide +kernel)]; kernel_rfl) | (rw [if_neg (by decide +kernel)]; exact ⟨rfl, rfl⟩))
    (fun os started H enc _ F => lifted os started H enc F)
#print axioms proved
end Go.Proofs.Ytgfehdjahjpfhaa.logNext
