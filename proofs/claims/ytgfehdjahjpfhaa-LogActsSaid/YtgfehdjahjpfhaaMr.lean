/- Rows of logs: slices of slices of entries; how they come in; and how many entries there are (a loop by goto). -/
import Derived.Test.YtgfehdjahjpfhaaEn
import Derived.Test.YtgfehdjahjpfhaaOk
import Derived.Scope
import Derived.WalkMore
import Derived.ScopeJumps
namespace Go.Proofs.Ytgfehdjahjpfhaa.Mr
open Go.RowKit Go.ChangeShapes
open Go.Proofs.Ytgfehdjahjpfhaa Go.Proofs.Ytgfehdjahjpfhaa.En Go.Proofs.Ytgfehdjahjpfhaa.Ok
set_option linter.unusedVariables false

theorem uT2 : Try.prog.underlying 35 = some (.slice 22) := Try.underlying35
theorem sz2 : ∀ w, (sizeOf 22).run Try.prog w = .ok 1 w := Try.sizeOf22

/-- v is a slice of slices of entries that reads as rows. -/
def Me (w : World) (v : Value) (rows : List (List E)) : Prop :=
  ∃ vs : List Value, vs.length = rows.length ∧ Row w 1 24 v vs.length vs ∧ (∀ u ∈ vs, u.oneCell' = true) ∧ ∀ (i : Nat) (u : Value) (r : List E), vs[i]? = some u → rows[i]? = some r → Es w u r

theorem Me.ext {w w' : World} {v : Value} {rows : List (List E)} (h : Me w v rows) (he : Ext w w') : Me w' v rows := by
  obtain ⟨vs, hl, hr, h1, hs⟩ := h
  exact ⟨vs, hl, hr.ext he, h1, fun i u r hu hr' => (hs i u r hu hr').ext he⟩
theorem Me.nil (w : World) : Me w (.slice none 0 0) [] := ⟨[], rfl, Row.nil w 1 24, by simp, by simp⟩
section
variable {w : World} {v : Value} {rows : List (List E)}
theorem Me.len (h : Me w v rows) (ty : TypeId) (w' : World) : (Builtin.len_ #[35] ty #[v]).run Try.prog w' = .ok (.int .i64 rows.length) w' := by
  obtain ⟨vs, hl, hr, _⟩ := h
  rw [← hl]; exact hr.len uT2 ty w'
theorem Me.small (h : Me w v rows) : (rows.length : Int) ≤ 140737488355328 := by
  obtain ⟨vs, hl, hr, _⟩ := h
  rw [← hl]; exact hr.small
theorem Me.at_ (h : Me w v rows) (i : Nat) (hi : i < rows.length) :
    ∃ (p : Addr) (u : Value), (∀ w', (Instr.indexAt 35 v (.int .i64 i)).run Try.prog w' = .ok (.pointer (some p)) w') ∧ w.cell? p = some u ∧ Es w u (rows.getD i []) := by
  obtain ⟨vs, hl, hr, _, hs⟩ := h
  obtain ⟨p, hp, hc⟩ := hr.at1 uT2 sz2 (i := i) (by omega) (by omega)
  have hi1 : i < vs.length := by omega
  exact ⟨p, vs[i], hp, hc _ (by simp [hi1]), hs i _ _ (by simp [hi1]) (by simp [List.getD_eq_getElem?_getD, hi])⟩
theorem Me.take (h : Me w v rows) (i : Nat) (hi : i ≤ rows.length) :
    ∃ u, (∀ w', (Instr.sliceAt 35 v none (some (.int .i64 i)) none).run Try.prog w' = .ok u w') ∧ Me w u (rows.take i) := by
  obtain ⟨vs, hl, hr, h1, hs⟩ := h
  obtain ⟨u, hu, hr2⟩ := Row.slice_to uT2 sz2 hr (k := i) (by omega)
  rw [Nat.mul_one] at hr2
  have hvl : (vs.take i).length = i := by rw [List.length_take]; omega
  refine ⟨u, hu, vs.take i, by rw [hvl, List.length_take]; omega, by rw [hvl]; exact hr2, fun x hx => h1 x (List.mem_of_mem_take hx), fun j x r hx hr' => ?_⟩
  rw [List.getElem?_take] at hx hr'
  split at hx
  · rename_i hlt
    rw [if_pos hlt] at hr'
    exact hs j x r hx hr'
  · cases hx
end

/-- An argument that is a slice of slices of entries. -/
theorem Me.of_R {w : World} {v : Value} (h : Rd.R Try.prog w 35 [v]) : ∃ rows, Me w v rows ∧ ∀ r ∈ rows, ∀ x ∈ r, wfE x := by
  have hc1 : Try.prog.cellsOf 22 = 1 := by kernel_rfl
  have hb1 : Try.prog.bytesOf 22 = 24 := by kernel_rfl
  rcases h.slice uT2 with h | ⟨a, len, cap, hv, hl, hm, hz, hel⟩
  · obtain rfl : v = .slice none 0 0 := by simpa using h
    exact ⟨[], Me.nil w, by simp⟩
  · obtain rfl : v = .slice (some a) len cap := by simpa using hv
    have each : ∀ i, i < cap → ∃ y : Value × List E, w.cell? (a.add i) = some y.1 ∧ y.1.oneCell' = true ∧ Es w y.1 y.2 ∧ ∀ x ∈ y.2, wfE x := by
      intro i hi
      obtain ⟨el, h1, h2⟩ := hel i hi
      rw [hc1, Nat.mul_one] at h1
      have hel1 : ∃ u, el = [u] ∧ u.oneCell' = true := by
        rcases h2.slice uT with h | ⟨a', l', c', hv, _⟩
        · exact ⟨_, h, rfl⟩
        · exact ⟨_, hv, rfl⟩
      obtain ⟨u, rfl, hu⟩ := hel1
      obtain ⟨xs, h3, h4⟩ := Es.of_R h2
      exact ⟨(u, xs), cell_of_cells?_one h1, hu, h3, h4⟩
    have : ∃ f : Nat → Value × List E, ∀ i, i < cap → w.cell? (a.add i) = some (f i).1 ∧ (f i).1.oneCell' = true ∧ Es w (f i).1 (f i).2 ∧ ∀ x ∈ (f i).2, wfE x :=
      ⟨fun i => if hi : i < cap then (each i hi).choose else (.slice none 0 0, []), fun i hi => by simp only [hi, dif_pos]; exact (each i hi).choose_spec⟩
    obtain ⟨f, hf⟩ := this
    have hr : reachBytes = 140737488351232 := by decide
    refine ⟨(List.range len).map fun i => (f i).2, ⟨(List.range len).map fun i => (f i).1, by simp, ⟨by simp, ?_, ?_, .inr ⟨a, cap, by simp, by simpa using hl, hm, ?_⟩⟩, ?_, ?_⟩, ?_⟩
    · rw [hb1] at hz; simp; omega
    · rw [hb1] at hz; simp; omega
    · intro j c hj
      obtain ⟨hlt, rfl⟩ := get_map1 hj
      exact (hf j (by omega)).1
    · intro u hu
      simp at hu
      obtain ⟨j, hj, rfl⟩ := hu
      exact (hf j (by omega)).2.1
    · intro i u r hu hr'
      obtain ⟨h1, rfl⟩ := get_map1 hu
      obtain ⟨h2, rfl⟩ := get_map1 hr'
      exact (hf i (by omega)).2.2.1
    · intro r hr' x hx
      simp at hr'
      obtain ⟨j, hj, rfl⟩ := hr'
      exact (hf j (by omega)).2.2.2 x hx

/-- How many there are, as the machine reckons. -/
def many (rows : List (List E)) : Int := rows.foldl (fun n r => IntKind.i64.wrap (n + r.length)) 0
theorem many_take (rows : List (List E)) {j : Nat} (h : j < rows.length) : many (rows.take (j + 1)) = IntKind.i64.wrap (many (rows.take j) + (rows.getD j []).length) := by
  unfold many
  rw [List.take_succ_eq_append_getElem h, List.foldl_append]
  simp [List.getD_eq_getElem?_getD, h]

set_option maxRecDepth 1000000 in
theorem many_any (v : Value) (rows : List (List E)) (w : World) (h : Me w v rows) :
    Calls Try.prog 14 #[v] w fun e w' => e = .returned (.int .i64 (many rows)) ∧ w = w' := by
  have hlen := h.len
  have hsm := h.small
  have H := Lib.hid h
  clear h
  go_enter Try.func14, Try.ntmps14
  go_wp2
  refine wp_scope_jumps 0 (fun a' w' => w' = w ∧ ∃ (j : Nat) (u5 u6 u7 u8 u9 u10 u11 u12 u13 u14 u15 u16 u17 : Value), a' = { tmps := #[v, undef, .int .i64 0, .int .i64 (many (rows.take j)), .int .i64 j, u5, u6, u7, u8, u9, u10, u11, u12, u13, u14, u15, u16, u17, undef], defers := [] } ∧ j ≤ rows.length) (fun a' _ => rows.length - (intOf (a'.tmps.getD 4 undef)).toNat) rfl ?_ ?_
  · go_wp2
    go_step3
    by_cases hlt : 0 < rows.length
    · obtain ⟨p, u, hp, hcp, hu⟩ := H.out.at_ 0 hlt
      replace hp : ∀ w', (Instr.indexAt 35 v (.int .i64 0)).run Try.prog w' = .ok (.pointer (some p)) w' := hp
      have hul := hu.len
      have husm := hu.small
      have hmt := many_take rows hlt
      obtain ⟨l, hl⟩ : ∃ l, (rows.getD 0 []).length = l := ⟨_, rfl⟩
      rw [hl] at hul husm hmt
      have hmt2 : many (rows.take (0 + 1)) = (l : Int) := by
        rw [hmt]
        show IntKind.i64.wrap (0 + (l : Int)) = _
        rw [IntKind.wrap_i64]; omega
      have HMT := Lib.hid hmt2
      have hjl : (0 : Int) < rows.length := by omega
      clear hu hl hmt hmt2
      go_wp2
      go_step3
      have e := HMT.out.symm
      rw [e]
      exact ⟨rfl, rfl, 1, _, _, _, _, _, _, _, _, _, _, _, _, _, rfl, hlt⟩
    · have hz : rows.length = 0 := by omega
      obtain rfl := List.eq_nil_of_length_eq_zero hz
      replace hlen : ∀ ty w', (Builtin.len_ #[35] ty #[v]).run Try.prog w' = .ok (.int .i64 0) w' := hlen
      clear hlt hz hsm
      go_wp2
      simp only [Exit.jump]
      go_ret
      exact ⟨rfl, rfl⟩
  · rintro a' w' ⟨rfl, j, u5, u6, u7, u8, u9, u10, u11, u12, u13, u14, u15, u16, u17, rfl, hj⟩
    by_cases hlt : j < rows.length
    · obtain ⟨p, u, hp, hcp, hu⟩ := H.out.at_ j hlt
      have hul := hu.len
      have husm := hu.small
      have hmt := many_take rows hlt
      obtain ⟨l, hl⟩ : ∃ l, (rows.getD j []).length = l := ⟨_, rfl⟩
      rw [hl] at hul husm hmt
      obtain ⟨m, hm⟩ : ∃ m, many (rows.take j) = m := ⟨_, rfl⟩
      rw [hm] at hmt ⊢
      obtain ⟨y, hy⟩ : ∃ y, IntKind.i64.wrap (m + (l : Int)) = y := ⟨_, rfl⟩
      rw [hy] at hmt
      have HMT := Lib.hid hmt
      have hjs : (j : Int) ≤ 140737488355328 := by omega
      have hjl : (j : Int) < rows.length := by omega
      clear hu hl hm hmt
      go_wp2
      go_step3
      have e := HMT.out.symm
      rw [e]
      refine ⟨rfl, ⟨rfl, j + 1, _, _, _, _, _, _, _, _, _, _, _, _, _, rfl, hlt⟩, ?_⟩
      simp [intOf]; omega
    · obtain rfl : j = rows.length := by omega
      rw [List.take_length]
      go_wp2
      simp only [Exit.jump]
      go_ret
      exact ⟨rfl, rfl⟩
end Go.Proofs.Ytgfehdjahjpfhaa.Mr
