/- acts: the map of what may be done, by kinds. -/
import Derived.Test.YtjhmlbhfnogdiaaWd
import Derived.Test.YtjhmlbhfnogdiaaFm
namespace Go.Proofs.Ytjhmlbhfnogdiaa.We
open Go.RowKit
open Go.Proofs.Ytjhmlbhfnogdiaa Go.Proofs.Ytjhmlbhfnogdiaa.Gr Go.Proofs.Ytjhmlbhfnogdiaa.Wk Go.Proofs.Ytjhmlbhfnogdiaa.Wc Go.Proofs.Ytjhmlbhfnogdiaa.Wd
set_option linter.unusedVariables false

def tbl (B C : Nat) : List (Int × Value) := [(1, .func (.func 50) #[.pointer (some ⟨B, 0, none⟩)] #[]), (2, .func (.func 51) #[] #[.pointer (some ⟨C, 0, none⟩)]), (3, .func (.func 53) #[] #[.pointer (some ⟨C, 0, none⟩)]), (4, .func (.func 55) #[.pointer (some ⟨B, 0, none⟩)] #[]), (6, .func (.func 55) #[.pointer (some ⟨B, 0, none⟩)] #[]), (7, .func (.func 55) #[.pointer (some ⟨B, 0, none⟩)] #[]), (5, .func (.func 56) #[] #[.pointer (some ⟨C, 0, none⟩)]), (8, .func (.func 59) #[] #[.pointer (some ⟨C, 0, none⟩)]), (9, .func (.func 60) #[] #[.pointer (some ⟨C, 0, none⟩)]), (10, .func (.func 61) #[] #[.pointer (some ⟨C, 0, none⟩)]), (11, .func (.func 64) #[] #[])]

set_option maxRecDepth 100000 in
set_option maxHeartbeats 4000000 in
theorem acts_any (B : Nat) (w : World) :
    Calls Try.prog 23 #[.pointer (some ⟨B, 0, none⟩)] w fun e w' => ∃ M, e = .returned (.map (some M)) ∧ Ext w w' ∧ Blk w' w.heap.size #[.pointer (some ⟨B, 0, none⟩)] 59 ∧ FM w' M (tbl B w.heap.size) := by
  obtain ⟨wA, hwA⟩ : ∃ wA, wA = (w.alloc (.cells #[.pointer (some ⟨B, 0, none⟩)] 59)).alloc (.map #[] 0) := ⟨_, rfl⟩
  obtain ⟨C, hC⟩ : ∃ C, w.heap.size = C := ⟨_, rfl⟩
  have hsz : (w.alloc (.cells #[.pointer (some ⟨B, 0, none⟩)] 59)).heap.size = C + 1 := by rw [← hC]; simp
  have x0 : Ext w wA := hwA ▸ ((Ext.refl w).alloc _).alloc _
  have b0 : Blk wA C #[.pointer (some ⟨B, 0, none⟩)] 59 := by
    rw [hwA, ← hC]; exact (Blk.new w _ _).alloc _
  have m0 : FM wA (C + 1) [] := by
    rw [hwA, ← hsz]; exact FM.made _
  have hCM : w.heap.size ≤ C + 1 := by omega
  obtain ⟨w1, r1, m1, g1⟩ := m0.put Try.underlying63 Try.underlying3 1 (.func (.func 50) #[.pointer (some ⟨B, 0, none⟩)] #[]) (by simp)
  have x1 : Ext w w1 := x0.grown g1 (fun k hk => by cases hk; exact hCM)
  have b1 : Blk w1 C #[.pointer (some ⟨B, 0, none⟩)] 59 := b0.kept g1 (fun e => by simp at e)
  have c1 : w1.cell? ⟨C, 0, none⟩ = some (.pointer (some ⟨B, 0, none⟩)) := b1.cell (i := 0) rfl
  obtain ⟨w2, r2, m2, g2⟩ := m1.put Try.underlying63 Try.underlying3 2 (.func (.func 51) #[] #[.pointer (some ⟨C, 0, none⟩)]) (by simp)
  have x2 : Ext w w2 := x1.grown g2 (fun k hk => by cases hk; exact hCM)
  have b2 : Blk w2 C #[.pointer (some ⟨B, 0, none⟩)] 59 := b1.kept g2 (fun e => by simp at e)
  have c2 : w2.cell? ⟨C, 0, none⟩ = some (.pointer (some ⟨B, 0, none⟩)) := b2.cell (i := 0) rfl
  obtain ⟨w3, r3, m3, g3⟩ := m2.put Try.underlying63 Try.underlying3 3 (.func (.func 53) #[] #[.pointer (some ⟨C, 0, none⟩)]) (by simp)
  have x3 : Ext w w3 := x2.grown g3 (fun k hk => by cases hk; exact hCM)
  have b3 : Blk w3 C #[.pointer (some ⟨B, 0, none⟩)] 59 := b2.kept g3 (fun e => by simp at e)
  have c3 : w3.cell? ⟨C, 0, none⟩ = some (.pointer (some ⟨B, 0, none⟩)) := b3.cell (i := 0) rfl
  obtain ⟨w4, r4, m4, g4⟩ := m3.put Try.underlying63 Try.underlying3 4 (.func (.func 55) #[.pointer (some ⟨B, 0, none⟩)] #[]) (by simp)
  have x4 : Ext w w4 := x3.grown g4 (fun k hk => by cases hk; exact hCM)
  have b4 : Blk w4 C #[.pointer (some ⟨B, 0, none⟩)] 59 := b3.kept g4 (fun e => by simp at e)
  have c4 : w4.cell? ⟨C, 0, none⟩ = some (.pointer (some ⟨B, 0, none⟩)) := b4.cell (i := 0) rfl
  obtain ⟨w5, r5, m5, g5⟩ := m4.put Try.underlying63 Try.underlying3 6 (.func (.func 55) #[.pointer (some ⟨B, 0, none⟩)] #[]) (by simp)
  have x5 : Ext w w5 := x4.grown g5 (fun k hk => by cases hk; exact hCM)
  have b5 : Blk w5 C #[.pointer (some ⟨B, 0, none⟩)] 59 := b4.kept g5 (fun e => by simp at e)
  have c5 : w5.cell? ⟨C, 0, none⟩ = some (.pointer (some ⟨B, 0, none⟩)) := b5.cell (i := 0) rfl
  obtain ⟨w6, r6, m6, g6⟩ := m5.put Try.underlying63 Try.underlying3 7 (.func (.func 55) #[.pointer (some ⟨B, 0, none⟩)] #[]) (by simp)
  have x6 : Ext w w6 := x5.grown g6 (fun k hk => by cases hk; exact hCM)
  have b6 : Blk w6 C #[.pointer (some ⟨B, 0, none⟩)] 59 := b5.kept g6 (fun e => by simp at e)
  have c6 : w6.cell? ⟨C, 0, none⟩ = some (.pointer (some ⟨B, 0, none⟩)) := b6.cell (i := 0) rfl
  obtain ⟨w7, r7, m7, g7⟩ := m6.put Try.underlying63 Try.underlying3 5 (.func (.func 56) #[] #[.pointer (some ⟨C, 0, none⟩)]) (by simp)
  have x7 : Ext w w7 := x6.grown g7 (fun k hk => by cases hk; exact hCM)
  have b7 : Blk w7 C #[.pointer (some ⟨B, 0, none⟩)] 59 := b6.kept g7 (fun e => by simp at e)
  have c7 : w7.cell? ⟨C, 0, none⟩ = some (.pointer (some ⟨B, 0, none⟩)) := b7.cell (i := 0) rfl
  obtain ⟨w8, r8, m8, g8⟩ := m7.put Try.underlying63 Try.underlying3 8 (.func (.func 59) #[] #[.pointer (some ⟨C, 0, none⟩)]) (by simp)
  have x8 : Ext w w8 := x7.grown g8 (fun k hk => by cases hk; exact hCM)
  have b8 : Blk w8 C #[.pointer (some ⟨B, 0, none⟩)] 59 := b7.kept g8 (fun e => by simp at e)
  have c8 : w8.cell? ⟨C, 0, none⟩ = some (.pointer (some ⟨B, 0, none⟩)) := b8.cell (i := 0) rfl
  obtain ⟨w9, r9, m9, g9⟩ := m8.put Try.underlying63 Try.underlying3 9 (.func (.func 60) #[] #[.pointer (some ⟨C, 0, none⟩)]) (by simp)
  have x9 : Ext w w9 := x8.grown g9 (fun k hk => by cases hk; exact hCM)
  have b9 : Blk w9 C #[.pointer (some ⟨B, 0, none⟩)] 59 := b8.kept g9 (fun e => by simp at e)
  have c9 : w9.cell? ⟨C, 0, none⟩ = some (.pointer (some ⟨B, 0, none⟩)) := b9.cell (i := 0) rfl
  obtain ⟨w10, r10, m10, g10⟩ := m9.put Try.underlying63 Try.underlying3 10 (.func (.func 61) #[] #[.pointer (some ⟨C, 0, none⟩)]) (by simp)
  have x10 : Ext w w10 := x9.grown g10 (fun k hk => by cases hk; exact hCM)
  have b10 : Blk w10 C #[.pointer (some ⟨B, 0, none⟩)] 59 := b9.kept g10 (fun e => by simp at e)
  have c10 : w10.cell? ⟨C, 0, none⟩ = some (.pointer (some ⟨B, 0, none⟩)) := b10.cell (i := 0) rfl
  obtain ⟨w11, r11, m11, g11⟩ := m10.put Try.underlying63 Try.underlying3 11 (.func (.func 64) #[] #[]) (by simp)
  have x11 : Ext w w11 := x10.grown g11 (fun k hk => by cases hk; exact hCM)
  have b11 : Blk w11 C #[.pointer (some ⟨B, 0, none⟩)] 59 := b10.kept g11 (fun e => by simp at e)
  have c11 : w11.cell? ⟨C, 0, none⟩ = some (.pointer (some ⟨B, 0, none⟩)) := b11.cell (i := 0) rfl
  have c0 : wA.cell? ⟨C, 0, none⟩ = some (.pointer (some ⟨B, 0, none⟩)) := b0.cell (i := 0) rfl
  have hmm := @run_makeMap Try.prog
  have HF : Hid (Ext w w11 ∧ Blk w11 C #[.pointer (some ⟨B, 0, none⟩)] 59 ∧ FM w11 (C + 1) (tbl B C)) := ⟨x11, b11, m11⟩
  rw [hwA] at r1 c0
  clear hwA x0 b0 m0 x1 b1 m1 x2 b2 m2 x3 b3 m3 x4 b4 m4 x5 b5 m5 x6 b6 m6 x7 b7 m7 x8 b8 m8 x9 b9 m9 x10 b10 m10 x11 b11 m11 g1 g2 g3 g4 g5 g6 g7 g8 g9 g10 g11
  go_enter Try.func23, Try.ntmps23
  go_wp2_with fail
  go_ret
  rw [hC]
  exact ⟨_, rfl, HF.out⟩
end Go.Proofs.Ytjhmlbhfnogdiaa.We
