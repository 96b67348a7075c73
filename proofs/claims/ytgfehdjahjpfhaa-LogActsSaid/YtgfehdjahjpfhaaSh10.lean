/- The document's example at the head of chapter 10's statements comes out true. -/
import Derived.Test.YtgfehdjahjpfhaaOc
namespace Go.Proofs.Ytgfehdjahjpfhaa.Sh
open Go.RowKit
open Go.Proofs.Ytgfehdjahjpfhaa Go.Proofs.Ytgfehdjahjpfhaa.En Go.Proofs.Ytgfehdjahjpfhaa.Ok

theorem made (w : World) : Es (w.alloc (.cells #[.int .u64 5, .int .i64 0, .int .u64 5, .int .i64 1, .int .u64 5, .int .i64 0] 28)) (.slice (some ⟨w.heap.size, 0, none⟩) 3 3) [(5, 0), (5, 1), (5, 0)] := by
  have h := Blk.new w #[.int .u64 5, .int .i64 0, .int .u64 5, .int .i64 1, .int .u64 5, .int .i64 0] 28
  refine ⟨rfl, by simp, by simp, .inr ⟨_, 3, rfl, Nat.le_refl _, by unfold maxLen; omega, fun j c hj => ?_⟩⟩
  have hadd : (⟨w.heap.size, 0, none⟩ : Addr).add j = ⟨w.heap.size, j, none⟩ := by unfold Addr.add; split <;> simp_all
  rw [hadd]
  refine h.cell ?_
  simpa [cs, ec] using hj

theorem shown_any (w : World) : Calls Try.prog 10 #[] w fun e w' => e = .returned (.bool true) ∧ Ext w w' := by
  have he : once [(5, 0), (5, 1), (5, 0)] = [(5, 1), (5, 0)] := by decide
  have hw : ∀ e ∈ [((5 : Int), (0 : Int)), (5, 1), (5, 0)], wfE e := by
    intro e h
    simp at h
    rcases h with rfl | rfl | rfl <;> exact ⟨by decide, by decide⟩
  have HM := Lib.hid (fun v w h => Oc.once_any v _ hw w h)
  rw [he] at HM
  clear hw he
  go_enter Try.func10, Try.ntmps10
  go_wp2_with fail
  refine (HM.out _ _ (made _)).mono ?_; rintro e w1 ⟨u, rfl, hu, hx1⟩
  have hlen := hu.len
  obtain ⟨b0, o0, s0, hx0, c0, d0⟩ := hu.at_ 0 (by simp)
  obtain ⟨b1, o1, s1, hx1', c1, d1⟩ := hu.at_ 1 (by simp)
  have HX := Lib.hid hx1
  replace hlen : ∀ ty w', (Builtin.len_ #[22] ty #[u]).run Try.prog w' = .ok (.int .i64 2) w' := hlen
  replace hx0 : ∀ w', (Instr.indexAt 22 u (.int .i64 0)).run Try.prog w' = .ok (.pointer (some ⟨b0, o0, s0⟩)) w' := hx0
  replace hx1' : ∀ w', (Instr.indexAt 22 u (.int .i64 1)).run Try.prog w' = .ok (.pointer (some ⟨b1, o1, s1⟩)) w' := hx1'
  replace d0 : w1.cell? ⟨b0, o0 + 1, none⟩ = some (.int .i64 1) := d0
  replace d1 : w1.cell? ⟨b1, o1 + 1, none⟩ = some (.int .i64 0) := d1
  clear hu hx1
  go_wp2_with fail
  go_ret
  exact ⟨by first | rfl | (simp; done), Ext.trans ((Ext.refl w).alloc _) HX.out⟩
end Go.Proofs.Ytgfehdjahjpfhaa.Sh
