/- The reference's New. -/
import Derived.Test.YtjhmlbhfnogdiaaSh15
namespace Go.Proofs.Ytjhmlbhfnogdiaa.Qn
open Go.RowKit
open Go.Proofs.Ytjhmlbhfnogdiaa Go.Proofs.Ytjhmlbhfnogdiaa.Hd Go.Proofs.Ytjhmlbhfnogdiaa.Gr Go.Proofs.Ytjhmlbhfnogdiaa.Hg Go.Proofs.Ytjhmlbhfnogdiaa.Sh
set_option linter.unusedVariables false

theorem rnew_any (t : Int) (w : World) :
    Calls Try.prog 19 #[.int .i64 t] w fun e w' => ∃ a c, e = .returned (.agg #[.slice none 0 0, .slice a (clamp t) c]) ∧ Gr w' (.slice none 0 0) (.slice a (clamp t) c) (newG t) ∧ Ext w w' := by
  have hk : clamp t ≤ 16 := by unfold clamp; split; omega; split <;> omega
  have hmk := mk_s (clamp t) (by omega)
  have hc0 : t < 0 → (clamp t : Int) = 0 := fun h => by unfold clamp; rw [if_pos h]; rfl
  have hc1 : ¬ t < 0 → 16 < t → (clamp t : Int) = 16 := fun h h' => by unfold clamp; rw [if_neg h, if_pos h']; rfl
  have hc2 : ¬ t < 0 → ¬ 16 < t → (clamp t : Int) = t := fun h h' => by unfold clamp; rw [if_neg h, if_neg h']; omega
  unfold newG
  generalize clamp t = n at hk hmk hc0 hc1 hc2 ⊢
  have hMa := made_rows (w.alloc (.cells #[.slice none 0 0, .slice (some ⟨w.heap.size + 1, 0, none⟩) n n] 25)) n (by omega)
  rw [World.size_alloc] at hMa
  have hb := (Blk.new w #[.slice none 0 0, .slice (some ⟨w.heap.size + 1, 0, none⟩) n n] 25).alloc (.cells (madeCells #[.slice none 0 0] n) 42)
  have g0 := hb.cell (i := 0) rfl
  have g1 := hb.cell (i := 1) rfl
  have HF : Hid (∃ a c, (Ending.returned (.agg #[.slice none 0 0, .slice (some ⟨w.heap.size + 1, 0, none⟩) n n])) = .returned (.agg #[.slice none 0 0, .slice a n c]) ∧ Gr ((w.alloc (.cells #[.slice none 0 0, .slice (some ⟨w.heap.size + 1, 0, none⟩) n n] 25)).alloc (.cells (madeCells #[.slice none 0 0] n) 42)) (.slice none 0 0) (.slice a n c) ([], List.replicate n []) ∧ Ext w ((w.alloc (.cells #[.slice none 0 0, .slice (some ⟨w.heap.size + 1, 0, none⟩) n n] 25)).alloc (.cells (madeCells #[.slice none 0 0] n) 42))) :=
    ⟨_, _, rfl, ⟨No.nil _, hMa⟩, ((Ext.refl w).alloc _).alloc _⟩
  clear hMa hb
  obtain ⟨q, hq⟩ : ∃ q : Int, (n : Int) = q := ⟨_, rfl⟩
  rw [hq] at hmk hc0 hc1 hc2
  clear hk hq
  go_enter Try.func19, Try.ntmps19
  by_cases h0 : t < 0
  · obtain rfl := hc0 h0
    clear hc0 hc1 hc2
    go_wp2
    exact bodyPost_ret (v := .agg #[.slice none 0 0, .slice (some ⟨w.heap.size + 1, 0, none⟩) n n]) (by simp [results, Try.results19, go_sem, g0, g1]) rfl HF.out
  · by_cases h1 : 16 < t
    · obtain rfl := hc1 h0 h1
      clear hc0 hc1 hc2
      go_wp2
      exact bodyPost_ret (v := .agg #[.slice none 0 0, .slice (some ⟨w.heap.size + 1, 0, none⟩) n n]) (by simp [results, Try.results19, go_sem, g0, g1]) rfl HF.out
    · obtain rfl := hc2 h0 h1
      clear hc0 hc1 hc2
      go_wp2
      exact bodyPost_ret (v := .agg #[.slice none 0 0, .slice (some ⟨w.heap.size + 1, 0, none⟩) n n]) (by simp [results, Try.results19, go_sem, g0, g1]) rfl HF.out

end Go.Proofs.Ytjhmlbhfnogdiaa.Qn
