/- The plain law of BitsOrder: sums and products do not hang on the order. No condition. -/
import Derived.Test.YtgfclffalgielaaPackM
import Derived.Test.YtgfclffalgielaaEndM
import Derived.Test.YtgfclffalgielaaPAllx11
namespace Go.Proofs.Ytgfclffalgielaa.Pure
open Go Go.RowKit Go.Proofs.Ytgfclffalgielaa.PAll Go.Proofs.Ytgfclffalgielaa.Nums Go.Proofs.Ytgfclffalgielaa.PackM Go.Proofs.Ytgfclffalgielaa.EndM Go.Proofs.YtgfclffalgielaaW.PrintWords Go.Proofs.YtgfclffalgielaaW.PrintLast
theorem BitsOrder : chartularylaw01_BitsOrder.Pure := by
  intro a b ha hb
  refine ⟨40, ?_⟩
  have ha := wf_i64 ha
  have hb := wf_i64 hb
  have r0 : R 0 := by unfold R; omega
  have r1 : R 1 := by unfold R; omega
  have r2 : R 2 := by unfold R; omega
  unfold chartularylaw01_BitsOrder.f
  rw [awake_40, add_eq ha hb 40 (by omega), add_eq hb ha 40 (by omega), add_eq ha ha 40 (by omega), mul_eq ha hb 40 (by omega), mul_eq hb ha 40 (by omega), mul_eq ha r1 40 (by omega), mul_eq ha r0 40 (by omega), mul_eq ha r2 40 (by omega), addS_comm b a, mulS_comm b a, mulS_one ha, mulS_zero ha, mulS_two ha]
  simp only [Option.bind_some, if_true, beq_self_eq_true]
  by_cases h : a < 0
  · rw [if_pos h]
  · rw [if_neg h]
    by_cases h2 : b < 0
    · rw [if_pos h2]
    · rw [if_neg h2, if_pos, if_pos]
      · unfold addS; obtain ⟨b0, b1⟩ := hb; split
        · omega
        · split <;> omega
      · unfold addS; obtain ⟨a0, a1⟩ := ha; split
        · omega
        · split <;> omega
end Go.Proofs.Ytgfclffalgielaa.Pure
