/- The plain law of BitsEnds: sums and products of any two. No condition. -/
import Derived.Test.YtgfclffalgielaaPackM
import Derived.Test.YtgfclffalgielaaEndM
import Derived.Test.YtgfclffalgielaaPAllx11
namespace Go.Proofs.Ytgfclffalgielaa.Pure
open Go Go.RowKit Go.Proofs.Ytgfclffalgielaa.PAll Go.Proofs.Ytgfclffalgielaa.Nums Go.Proofs.Ytgfclffalgielaa.PackM Go.Proofs.Ytgfclffalgielaa.EndM Go.Proofs.YtgfclffalgielaaW.PrintWords Go.Proofs.YtgfclffalgielaaW.PrintLast
theorem BitsEnds : chartularylaw01_BitsEnds.Pure := by
  intro a b ha hb
  refine ⟨40, ?_⟩
  have ha := wf_i64 ha
  have hb := wf_i64 hb
  unfold chartularylaw01_BitsEnds.f
  rw [awake_40, add_eq ha hb 40 (by omega), radd_eq ha hb 40 (by omega), mul_eq ha hb 40 (by omega), rmul_eq ha hb 40 (by omega)]
  simp
end Go.Proofs.Ytgfclffalgielaa.Pure
