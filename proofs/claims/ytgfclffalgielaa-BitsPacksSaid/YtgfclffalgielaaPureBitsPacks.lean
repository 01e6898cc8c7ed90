/- The plain law of BitsPacks: any number as few bytes, and the number that any bytes begin with. No condition. -/
import Derived.Test.YtgfclffalgielaaPackM
namespace Go.Proofs.Ytgfclffalgielaa.Pure
open Go Go.RowKit Go.Proofs.Ytgfclffalgielaa.PAll Go.Proofs.Ytgfclffalgielaa.Nums Go.Proofs.Ytgfclffalgielaa.PackM Go.Proofs.YtgfclffalgielaaW.PrintWords Go.Proofs.YtgfclffalgielaaW.PrintLast
theorem BitsPacks : chartularylaw01_BitsPacks.Pure := by
  intro a b ha hl _ hb
  refine ⟨40, ?_⟩
  obtain ⟨h0, h1⟩ := wf_u64 ha
  obtain ⟨n, rfl⟩ := Int.eq_ofNat_of_zero_le h0
  have hb' := bytes_of_wf hb
  unfold maxLen at hl
  unfold chartularylaw01_BitsPacks.f chartularyref01_Bytes.f
  rw [unpack_eq hb' (by omega) 40 (by omega), runpack_eq hb' (by omega) 40 (by omega), awake_40, pack_eq 40 n (by omega) (by omega), rpack_eq 40 n (by omega) (by omega)]
  simp
end Go.Proofs.Ytgfclffalgielaa.Pure
