/- The plain law of BitsPuts: any number as bytes, and the number that any bytes are. No condition. -/
import Derived.Test.YtgfclffalgielaaPutM
import Derived.Test.YtgfclffalgielaaPackM
namespace Go.Proofs.Ytgfclffalgielaa.Pure
open Go Go.RowKit Go.Proofs.Ytgfclffalgielaa.PAll Go.Proofs.Ytgfclffalgielaa.Nums Go.Proofs.Ytgfclffalgielaa.PutM Go.Proofs.YtgfclffalgielaaW.PrintWords Go.Proofs.YtgfclffalgielaaW.PrintLast
theorem BitsPuts : chartularylaw01_BitsPuts.Pure := by
  intro a s b ha _ hl _ hb
  refine ⟨40, ?_⟩
  obtain ⟨h0, h1⟩ := wf_u64 ha
  obtain ⟨n, rfl⟩ := Int.eq_ofNat_of_zero_le h0
  have hb' := bytes_of_wf hb
  unfold chartularylaw01_BitsPuts.f chartularyref01_Bytes.f
  rw [put_eq 40 n s (by omega) (by omega), rput_eq 40 n s (by omega) (by omega), get_eq hb' 40 (by omega), rget_eq hb' 40 (by omega), PackM.awake_40]
  simp
end Go.Proofs.Ytgfclffalgielaa.Pure
