/- The plain law of BitsFields: any bits of any word, and a word in which they are others. No condition. -/
import Derived.Test.YtgfclffalgielaaPackM
import Derived.Test.YtgfclffalgielaaFieldM
namespace Go.Proofs.Ytgfclffalgielaa.Pure
open Go Go.RowKit Go.Proofs.Ytgfclffalgielaa.PAll Go.Proofs.Ytgfclffalgielaa.Nums Go.Proofs.Ytgfclffalgielaa.PackM Go.Proofs.Ytgfclffalgielaa.FieldM Go.Proofs.YtgfclffalgielaaW.PrintWords Go.Proofs.YtgfclffalgielaaW.PrintLast
theorem BitsFields : chartularylaw01_BitsFields.Pure := by
  intro w i d v hw hi hd hv
  refine ⟨400, ?_⟩
  obtain ⟨h0, h1⟩ := wf_u64 hw
  obtain ⟨v0, v1⟩ := wf_u64 hv
  have hi := wf_i64 hi
  have hd := wf_i64 hd
  obtain ⟨w, rfl⟩ := Int.eq_ofNat_of_zero_le h0
  obtain ⟨v, rfl⟩ := Int.eq_ofNat_of_zero_le v0
  unfold chartularylaw01_BitsFields.f
  rw [field_eq (by omega) hi hd, rfield_eq (by omega) hi hd 400 (by omega), set_eq (by omega) (by omega) hi hd, rset_eq (by omega) (by omega) hi hd 400 (by omega), awake_ge (by omega)]
  simp
end Go.Proofs.Ytgfclffalgielaa.Pure
