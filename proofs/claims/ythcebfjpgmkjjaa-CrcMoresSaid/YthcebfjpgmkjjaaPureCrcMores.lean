/- The plain law of CrcMores: More of any sum at all. No condition. -/
import Derived.Test.YthcebfjpgmkjjaaPLwx1
import Derived.Test.YthcebfjpgmkjjaaShiftM
namespace Go.Proofs.Ythcebfjpgmkjjaa.Pure
open Go Go.RowKit Go.Proofs.Ythcebfjpgmkjjaa.PAll Go.Proofs.Ythcebfjpgmkjjaa.PAll.Lw Go.Proofs.Ythcebfjpgmkjjaa.Nums Go.Proofs.Ythcebfjpgmkjjaa.CrcM Go.Proofs.Ythcebfjpgmkjjaa.ShiftM Go.Proofs.YthcebfjpgmkjjaaW.PrintWords Go.Proofs.YthcebfjpgmkjjaaW.PrintLast
theorem CrcMores : chartularylaw02_CrcMores.Pure := by
  intro s b hs hl _ hb
  have hb' := bytes_of_wf hb
  obtain ⟨h0, h1⟩ := wf_u32 hs
  obtain ⟨s, rfl⟩ := Int.eq_ofNat_of_zero_le h0
  unfold maxLen at hl
  refine ⟨10 * b.length + 20, ?_⟩
  unfold chartularylaw02_CrcMores.f chartularylaw02_awake.f
  rw [more_eq hb' (by omega) (by omega) _ (by omega), rmore_eq hb' (by omega) (by omega) _ (by omega)]
  simp
end Go.Proofs.Ythcebfjpgmkjjaa.Pure
