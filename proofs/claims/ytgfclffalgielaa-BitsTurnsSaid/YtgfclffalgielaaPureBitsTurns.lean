/- The plain law of BitsTurns: any word turned round, or in the other order; its ones; any number with a sign as one without. No condition. -/
import Derived.Test.YtgfclffalgielaaPackM
import Derived.Test.YtgfclffalgielaaTurnM
import Derived.Test.YtgfclffalgielaaSwapM
namespace Go.Proofs.Ytgfclffalgielaa.Pure
open Go Go.RowKit Go.Proofs.Ytgfclffalgielaa.PAll Go.Proofs.Ytgfclffalgielaa.Nums Go.Proofs.Ytgfclffalgielaa.SwapM Go.Proofs.Ytgfclffalgielaa.PackM Go.Proofs.Ytgfclffalgielaa.TurnM Go.Proofs.YtgfclffalgielaaW.PrintWords Go.Proofs.YtgfclffalgielaaW.PrintLast
theorem BitsTurns : chartularylaw01_BitsTurns.Pure := by
  intro w n a hw hn ha
  refine ⟨80, ?_⟩
  obtain ⟨h0, h1⟩ := wf_u64 hw
  obtain ⟨n0, n1⟩ := wf_i64 hn
  obtain ⟨a0, a1⟩ := wf_i64 ha
  obtain ⟨w, rfl⟩ := Int.eq_ofNat_of_zero_le h0
  unfold chartularylaw01_BitsTurns.f
  have e : (w : Int) % 4294967296 = ((w % 4294967296 : Nat) : Int) := by simp
  have hlt : w % 4294967296 < 4294967296 := Nat.mod_lt _ (by decide)
  rw [e, awake_ge (by omega), turn_eq hlt, rturn_eq hlt n0 n1 80 (by omega), swap_eq hlt 80 (by omega), rswap_eq hlt 80 (by omega), ones_eq (by omega) 80 (by omega), rones_eq (by omega) 80 (by omega), zig_eq a0 a1, rzig_eq a0 a1, zag_eq h0 h1, rzag_eq h0 h1]
  simp
end Go.Proofs.Ytgfclffalgielaa.Pure
