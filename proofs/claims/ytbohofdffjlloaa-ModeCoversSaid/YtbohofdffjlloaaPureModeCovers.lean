/- The plain law of ModeCovers: the printed functions answer alike, over whole numbers alone. -/
import Derived.Test.YtbohofdffjlloaaPModeCoversx3
namespace Go.Proofs.Ytbohofdffjlloaa.Pure
open Go.RowKit Go.Proofs.Ytbohofdffjlloaa.PModeCovers Go.Proofs.YtbohofdffjlloaaW.PrintWords Go.Proofs.YtbohofdffjlloaaW.PrintLast
theorem awakeC : chartularylaw12_awake.f 9 = some true := by decide +kernel
theorem ModeCovers (a0 a1 : Int) (a2 : Bool) (b0 b1 : Int) (b2 : Bool) (t : Int) (_ : (Lit.int .i64 a0).wf = true) (_ : (Lit.int .i64 a1).wf = true) (_ : (Lit.int .i64 b0).wf = true) (_ : (Lit.int .i64 b1).wf = true) (_ : (Lit.int .i64 t).wf = true) :
    ∃ k, chartularylaw12_ModeCovers.f k a0 a1 a2 b0 b1 b2 t = some true := by
  refine ⟨9, ?_⟩
  unfold chartularylaw12_ModeCovers.f mode_Covers.f chartularyref12_Covers.f mode_binds.f chartularyref12_Binds.f
  rw [awakeC]
  cases a2 <;> cases b2 <;> by_cases h0 : b0 = 0 <;> by_cases h1 : t < b1 <;> by_cases h2 : a0 ≥ b0 <;> by_cases h3 : a1 ≥ b1 <;> simp [h0, h1, h2, h3]
end Go.Proofs.Ytbohofdffjlloaa.Pure
