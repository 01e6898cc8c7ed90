/- The plain law of CrcGreat: so many bytes 0, and so many more, are as many as both. No condition. -/
import Derived.Test.YthcebfjpgmkjjaaPLwx1
import Derived.Test.YthcebfjpgmkjjaaShiftM
namespace Go.Proofs.Ythcebfjpgmkjjaa.Pure
open Go Go.RowKit Go.Proofs.Ythcebfjpgmkjjaa.PAll Go.Proofs.Ythcebfjpgmkjjaa.PAll.Lw Go.Proofs.Ythcebfjpgmkjjaa.Nums Go.Proofs.Ythcebfjpgmkjjaa.CrcM Go.Proofs.Ythcebfjpgmkjjaa.ShiftM Go.Proofs.YthcebfjpgmkjjaaW.PrintWords Go.Proofs.YthcebfjpgmkjjaaW.PrintLast
theorem join_zero {s : Nat} (hs : s < 4294967296) : crc_Join.f (s : Int) 0 0 = some (s : Int) := by
  unfold crc_Join.f
  rw [shift_neg hs (Int.le_refl 0)]
  simp only [Option.bind_some]
  have := xor32 (a := s) (b := 0) hs (by decide)
  rw [Nat.xor_zero] at this
  exact congrArg some this
theorem zeros_add (s a b : Nat) : zerosN (zerosN s a) b = zerosN s (a + b) := by unfold zerosN; rw [M_xor, it_add]
theorem CrcGreat : chartularylaw02_CrcGreat.Pure := by
  intro s a b hs ha hb
  obtain ⟨h0, h1⟩ := wf_u32 hs
  obtain ⟨a0, a1⟩ := wf_u32 ha
  obtain ⟨b0, b1⟩ := wf_u32 hb
  obtain ⟨s, rfl⟩ := Int.eq_ofNat_of_zero_le h0
  obtain ⟨a, rfl⟩ := Int.eq_ofNat_of_zero_le a0
  obtain ⟨b, rfl⟩ := Int.eq_ofNat_of_zero_le b0
  have hs' : s < 4294967296 := by omega
  have hz := zerosN_lt (s := s) (n := a) hs'
  have z1 := zeros_eq hs' (n := a) (by omega)
  have z2 := zeros_eq hz (n := b) (by omega)
  have z3 := zeros_eq hs' (n := a + b) (by omega)
  have e1 : wrap64 (a : Int) = (a : Int) := w64_in (by omega) (by omega)
  have e2 : wrap64 (b : Int) = (b : Int) := w64_in (by omega) (by omega)
  have e3 : wrap64 ((a : Int) + (b : Int)) = ((a + b : Nat) : Int) := by rw [w64_in (by omega) (by omega)]; simp
  have ej := join_zero hs'
  rw [zeros_add] at z2
  unfold chartularylaw02_CrcGreat.f chartularylaw02_awake.f
  rw [e1, e2, e3, z1, z3, ej, Option.bind_some, if_pos rfl, Option.bind_some, z2, Option.bind_some, Option.bind_some, if_pos rfl, Option.bind_some, beq_self_eq_true]
end Go.Proofs.Ythcebfjpgmkjjaa.Pure
