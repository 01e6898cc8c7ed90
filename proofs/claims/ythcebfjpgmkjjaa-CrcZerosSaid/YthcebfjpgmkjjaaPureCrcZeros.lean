/- The plain law of CrcZeros: a sum with any number of bytes 0 behind (some thousands at most). No condition. -/
import Derived.Test.YthcebfjpgmkjjaaPLwx1
import Derived.Test.YthcebfjpgmkjjaaShiftM
namespace Go.Proofs.Ythcebfjpgmkjjaa.Pure
open Go Go.RowKit Go.Proofs.Ythcebfjpgmkjjaa.PAll Go.Proofs.Ythcebfjpgmkjjaa.PAll.Lw Go.Proofs.Ythcebfjpgmkjjaa.Nums Go.Proofs.Ythcebfjpgmkjjaa.CrcM Go.Proofs.Ythcebfjpgmkjjaa.ShiftM Go.Proofs.YthcebfjpgmkjjaaW.PrintWords Go.Proofs.YthcebfjpgmkjjaaW.PrintLast
theorem zeros_l0 {s : Nat} (hs : s < 4294967296) {n : Int} (hn : n ≤ 3000) : ∀ (d k i : Nat), (n - i).toNat = d → i ≤ 3000 → (0 < i → (i : Int) ≤ n) → 60000 + d ≤ k → chartularylaw02_CrcZeros.l0 k (s : Int) n (List.replicate i 0) (i : Int) = some true
  | 0, k, i, hd, hi, hin, hk => by
    obtain ⟨k, rfl⟩ : ∃ m, k = m + 1 := ⟨k - 1, by omega⟩
    rw [chartularylaw02_CrcZeros.l0, if_neg (by omega)]
    have hb : Bytes (List.replicate i 0) := fun x hx => by rw [List.eq_of_mem_replicate hx]; omega
    rw [rmore_eq hb (by simp; omega) hs k (by simp; omega)]
    unfold chartularylaw02_awake.f
    by_cases h0 : 0 < i
    · have e : n = (i : Int) := by omega
      rw [e, zeros_eq hs (by omega)]
      simp [zerosN, moreN, feed_zeros]
    · obtain rfl : i = 0 := by omega
      rw [zeros_neg hs (by omega)]
      have : moreN s (List.replicate 0 0) = s := by show M ^^^ (M ^^^ s) = s; exact M_xor
      rw [this]; simp
  | d + 1, k, i, hd, hi, hin, hk => by
    obtain ⟨k, rfl⟩ : ∃ m, k = m + 1 := ⟨k - 1, by omega⟩
    rw [chartularylaw02_CrcZeros.l0, if_pos (by omega), if_pos (by simp; omega), w64_in (by omega) (by omega), show List.replicate i (0 : Int) ++ [0] = List.replicate (i + 1) 0 by rw [List.replicate_succ']]
    exact zeros_l0 hs hn d k (i + 1) (by omega) (by omega) (by omega) (by omega)
theorem CrcZeros : chartularylaw02_CrcZeros.Pure := by
  intro s n hs hn
  obtain ⟨h0, h1⟩ := wf_u32 hs
  obtain ⟨s, rfl⟩ := Int.eq_ofNat_of_zero_le h0
  refine ⟨70000, ?_⟩
  unfold chartularylaw02_CrcZeros.f
  by_cases h : n > 3000
  · rw [if_pos h]; rfl
  · rw [if_neg h]
    exact zeros_l0 (by omega) (by omega) (n - 0).toNat 70000 0 rfl (by omega) (by omega) (by omega)
end Go.Proofs.Ythcebfjpgmkjjaa.Pure
