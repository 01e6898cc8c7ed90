/- The plain law of BitsSets: bits that are set are read again, the others stay; a word turned and turned back is as it was. No condition. -/
import Derived.Test.YtgfclffalgielaaPackM
import Derived.Test.YtgfclffalgielaaFieldM
import Derived.Test.YtgfclffalgielaaTurnM
import Derived.Test.YtgfclffalgielaaSwapM
import Derived.Test.YtgfclffalgielaaPAllx8
namespace Go.Proofs.Ytgfclffalgielaa.Pure
set_option linter.unusedVariables false
open Go Go.RowKit Go.Proofs.Ytgfclffalgielaa.PAll Go.Proofs.Ytgfclffalgielaa.Nums Go.Proofs.Ytgfclffalgielaa.PackM Go.Proofs.Ytgfclffalgielaa.FieldM Go.Proofs.Ytgfclffalgielaa.TurnM Go.Proofs.Ytgfclffalgielaa.SwapM Go.Proofs.YtgfclffalgielaaW.PrintWords Go.Proofs.YtgfclffalgielaaW.PrintLast
theorem sets_j2 {w : Nat} (hw : w < 18446744073709551616) {n : Int} (n0 : -9223372036854775808 ≤ n) (n1 : n < 9223372036854775808) (k : Nat) (hk : 80 ≤ k) : chartularylaw01_BitsSets.j2 (k + 1) (w : Int) n = some true := by
  have e : (w : Int) % 4294967296 = ((w % 4294967296 : Nat) : Int) := by simp
  have hlt : w % 4294967296 < 4294967296 := Nat.mod_lt _ (by decide)
  have hrv := rv_lt (w % 4294967296) 32
  have h32 : (2 : Nat) ^ 32 = 4294967296 := by decide
  have hb : -32 < Int.tmod n 32 ∧ Int.tmod n 32 < 32 := ⟨by have := Int.lt_tmod_of_pos n (b := 32) (by decide); omega, Int.tmod_lt_of_pos n (by decide)⟩
  rw [chartularylaw01_BitsSets.j2, e]
  generalize w % 4294967296 = t at *
  have hrot : rot t (Int.tmod n 32 % 32).toNat < 4294967296 := rot_lt hlt (by omega)
  rw [swap_eq hlt k (by omega)]
  simp only [Option.bind_some]
  rw [swap_eq (by omega) k (by omega), rv_rv hlt, turn_eq hlt]
  simp only [Option.bind_some, if_true]
  rw [w64_in (n := -Int.tmod n 32) (by omega) (by omega), turn_eq hrot, turn_back hlt, u64_in (n := ((rv t 32 : Nat) : Int)) (by omega) (by omega), ones_eq (by omega) k (by omega), ones_eq (by omega) k (by omega), pc_swap hlt]
  simp
theorem sets_j0 {w v : Nat} (hw : w < 18446744073709551616) (hv : v < 18446744073709551616) {n : Int} (n0 : -9223372036854775808 ≤ n) (n1 : n < 9223372036854775808) {i d : Nat} (h : i + d ≤ 64) (k : Nat) (hk : 100 ≤ k) :
    chartularylaw01_BitsSets.j0 (k + 3) (w : Int) (v : Int) n (i : Int) (d : Int) = some true := by
  have hi : I64 (i : Int) := by unfold I64; omega
  have hd : I64 (d : Int) := by unfold I64; omega
  have hle : 2 ^ d ≤ 2 ^ 64 := Nat.pow_le_pow_right (by decide) (by omega)
  have h64 : (2 : Nat) ^ 64 = 18446744073709551616 := by decide
  have hf := fieldN_lt w i d
  have hin : 0 ≤ (i : Int) ∧ 0 ≤ (d : Int) ∧ (i : Int) + (d : Int) ≤ 64 := by omega
  have eF : ∀ x : Nat, fieldR x (i : Int) (d : Int) = (((fieldN x i d : Nat) : Int), 0) := fun x => by unfold fieldR; rw [if_pos hin]; rfl
  have eS : ∀ x y : Nat, y < 2 ^ d → setR x (i : Int) (d : Int) y = (((setN x i d y : Nat) : Int), 0) := fun x y hy => by
    unfold setR
    rw [if_pos hin, Int.toNat_natCast, Int.toNat_natCast, if_neg (by omega)]
  have hs1 := setN_lt w i d v
  rw [chartularylaw01_BitsSets.j0, field_eq hw hi hd, eF]
  simp only [Option.bind_some]
  rw [set_eq hw (by omega) hi hd, eS _ _ hf, set_same (by omega) h, awake_ge (by omega)]
  simp only [Option.bind_some, if_true, bne_self_eq_false]
  rw [chartularylaw01_BitsSets.j1, if_neg (by decide), set_eq hw hv hi hd]
  simp only [Option.bind_some]
  have hj2 := sets_j2 hw n0 n1 k (by omega)
  by_cases hc : v < 2 ^ d
  · rw [eS _ _ hc]
    simp only [if_true]
    rw [field_eq (by omega) hi hd, eF, set_eq (by omega) (by omega) hi hd, eS _ _ hf, field_set h hc, set_back (by omega) h hc]
    simp only [Option.bind_some, if_true]
    exact hj2
  · have : setR w (i : Int) (d : Int) v = (0, 4) := by
      unfold setR
      rw [if_pos hin, Int.toNat_natCast, if_pos (by omega)]
    rw [this]
    simp only
    rw [if_neg (by decide)]
    exact hj2
theorem BitsSets : chartularylaw01_BitsSets.Pure := by
  intro w a b v n hw ha hb hv hn
  refine ⟨203, ?_⟩
  obtain ⟨h0, h1⟩ := wf_u64 hw
  obtain ⟨v0, v1⟩ := wf_u64 hv
  obtain ⟨n0, n1⟩ := wf_i64 hn
  obtain ⟨a0, a1⟩ := wf_u8 ha
  obtain ⟨b0, b1⟩ := wf_u8 hb
  obtain ⟨w, rfl⟩ := Int.eq_ofNat_of_zero_le h0
  obtain ⟨v, rfl⟩ := Int.eq_ofNat_of_zero_le v0
  obtain ⟨a, rfl⟩ := Int.eq_ofNat_of_zero_le a0
  obtain ⟨b, rfl⟩ := Int.eq_ofNat_of_zero_le b0
  have ea : wrap64 (Int.tmod (a : Int) 65) = ((a % 65 : Nat) : Int) := by rw [Int.tmod_eq_emod_of_nonneg (by omega), w64_in (by omega) (by omega)]; simp
  have eb : wrap64 (Int.tmod (b : Int) 65) = ((b % 65 : Nat) : Int) := by rw [Int.tmod_eq_emod_of_nonneg (by omega), w64_in (by omega) (by omega)]; simp
  have ec : wrap64 (64 - ((a % 65 : Nat) : Int)) = ((64 - a % 65 : Nat) : Int) := by rw [w64_in (by omega) (by omega)]; omega
  unfold chartularylaw01_BitsSets.f
  rw [ea, eb, ec]
  by_cases h : ((b % 65 : Nat) : Int) > ((64 - a % 65 : Nat) : Int)
  · rw [if_pos h]
    exact sets_j0 (by omega) (by omega) n0 n1 (by omega) 200 (by omega)
  · rw [if_neg h]
    exact sets_j0 (by omega) (by omega) n0 n1 (by omega) 200 (by omega)
end Go.Proofs.Ytgfclffalgielaa.Pure
