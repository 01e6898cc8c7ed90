/- crc.shift's contract, given to its callers: a register when so many bytes 0 come. No condition: where the register or the number is none of its kind, nothing is told. -/
import Derived.Test.YthcebfjpgmkjjaaMat
namespace Go.Proofs.Ythcebfjpgmkjjaa.Mat
open Go.RowKit Go.Proofs.YthcebfjpgmkjjaaW.PrintWords Go.Proofs.YthcebfjpgmkjjaaW.PrintLast Go.Proofs.YthcebfjpgmkjjaaW.PrintMore Go.Proofs.Ythcebfjpgmkjjaa.Nums Go.Proofs.Ythcebfjpgmkjjaa.PSt
/-- What becomes of each bit when a byte 0 comes. -/
def ys : List Int := (List.range 32).map fun i => (crc_step.f 20 (2 ^ i % 4294967296)).getD 0
theorem ys_length : ys.length = 32 := by simp [ys]
theorem ys_get (i : Nat) (h : i < 32) : rd ys i = (crc_step.f 20 (2 ^ i % 4294967296)).getD 0 := by unfold rd ys; simp [h]
theorem ys_step : ∀ i : Fin 32, (crc_step.f 20 (2 ^ i.val % 4294967296)).isSome = true ∧ 0 ≤ (crc_step.f 20 (2 ^ i.val % 4294967296)).getD 0 ∧ (crc_step.f 20 (2 ^ i.val % 4294967296)).getD 0 < 4294967296 := by decide +kernel
theorem ys_some (i : Nat) (h : i < 32) : crc_step.f 20 (2 ^ i % 4294967296) = some (rd ys i) := by
  have := (ys_step ⟨i, h⟩).1
  rw [ys_get i h]
  obtain ⟨v, hv⟩ := Option.isSome_iff_exists.1 this
  simp only at hv
  rw [hv]; rfl
theorem rd_past (xs : List Int) (i : Nat) (h : xs.length ≤ i) : rd xs i = 0 := by unfold rd; simp [List.getElem?_eq_none h]
theorem ys_good : Good ys := by
  refine ⟨ys_length, fun i => ?_⟩
  by_cases h : i < 32
  · rw [ys_get i h]; exact (ys_step ⟨i, h⟩).2
  · rw [rd_past ys i (by rw [ys_length]; omega)]; omega
theorem xor_range {a b : Int} (a0 : 0 ≤ a) (a1 : a < 4294967296) (b0 : 0 ≤ b) (b1 : b < 4294967296) : 0 ≤ Go.bits .xor .u32 a b ∧ Go.bits .xor .u32 a b < 4294967296 := by
  obtain ⟨x, rfl⟩ := Int.eq_ofNat_of_zero_le a0
  obtain ⟨y, rfl⟩ := Int.eq_ofNat_of_zero_le b0
  have hx : x < 2 ^ 32 := by omega
  have hy : y < 2 ^ 32 := by omega
  have := Nat.xor_lt_two_pow hx hy
  rw [xorN .u32 rfl x y hx hy]
  omega
theorem ap_range (xs : List Int) (hg : Good xs) : ∀ (k : Nat) (i : Nat) (w out : Int), 0 ≤ out → out < 4294967296 → 0 ≤ ap xs k i w out ∧ ap xs k i w out < 4294967296
  | 0, i, w, out, h0, h1 => ⟨h0, h1⟩
  | k + 1, i, w, out, h0, h1 => by
    rw [ap]
    by_cases hw : w = 0
    · rw [if_pos hw]; exact ⟨h0, h1⟩
    · rw [if_neg hw, show ((i : Int) + 1) = ((i + 1 : Nat) : Int) by simp]
      by_cases hb : w % 2 = 1
      · rw [if_pos hb]
        have := xor_range h0 h1 (hg.2 i).1 (hg.2 i).2
        exact ap_range xs hg k (i + 1) _ _ this.1 this.2
      · rw [if_neg hb]; exact ap_range xs hg k (i + 1) _ _ h0 h1
theorem ap_good (xs : List Int) (r : Int) (hg : Good xs) (_ : 0 ≤ r) (_ : r < 4294967296) : 0 ≤ ap xs 32 0 r 0 ∧ ap xs 32 0 r 0 < 4294967296 := ap_range xs hg 32 0 r 0 (by omega) (by omega)
theorem tw_good (xs : List Int) (hg : Good xs) : Good (tw xs) := by
  refine ⟨tw_length hg.1, fun i => ?_⟩
  by_cases h : i < 32
  · have := tw_get (xs := xs) i (by rw [hg.1]; exact h)
    unfold rd; simp only [Int.toNat_natCast]
    rw [List.getD_eq_getElem?_getD, this]
    exact ap_good xs _ hg (hg.2 i).1 (hg.2 i).2
  · rw [rd_past _ i (by rw [tw_length hg.1]; omega)]; omega
end Go.Proofs.Ythcebfjpgmkjjaa.Mat
namespace Go.Proofs.Ythcebfjpgmkjjaa.PAll
open Go.RowKit Go.Proofs.YthcebfjpgmkjjaaW.PrintWords Go.Proofs.Ythcebfjpgmkjjaa.Mat
/-- crc.shift. -/
def crc_shift.f (r n : Int) : Option Int := if 0 ≤ r ∧ r < 4294967296 ∧ n < 9223372036854775808 then some (sh 63 ys r n) else none
theorem crc_shift.calls (a0 a1 : Int) (r : Int) (w : World) (h : crc_shift.f a0 a1 = some r) :
    Calls Try.prog 17 #[.int .u32 a0, .int .i64 a1] w fun e w' => e = .returned (.int .u32 r) ∧ Below w.heap.size w w' := by
  unfold crc_shift.f at h
  by_cases hc : 0 ≤ a0 ∧ a0 < 4294967296 ∧ a1 < 9223372036854775808
  · rw [if_pos hc] at h
    obtain rfl := Option.some.inj h
    exact shift_calls ys ys_good tw_good ap_good 20 ys_some a0 a1 hc.1 hc.2.1 hc.2.2 w
  · rw [if_neg hc] at h
    exact absurd h (by simp)
end Go.Proofs.Ythcebfjpgmkjjaa.PAll
