/- A register when many bytes 0 come, by the digits of the number: it is as if they came one by one. Plain Lean. No condition. -/
import Derived.Test.YthcebfjpgmkjjaaCrcM
import Derived.Test.YthcebfjpgmkjjaaAwake
namespace Go.Proofs.Ythcebfjpgmkjjaa.ShiftM
set_option linter.unusedVariables false
open Go Go.RowKit Go.Proofs.Ythcebfjpgmkjjaa.PAll Go.Proofs.Ythcebfjpgmkjjaa.Nums Go.Proofs.Ythcebfjpgmkjjaa.Mat Go.Proofs.Ythcebfjpgmkjjaa.CrcM Go.Proofs.YthcebfjpgmkjjaaW.PrintWords Go.Proofs.YthcebfjpgmkjjaaW.PrintLast Go.Proofs.YthcebfjpgmkjjaaW.PrintMore
/-- A matrix says what a linear thing makes of each bit. -/
def IsMat (xs : List Int) (L : Nat → Nat) : Prop := xs.length = 32 ∧ ∀ i : Nat, i < 32 → rd xs (i : Int) = ((L (2 ^ i) : Nat) : Int)
theorem odd_split (q i : Nat) : (2 * q + 1) * 2 ^ i = q * 2 ^ (i + 1) ^^^ 2 ^ i := by
  have h1 : 2 * q + 1 = (2 * q) ^^^ 1 := by
    apply Nat.eq_of_testBit_eq
    intro j
    cases j with
    | zero => simp
    | succ j =>
      rw [Nat.testBit_xor, Nat.testBit_add_one, Nat.testBit_add_one, Nat.testBit_add_one]
      rw [show (2 * q + 1) / 2 = q by omega, show 2 * q / 2 = q by omega, show 1 / 2 = 0 by omega]
      simp
  rw [h1, ← Nat.shiftLeft_eq, Nat.shiftLeft_xor_distrib, Nat.shiftLeft_eq, Nat.shiftLeft_eq, Nat.one_mul, Nat.pow_succ]
  congr 1
  rw [Nat.mul_comm 2 q, Nat.mul_assoc, Nat.mul_comm 2]
theorem ap_eq {xs : List Int} {L : Nat → Nat} (hL : Lin L) (hm : IsMat xs L) : ∀ (k i w out : Nat), i + k = 32 → w < 2 ^ k → out < 4294967296 → ap xs k (i : Int) (w : Int) (out : Int) = ((out ^^^ L (w * 2 ^ i) : Nat) : Int)
  | 0, i, w, out, hi, hw, ho => by
    obtain rfl : w = 0 := by omega
    rw [ap, Nat.zero_mul, hL.zero]; simp
  | k + 1, i, w, out, hi, hw, ho => by
    rw [ap]
    by_cases h0 : w = 0
    · subst h0
      rw [if_pos (by simp), Nat.zero_mul, hL.zero]; simp
    · rw [if_neg (by omega), show ((i : Int) + 1) = ((i + 1 : Nat) : Int) by simp, show (w : Int) / 2 = ((w / 2 : Nat) : Int) by simp]
      have hw2 : w / 2 < 2 ^ k := by rw [Nat.pow_succ] at hw; omega
      by_cases hb : w % 2 = 1
      · have hp : L (2 ^ i) < 4294967296 := hL.lt _ (by
          have : (2 : Nat) ^ i ≤ 2 ^ 31 := Nat.pow_le_pow_right (by decide) (by omega)
          omega)
        rw [if_pos (by omega), hm.2 i (by omega), xor32 ho hp, ap_eq hL hm k (i + 1) (w / 2) _ (by omega) hw2 (xor32_lt ho hp)]
        have e : w * 2 ^ i = (w / 2) * 2 ^ (i + 1) ^^^ 2 ^ i := by rw [← odd_split, show 2 * (w / 2) + 1 = w by omega]
        rw [e, hL.xor, Nat.xor_assoc, Nat.xor_comm (L (2 ^ i))]
      · rw [if_neg (by omega), ap_eq hL hm k (i + 1) (w / 2) out (by omega) hw2 ho]
        have e : w * 2 ^ i = (w / 2) * 2 ^ (i + 1) := by rw [Nat.pow_succ, Nat.mul_comm (2 ^ i) 2, ← Nat.mul_assoc, show w / 2 * 2 = w by omega]
        rw [e]
theorem ap_all {xs : List Int} {L : Nat → Nat} (hL : Lin L) (hm : IsMat xs L) {w : Nat} (hw : w < 4294967296) : ap xs 32 0 (w : Int) 0 = ((L w : Nat) : Int) := by
  have := ap_eq hL hm 32 0 w 0 (by omega) (by omega) (by omega)
  simpa using this
theorem tw_mat {xs : List Int} {L : Nat → Nat} (hL : Lin L) (hm : IsMat xs L) : IsMat (tw xs) (fun x => L (L x)) := by
  refine ⟨tw_length hm.1, fun i hi => ?_⟩
  have hp : (2 : Nat) ^ i ≤ 2 ^ 31 := Nat.pow_le_pow_right (by decide) (by omega)
  have h := tw_get (xs := xs) i (by rw [hm.1]; exact hi)
  have e : rd (tw xs) (i : Int) = ap xs 32 0 (rd xs i) 0 := by
    unfold rd at h ⊢
    simp only [Int.toNat_natCast] at h ⊢
    rw [List.getD_eq_getElem?_getD, h]; rfl
  rw [e, hm.2 i hi, ap_all hL hm (hL.lt _ (by omega))]
theorem it_two (f : Nat → Nat) : ∀ (m x : Nat), it (fun y => f (f y)) m x = it f (2 * m) x
  | 0, x => rfl
  | m + 1, x => by rw [it, it_two f m, show 2 * (m + 1) = 2 * m + 1 + 1 by omega, it, it]
theorem sh_eq : ∀ (k : Nat) (xs : List Int) (L : Nat → Nat) (r n : Nat), Lin L → IsMat xs L → r < 4294967296 → n < 2 ^ k → sh k xs (r : Int) (n : Int) = ((it L n r : Nat) : Int)
  | 0, xs, L, r, n, hL, hm, hr, hn => by
    obtain rfl : n = 0 := by omega
    rfl
  | k + 1, xs, L, r, n, hL, hm, hr, hn => by
    rw [sh]
    by_cases h0 : 0 < (n : Int)
    · rw [if_pos h0, show (n : Int) / 2 = ((n / 2 : Nat) : Int) by simp]
      have hn2 : n / 2 < 2 ^ k := by rw [Nat.pow_succ] at hn; omega
      have hL2 : Lin (fun x => L (L x)) := hL.comp hL
      by_cases hb : (n : Int) % 2 = 1
      · rw [if_pos hb, ap_all hL hm hr, sh_eq k (tw xs) _ (L r) (n / 2) hL2 (tw_mat hL hm) (hL.lt r hr) hn2, it_two]
        have : it L n r = it L (2 * (n / 2)) (L r) := by
          have e : n = 2 * (n / 2) + 1 := by omega
          rw [show it L n r = it L (2 * (n / 2) + 1) r by rw [← e]]; rfl
        rw [this]
      · rw [if_neg hb, sh_eq k (tw xs) _ r (n / 2) hL2 (tw_mat hL hm) hr hn2, it_two, show 2 * (n / 2) = n by omega]
    · rw [if_neg h0]
      obtain rfl : n = 0 := by omega
      rfl
theorem pst_step (k : Nat) (x : Int) : PSt.crc_step.f k x = PAll.crc_step.f k x := by
  have : ∀ (k : Nat) (x j : Int), PSt.crc_step.l0 k x j = PAll.crc_step.l0 k x j := by
    intro k
    induction k with
    | zero => intro x j; rfl
    | succ k ih => intro x j; rw [PSt.crc_step.l0, PAll.crc_step.l0, ih]
  exact this k x 0
theorem ys_mat : IsMat ys CrcM.step := by
  refine ⟨ys_length, fun i hi => ?_⟩
  have hp : (2 : Nat) ^ i ≤ 2 ^ 31 := Nat.pow_le_pow_right (by decide) (by omega)
  have e : (2 : Int) ^ i % 4294967296 = ((2 ^ i : Nat) : Int) := by
    have : (2 : Int) ^ i = ((2 ^ i : Nat) : Int) := by simp
    rw [this]
    generalize (2 : Nat) ^ i = q at hp ⊢
    omega
  rw [ys_get i hi, e, pst_step, step_eq (by omega) 20 (by omega)]; rfl
theorem shift_eq {r : Nat} (hr : r < 4294967296) {n : Nat} (hn : n < 9223372036854775808) : crc_shift.f (r : Int) (n : Int) = some ((it CrcM.step n r : Nat) : Int) := by
  unfold crc_shift.f
  rw [if_pos (by omega), sh_eq 63 ys CrcM.step r n step_lin ys_mat hr (by omega)]
theorem shift_neg {r : Nat} (hr : r < 4294967296) {n : Int} (hn : n ≤ 0) : crc_shift.f (r : Int) n = some (r : Int) := by
  unfold crc_shift.f
  rw [if_pos (by omega), sh, if_neg (by omega)]
def zerosN (s n : Nat) : Nat := M ^^^ it CrcM.step n (M ^^^ s)
theorem zeros_eq {s : Nat} (hs : s < 4294967296) {n : Nat} (hn : n < 9223372036854775808) : crc_Zeros.f (s : Int) (n : Int) = some ((zerosN s n : Nat) : Int) := by
  have h1 := xor32_lt (a := M) (b := s) (by decide) hs
  have h2 : it CrcM.step n (M ^^^ s) < 4294967296 := (step_lin.it n).lt _ h1
  unfold crc_Zeros.f
  rw [show (4294967295 : Int) = ((M : Nat) : Int) from rfl, xor32 (by decide) hs, shift_eq h1 hn]
  simp only [Option.bind_some]
  rw [xor32 (by decide) h2]; rfl
theorem zerosN_lt {s n : Nat} (hs : s < 4294967296) : zerosN s n < 4294967296 := xor32_lt (by decide) ((step_lin.it n).lt _ (xor32_lt (by decide) hs))
theorem zeros_neg {s : Nat} (hs : s < 4294967296) {n : Int} (hn : n ≤ 0) : crc_Zeros.f (s : Int) n = some ((s : Nat) : Int) := by
  have h1 := xor32_lt (a := M) (b := s) (by decide) hs
  unfold crc_Zeros.f
  rw [show (4294967295 : Int) = ((M : Nat) : Int) from rfl, xor32 (by decide) hs, shift_neg h1 hn]
  simp only [Option.bind_some]
  rw [xor32 (by decide) h1, M_xor]
theorem feed_zeros : ∀ (n r : Nat), feed r (List.replicate n 0) = it CrcM.step n r
  | 0, r => rfl
  | n + 1, r => by
    rw [List.replicate_succ, it, ← feed_zeros n]
    show feed (CrcM.step (r ^^^ (0 : Int).toNat)) _ = _
    simp
end Go.Proofs.Ythcebfjpgmkjjaa.ShiftM
