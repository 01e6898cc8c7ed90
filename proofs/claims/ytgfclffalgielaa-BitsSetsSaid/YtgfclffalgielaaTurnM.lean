/- Words turned round and in the other order, their ones, numbers with a sign as ones without: what the program and the reference come to. Plain Lean. No condition. -/
import Derived.Test.YtgfclffalgielaaNums
import Derived.Test.YtgfclffalgielaaPAllx3
import Derived.Test.YtgfclffalgielaaPAllx4
import Derived.Test.YtgfclffalgielaaPAllx5
namespace Go.Proofs.Ytgfclffalgielaa.TurnM
set_option linter.unusedVariables false
open Go Go.RowKit Go.Proofs.Ytgfclffalgielaa.PAll Go.Proofs.Ytgfclffalgielaa.Nums Go.Proofs.YtgfclffalgielaaW.PrintWords Go.Proofs.YtgfclffalgielaaW.PrintLast Go.Proofs.YtgfclffalgielaaW.PrintMore
/-! Zig and Zag -/
theorem xor_ones (n x : Nat) (h : x < 2 ^ n) : x ^^^ (2 ^ n - 1) = 2 ^ n - 1 - x := by
  have e := congrArg BitVec.toNat (BitVec.xor_allOnes (x := BitVec.ofNat n x))
  rw [BitVec.toNat_xor, BitVec.toNat_not, BitVec.toNat_ofNat, BitVec.toNat_allOnes, Nat.mod_eq_of_lt h] at e
  exact e
def zig (a : Int) : Int := if 0 ≤ a then 2 * a else -2 * a - 1
def zag (u : Int) : Int := if u % 2 = 0 then u / 2 else -(u / 2) - 1
theorem zig_eq {a : Int} (h0 : -9223372036854775808 ≤ a) (h1 : a < 9223372036854775808) : bits_Zig.f a = some (zig a) := by
  unfold bits_Zig.f zig
  by_cases h : 0 ≤ a
  · rw [if_pos h, u64_in h (by omega), show a / 9223372036854775808 = 0 by omega, u64_in (n := a * 2) (by omega) (by omega), u64_in (n := 0) (by omega) (by omega)]
    obtain ⟨x, rfl⟩ := Int.eq_ofNat_of_zero_le h
    have := xorN .u64 rfl (x * 2) 0 (by show _ < 2 ^ 64; omega) (by decide)
    rw [show (x : Int) * 2 = ((x * 2 : Nat) : Int) by simp, show (0 : Int) = ((0 : Nat) : Int) from rfl, this, Nat.xor_zero]
    simp; omega
  · rw [if_neg h]
    have e1 : IntKind.u64.wrap (IntKind.u64.wrap a * 2) = ((18446744073709551616 + 2 * a).toNat : Int) := by rw [wu64, wu64]; omega
    have e2 : IntKind.u64.wrap (a / 9223372036854775808) = ((2 ^ 64 - 1 : Nat) : Int) := by rw [wu64, show a / 9223372036854775808 = -1 by omega]; decide
    rw [e1, e2, xorN .u64 rfl _ _ (by show _ < 2 ^ 64; omega) (by decide), xor_ones 64 _ (by show _ < 2 ^ 64; omega)]
    simp only [Option.some.injEq]
    omega
theorem rzig_eq {a : Int} (h0 : -9223372036854775808 ≤ a) (h1 : a < 9223372036854775808) : chartularyref01_Zig.f a = some (zig a) := by
  unfold chartularyref01_Zig.f zig
  by_cases h : 0 ≤ a
  · rw [if_pos h, if_pos h, u64_in h (by omega), u64_in (by omega) (by omega)]
  · rw [if_neg h, if_neg (by omega), w64_in (n := a + 1) (by omega) (by omega), w64_in (by omega) (by omega), u64_in (n := -(a + 1)) (by omega) (by omega), u64_in (n := 2 * -(a + 1)) (by omega) (by omega), u64_in (by omega) (by omega)]
    simp only [Option.some.injEq]; omega
theorem xor_i64 (a b : Int) : bits .xor .i64 a b = IntKind.i64.wrap ((((BitVec.ofInt 64 a).toNat ^^^ (BitVec.ofInt 64 b).toNat : Nat)) : Int) := by
  rw [← BitVec.toNat_xor]; rfl
theorem ofInt_nat {x : Nat} (h : x < 2 ^ 64) : (BitVec.ofInt 64 (x : Int)).toNat = x := by
  rw [BitVec.ofInt_natCast, BitVec.toNat_ofNat, Nat.mod_eq_of_lt h]
theorem xor_m1 {a : Int} (h0 : 0 ≤ a) (h1 : a < 9223372036854775808) : bits .xor .i64 a (-1) = -a - 1 := by
  obtain ⟨x, rfl⟩ := Int.eq_ofNat_of_zero_le h0
  have e : (BitVec.ofInt 64 (-1)).toNat = 2 ^ 64 - 1 := by decide
  rw [xor_i64, ofInt_nat (by omega), e, xor_ones 64 x (by omega), IntKind.wrap_i64]
  omega
theorem xor_z {a : Int} (h0 : 0 ≤ a) (h1 : a < 9223372036854775808) : bits .xor .i64 a 0 = a := by
  obtain ⟨x, rfl⟩ := Int.eq_ofNat_of_zero_le h0
  have e : (BitVec.ofInt 64 0).toNat = 0 := by decide
  rw [xor_i64, ofInt_nat (by omega), e, Nat.xor_zero, IntKind.wrap_i64]
  omega
theorem and1 {u : Int} (h0 : 0 ≤ u) (h1 : u < 18446744073709551616) : bits .and .u64 u 1 = u % 2 := by
  obtain ⟨x, rfl⟩ := Int.eq_ofNat_of_zero_le h0
  have := andN .u64 rfl x 1 (by show _ < 2 ^ 64; omega) (by decide)
  rw [show (1 : Int) = ((1 : Nat) : Int) from rfl, this, Nat.and_one_is_mod]; simp
theorem zag_eq {u : Int} (h0 : 0 ≤ u) (h1 : u < 18446744073709551616) : bits_Zag.f u = some (zag u) := by
  unfold bits_Zag.f zag
  rw [and1 h0 h1, w64_in (n := u / 2) (by omega) (by omega), w64_in (n := u % 2) (by omega) (by omega), w64_in (n := -(u % 2)) (by omega) (by omega)]
  by_cases h : u % 2 = 0
  · rw [if_pos h, h]; simp only [Int.neg_zero]; rw [xor_z (by omega) (by omega)]
  · rw [if_neg h, show u % 2 = 1 by omega, xor_m1 (by omega) (by omega)]
theorem rzag_eq {u : Int} (h0 : 0 ≤ u) (h1 : u < 18446744073709551616) : chartularyref01_Zag.f u = some (zag u) := by
  unfold chartularyref01_Zag.f zag
  rw [Int.tmod_eq_emod_of_nonneg h0, Int.tdiv_eq_ediv_of_nonneg h0, u64_in (n := u / 2) (by omega) (by omega), w64_in (n := u / 2) (by omega) (by omega), w64_in (n := -(u / 2)) (by omega) (by omega), w64_in (by omega) (by omega)]
  split <;> rfl
theorem zig_range {a : Int} (h0 : -9223372036854775808 ≤ a) (h1 : a < 9223372036854775808) : 0 ≤ zig a ∧ zig a < 18446744073709551616 := by unfold zig; split <;> omega
theorem zag_zig (a : Int) : zag (zig a) = a := by
  unfold zag zig
  by_cases h : 0 ≤ a
  · rw [if_pos h]; split <;> omega
  · rw [if_neg h]; split <;> omega
/-! Turn -/
/-- A word turned round to the left by k. -/
def rot (w k : Nat) : Nat := w * 2 ^ k % 4294967296 + w * 2 ^ k / 4294967296
theorem rot_zero {w : Nat} (h : w < 4294967296) : rot w 0 = w := by unfold rot; omega
theorem rot_lt {w k : Nat} (h : w < 4294967296) (hk : k ≤ 32) : rot w k < 4294967296 := by
  unfold rot
  have hp : 2 ^ k * 2 ^ (32 - k) = 4294967296 := by rw [← Nat.pow_add, show k + (32 - k) = 32 by omega]
  have h1 : w * 2 ^ k / 4294967296 < 2 ^ k := by rw [Nat.div_lt_iff_lt_mul (by decide), Nat.mul_comm (2 ^ k)]; exact Nat.mul_lt_mul_of_pos_right h (Nat.two_pow_pos k)
  have h2 : w * 2 ^ k % 4294967296 = 2 ^ k * (w % 2 ^ (32 - k)) := by rw [← hp, Nat.mul_comm w, Nat.mul_mod_mul_left]
  have h3 : w % 2 ^ (32 - k) + 1 ≤ 2 ^ (32 - k) := Nat.mod_lt _ (Nat.two_pow_pos _)
  have h4 : 2 ^ k * (w % 2 ^ (32 - k) + 1) ≤ 2 ^ k * 2 ^ (32 - k) := Nat.mul_le_mul_left _ h3
  rw [Nat.mul_add, Nat.mul_one, hp] at h4
  omega
theorem rot_succ {w k : Nat} (h : w < 4294967296) (hk : k < 32) : rot w (k + 1) = rot w k * 2 % 4294967296 + rot w k / 2147483648 := by
  have hlt := rot_lt (w := w) (k := k) h (by omega)
  unfold rot at hlt ⊢
  have hp : 2 ^ (k + 1) * 2 ^ (31 - k) = 4294967296 := by rw [← Nat.pow_add, show k + 1 + (31 - k) = 32 by omega]
  have h1 : w * 2 ^ k / 4294967296 < 2 ^ k := by rw [Nat.div_lt_iff_lt_mul (by decide), Nat.mul_comm (2 ^ k)]; exact Nat.mul_lt_mul_of_pos_right h (Nat.two_pow_pos k)
  have e2 : w * 2 ^ (k + 1) = 2 * (w * 2 ^ k) := by rw [Nat.pow_succ]; rw [← Nat.mul_assoc, Nat.mul_comm]
  have h2 : w * 2 ^ (k + 1) % 4294967296 = 2 ^ (k + 1) * (w % 2 ^ (31 - k)) := by rw [← hp, Nat.mul_comm w, Nat.mul_mod_mul_left]
  have h3 : w % 2 ^ (31 - k) + 1 ≤ 2 ^ (31 - k) := Nat.mod_lt _ (Nat.two_pow_pos _)
  have h4 : 2 ^ (k + 1) * (w % 2 ^ (31 - k) + 1) ≤ 2 ^ (k + 1) * 2 ^ (31 - k) := Nat.mul_le_mul_left _ h3
  rw [Nat.mul_add, Nat.mul_one, hp, ← h2, e2, Nat.pow_succ] at h4
  rw [e2]
  generalize w * 2 ^ k = z at *
  omega
theorem rturn_l0 {w : Nat} (h : w < 4294967296) : ∀ (m k j : Nat), j + m ≤ 32 → m + 1 ≤ k → chartularyref01_Turn.l0 k ((rot w j : Nat) : Int) (m : Int) = some ((rot w (j + m) : Nat) : Int)
  | 0, k, j, hj, hk => by
    obtain ⟨k, rfl⟩ : ∃ m, k = m + 1 := ⟨k - 1, by omega⟩
    rw [chartularyref01_Turn.l0, if_neg (by omega)]; rfl
  | m + 1, k, j, hj, hk => by
    obtain ⟨k, rfl⟩ : ∃ m, k = m + 1 := ⟨k - 1, by omega⟩
    rw [chartularyref01_Turn.l0, if_pos (by omega), w64_in (by omega) (by omega)]
    have hl := rot_lt (w := w) (k := j) h (by omega)
    have hl2 := rot_lt (w := w) (k := j + 1) h (by omega)
    have hs := rot_succ (w := w) (k := j) h (by omega)
    have e : ((((rot w j : Nat) : Int) * 2 % 4294967296 + Int.tdiv ((rot w j : Nat) : Int) 2147483648 % 4294967296) % 4294967296) = ((rot w (j + 1) : Nat) : Int) := by
      rw [Int.tdiv_eq_ediv_of_nonneg (by omega)]; omega
    rw [e, show (((m + 1 : Nat) : Int) - 1) = (m : Int) by omega]
    rw [rturn_l0 h m k (j + 1) (by omega) (by omega)]
    rw [show j + 1 + m = j + (m + 1) by omega]
theorem rturn_eq {w : Nat} (h : w < 4294967296) {n : Int} (h0 : -9223372036854775808 ≤ n) (h1 : n < 9223372036854775808) (k : Nat) (hk : 40 ≤ k) : chartularyref01_Turn.f k (w : Int) n = some ((rot w (n % 32).toNat : Nat) : Int) := by
  unfold chartularyref01_Turn.f
  have e : Int.tmod (wrap64 (Int.tmod n 32 + 32)) 32 = (((n % 32).toNat : Nat) : Int) := by
    have hb : -32 < Int.tmod n 32 ∧ Int.tmod n 32 < 32 := ⟨by have := Int.lt_tmod_of_pos n (b := 32) (by decide); omega, Int.tmod_lt_of_pos n (by decide)⟩
    rw [w64_in (by omega) (by omega), Int.tmod_eq_emod_of_nonneg (by omega)]
    have := Int.emod_add_emod (Int.tmod n 32) 32 32
    have h3 : (Int.tmod n 32) % 32 = n % 32 := by
      have := Int.tmod_add_mul_tdiv n 32
      omega
    omega
  rw [e]
  have := rturn_l0 h (n % 32).toNat k 0 (by omega) (by omega)
  rw [rot_zero h, Nat.zero_add] at this
  exact this
theorem and31 (x : Int) (h0 : 0 ≤ x) (h1 : x < 18446744073709551616) : bits .and .u64 x 31 = x % 32 := by
  obtain ⟨y, rfl⟩ := Int.eq_ofNat_of_zero_le h0
  have := andN .u64 rfl y 31 (by show _ < 2 ^ 64; omega) (by decide)
  rw [show (31 : Int) = ((31 : Nat) : Int) from rfl, this, show (31 : Nat) = 2 ^ 5 - 1 by decide, Nat.and_two_pow_sub_one_eq_mod]; simp
theorem turn_eq {w : Nat} (h : w < 4294967296) (n : Int) : bits_Turn.f (w : Int) n = some ((rot w (n % 32).toNat : Nat) : Int) := by
  unfold bits_Turn.f
  have hw : 0 ≤ IntKind.u64.wrap n ∧ IntKind.u64.wrap n < 18446744073709551616 ∧ IntKind.u64.wrap n % 32 = n % 32 := by rw [wu64]; omega
  rw [and31 _ hw.1 hw.2.1, hw.2.2, u64_in (n := 32 - n % 32) (by omega) (by omega), if_pos (by omega), if_pos (by omega)]
  obtain ⟨m, hm⟩ := Int.eq_ofNat_of_zero_le (show 0 ≤ n % 32 by omega)
  have hm32 : m < 32 := by omega
  rw [hm, show (32 : Int) - (m : Int) = ((32 - m : Nat) : Int) by omega, shlN .u32 rfl, shrN, Int.toNat_natCast, Nat.min_eq_left (by show m ≤ 32; omega), Nat.min_eq_left (by show 32 - m ≤ 32; omega)]
  have hp : 2 ^ m * 2 ^ (32 - m) = 4294967296 := by rw [← Nat.pow_add, show m + (32 - m) = 32 by omega]
  have hd : w / 2 ^ (32 - m) = w * 2 ^ m / 4294967296 := by rw [← hp, Nat.mul_comm w, Nat.mul_div_mul_left _ _ (Nat.two_pow_pos m)]
  have hlt : w / 2 ^ (32 - m) < 2 ^ m := by rw [Nat.div_lt_iff_lt_mul (Nat.two_pow_pos _), hp]; exact h
  have hle : (2 : Nat) ^ m ≤ 2 ^ 31 := Nat.pow_le_pow_right (by decide) (by omega)
  have hmod : w * 2 ^ m % 2 ^ IntKind.u32.bits % 2 ^ m = 0 := by
    show w * 2 ^ m % 4294967296 % 2 ^ m = 0
    rw [← hp, Nat.mul_comm w, Nat.mul_mod_mul_left]; exact Nat.mul_mod_right _ _
  rw [orN .u32 rfl _ _ (by show _ < 2 ^ 32; exact Nat.mod_lt _ (by decide)) (by show _ < 2 ^ 32; omega), Nat.or_comm, or_add hlt hmod, Nat.add_comm, hd]
  rfl
theorem rot_add {w a : Nat} (h : w < 4294967296) : ∀ b, a + b ≤ 32 → rot (rot w a) b = rot w (a + b)
  | 0, hb => rot_zero (rot_lt h (by omega))
  | b + 1, hb => by
    rw [rot_succ (rot_lt h (by omega)) (by omega), rot_add h b (by omega), show a + (b + 1) = a + b + 1 by omega, rot_succ h (by omega)]
theorem rot_32 {w : Nat} (h : w < 4294967296) : rot w 32 = w := by
  unfold rot
  rw [show (2 : Nat) ^ 32 = 4294967296 by decide]
  omega
theorem turn_back {w : Nat} (h : w < 4294967296) (m : Int) : rot (rot w (m % 32).toNat) ((-m) % 32).toNat = w := by
  rw [rot_add h _ (by omega)]
  by_cases hz : m % 32 = 0
  · rw [show (m % 32).toNat + ((-m) % 32).toNat = 0 by omega, rot_zero h]
  · rw [show (m % 32).toNat + ((-m) % 32).toNat = 32 by omega, rot_32 h]
end Go.Proofs.Ytgfclffalgielaa.TurnM
