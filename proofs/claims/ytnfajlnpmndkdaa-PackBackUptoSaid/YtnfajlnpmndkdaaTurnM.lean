/- Words turned round and in the other order, their ones, numbers with a sign as ones without: what the program and the reference come to. Plain Lean. No condition. -/
import Derived.Test.YtnfajlnpmndkdaaNums
import Derived.Test.YtnfajlnpmndkdaaPAllx1
import Derived.Test.YtnfajlnpmndkdaaPAllx2
namespace Go.Proofs.Ytnfajlnpmndkdaa.TurnM
set_option linter.unusedVariables false
open Go Go.RowKit Go.Proofs.Ytnfajlnpmndkdaa.PAll Go.Proofs.Ytnfajlnpmndkdaa.Nums Go.Proofs.YtnfajlnpmndkdaaW.PrintWords Go.Proofs.YtnfajlnpmndkdaaW.PrintLast Go.Proofs.YtnfajlnpmndkdaaW.PrintMore
/-! Zig and Zag -/
theorem xor_ones (n x : Nat) (h : x < 2 ^ n) : x ^^^ (2 ^ n - 1) = 2 ^ n - 1 - x := by
  have e := congrArg BitVec.toNat (BitVec.xor_allOnes (x := BitVec.ofNat n x))
  rw [BitVec.toNat_xor, BitVec.toNat_not, BitVec.toNat_ofNat, BitVec.toNat_allOnes, Nat.mod_eq_of_lt h] at e
  exact e
def zig (a : Int) : Int := if 0 ≤ a then 2 * a else -2 * a - 1
def zag (u : Int) : Int := if u % 2 = 0 then u / 2 else -(u / 2) - 1
theorem zig_eq {a : Int} (h0 : -9223372036854775808 ≤ a) (h1 : a < 9223372036854775808) : bits_Zig.f a = some (zig a) := by
  unfold bits_Zig.f zig
  by_cases h : 0 ≤ a
  · rw [if_pos h, u64_in h (by omega), show a / 9223372036854775808 = 0 by omega, u64_in (n := a * 2) (by omega) (by omega), u64_in (n := 0) (by omega) (by omega)]
    obtain ⟨x, rfl⟩ := Int.eq_ofNat_of_zero_le h
    have := xorN .u64 rfl (x * 2) 0 (by show _ < 2 ^ 64; omega) (by decide)
    rw [show (x : Int) * 2 = ((x * 2 : Nat) : Int) by simp, show (0 : Int) = ((0 : Nat) : Int) from rfl, this, Nat.xor_zero]
    simp; omega
  · rw [if_neg h]
    have e1 : IntKind.u64.wrap (IntKind.u64.wrap a * 2) = ((18446744073709551616 + 2 * a).toNat : Int) := by rw [wu64, wu64]; omega
    have e2 : IntKind.u64.wrap (a / 9223372036854775808) = ((2 ^ 64 - 1 : Nat) : Int) := by rw [wu64, show a / 9223372036854775808 = -1 by omega]; decide
    rw [e1, e2, xorN .u64 rfl _ _ (by show _ < 2 ^ 64; omega) (by decide), xor_ones 64 _ (by show _ < 2 ^ 64; omega)]
    simp only [Option.some.injEq]
    omega
theorem rzig_eq {a : Int} (h0 : -9223372036854775808 ≤ a) (h1 : a < 9223372036854775808) : chartularyref01_Zig.f a = some (zig a) := by
  unfold chartularyref01_Zig.f zig
  by_cases h : 0 ≤ a
  · rw [if_pos h, if_pos h, u64_in h (by omega), u64_in (by omega) (by omega)]
  · rw [if_neg h, if_neg (by omega), w64_in (n := a + 1) (by omega) (by omega), w64_in (by omega) (by omega), u64_in (n := -(a + 1)) (by omega) (by omega), u64_in (n := 2 * -(a + 1)) (by omega) (by omega), u64_in (by omega) (by omega)]
    simp only [Option.some.injEq]; omega
theorem xor_i64 (a b : Int) : bits .xor .i64 a b = IntKind.i64.wrap ((((BitVec.ofInt 64 a).toNat ^^^ (BitVec.ofInt 64 b).toNat : Nat)) : Int) := by
  rw [← BitVec.toNat_xor]; rfl
theorem ofInt_nat {x : Nat} (h : x < 2 ^ 64) : (BitVec.ofInt 64 (x : Int)).toNat = x := by
  rw [BitVec.ofInt_natCast, BitVec.toNat_ofNat, Nat.mod_eq_of_lt h]
theorem xor_m1 {a : Int} (h0 : 0 ≤ a) (h1 : a < 9223372036854775808) : bits .xor .i64 a (-1) = -a - 1 := by
  obtain ⟨x, rfl⟩ := Int.eq_ofNat_of_zero_le h0
  have e : (BitVec.ofInt 64 (-1)).toNat = 2 ^ 64 - 1 := by decide
  rw [xor_i64, ofInt_nat (by omega), e, xor_ones 64 x (by omega), IntKind.wrap_i64]
  omega
theorem xor_z {a : Int} (h0 : 0 ≤ a) (h1 : a < 9223372036854775808) : bits .xor .i64 a 0 = a := by
  obtain ⟨x, rfl⟩ := Int.eq_ofNat_of_zero_le h0
  have e : (BitVec.ofInt 64 0).toNat = 0 := by decide
  rw [xor_i64, ofInt_nat (by omega), e, Nat.xor_zero, IntKind.wrap_i64]
  omega
theorem and1 {u : Int} (h0 : 0 ≤ u) (h1 : u < 18446744073709551616) : bits .and .u64 u 1 = u % 2 := by
  obtain ⟨x, rfl⟩ := Int.eq_ofNat_of_zero_le h0
  have := andN .u64 rfl x 1 (by show _ < 2 ^ 64; omega) (by decide)
  rw [show (1 : Int) = ((1 : Nat) : Int) from rfl, this, Nat.and_one_is_mod]; simp
theorem zag_eq {u : Int} (h0 : 0 ≤ u) (h1 : u < 18446744073709551616) : bits_Zag.f u = some (zag u) := by
  unfold bits_Zag.f zag
  rw [and1 h0 h1, w64_in (n := u / 2) (by omega) (by omega), w64_in (n := u % 2) (by omega) (by omega), w64_in (n := -(u % 2)) (by omega) (by omega)]
  by_cases h : u % 2 = 0
  · rw [if_pos h, h]; simp only [Int.neg_zero]; rw [xor_z (by omega) (by omega)]
  · rw [if_neg h, show u % 2 = 1 by omega, xor_m1 (by omega) (by omega)]
theorem zig_range {a : Int} (h0 : -9223372036854775808 ≤ a) (h1 : a < 9223372036854775808) : 0 ≤ zig a ∧ zig a < 18446744073709551616 := by unfold zig; split <;> omega
theorem zag_zig (a : Int) : zag (zig a) = a := by
  unfold zag zig
  by_cases h : 0 ≤ a
  · rw [if_pos h]; split <;> omega
  · rw [if_neg h]; split <;> omega
end Go.Proofs.Ytnfajlnpmndkdaa.TurnM
