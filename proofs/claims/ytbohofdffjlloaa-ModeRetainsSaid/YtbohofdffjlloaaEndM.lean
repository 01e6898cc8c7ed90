/- Sums and products that stay at the ends: what the program and the reference come to. Plain Lean. No condition. -/
import Derived.Test.YtbohofdffjlloaaNums
import Derived.Test.YtbohofdffjlloaaPAllx10
import Derived.Test.YtbohofdffjlloaaPAllx11
namespace Go.Proofs.Ytbohofdffjlloaa.EndM
set_option linter.unusedVariables false
open Go Go.RowKit Go.Proofs.Ytbohofdffjlloaa.PAll Go.Proofs.Ytbohofdffjlloaa.Nums Go.Proofs.YtbohofdffjlloaaW.PrintWords Go.Proofs.YtbohofdffjlloaaW.PrintLast Go.Proofs.YtbohofdffjlloaaW.PrintMore
def R (a : Int) : Prop := -9223372036854775808 ≤ a ∧ a < 9223372036854775808
def addS (a b : Int) : Int := if a + b > 9223372036854775807 then 9223372036854775807 else if a + b < -9223372036854775808 then -9223372036854775808 else a + b
theorem add_eq {a b : Int} (ha : R a) (hb : R b) (k : Nat) (hk : 2 ≤ k) : bits_Add.f k a b = some (addS a b) := by
  obtain ⟨k, rfl⟩ : ∃ m, k = m + 1 := ⟨k - 1, by omega⟩
  obtain ⟨a0, a1⟩ := ha
  obtain ⟨b0, b1⟩ := hb
  have es : wrap64 (IntKind.u64.wrap (IntKind.u64.wrap a + IntKind.u64.wrap b)) = wrap64 (a + b) := by rw [wu64, wu64, wu64]; unfold wrap64; omega
  unfold bits_Add.f addS
  rw [es]
  simp only [bits_Add.j0]
  have hw : wrap64 (a + b) = if a + b > 9223372036854775807 then a + b - 18446744073709551616 else if a + b < -9223372036854775808 then a + b + 18446744073709551616 else a + b := by
    unfold wrap64
    split
    · omega
    · split <;> omega
  rw [hw]
  clear es hw
  (repeat' split) <;> simp only [Option.some.injEq, decide_eq_true_eq, reduceCtorEq] at * <;> omega
theorem radd_eq {a b : Int} (ha : R a) (hb : R b) (k : Nat) (hk : 2 ≤ k) : chartularyref01_Add.f k a b = some (addS a b) := by
  obtain ⟨k, rfl⟩ : ∃ m, k = m + 1 := ⟨k - 1, by omega⟩
  obtain ⟨a0, a1⟩ := ha
  obtain ⟨b0, b1⟩ := hb
  unfold chartularyref01_Add.f addS
  simp only [chartularyref01_Add.j0]
  by_cases h1 : b > 0
  · rw [if_pos h1, w64_in (by omega) (by omega)]
    by_cases h2 : a > 9223372036854775807 - b
    · rw [decide_eq_true h2, if_pos rfl, if_pos (by omega)]
    · rw [decide_eq_false h2, if_neg (by decide), if_neg (by omega), if_neg (show ¬ a + b > 9223372036854775807 by omega), if_neg (by omega), w64_in (by omega) (by omega)]
  · rw [if_neg h1, if_neg (by decide), if_neg (show ¬ a + b > 9223372036854775807 by omega)]
    by_cases h2 : b < 0
    · rw [if_pos h2, w64_in (n := -9223372036854775808 - b) (by omega) (by omega)]
      by_cases h3 : a < -9223372036854775808 - b
      · rw [if_pos h3, if_pos (by omega)]
      · rw [if_neg h3, if_neg (by omega), w64_in (by omega) (by omega)]
    · rw [if_neg h2, if_neg (by omega), w64_in (by omega) (by omega)]
/-! Products -/
def mulP (minus : Bool) (P : Nat) : Int := if minus = true then (if P > 9223372036854775808 then -9223372036854775808 else -(P : Int)) else (if P > 9223372036854775807 then 9223372036854775807 else (P : Int))
def mulS (a b : Int) : Int := mulP (decide (a < 0) != decide (b < 0)) (a.natAbs * b.natAbs)
theorem size_eq {a : Int} (ha : R a) : bits_size.f a = some ((a.natAbs : Nat) : Int) := by
  obtain ⟨a0, a1⟩ := ha
  unfold bits_size.f
  by_cases h : a < 0
  · rw [if_pos h, wu64, wu64]; simp only [Option.some.injEq]; omega
  · rw [if_neg h, wu64]; simp only [Option.some.injEq]; omega
theorem mag_eq {a : Int} (ha : R a) : chartularyref01_mag.f a = some ((a.natAbs : Nat) : Int) := by
  obtain ⟨a0, a1⟩ := ha
  unfold chartularyref01_mag.f
  by_cases h : a ≥ 0
  · rw [if_pos h, wu64]; simp only [Option.some.injEq]; omega
  · rw [if_neg h, w64_in (n := a + 1) (by omega) (by omega), w64_in (by omega) (by omega), wu64, wu64]; simp only [Option.some.injEq]; omega
theorem and32 (x : Nat) (h : x < 18446744073709551616) : bits .and .u64 (x : Int) 4294967295 = ((x % 4294967296 : Nat) : Int) := by
  have := andN .u64 rfl x 4294967295 (by show _ < 2 ^ 64; omega) (by decide)
  rw [show (4294967295 : Int) = ((4294967295 : Nat) : Int) from rfl, this, show (4294967295 : Nat) = 2 ^ 32 - 1 by decide, Nat.and_two_pow_sub_one_eq_mod]
theorem prod_le {x y : Nat} (hx : x < 4294967296) (hy : y < 4294967296) : x * y ≤ 18446744065119617025 := by
  have := Nat.mul_le_mul (show x ≤ 4294967295 by omega) (show y ≤ 4294967295 by omega)
  omega
theorem mul64_eq {x y : Nat} (hx : x < 18446744073709551616) (hy : y < 18446744073709551616) : bits_Mul64.f (x : Int) (y : Int) = some (((x * y / 18446744073709551616 : Nat) : Int), ((x * y % 18446744073709551616 : Nat) : Int)) := by
  unfold bits_Mul64.f
  rw [and32 x hx, and32 y hy]
  obtain ⟨x1, hx1⟩ : ∃ z, z = x / 4294967296 := ⟨_, rfl⟩
  obtain ⟨x0, hx0⟩ : ∃ z, z = x % 4294967296 := ⟨_, rfl⟩
  obtain ⟨y1, hy1⟩ : ∃ z, z = y / 4294967296 := ⟨_, rfl⟩
  obtain ⟨y0, hy0⟩ : ∃ z, z = y % 4294967296 := ⟨_, rfl⟩
  have ex : (x : Int) / 4294967296 = (x1 : Int) := by omega
  have ey : (y : Int) / 4294967296 = (y1 : Int) := by omega
  rw [ex, ey, ← hx0, ← hy0]
  have p0 := prod_le (x := x0) (y := y0) (by omega) (by omega)
  have p1 := prod_le (x := x1) (y := y0) (by omega) (by omega)
  have p2 := prod_le (x := x0) (y := y1) (by omega) (by omega)
  have p3 := prod_le (x := x1) (y := y1) (by omega) (by omega)
  have hxy : x * y = x1 * y1 * 18446744073709551616 + (x1 * y0 + x0 * y1) * 4294967296 + x0 * y0 := by
    have e1 : x = x1 * 4294967296 + x0 := by omega
    have e2 : y = y1 * 4294967296 + y0 := by omega
    rw [e1, e2]
    simp only [Nat.add_mul, Nat.mul_add]
    rw [show x1 * 4294967296 * (y1 * 4294967296) = x1 * y1 * 18446744073709551616 by rw [Nat.mul_mul_mul_comm], show x1 * 4294967296 * y0 = x1 * y0 * 4294967296 by rw [Nat.mul_right_comm], show x0 * (y1 * 4294967296) = x0 * y1 * 4294967296 by rw [Nat.mul_assoc]]
    omega
  have c0 : (x0 : Int) * (y0 : Int) = ((x0 * y0 : Nat) : Int) := by simp
  have c1 : (x1 : Int) * (y0 : Int) = ((x1 * y0 : Nat) : Int) := by simp
  have c2 : (x0 : Int) * (y1 : Int) = ((x0 * y1 : Nat) : Int) := by simp
  have c3 : (x1 : Int) * (y1 : Int) = ((x1 * y1 : Nat) : Int) := by simp
  have c4 : (x : Int) * (y : Int) = ((x * y : Nat) : Int) := by simp
  rw [c0, c1, c2, c3, c4]
  generalize x0 * y0 = p at *
  generalize x1 * y0 = q at *
  generalize x0 * y1 = r at *
  generalize x1 * y1 = s at *
  generalize x * y = P at *
  clear hx0 hy0 hx1 hy1 ex ey c0 c1 c2 c3 c4
  rw [u64_in (n := (p : Int)) (by omega) (by omega), u64_in (n := (q : Int)) (by omega) (by omega), u64_in (n := (r : Int)) (by omega) (by omega), u64_in (n := (s : Int)) (by omega) (by omega)]
  have t : IntKind.u64.wrap ((q : Int) + (p : Int) / 4294967296) = ((q + p / 4294967296 : Nat) : Int) := by rw [u64_in (by omega) (by omega)]; simp
  rw [t, and32 _ (by omega)]
  have u : IntKind.u64.wrap (((q + p / 4294967296) % 4294967296 : Nat) + (r : Int)) = (((q + p / 4294967296) % 4294967296 + r : Nat) : Int) := by rw [u64_in (by omega) (by omega)]; simp
  rw [u, wu64, wu64, wu64]
  simp only [Option.some.injEq, Prod.mk.injEq]
  omega
theorem abs_lt {a : Int} (ha : R a) : a.natAbs ≤ 9223372036854775808 := by obtain ⟨a0, a1⟩ := ha; omega
theorem prod_lt {a b : Int} (ha : R a) (hb : R b) : a.natAbs * b.natAbs ≤ 85070591730234615865843651857942052864 := by
  have := Nat.mul_le_mul (abs_lt ha) (abs_lt hb)
  omega
theorem mul_eq {a b : Int} (ha : R a) (hb : R b) (k : Nat) (hk : 2 ≤ k) : bits_Mul.f k a b = some (mulS a b) := by
  obtain ⟨k, rfl⟩ : ∃ m, k = m + 1 := ⟨k - 1, by omega⟩
  have la := abs_lt ha
  have lb := abs_lt hb
  unfold bits_Mul.f mulS mulP
  rw [size_eq ha, size_eq hb]
  simp only [Option.bind_some]
  rw [mul64_eq (by omega) (by omega)]
  simp only [Option.bind_some, bits_Mul.j0, bits_Mul.j1, if_true]
  generalize a.natAbs * b.natAbs = P
  have key : (if ((P / 18446744073709551616 : Nat) : Int) = 0 then (if decide (((P % 18446744073709551616 : Nat) : Int) > 9223372036854775808) = true then some (-9223372036854775808) else some (wrap64 (IntKind.u64.wrap (-((P % 18446744073709551616 : Nat) : Int))))) else some (-9223372036854775808)) = some (if P > 9223372036854775808 then (-9223372036854775808 : Int) else -(P : Int)) := by
    by_cases h : P > 9223372036854775808
    · rw [if_pos h]
      by_cases h2 : ((P / 18446744073709551616 : Nat) : Int) = 0
      · rw [if_pos h2, decide_eq_true (by omega), if_pos rfl]
      · rw [if_neg h2]
    · rw [if_neg h, if_pos (by omega), decide_eq_false (by omega), if_neg (by decide), wu64]
      unfold wrap64
      simp only [Option.some.injEq]; omega
  have key2 : (if ((P / 18446744073709551616 : Nat) : Int) = 0 then (if ((P % 18446744073709551616 : Nat) : Int) > 9223372036854775807 then some 9223372036854775807 else some (wrap64 ((P % 18446744073709551616 : Nat) : Int))) else some (9223372036854775807 : Int)) = some (if P > 9223372036854775807 then (9223372036854775807 : Int) else (P : Int)) := by
    by_cases h : P > 9223372036854775807
    · rw [if_pos h]
      by_cases h2 : ((P / 18446744073709551616 : Nat) : Int) = 0
      · rw [if_pos h2, if_pos (by omega)]
      · rw [if_neg h2]
    · rw [if_neg h, if_pos (by omega), if_neg (by omega), w64_in (by omega) (by omega)]
      simp only [Option.some.injEq]; omega
  by_cases h1 : a < 0 <;> by_cases h2 : b < 0
  · rw [if_pos h1, if_pos h2, decide_eq_true h1, decide_eq_true h2, key2]; rfl
  · rw [if_pos h1, if_neg h2, decide_eq_true h1, decide_eq_false h2, key]; rfl
  · rw [if_neg h1, if_pos h2, decide_eq_false h1, decide_eq_true h2, key]; rfl
  · rw [if_neg h1, if_neg h2, decide_eq_false h1, decide_eq_false h2, key2]; rfl
theorem rmul_j {x y : Nat} (minus : Bool) (lim : Nat) (hlim : lim = if minus = true then 9223372036854775808 else 9223372036854775807) (j : Bool → Option Int)
    (hj : ∀ z, j z = if z = true then (if minus = true then some (-9223372036854775808) else some 9223372036854775807) else (if minus = true then (if IntKind.u64.wrap ((x : Int) * (y : Int)) = 0 then some 0 else some (wrap64 (wrap64 (-(wrap64 (IntKind.u64.wrap (IntKind.u64.wrap ((x : Int) * (y : Int)) - 1)))) - 1))) else some (wrap64 (IntKind.u64.wrap ((x : Int) * (y : Int)))))) :
    (if (x : Int) = 0 then j false else j (decide ((y : Int) > IntKind.u64.wrap (Int.tdiv (lim : Int) (x : Int))))) = some (mulP minus (x * y)) := by
  have hz : (if (x : Int) = 0 then j false else j (decide ((y : Int) > IntKind.u64.wrap (Int.tdiv (lim : Int) (x : Int))))) = j (decide (x * y > lim)) := by
    by_cases h : (x : Int) = 0
    · rw [if_pos h]
      obtain rfl : x = 0 := by omega
      rw [Nat.zero_mul, decide_eq_false (by omega)]
    · rw [if_neg h]
      congr 1
      have hlt : lim / x ≤ lim := Nat.div_le_self _ _
      have hl2 : lim ≤ 9223372036854775808 := by rw [hlim]; split <;> omega
      rw [Int.tdiv_eq_ediv_of_nonneg (by omega)]
      have e : (lim : Int) / (x : Int) = ((lim / x : Nat) : Int) := by simp
      have hdiv := Nat.div_lt_iff_lt_mul (x := lim) (y := y) (show 0 < x by omega)
      rw [e]
      generalize lim / x = q at *
      rw [u64_in (by omega) (by omega)]
      rw [Bool.eq_iff_iff, decide_eq_true_eq, decide_eq_true_eq, Nat.mul_comm x y]
      omega
  rw [hz, hj]
  unfold mulP
  have c : (x : Int) * (y : Int) = ((x * y : Nat) : Int) := by simp
  rw [c]
  generalize x * y = P
  cases minus
  · simp only [reduceCtorEq, if_false] at hlim ⊢
    subst hlim
    by_cases h : P > 9223372036854775807
    · rw [decide_eq_true h, if_pos rfl, if_pos h]
    · rw [decide_eq_false h, if_neg (by decide), if_neg h, u64_in (by omega) (by omega), w64_in (by omega) (by omega)]
  · simp only [if_true] at hlim ⊢
    subst hlim
    by_cases h : P > 9223372036854775808
    · rw [decide_eq_true h, if_pos rfl, if_pos h]
    · rw [decide_eq_false h, if_neg (by decide), if_neg h, u64_in (n := (P : Int)) (by omega) (by omega)]
      by_cases h0 : (P : Int) = 0
      · rw [if_pos h0, h0]; rfl
      · rw [if_neg h0, u64_in (n := (P : Int) - 1) (by omega) (by omega), w64_in (n := (P : Int) - 1) (by omega) (by omega), w64_in (n := -((P : Int) - 1)) (by omega) (by omega), w64_in (by omega) (by omega)]
        simp only [Option.some.injEq]; omega
theorem rmul_eq {a b : Int} (ha : R a) (hb : R b) (k : Nat) (hk : 2 ≤ k) : chartularyref01_Mul.f k a b = some (mulS a b) := by
  obtain ⟨k, rfl⟩ : ∃ m, k = m + 1 := ⟨k - 1, by omega⟩
  unfold chartularyref01_Mul.f mulS
  rw [mag_eq ha, mag_eq hb]
  simp only [Option.bind_some]
  by_cases h1 : a < 0 <;> by_cases h2 : b < 0
  · rw [if_pos h1, if_pos h2, decide_eq_true h1, decide_eq_true h2]
    exact rmul_j false 9223372036854775807 rfl (fun z => chartularyref01_Mul.j0 (k + 1) false _ _ z) (fun z => by rw [chartularyref01_Mul.j0])
  · rw [if_pos h1, if_neg h2, decide_eq_true h1, decide_eq_false h2]
    exact rmul_j true 9223372036854775808 rfl (fun z => chartularyref01_Mul.j1 (k + 1) true _ _ z) (fun z => by rw [chartularyref01_Mul.j1])
  · rw [if_neg h1, if_pos h2, decide_eq_false h1, decide_eq_true h2]
    exact rmul_j true 9223372036854775808 rfl (fun z => chartularyref01_Mul.j2 (k + 1) true _ _ z) (fun z => by rw [chartularyref01_Mul.j2])
  · rw [if_neg h1, if_neg h2, decide_eq_false h1, decide_eq_false h2]
    exact rmul_j false 9223372036854775807 rfl (fun z => chartularyref01_Mul.j3 (k + 1) false _ _ z) (fun z => by rw [chartularyref01_Mul.j3])
theorem addS_comm (a b : Int) : addS a b = addS b a := by unfold addS; rw [Int.add_comm]
theorem mulS_comm (a b : Int) : mulS a b = mulS b a := by
  unfold mulS
  rw [Nat.mul_comm]
  congr 1
  cases decide (a < 0) <;> cases decide (b < 0) <;> rfl
theorem mulS_one {a : Int} (ha : R a) : mulS a 1 = a := by
  obtain ⟨a0, a1⟩ := ha
  unfold mulS mulP
  rw [show (1 : Int).natAbs = 1 from rfl, Nat.mul_one]
  by_cases h : a < 0
  · rw [decide_eq_true h, show decide ((1 : Int) < 0) = false from rfl, if_pos (by rfl)]; split <;> omega
  · rw [decide_eq_false h, show decide ((1 : Int) < 0) = false from rfl, if_neg (by decide)]; split <;> omega
theorem mulS_zero {a : Int} (ha : R a) : mulS a 0 = 0 := by
  unfold mulS mulP
  rw [show (0 : Int).natAbs = 0 from rfl, Nat.mul_zero]
  split <;> simp
theorem mulS_two {a : Int} (ha : R a) : mulS a 2 = addS a a := by
  obtain ⟨a0, a1⟩ := ha
  unfold mulS mulP addS
  rw [show (2 : Int).natAbs = 2 from rfl]
  by_cases h : a < 0
  · rw [decide_eq_true h, show decide ((2 : Int) < 0) = false from rfl, if_pos (by rfl)]; split <;> (repeat' split) <;> omega
  · rw [decide_eq_false h, show decide ((2 : Int) < 0) = false from rfl, if_neg (by decide)]; split <;> (repeat' split) <;> omega
end Go.Proofs.Ytbohofdffjlloaa.EndM
