/- Some bits of a word, and a word with some bits as they should be: what the program and the reference come to. Plain Lean. No condition. -/
import Derived.Test.YtgfclffalgielaaNums
import Derived.Test.YtgfclffalgielaaPAllx6
import Derived.Test.YtgfclffalgielaaPAllx7
namespace Go.Proofs.Ytgfclffalgielaa.FieldM
set_option linter.unusedVariables false
open Go Go.RowKit Go.Proofs.Ytgfclffalgielaa.PAll Go.Proofs.Ytgfclffalgielaa.Nums Go.Proofs.YtgfclffalgielaaW.PrintWords Go.Proofs.YtgfclffalgielaaW.PrintLast Go.Proofs.YtgfclffalgielaaW.PrintMore
def I64 (a : Int) : Prop := -9223372036854775808 ≤ a ∧ a < 9223372036854775808
def Within (i d : Int) : Prop := 0 ≤ i ∧ 0 ≤ d ∧ i + d ≤ 64
theorem within_eq {i d : Int} (hi : I64 i) (hd : I64 d) : bits_within.f i d = some (decide (0 ≤ i ∧ 0 ≤ d ∧ i + d ≤ 64)) := by
  obtain ⟨i0, i1⟩ := hi
  obtain ⟨d0, d1⟩ := hd
  unfold bits_within.f
  by_cases h1 : i ≥ 0
  · rw [if_pos h1]
    by_cases h2 : d ≥ 0
    · rw [if_pos h2]
      by_cases h3 : i ≤ 64
      · rw [if_pos h3, w64_in (by omega) (by omega)]
        simp only [Option.some.injEq]; rw [Bool.eq_iff_iff, decide_eq_true_eq, decide_eq_true_eq]; omega
      · rw [if_neg h3, decide_eq_false (by omega)]
    · rw [if_neg h2, decide_eq_false (by omega)]
  · rw [if_neg h1, decide_eq_false (by omega)]
theorem mask_eq {d : Nat} (hd : d ≤ 64) : bits_mask.f (d : Int) = some ((2 ^ d - 1 : Nat) : Int) := by
  unfold bits_mask.f
  rw [u64_in (n := (d : Int)) (by omega) (by omega), if_pos (by omega), show (1 : Int) = ((1 : Nat) : Int) from rfl, shlN .u64 rfl, Nat.min_eq_left (by show d ≤ 64; exact hd), Nat.one_mul]
  by_cases h : d = 64
  · subst h; rw [show (2 : Nat) ^ 64 % 2 ^ IntKind.u64.bits = 0 by decide, wu64]; decide
  · have hlt : (2 : Nat) ^ d < 2 ^ 64 := Nat.pow_lt_pow_right (by decide) (by omega)
    have hp := Nat.two_pow_pos d
    rw [Nat.mod_eq_of_lt (by show _ < 2 ^ 64; exact hlt), u64_in (by omega) (by omega)]
    simp only [Option.some.injEq]; omega
def fieldN (w i d : Nat) : Nat := w / 2 ^ i % 2 ^ d
def fieldR (w : Nat) (i d : Int) : Int × Int := if 0 ≤ i ∧ 0 ≤ d ∧ i + d ≤ 64 then ((fieldN w i.toNat d.toNat : Nat), 0) else (0, 1)
theorem field_eq {w : Nat} (hw : w < 18446744073709551616) {i d : Int} (hi : I64 i) (hd : I64 d) : bits_Field.f (w : Int) i d = some (fieldR w i d) := by
  unfold bits_Field.f fieldR
  rw [within_eq hi hd]
  simp only [Option.bind_some, decide_eq_true_eq]
  by_cases h : 0 ≤ i ∧ 0 ≤ d ∧ i + d ≤ 64
  · rw [if_pos h, if_pos h]
    obtain ⟨i, rfl⟩ := Int.eq_ofNat_of_zero_le h.1
    obtain ⟨d, rfl⟩ := Int.eq_ofNat_of_zero_le h.2.1
    have hs : w / 2 ^ i ≤ w := Nat.div_le_self _ _
    have hm : 2 ^ d ≤ 2 ^ 64 := Nat.pow_le_pow_right (by decide) (by omega)
    have hp := Nat.two_pow_pos d
    rw [u64_in (n := (i : Int)) (by omega) (by omega), if_pos (by omega), mask_eq (by omega), shrN, Nat.min_eq_left (by show i ≤ 64; omega)]
    simp only [Option.bind_some]
    rw [andN .u64 rfl _ _ (by show _ < 2 ^ 64; omega) (by show _ < 2 ^ 64; omega), Nat.and_two_pow_sub_one_eq_mod]
    rfl
  · rw [if_neg h, if_neg h]
theorem bit_l0 : ∀ (d k x j : Nat), x < 18446744073709551616 → j + d < 100 → d + 1 ≤ k → chartularyref01_Bit.l0 k (x : Int) ((j + d : Nat) : Int) (j : Int) = some (x.testBit d)
  | 0, k, x, j, hx, hj, hk => by
    obtain ⟨k, rfl⟩ : ∃ m, k = m + 1 := ⟨k - 1, by omega⟩
    rw [chartularyref01_Bit.l0, if_neg (by omega), Int.tmod_eq_emod_of_nonneg (by omega), Nat.testBit_zero]
    simp only [Option.some.injEq]; rw [Bool.eq_iff_iff]; simp; omega
  | d + 1, k, x, j, hx, hj, hk => by
    obtain ⟨k, rfl⟩ : ∃ m, k = m + 1 := ⟨k - 1, by omega⟩
    rw [chartularyref01_Bit.l0, if_pos (by omega), Int.tdiv_eq_ediv_of_nonneg (by omega), u64_in (by omega) (by omega), w64_in (by omega) (by omega), Nat.testBit_add_one]
    have := bit_l0 d k (x / 2) (j + 1) (by omega) (by omega) (by omega)
    rw [show j + 1 + d = j + (d + 1) by omega] at this
    rw [← this]; simp
theorem bit_eq {x i : Nat} (hx : x < 18446744073709551616) (hi : i < 100) (k : Nat) (hk : 101 ≤ k) : chartularyref01_Bit.f k (x : Int) (i : Int) = some (x.testBit i) := by
  have := bit_l0 i k x 0 hx (by omega) (by omega)
  rw [Nat.zero_add] at this
  exact this
theorem tb_mod (x m : Nat) : x.testBit m = decide (x / 2 ^ m % 2 = 1) := by
  rw [← Nat.testBit_zero, Nat.testBit_div_two_pow, Nat.zero_add]
theorem rfield_l0 {w i d : Nat} (hw : w < 18446744073709551616) (h : i + d ≤ 64) : ∀ (m k : Nat), m ≤ d → m + 110 ≤ k → chartularyref01_Field.l0 k (w : Int) (i : Int) ((w / 2 ^ (i + m) % 2 ^ (d - m) : Nat) : Int) ((m : Int) - 1) = some (((fieldN w i d : Nat) : Int), 0)
  | 0, k, hm, hk => by
    obtain ⟨k, rfl⟩ : ∃ m, k = m + 1 := ⟨k - 1, by omega⟩
    rw [chartularyref01_Field.l0, if_neg (by omega)]; rfl
  | m + 1, k, hm, hk => by
    obtain ⟨k, rfl⟩ : ∃ m, k = m + 1 := ⟨k - 1, by omega⟩
    have ih := rfield_l0 hw h m k (by omega) (by omega)
    have e1 : (((m + 1 : Nat) : Int) - 1) = (m : Int) := by omega
    have hlt : w / 2 ^ (i + (m + 1)) % 2 ^ (d - (m + 1)) < 2 ^ (d - (m + 1)) := Nat.mod_lt _ (Nat.two_pow_pos _)
    have hle : 2 ^ (d - (m + 1)) ≤ 2 ^ 63 := Nat.pow_le_pow_right (by decide) (by omega)
    have e2 : w / 2 ^ (i + m) % 2 ^ (d - m) = w / 2 ^ (i + (m + 1)) % 2 ^ (d - (m + 1)) * 2 + w / 2 ^ (i + m) % 2 := by
      have a1 : w / 2 ^ (i + (m + 1)) = w / 2 ^ (i + m) / 2 := by rw [Nat.div_div_eq_div_mul, ← Nat.pow_succ]; rfl
      have a2 : 2 ^ (d - m) = 2 * 2 ^ (d - (m + 1)) := by rw [show d - m = d - (m + 1) + 1 by omega, Nat.pow_succ, Nat.mul_comm]
      rw [a1, a2, Nat.mod_mul]; omega
    rw [e1, chartularyref01_Field.l0, if_pos (by omega), w64_in (by omega) (by omega), show (i : Int) + (m : Int) = ((i + m : Nat) : Int) by simp, bit_eq hw (by omega) k (by omega), tb_mod]
    simp only [Option.bind_some, decide_eq_true_eq]
    generalize w / 2 ^ (i + (m + 1)) % 2 ^ (d - (m + 1)) = q at *
    have e63 : (2 : Nat) ^ 63 = 9223372036854775808 := by decide
    rw [w64_in (n := (m : Int) - 1) (by omega) (by omega), u64_in (n := (q : Int) * 2) (by omega) (by omega), u64_in (n := (q : Int) * 2 + 1) (by omega) (by omega)]
    rw [e2] at ih
    by_cases hb : w / 2 ^ (i + m) % 2 = 1
    · rw [if_pos hb]; rw [hb] at ih; rw [← ih]; simp
    · rw [if_neg hb]; rw [show w / 2 ^ (i + m) % 2 = 0 by omega] at ih; rw [← ih]; simp
theorem rfield_eq {w : Nat} (hw : w < 18446744073709551616) {i d : Int} (hi : I64 i) (hd : I64 d) (k : Nat) (hk : 200 ≤ k) : chartularyref01_Field.f k (w : Int) i d = some (fieldR w i d) := by
  obtain ⟨k, rfl⟩ : ∃ m, k = m + 1 := ⟨k - 1, by omega⟩
  obtain ⟨i0, i1⟩ := hi
  obtain ⟨d0, d1⟩ := hd
  have bad : ¬ (0 ≤ i ∧ 0 ≤ d ∧ i + d ≤ 64) → chartularyref01_Field.j0 (k + 1) (w : Int) i d true = some (fieldR w i d) := by
    intro h
    unfold fieldR
    rw [chartularyref01_Field.j0, if_pos rfl, if_neg h]
  unfold chartularyref01_Field.f
  by_cases h1 : i < 0
  · rw [if_pos h1]; exact bad (by omega)
  · rw [if_neg h1]
    by_cases h2 : d < 0
    · rw [if_pos h2]; exact bad (by omega)
    · rw [if_neg h2]
      by_cases h3 : i > 64
      · rw [if_pos h3]; exact bad (by omega)
      · rw [if_neg h3]
        by_cases h4 : d > 64
        · rw [if_pos h4]; exact bad (by omega)
        · rw [if_neg h4, w64_in (by omega) (by omega)]
          by_cases h5 : i + d > 64
          · rw [decide_eq_true h5]; exact bad (by omega)
          · rw [decide_eq_false h5, chartularyref01_Field.j0, if_neg (by decide)]
            obtain ⟨i, rfl⟩ := Int.eq_ofNat_of_zero_le (show 0 ≤ i by omega)
            obtain ⟨d, rfl⟩ := Int.eq_ofNat_of_zero_le (show 0 ≤ d by omega)
            unfold fieldR
            rw [if_pos (by omega), w64_in (by omega) (by omega)]
            have := rfield_l0 hw (i := i) (d := d) (by omega) d k (by omega) (by omega)
            rw [Nat.sub_self, Nat.pow_zero, Nat.mod_one] at this
            exact this
/-! Set -/
def M (i d : Nat) : Nat := (2 ^ d - 1) * 2 ^ i % 2 ^ 64
def setN (w i d v : Nat) : Nat := (w &&& (2 ^ 64 - 1 - M i d)) ||| (v * 2 ^ i % 2 ^ 64)
theorem M_lt (i d : Nat) : M i d < 2 ^ 64 := Nat.mod_lt _ (by decide)
theorem M_bit (i d j : Nat) (hj : j < 64) : (M i d).testBit j = decide (i ≤ j ∧ j < i + d) := by
  unfold M
  rw [Nat.testBit_mod_two_pow, decide_eq_true hj, Bool.true_and, ← Nat.shiftLeft_eq, Nat.testBit_shiftLeft, Nat.testBit_two_pow_sub_one, Bool.eq_iff_iff]
  simp; omega
theorem setN_lt (w i d v : Nat) : setN w i d v < 2 ^ 64 := Nat.or_lt_two_pow (Nat.and_lt_two_pow _ (by omega)) (Nat.mod_lt _ (by decide))
theorem tb_great {x n i : Nat} (hx : x < 2 ^ n) (hi : n ≤ i) : x.testBit i = false := Nat.testBit_lt_two_pow (Nat.lt_of_lt_of_le hx (Nat.pow_le_pow_right (by decide) hi))
theorem setN_bit (w i d v j : Nat) (hj : j < 64) (hv : v < 2 ^ d) : (setN w i d v).testBit j = if i ≤ j ∧ j < i + d then v.testBit (j - i) else w.testBit j := by
  unfold setN
  have e : 2 ^ 64 - 1 - M i d = 2 ^ 64 - (M i d + 1) := by omega
  rw [Nat.testBit_or, Nat.testBit_and, e, Nat.testBit_two_pow_sub_succ (M_lt i d), M_bit i d j hj, Nat.testBit_mod_two_pow, ← Nat.shiftLeft_eq, Nat.testBit_shiftLeft, decide_eq_true hj, Bool.true_and, Bool.true_and]
  by_cases h : i ≤ j ∧ j < i + d
  · rw [if_pos h, decide_eq_true h, decide_eq_true (show j ≥ i by omega)]; simp
  · rw [if_neg h, decide_eq_false h]
    by_cases h2 : j ≥ i
    · rw [tb_great hv (i := j - i) (by omega)]; simp
    · rw [decide_eq_false h2]; simp
def setR (w : Nat) (i d : Int) (v : Nat) : Int × Int := if 0 ≤ i ∧ 0 ≤ d ∧ i + d ≤ 64 then (if 2 ^ d.toNat ≤ v then (0, 4) else ((setN w i.toNat d.toNat v : Nat), 0)) else (0, 1)
theorem high_bits {v d : Nat} (hv : v < 2 ^ 64) (hd : d ≤ 64) : v &&& (2 ^ 64 - 1 - (2 ^ d - 1)) = 0 ↔ v < 2 ^ d := by
  have hlt : 2 ^ d - 1 < 2 ^ 64 := by
    have := Nat.pow_le_pow_right (n := 2) (by decide) hd
    have := Nat.two_pow_pos d
    omega
  have hb : ∀ j, (v &&& (2 ^ 64 - 1 - (2 ^ d - 1))).testBit j = (v.testBit j && (decide (j < 64) && !decide (j < d))) := by
    intro j
    have e : 2 ^ 64 - 1 - (2 ^ d - 1) = 2 ^ 64 - (2 ^ d - 1 + 1) := by omega
    rw [Nat.testBit_and, e, Nat.testBit_two_pow_sub_succ hlt, Nat.testBit_two_pow_sub_one]
  constructor
  · intro h
    apply Nat.lt_pow_two_of_testBit
    intro j hj
    have := hb j
    rw [h, Nat.zero_testBit] at this
    by_cases h64 : j < 64
    · rw [decide_eq_true h64, decide_eq_false (by omega)] at this
      simpa using this.symm
    · exact tb_great hv (by omega)
  · intro h
    apply Nat.eq_of_testBit_eq
    intro j
    rw [hb, Nat.zero_testBit]
    by_cases hj : j < d
    · rw [decide_eq_true hj]; simp
    · rw [tb_great h (by omega)]; simp
theorem set_eq {w v : Nat} (hw : w < 18446744073709551616) (hv : v < 18446744073709551616) {i d : Int} (hi : I64 i) (hd : I64 d) : bits_Set.f (w : Int) i d (v : Int) = some (setR w i d v) := by
  unfold bits_Set.f setR
  rw [within_eq hi hd]
  simp only [Option.bind_some, decide_eq_true_eq]
  by_cases h : 0 ≤ i ∧ 0 ≤ d ∧ i + d ≤ 64
  · rw [if_pos h, if_pos h]
    obtain ⟨i, rfl⟩ := Int.eq_ofNat_of_zero_le h.1
    obtain ⟨d, rfl⟩ := Int.eq_ofNat_of_zero_le h.2.1
    have hm : 2 ^ d ≤ 2 ^ 64 := Nat.pow_le_pow_right (by decide) (by omega)
    have hp := Nat.two_pow_pos d
    rw [mask_eq (by omega)]
    simp only [Option.bind_some]
    rw [andNotN .u64 rfl _ _ (by show _ < 2 ^ 64; omega) (by show _ < 2 ^ 64; omega)]
    have hh := high_bits (v := v) (d := d) (by omega) (by omega)
    show (if ((v &&& (2 ^ 64 - 1 - (2 ^ d - 1)) : Nat) : Int) = 0 then _ else _) = _
    rw [Int.toNat_natCast, Int.toNat_natCast]
    by_cases hc : v < 2 ^ d
    · rw [hh.2 hc, if_pos (by simp), if_neg (show ¬ 2 ^ d ≤ v by omega), u64_in (n := (i : Int)) (by omega) (by omega), if_pos (by omega), shlN .u64 rfl, shlN .u64 rfl, Nat.min_eq_left (by show i ≤ 64; omega)]
      rw [andNotN .u64 rfl _ _ (by show _ < 2 ^ 64; omega) (Nat.mod_lt _ (by decide)), orN .u64 rfl _ _ (Nat.lt_of_le_of_lt Nat.and_le_left (by show w < 2 ^ 64; omega)) (Nat.mod_lt _ (by decide))]
      rfl
    · rw [if_pos (show 2 ^ d ≤ v by omega), if_neg]
      intro he
      exact hc (hh.1 (by omega))
  · rw [if_neg h, if_neg h]
theorem rset_step {w v i d : Nat} (hw : w < 18446744073709551616) (hv : v < 18446744073709551616) (h : i + d ≤ 64) (m k : Nat) (x : Int) (hm : m < 64) (hk : 110 ≤ k) (hno : ¬ (d ≤ m ∧ v.testBit m = true)) :
    chartularyref01_Set.l0 (k + 3) (w : Int) (i : Int) (d : Int) (v : Int) x (m : Int) =
      chartularyref01_Set.l0 k (w : Int) (i : Int) (d : Int) (v : Int) (if (if i ≤ m ∧ m < i + d then v.testBit (m - i) else w.testBit m) = true then IntKind.u64.wrap (IntKind.u64.wrap (x * 2) + 1) else IntKind.u64.wrap (x * 2)) ((m : Int) - 1) := by
  have hj2 : chartularyref01_Set.l0 (k + 3) (w : Int) (i : Int) (d : Int) (v : Int) x (m : Int) = chartularyref01_Set.j2 (k + 2) (w : Int) (i : Int) (d : Int) (v : Int) x (m : Int) false := by
    rw [chartularyref01_Set.l0, if_pos (by omega)]
    by_cases hd : d ≤ m
    · rw [if_pos (by omega), bit_eq hv (by omega) (k + 2) (by omega)]
      have : v.testBit m = false := by
        cases hb : v.testBit m
        · rfl
        · exact absurd ⟨hd, hb⟩ hno
      rw [this]; rfl
    · rw [if_neg (by omega)]
  have hj3 : ∀ b : Bool, b = decide (i ≤ m ∧ m < i + d) → chartularyref01_Set.j3 (k + 1) (w : Int) (i : Int) (d : Int) (v : Int) (IntKind.u64.wrap (x * 2)) (m : Int) b = chartularyref01_Set.l0 k (w : Int) (i : Int) (d : Int) (v : Int) (if (if i ≤ m ∧ m < i + d then v.testBit (m - i) else w.testBit m) = true then IntKind.u64.wrap (IntKind.u64.wrap (x * 2) + 1) else IntKind.u64.wrap (x * 2)) ((m : Int) - 1) := by
    intro b hb
    rw [chartularyref01_Set.j3, w64_in (n := (m : Int) - 1) (by omega) (by omega)]
    by_cases hin : i ≤ m ∧ m < i + d
    · rw [hb, decide_eq_true hin, if_pos rfl, if_pos hin, w64_in (by omega) (by omega), show (m : Int) - (i : Int) = ((m - i : Nat) : Int) by omega, bit_eq hv (by omega) k (by omega)]
      simp only [Option.bind_some]
      cases v.testBit (m - i) <;> rfl
    · rw [hb, decide_eq_false hin, if_neg (by decide), if_neg hin, bit_eq hw (by omega) k (by omega)]
      simp only [Option.bind_some]
      cases w.testBit m <;> rfl
  rw [hj2, chartularyref01_Set.j2, if_neg (by decide), w64_in (n := (i : Int) + (d : Int)) (by omega) (by omega)]
  by_cases h1 : (m : Int) ≥ (i : Int)
  · rw [if_pos h1]
    exact hj3 _ (by rw [Bool.eq_iff_iff, decide_eq_true_eq, decide_eq_true_eq]; omega)
  · rw [if_neg h1]
    exact hj3 _ (by rw [Bool.eq_iff_iff, decide_eq_true_eq]; simp; omega)
theorem rset_bad {w v i d : Nat} (hw : w < 18446744073709551616) (hv : v < 18446744073709551616) (h : i + d ≤ 64) : ∀ (m k : Nat) (x : Int), m ≤ 64 → 3 * m + 120 ≤ k → (∃ j, d ≤ j ∧ j < m ∧ v.testBit j = true) →
    chartularyref01_Set.l0 k (w : Int) (i : Int) (d : Int) (v : Int) x ((m : Int) - 1) = some (0, 4)
  | 0, k, x, hm, hk, hj => by obtain ⟨j, _, hj, _⟩ := hj; omega
  | m + 1, k, x, hm, hk, hj => by
    obtain ⟨k, rfl⟩ : ∃ m, k = m + 3 := ⟨k - 3, by omega⟩
    have e1 : (((m + 1 : Nat) : Int) - 1) = (m : Int) := by omega
    rw [e1]
    by_cases hb : d ≤ m ∧ v.testBit m = true
    · rw [chartularyref01_Set.l0, if_pos (by omega), if_pos (by omega), bit_eq hv (by omega) (k + 2) (by omega), hb.2]
      simp only [Option.bind_some]
      rw [chartularyref01_Set.j2, if_pos rfl]
    · rw [rset_step hw hv h m k x (by omega) (by omega) hb]
      refine rset_bad hw hv h m k _ (by omega) (by omega) ?_
      obtain ⟨j, h1, h2, h3⟩ := hj
      refine ⟨j, h1, ?_, h3⟩
      apply Classical.byContradiction
      intro hc
      have : j = m := by omega
      subst this
      exact hb ⟨h1, h3⟩
theorem rset_good {w v i d : Nat} (hw : w < 18446744073709551616) (hv : v < 2 ^ d) (h : i + d ≤ 64) : ∀ (m k : Nat), m ≤ 64 → 3 * m + 120 ≤ k →
    chartularyref01_Set.l0 k (w : Int) (i : Int) (d : Int) (v : Int) ((setN w i d v / 2 ^ m : Nat) : Int) ((m : Int) - 1) = some (((setN w i d v : Nat) : Int), 0)
  | 0, k, hm, hk => by
    obtain ⟨k, rfl⟩ : ∃ m, k = m + 1 := ⟨k - 1, by omega⟩
    rw [chartularyref01_Set.l0, if_neg (by omega)]; simp
  | m + 1, k, hm, hk => by
    obtain ⟨k, rfl⟩ : ∃ m, k = m + 3 := ⟨k - 3, by omega⟩
    have hm2 : 2 ^ d ≤ 2 ^ 64 := Nat.pow_le_pow_right (by decide) (by omega)
    have e1 : (((m + 1 : Nat) : Int) - 1) = (m : Int) := by omega
    have e64 : (2 : Nat) ^ 64 = 18446744073709551616 := by decide
    have ih := rset_good hw hv h m k (by omega) (by omega)
    have hlt := setN_lt w i d v
    have hle : setN w i d v / 2 ^ m ≤ setN w i d v := Nat.div_le_self _ _
    have hdd : setN w i d v / 2 ^ (m + 1) = setN w i d v / 2 ^ m / 2 := by rw [Nat.pow_succ, Nat.div_div_eq_div_mul]
    rw [e1, rset_step hw (by omega) h m k _ (by omega) (by omega) (by
      rintro ⟨h1, h2⟩
      rw [tb_great hv h1] at h2
      exact absurd h2 (by decide)), ← setN_bit w i d v m (by omega) hv, tb_mod, hdd]
    generalize setN w i d v / 2 ^ m = q at *
    rw [← ih]
    congr 1
    by_cases hq : q % 2 = 1
    · rw [decide_eq_true hq, if_pos rfl, u64_in (n := ((q / 2 : Nat) : Int) * 2) (by omega) (by omega), u64_in (by omega) (by omega)]; omega
    · rw [decide_eq_false hq, if_neg (by decide), u64_in (by omega) (by omega)]; omega
theorem rset_eq {w v : Nat} (hw : w < 18446744073709551616) (hv : v < 18446744073709551616) {i d : Int} (hi : I64 i) (hd : I64 d) (k : Nat) (hk : 400 ≤ k) : chartularyref01_Set.f k (w : Int) i d (v : Int) = some (setR w i d v) := by
  obtain ⟨k, rfl⟩ : ∃ m, k = m + 1 := ⟨k - 1, by omega⟩
  obtain ⟨i0, i1⟩ := hi
  obtain ⟨d0, d1⟩ := hd
  have bad : ¬ (0 ≤ i ∧ 0 ≤ d ∧ i + d ≤ 64) → chartularyref01_Set.j0 (k + 1) (w : Int) i d (v : Int) true = some (setR w i d v) := by
    intro h
    unfold setR
    rw [chartularyref01_Set.j0, if_pos rfl, if_neg h]
  unfold chartularyref01_Set.f
  by_cases h1 : i < 0
  · rw [if_pos h1]; exact bad (by omega)
  · rw [if_neg h1]
    by_cases h2 : d < 0
    · rw [if_pos h2]; exact bad (by omega)
    · rw [if_neg h2]
      by_cases h3 : i > 64
      · rw [if_pos h3]; exact bad (by omega)
      · rw [if_neg h3]
        by_cases h4 : d > 64
        · rw [if_pos h4]; exact bad (by omega)
        · rw [if_neg h4, w64_in (by omega) (by omega)]
          by_cases h5 : i + d > 64
          · rw [decide_eq_true h5]; exact bad (by omega)
          · rw [decide_eq_false h5, chartularyref01_Set.j0, if_neg (by decide)]
            obtain ⟨i, rfl⟩ := Int.eq_ofNat_of_zero_le (show 0 ≤ i by omega)
            obtain ⟨d, rfl⟩ := Int.eq_ofNat_of_zero_le (show 0 ≤ d by omega)
            unfold setR
            rw [if_pos (by omega), Int.toNat_natCast, Int.toNat_natCast]
            by_cases hc : 2 ^ d ≤ v
            · rw [if_pos hc]
              refine rset_bad hw hv (by omega) 64 k 0 (by omega) (by omega) ?_
              apply Classical.byContradiction
              intro hn
              have : v < 2 ^ d := by
                apply Nat.lt_pow_two_of_testBit
                intro j hj
                cases hb : v.testBit j
                · rfl
                · exact absurd ⟨j, hj, by
                    apply Classical.byContradiction
                    intro h64
                    rw [tb_great (n := 64) (by omega) (by omega)] at hb
                    exact absurd hb (by decide), hb⟩ hn
              omega
            · rw [if_neg hc]
              have := rset_good hw (v := v) (i := i) (d := d) (by omega) (by omega) 64 k (by omega) (by omega)
              rw [Nat.div_eq_of_lt (setN_lt w i d v)] at this
              exact this
/-! What is set is read again. -/
theorem fieldN_lt (w i d : Nat) : fieldN w i d < 2 ^ d := Nat.mod_lt _ (Nat.two_pow_pos _)
theorem fieldN_bit (w i d j : Nat) : (fieldN w i d).testBit j = (decide (j < d) && w.testBit (j + i)) := by
  unfold fieldN; rw [Nat.testBit_mod_two_pow, Nat.testBit_div_two_pow]
theorem field_set {w i d v : Nat} (h : i + d ≤ 64) (hv : v < 2 ^ d) : fieldN (setN w i d v) i d = v := by
  apply Nat.eq_of_testBit_eq
  intro j
  rw [fieldN_bit]
  by_cases hj : j < d
  · rw [decide_eq_true hj, setN_bit w i d v (j + i) (by omega) hv, if_pos (by omega), Nat.add_sub_cancel]; simp
  · rw [decide_eq_false hj, tb_great hv (by omega)]; simp
theorem set_back {w i d v : Nat} (hw : w < 2 ^ 64) (h : i + d ≤ 64) (hv : v < 2 ^ d) : setN (setN w i d v) i d (fieldN w i d) = w := by
  apply Nat.eq_of_testBit_eq
  intro j
  by_cases hj : j < 64
  · rw [setN_bit _ i d _ j hj (fieldN_lt w i d), setN_bit w i d v j hj hv]
    by_cases hin : i ≤ j ∧ j < i + d
    · rw [if_pos hin, fieldN_bit, decide_eq_true (by omega), Nat.sub_add_cancel hin.1]; simp
    · rw [if_neg hin, if_neg hin]
  · rw [tb_great hw (by omega), tb_great (setN_lt _ _ _ _) (by omega)]
theorem set_same {w i d : Nat} (hw : w < 2 ^ 64) (h : i + d ≤ 64) : setN w i d (fieldN w i d) = w := by
  apply Nat.eq_of_testBit_eq
  intro j
  by_cases hj : j < 64
  · rw [setN_bit _ i d _ j hj (fieldN_lt w i d)]
    by_cases hin : i ≤ j ∧ j < i + d
    · rw [if_pos hin, fieldN_bit, decide_eq_true (by omega), Nat.sub_add_cancel hin.1]; simp
    · rw [if_neg hin]
  · rw [tb_great hw (by omega), tb_great (setN_lt _ _ _ _) (by omega)]
end Go.Proofs.Ytgfclffalgielaa.FieldM
