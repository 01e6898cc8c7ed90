/- A word in the other order, and its ones: what the program and the reference come to. Plain Lean. No condition. -/
import Derived.Test.YtgfclffalgielaaNums
import Derived.Test.YtgfclffalgielaaPAllx5
namespace Go.Proofs.Ytgfclffalgielaa.SwapM
set_option linter.unusedVariables false
open Go Go.RowKit Go.Proofs.Ytgfclffalgielaa.PAll Go.Proofs.Ytgfclffalgielaa.Nums Go.Proofs.YtgfclffalgielaaW.PrintWords Go.Proofs.YtgfclffalgielaaW.PrintLast Go.Proofs.YtgfclffalgielaaW.PrintMore
/-- The lowest j bits of a word in the other order. -/
def rv (w : Nat) : Nat → Nat
  | 0 => 0
  | j + 1 => rv w j * 2 + w / 2 ^ j % 2
theorem rv_lt (w : Nat) : ∀ j, rv w j < 2 ^ j
  | 0 => by simp [rv]
  | j + 1 => by have := rv_lt w j; rw [rv, Nat.pow_succ]; omega
theorem tb0 (x : Nat) : x.testBit 0 = decide (x % 2 = 1) := by simp
theorem rv_bit (w : Nat) : ∀ j i, (rv w j).testBit i = (decide (i < j) && w.testBit (j - 1 - i))
  | 0, i => by simp [rv]
  | j + 1, 0 => by
    rw [rv, tb0]
    have e : (rv w j * 2 + w / 2 ^ j % 2) % 2 = w / 2 ^ j % 2 := by omega
    rw [e, decide_eq_true (Nat.succ_pos j), Bool.true_and, Nat.sub_zero, Nat.add_sub_cancel]
    have := Nat.testBit_div_two_pow (n := j) w 0
    rw [Nat.zero_add, tb0] at this
    exact this
  | j + 1, i + 1 => by
    rw [rv, Nat.testBit_add_one, show (rv w j * 2 + w / 2 ^ j % 2) / 2 = rv w j by omega, rv_bit w j i]
    rw [show j + 1 - 1 - (i + 1) = j - 1 - i by omega]
    congr 1
    simp
theorem tb_great {x n i : Nat} (hx : x < 2 ^ n) (hi : n ≤ i) : x.testBit i = false := Nat.testBit_lt_two_pow (Nat.lt_of_lt_of_le hx (Nat.pow_le_pow_right (by decide) hi))
/-- One step: neighbours of s bits are exchanged. -/
def stp (s m w : Nat) : Nat := (w / 2 ^ s &&& m) ||| ((w &&& m) * 2 ^ s % 2 ^ 32)
def fl (s i : Nat) : Nat := if i / s % 2 = 0 then i + s else i - s
theorem stp_bit (s m w i : Nat) (hi : i < 32) (hs : 0 < s) (hm : ∀ j, j < 32 → m.testBit j = decide (j / s % 2 = 0)) : (stp s m w).testBit i = w.testBit (fl s i) := by
  have h2 : (w &&& m) * 2 ^ s = (w &&& m) <<< s := by rw [Nat.shiftLeft_eq]
  unfold stp fl
  rw [Nat.testBit_or, Nat.testBit_and, Nat.testBit_div_two_pow, Nat.testBit_mod_two_pow, h2, Nat.testBit_shiftLeft, Nat.testBit_and, hm i hi, decide_eq_true hi, Bool.true_and]
  by_cases h : i / s % 2 = 0
  · rw [if_pos h, decide_eq_true h, Bool.and_true]
    by_cases hge : i ≥ s
    · rw [hm (i - s) (by omega)]
      have : ¬ ((i - s) / s % 2 = 0) := by
        have e : i / s = (i - s) / s + 1 := by
          have := Nat.add_div_right (i - s) hs
          rw [Nat.sub_add_cancel hge] at this; exact this
        omega
      rw [decide_eq_false this]; simp
    · rw [decide_eq_false hge]; simp
  · rw [if_neg h, decide_eq_false h, Bool.and_false, Bool.false_or]
    have hge : i ≥ s := by
      apply Classical.byContradiction
      intro hlt
      exact h (by rw [Nat.div_eq_of_lt (by omega)])
    rw [hm (i - s) (by omega)]
    have : (i - s) / s % 2 = 0 := by
      have e : i / s = (i - s) / s + 1 := by
        have := Nat.add_div_right (i - s) hs
        rw [Nat.sub_add_cancel hge] at this; exact this
      omega
    rw [decide_eq_true this, decide_eq_true hge]; simp
theorem stp_lt (s m w : Nat) (hm : m < 2 ^ 32) : stp s m w < 2 ^ 32 := Nat.or_lt_two_pow (Nat.and_lt_two_pow _ hm) (Nat.mod_lt _ (by decide))
theorem m1 : ∀ j : Fin 32, (1431655765 : Nat).testBit j.val = decide (j.val / 1 % 2 = 0) := by decide +kernel
theorem m2 : ∀ j : Fin 32, (858993459 : Nat).testBit j.val = decide (j.val / 2 % 2 = 0) := by decide +kernel
theorem m4 : ∀ j : Fin 32, (252645135 : Nat).testBit j.val = decide (j.val / 4 % 2 = 0) := by decide +kernel
theorem m8 : ∀ j : Fin 32, (16711935 : Nat).testBit j.val = decide (j.val / 8 % 2 = 0) := by decide +kernel
theorem m16 : ∀ j : Fin 32, (65535 : Nat).testBit j.val = decide (j.val / 16 % 2 = 0) := by decide +kernel
theorem fls : ∀ i : Fin 32, fl 1 (fl 2 (fl 4 (fl 8 (fl 16 i.val)))) = 31 - i.val ∧ fl 16 i.val < 32 ∧ fl 8 (fl 16 i.val) < 32 ∧ fl 4 (fl 8 (fl 16 i.val)) < 32 ∧ fl 2 (fl 4 (fl 8 (fl 16 i.val))) < 32 := by decide +kernel
def sw (w : Nat) : Nat := stp 16 65535 (stp 8 16711935 (stp 4 252645135 (stp 2 858993459 (stp 1 1431655765 w))))
theorem sw_rv (w : Nat) : sw w = rv w 32 := by
  apply Nat.eq_of_testBit_eq
  intro i
  by_cases hi : i < 32
  · obtain ⟨e, h1, h2, h3, h4⟩ := fls ⟨i, hi⟩
    simp only at e h1 h2 h3 h4
    unfold sw
    rw [stp_bit 16 65535 _ i hi (by decide) (fun j hj => m16 ⟨j, hj⟩), stp_bit 8 16711935 _ _ h1 (by decide) (fun j hj => m8 ⟨j, hj⟩), stp_bit 4 252645135 _ _ h2 (by decide) (fun j hj => m4 ⟨j, hj⟩),
      stp_bit 2 858993459 _ _ h3 (by decide) (fun j hj => m2 ⟨j, hj⟩), stp_bit 1 1431655765 _ _ h4 (by decide) (fun j hj => m1 ⟨j, hj⟩), e, rv_bit, decide_eq_true hi, Bool.true_and]
  · have h1 : sw w < 2 ^ 32 := stp_lt 16 65535 _ (by decide)
    rw [tb_great h1 (by omega), tb_great (rv_lt w 32) (by omega)]
theorem rv_rv {w : Nat} (h : w < 4294967296) : rv (rv w 32) 32 = w := by
  apply Nat.eq_of_testBit_eq
  intro i
  rw [rv_bit, rv_bit]
  by_cases hi : i < 32
  · rw [decide_eq_true hi, decide_eq_true (by omega), show 32 - 1 - (32 - 1 - i) = i by omega]; simp
  · rw [decide_eq_false hi, Bool.false_and, tb_great (n := 32) h (by omega)]
theorem stp_int (s m w : Nat) (hs : s ≤ 32) (hm : m < 4294967296) (hw : w < 4294967296) :
    bits .or .u32 (bits .and .u32 (shr .u32 (w : Int) (s : Int)) (m : Int)) (shl .u32 (bits .and .u32 (w : Int) (m : Int)) (s : Int)) = ((stp s m w : Nat) : Int) := by
  have hd : w / 2 ^ s ≤ w := Nat.div_le_self _ _
  rw [shrN, Nat.min_eq_left (by show s ≤ 32; exact hs), andN .u32 rfl _ _ (by show _ < 2 ^ 32; omega) (by show _ < 2 ^ 32; omega), andN .u32 rfl _ _ (by show _ < 2 ^ 32; omega) (by show _ < 2 ^ 32; omega), shlN .u32 rfl, Nat.min_eq_left (by show s ≤ 32; exact hs)]
  rw [orN .u32 rfl _ _ (Nat.and_lt_two_pow _ hm) (Nat.mod_lt _ (by decide))]
  rfl
theorem rdT (L : List S51) (i : Nat) : rd_T51 L (i : Int) = L.getD i z51 := by unfold rd_T51; rw [Int.toNat_natCast]
theorem swap_eq {w : Nat} (h : w < 4294967296) (k : Nat) (hk : 10 ≤ k) : bits_Swap.f k (w : Int) = some ((rv w 32 : Nat) : Int) := by
  obtain ⟨k, rfl⟩ : ∃ m, k = m + 6 := ⟨k - 6, by omega⟩
  have step : ∀ (k x i s m : Nat), x < 4294967296 → i < 5 → ([(⟨1, 1431655765⟩ : S51), ⟨2, 858993459⟩, ⟨4, 252645135⟩, ⟨8, 16711935⟩, ⟨16, 65535⟩] : List S51).getD i z51 = ⟨(s : Int), (m : Int)⟩ → s ≤ 32 → m < 4294967296 →
      bits_Swap.l0 (k + 1) (x : Int) [(⟨1, 1431655765⟩ : S51), ⟨2, 858993459⟩, ⟨4, 252645135⟩, ⟨8, 16711935⟩, ⟨16, 65535⟩] 5 (i : Int) = bits_Swap.l0 k ((stp s m x : Nat) : Int) [(⟨1, 1431655765⟩ : S51), ⟨2, 858993459⟩, ⟨4, 252645135⟩, ⟨8, 16711935⟩, ⟨16, 65535⟩] 5 ((i + 1 : Nat) : Int) := by
    intro k x i s m hx hi hg hs hm
    rw [bits_Swap.l0, if_pos (by omega), if_pos (by omega), if_pos (by simp; omega), rdT, hg, if_pos (by simp), stp_int s m x hs hm hx, w64_in (by omega) (by omega)]
    rfl
  have l1 := stp_lt 1 1431655765 w (by decide)
  have l2 := stp_lt 2 858993459 (stp 1 1431655765 w) (by decide)
  have l3 := stp_lt 4 252645135 (stp 2 858993459 (stp 1 1431655765 w)) (by decide)
  have l4 := stp_lt 8 16711935 (stp 4 252645135 (stp 2 858993459 (stp 1 1431655765 w))) (by decide)
  unfold bits_Swap.f
  simp only [Option.bind_some]
  show bits_Swap.l0 (k + 6) (w : Int) [(⟨1, 1431655765⟩ : S51), ⟨2, 858993459⟩, ⟨4, 252645135⟩, ⟨8, 16711935⟩, ⟨16, 65535⟩] 5 ((0 : Nat) : Int) = _
  rw [step (k + 5) w 0 1 1431655765 h (by decide) rfl (by decide) (by decide), step (k + 4) _ 1 2 858993459 l1 (by decide) rfl (by decide) (by decide), step (k + 3) _ 2 4 252645135 l2 (by decide) rfl (by decide) (by decide),
    step (k + 2) _ 3 8 16711935 l3 (by decide) rfl (by decide) (by decide), step (k + 1) _ 4 16 65535 l4 (by decide) rfl (by decide) (by decide), bits_Swap.l0, if_neg (by omega), ← sw_rv]
  rfl
theorem rswap_l0 {w : Nat} (h : w < 4294967296) : ∀ (d k j : Nat), j + d = 32 → d + 1 ≤ k → chartularyref01_Swap.l0 k ((w / 2 ^ j : Nat) : Int) ((rv w j : Nat) : Int) (j : Int) = some ((rv w 32 : Nat) : Int)
  | 0, k, j, hd, hk => by
    obtain ⟨k, rfl⟩ : ∃ m, k = m + 1 := ⟨k - 1, by omega⟩
    obtain rfl : j = 32 := by omega
    rw [chartularyref01_Swap.l0, if_neg (by omega)]
  | d + 1, k, j, hd, hk => by
    obtain ⟨k, rfl⟩ : ∃ m, k = m + 1 := ⟨k - 1, by omega⟩
    have hr := rv_lt w (j + 1)
    have hp : (2 : Nat) ^ (j + 1) ≤ 2 ^ 32 := Nat.pow_le_pow_right (by decide) (by omega)
    have hq : w / 2 ^ j ≤ w := Nat.div_le_self _ _
    have e1 : w / 2 ^ (j + 1) = w / 2 ^ j / 2 := by rw [Nat.pow_succ, Nat.div_div_eq_div_mul]
    rw [chartularyref01_Swap.l0, if_pos (by omega), w64_in (by omega) (by omega)]
    have ih := rswap_l0 h d k (j + 1) (by omega) (by omega)
    rw [rv] at hr ih
    generalize hx : w / 2 ^ j = x at *
    have a1 : Int.tdiv (x : Int) 2 % 4294967296 = ((x / 2 : Nat) : Int) := by rw [Int.tdiv_eq_ediv_of_nonneg (by omega)]; omega
    have a2 : ((((rv w j : Nat) : Int) * 2 % 4294967296 + Int.tmod (x : Int) 2) % 4294967296) = ((rv w j * 2 + x % 2 : Nat) : Int) := by
      rw [Int.tmod_eq_emod_of_nonneg (by omega)]
      have : (2 : Nat) ^ 32 = 4294967296 := by decide
      omega
    rw [a1, a2, ← e1]
    exact ih
theorem rswap_eq {w : Nat} (h : w < 4294967296) (k : Nat) (hk : 40 ≤ k) : chartularyref01_Swap.f k (w : Int) = some ((rv w 32 : Nat) : Int) := by
  have := rswap_l0 h 32 k 0 (by omega) (by omega)
  unfold chartularyref01_Swap.f
  simpa [rv] using this
/-! Ones -/
def pc (n : Nat) : Nat := if h : n = 0 then 0 else n % 2 + pc (n / 2)
termination_by n
decreasing_by omega
theorem pc_eq (n : Nat) : pc n = n % 2 + pc (n / 2) := by
  by_cases h : n = 0
  · subst h; rw [pc]; simp
  · rw [pc, dif_neg h]
theorem pc_zero : pc 0 = 0 := by rw [pc]; simp
theorem pc_step (n : Nat) (h : n ≠ 0) : pc (n &&& (n - 1)) + 1 = pc n := by
  induction n using Nat.strongRecOn with
  | _ n ih =>
    have hd : (n &&& (n - 1)) / 2 = n / 2 &&& (n - 1) / 2 := Nat.and_div_two
    have hm : (n &&& (n - 1)) % 2 = 0 := by
      have := Nat.and_mod_two_pow (a := n) (b := n - 1) (n := 1)
      rw [Nat.pow_one] at this
      rw [this]
      rcases Nat.mod_two_eq_zero_or_one n with h0 | h0
      · rw [h0, Nat.zero_and]
      · rw [show (n - 1) % 2 = 0 by omega, Nat.and_zero]
    rw [pc_eq (n &&& (n - 1)), pc_eq n, hm, hd]
    rcases Nat.mod_two_eq_zero_or_one n with h0 | h0
    · rw [show (n - 1) / 2 = n / 2 - 1 by omega, h0]
      have := ih (n / 2) (by omega) (by omega)
      omega
    · rw [show (n - 1) / 2 = n / 2 by omega, Nat.and_self, h0]; omega
theorem pc_le (n : Nat) : ∀ j, n < 2 ^ j → pc n ≤ j
  | 0, h => by obtain rfl : n = 0 := by omega
               rw [pc_zero]; omega
  | j + 1, h => by rw [pc_eq]; have := pc_le (n / 2) j (by rw [Nat.pow_succ] at h; omega); omega
theorem ones_l0 : ∀ (c k w : Nat) (n : Int), w < 18446744073709551616 → pc w = c → c + 1 ≤ k → 0 ≤ n → n + c < 9223372036854775808 → bits_Ones.l0 k (w : Int) n = some (n + c)
  | 0, k, w, n, hw, hc, hk, h0, h1 => by
    obtain ⟨k, rfl⟩ : ∃ m, k = m + 1 := ⟨k - 1, by omega⟩
    have : w = 0 := by
      apply Classical.byContradiction
      intro h
      have := pc_step w h
      omega
    subst this
    rw [bits_Ones.l0, if_pos (by simp)]; simp
  | c + 1, k, w, n, hw, hc, hk, h0, h1 => by
    obtain ⟨k, rfl⟩ : ∃ m, k = m + 1 := ⟨k - 1, by omega⟩
    have hne : w ≠ 0 := by intro h; subst h; rw [pc_zero] at hc; omega
    have hs := pc_step w hne
    have hle : w &&& (w - 1) ≤ w := Nat.and_le_left
    rw [bits_Ones.l0, if_neg (by omega), u64_in (n := (w : Int) - 1) (by omega) (by omega), show (w : Int) - 1 = ((w - 1 : Nat) : Int) by omega, andN .u64 rfl _ _ (by show _ < 2 ^ 64; omega) (by show _ < 2 ^ 64; omega), w64_in (by omega) (by omega)]
    rw [ones_l0 c k (w &&& (w - 1)) (n + 1) (by omega) (by omega) (by omega) (by omega) (by omega)]
    simp; omega
theorem ones_eq {w : Nat} (h : w < 18446744073709551616) (k : Nat) (hk : 70 ≤ k) : bits_Ones.f k (w : Int) = some (pc w : Int) := by
  have hp := pc_le w 64 h
  have := ones_l0 (pc w) k w 0 h rfl (by omega) (by omega) (by omega)
  unfold bits_Ones.f
  rw [this]; simp
theorem rones_l0 : ∀ (d k w j : Nat) (n : Int), w < 2 ^ d → j + d = 64 → d + 1 ≤ k → 0 ≤ n → n + d < 9223372036854775808 → chartularyref01_Ones.l0 k (w : Int) n (j : Int) = some (n + pc w)
  | 0, k, w, j, n, hw, hj, hk, h0, h1 => by
    obtain ⟨k, rfl⟩ : ∃ m, k = m + 1 := ⟨k - 1, by omega⟩
    obtain rfl : w = 0 := by omega
    rw [chartularyref01_Ones.l0, if_neg (by omega), pc_zero]; simp
  | d + 1, k, w, j, n, hw, hj, hk, h0, h1 => by
    obtain ⟨k, rfl⟩ : ∃ m, k = m + 1 := ⟨k - 1, by omega⟩
    have hp : (2 : Nat) ^ (d + 1) ≤ 2 ^ 64 := Nat.pow_le_pow_right (by decide) (by omega)
    have e64 : (2 : Nat) ^ 64 = 18446744073709551616 := by decide
    rw [chartularyref01_Ones.l0, if_pos (by omega), Int.tdiv_eq_ediv_of_nonneg (by omega), Int.tmod_eq_emod_of_nonneg (by omega), u64_in (n := (w : Int) / 2) (by omega) (by omega), w64_in (n := (w : Int) % 2) (by omega) (by omega), w64_in (n := n + (w : Int) % 2) (by omega) (by omega), w64_in (by omega) (by omega)]
    rw [show (w : Int) / 2 = ((w / 2 : Nat) : Int) by simp]
    have := rones_l0 d k (w / 2) (j + 1) (n + (w : Int) % 2) (by rw [Nat.pow_succ] at hw; omega) (by omega) (by omega) (by omega) (by omega)
    rw [show ((j : Int) + 1) = ((j + 1 : Nat) : Int) by simp, this, pc_eq w]
    simp; omega
theorem rones_eq {w : Nat} (h : w < 18446744073709551616) (k : Nat) (hk : 70 ≤ k) : chartularyref01_Ones.f k (w : Int) = some (pc w : Int) := by
  have := rones_l0 64 k w 0 0 (by have : (2 : Nat) ^ 64 = 18446744073709551616 := by decide
                                  omega) (by omega) (by omega) (by omega) (by omega)
  unfold chartularyref01_Ones.f
  rw [show (0 : Int) = ((0 : Nat) : Int) from rfl] at this ⊢
  rw [this]; simp
theorem pc_rv (w : Nat) : ∀ j, pc (rv w j) + pc (w / 2 ^ j) = pc w
  | 0 => by simp [rv, pc_zero]
  | j + 1 => by
    have := pc_rv w j
    rw [rv, pc_eq (rv w j * 2 + w / 2 ^ j % 2)]
    rw [show (rv w j * 2 + w / 2 ^ j % 2) % 2 = w / 2 ^ j % 2 by omega, show (rv w j * 2 + w / 2 ^ j % 2) / 2 = rv w j by omega]
    rw [pc_eq (w / 2 ^ j), Nat.div_div_eq_div_mul, ← Nat.pow_succ] at this
    show w / 2 ^ j % 2 + pc (rv w j) + pc (w / 2 ^ (j + 1)) = pc w
    have e : pc (w / 2 ^ j.succ) = pc (w / 2 ^ (j + 1)) := rfl
    omega
theorem pc_swap {w : Nat} (h : w < 4294967296) : pc (rv w 32) = pc w := by
  have := pc_rv w 32
  rw [Nat.div_eq_of_lt h, pc_zero] at this
  omega
end Go.Proofs.Ytgfclffalgielaa.SwapM
