/- The check sum of parts: what the program and the reference come to; two texts, one behind the other; texts that part within 32 bits in a row. Plain Lean. No condition. -/
import Derived.Test.YtdabjklbmmnlkaaCrcM
namespace Go.Proofs.Ytdabjklbmmnlkaa.SumM
set_option linter.unusedVariables false
open Go Go.RowKit Go.Proofs.Ytdabjklbmmnlkaa.PAll Go.Proofs.Ytdabjklbmmnlkaa.Nums Go.Proofs.Ytdabjklbmmnlkaa.CrcM Go.Proofs.YtdabjklbmmnlkaaW.PrintWords Go.Proofs.YtdabjklbmmnlkaaW.PrintLast Go.Proofs.YtdabjklbmmnlkaaW.PrintMore
def Parts (ls : List (List Int)) : Prop := ls.length ≤ 9223372036854775807 ∧ ∀ l ∈ ls, Bytes l ∧ l.length ≤ 9223372036854775807
theorem Parts.get {ls : List (List Int)} (h : Parts ls) {i : Nat} (hi : i < ls.length) : Bytes (rd_L1 ls (i : Int)) ∧ (rd_L1 ls (i : Int)).length ≤ 9223372036854775807 ∧ rd_L1 ls (i : Int) = ls[i] := by
  have e : rd_L1 ls (i : Int) = ls[i] := by unfold rd_L1; simp [hi]
  rw [e]
  exact ⟨(h.2 _ (List.getElem_mem hi)).1, (h.2 _ (List.getElem_mem hi)).2, rfl⟩
theorem Parts.flat {ls : List (List Int)} (h : Parts ls) : Bytes ls.flatten := by
  intro x hx
  obtain ⟨l, hl, hxl⟩ := List.mem_flatten.1 hx
  exact (h.2 l hl).1 x hxl
def feeds (r : Nat) (ls : List (List Int)) : Nat := feed r ls.flatten
def sumN (ls : List (List Int)) : Nat := M ^^^ feeds M ls
theorem flat_drop {ls : List (List Int)} {i : Nat} (hi : i < ls.length) : (ls.drop i).flatten = ls[i] ++ (ls.drop (i + 1)).flatten := by
  rw [List.drop_eq_getElem_cons hi, List.flatten_cons]
theorem sum_l0 {ls : List (List Int)} (h : Parts ls) : ∀ (d k i r : Nat), r < 4294967296 → i + d = ls.length → d + (ls.drop i).flatten.length + 21 ≤ k → crc_Sum.l0 k ((M ^^^ r : Nat) : Int) ls (ls.length : Int) (i : Int) = some ((M ^^^ feed r (ls.drop i).flatten : Nat) : Int)
  | 0, k, i, r, hr, hi, hk => by
    obtain ⟨k, rfl⟩ : ∃ m, k = m + 1 := ⟨k - 1, by omega⟩
    rw [crc_Sum.l0, if_neg (by omega), List.drop_of_length_le (by omega)]; rfl
  | d + 1, k, i, r, hr, hi, hk => by
    obtain ⟨k, rfl⟩ : ∃ m, k = m + 1 := ⟨k - 1, by omega⟩
    obtain ⟨hb, hl, e⟩ := h.get (i := i) (by omega)
    have hf := flat_drop (ls := ls) (i := i) (by omega)
    have hlt := h.1
    rw [hf, List.length_append] at hk
    rw [crc_Sum.l0, if_pos (by omega), if_pos (by omega), if_pos (by omega), more_eq hb hl (xor32_lt (by decide) hr) k (by rw [e]; omega)]
    simp only [Option.bind_some]
    rw [w64_in (by omega) (by omega), hf, feed_append, e]
    unfold moreN
    rw [M_xor]
    have hr2 : feed r ls[i] < 4294967296 := by rw [← e]; exact feed_lt _ _ hb hr
    exact sum_l0 h d k (i + 1) _ hr2 (by omega) (by omega)
theorem sum_eq {ls : List (List Int)} (h : Parts ls) (k : Nat) (hk : ls.length + ls.flatten.length + 21 ≤ k) : crc_Sum.f k ls = some ((sumN ls : Nat) : Int) := by
  have := sum_l0 h ls.length k 0 M (by decide) (by omega) (by rw [List.drop_zero]; omega)
  rw [List.drop_zero, Nat.xor_self] at this
  exact this
theorem rsum_l2 {ls : List (List Int)} (h : Parts ls) {i j : Nat} (hi : i < ls.length) (hj : j < ls[i].length) : ∀ (d k q r : Nat), r < 4294967296 → q + d = 8 → d + 1 ≤ k →
    chartularyref02_Sum.l2 k ls 2197175160 (r : Int) (i : Int) (j : Int) (q : Int) = chartularyref02_Sum.l1 (k - d - 1) ls 2197175160 ((rb (rd ls[i] (j : Int)).toNat d q r : Nat) : Int) (i : Int) ((j + 1 : Nat) : Int) ∧ rb (rd ls[i] (j : Int)).toNat d q r < 4294967296
  | 0, k, q, r, hr, hq, hk => by
    obtain ⟨k, rfl⟩ : ∃ m, k = m + 1 := ⟨k - 1, by omega⟩
    obtain ⟨hb, hl, e⟩ := h.get hi
    rw [e] at hl
    rw [chartularyref02_Sum.l2, if_neg (by omega), w64_in (by omega) (by omega)]
    exact ⟨by simp [rb], hr⟩
  | d + 1, k, q, r, hr, hq, hk => by
    obtain ⟨k, rfl⟩ : ∃ m, k = m + 1 := ⟨k - 1, by omega⟩
    obtain ⟨hb, hl, e⟩ := h.get hi
    have hli := h.1
    have hx := rd_byte hb j
    rw [e] at hx hl
    obtain ⟨x, hxe⟩ := Int.eq_ofNat_of_zero_le hx.1
    rw [hxe] at hx
    have hlt : (if x / 2 ^ q % 2 = r % 2 then r / 2 else r / 2 ^^^ 2197175160) < 4294967296 := by
      split
      · omega
      · exact xor32_lt (by omega) (by omega)
    have ih := rsum_l2 h hi hj d k (q + 1) (if x / 2 ^ q % 2 = r % 2 then r / 2 else r / 2 ^^^ 2197175160) hlt (by omega) (by omega)
    rw [hxe, Int.toNat_natCast] at ih ⊢
    rw [chartularyref02_Sum.l2, if_pos (by omega), if_pos (by omega), if_pos (by omega), e, if_pos (by omega), if_pos (by omega), if_pos (by rw [u64_in (by omega) (by omega)]; omega), hxe, bit_in (by omega) (by omega), Int.tmod_eq_emod_of_nonneg (by omega), Int.tdiv_eq_ediv_of_nonneg (by omega), w64_in (by omega) (by omega)]
    have e2 : ((r : Int) / 2) % 4294967296 = ((r / 2 : Nat) : Int) := by omega
    have e3 : (r : Int) % 2 = ((r % 2 : Nat) : Int) := by simp
    rw [e2, e3, show (2197175160 : Int) = ((2197175160 : Nat) : Int) from rfl, xor32 (by omega) (by omega)]
    rw [rb, show k + 1 - (d + 1) - 1 = k - d - 1 by omega]
    by_cases h : x / 2 ^ q % 2 = r % 2
    · rw [if_pos (by rw [h])]; rw [if_pos h] at ih ⊢; exact ih
    · rw [if_neg (fun hc => h (by omega))]; rw [if_neg h] at ih ⊢; exact ih
theorem rsum_l1 {ls : List (List Int)} (h : Parts ls) {i : Nat} (hi : i < ls.length) : ∀ (d k j r : Nat), r < 4294967296 → j + d = ls[i].length → 10 * d + 1 ≤ k →
    chartularyref02_Sum.l1 k ls 2197175160 (r : Int) (i : Int) (j : Int) = chartularyref02_Sum.l0 (k - 10 * d - 1) ls 2197175160 ((feed r (ls[i].drop j) : Nat) : Int) ((i + 1 : Nat) : Int)
  | 0, k, j, r, hr, hj, hk => by
    obtain ⟨k, rfl⟩ : ∃ m, k = m + 1 := ⟨k - 1, by omega⟩
    obtain ⟨hb, hl, e⟩ := h.get hi
    have hli := h.1
    rw [chartularyref02_Sum.l1, if_pos (by omega), if_pos (by omega), e, if_neg (by omega), w64_in (by omega) (by omega), List.drop_of_length_le (by omega)]
    simp [feed]
  | d + 1, k, j, r, hr, hj, hk => by
    obtain ⟨k, rfl⟩ : ∃ m, k = m + 1 := ⟨k - 1, by omega⟩
    obtain ⟨hb, hl, e⟩ := h.get hi
    have hli := h.1
    have hx := rd_byte hb j
    rw [e] at hx hb
    obtain ⟨e2, hlt⟩ := rsum_l2 h hi (j := j) (by omega) 8 k 0 r hr (by omega) (by omega)
    rw [rb_step (by omega)] at e2 hlt
    rw [chartularyref02_Sum.l1, if_pos (by omega), if_pos (by omega), e, if_pos (by omega)]
    rw [show (0 : Int) = ((0 : Nat) : Int) from rfl, e2, drop_feed ls[i] j r (by omega), rsum_l1 h hi d _ (j + 1) _ hlt (by omega) (by omega)]
    rw [show k - 8 - 1 - 10 * d - 1 = k + 1 - 10 * (d + 1) - 1 by omega]
theorem rsum_l0 {ls : List (List Int)} (h : Parts ls) : ∀ (d k i r : Nat), r < 4294967296 → i + d = ls.length → 2 * d + 10 * (ls.drop i).flatten.length + 1 ≤ k → chartularyref02_Sum.l0 k ls 2197175160 (r : Int) (i : Int) = some ((feed r (ls.drop i).flatten ^^^ M : Nat) : Int)
  | 0, k, i, r, hr, hi, hk => by
    obtain ⟨k, rfl⟩ : ∃ m, k = m + 1 := ⟨k - 1, by omega⟩
    rw [chartularyref02_Sum.l0, if_neg (by omega), List.drop_of_length_le (by omega), show (4294967295 : Int) = ((M : Nat) : Int) from rfl, xor32 hr (by decide)]; rfl
  | d + 1, k, i, r, hr, hi, hk => by
    obtain ⟨k, rfl⟩ : ∃ m, k = m + 1 := ⟨k - 1, by omega⟩
    obtain ⟨hb, hl, e⟩ := h.get (i := i) (by omega)
    have hf := flat_drop (ls := ls) (i := i) (by omega)
    rw [hf, List.length_append] at hk
    have hr2 : feed r ls[i] < 4294967296 := by rw [← e]; exact feed_lt _ _ hb hr
    rw [chartularyref02_Sum.l0, if_pos (by omega)]
    have e1 := rsum_l1 h (i := i) (by omega) ls[i].length k 0 r hr (by omega) (by omega)
    rw [List.drop_zero] at e1
    rw [show (0 : Int) = ((0 : Nat) : Int) from rfl, e1, hf, feed_append]
    exact rsum_l0 h d _ (i + 1) _ hr2 (by omega) (by omega)
theorem rsum_eq {ls : List (List Int)} (h : Parts ls) (k : Nat) (hk : 2 * ls.length + 10 * ls.flatten.length + 1 ≤ k) : chartularyref02_Sum.f k ls = some ((sumN ls : Nat) : Int) := by
  have := rsum_l0 h ls.length k 0 M (by decide) (by omega) (by rw [List.drop_zero]; omega)
  rw [List.drop_zero] at this
  unfold sumN feeds
  rw [Nat.xor_comm M]
  exact this
/-! two texts -/
theorem feed_xor : ∀ (b : List Int) (r s : Nat), feed (r ^^^ s) b = it CrcM.step b.length r ^^^ feed s b
  | [], r, s => rfl
  | x :: b, r, s => by
    show feed (CrcM.step ((r ^^^ s) ^^^ x.toNat)) b = it CrcM.step b.length (CrcM.step r) ^^^ feed (CrcM.step (s ^^^ x.toNat)) b
    rw [Nat.xor_assoc, step_lin.xor, feed_xor b]
theorem sumN_one (b : List Int) : sumN [b] = M ^^^ feed M b := by unfold sumN feeds; simp
theorem sumN_lt {ls : List (List Int)} (h : Parts ls) : sumN ls < 4294967296 := xor32_lt (by decide) (feed_lt _ _ h.flat (by decide))
theorem join_law (a b : List Int) : it CrcM.step b.length (sumN [a]) ^^^ sumN [b] = sumN [a, b] := by
  rw [sumN_one, sumN_one, (step_lin.it _).xor]
  have h1 := feed_xor b M 0
  rw [Nat.xor_zero] at h1
  have h2 := feed_xor b (feed M a) 0
  rw [Nat.xor_zero] at h2
  unfold sumN feeds
  simp only [List.flatten_cons, List.flatten_nil, List.append_nil, feed_append]
  rw [h1, h2]
  rw [xlc _ M, Nat.xor_assoc, ← Nat.xor_assoc M]
  generalize it CrcM.step b.length M = x
  generalize it CrcM.step b.length (feed M a) = y
  generalize feed 0 b = z
  rw [Nat.xor_comm M x, Nat.xor_assoc, xlc, xlc y x, ← Nat.xor_assoc x x, Nat.xor_self, Nat.zero_xor, xlc]
/-! bits that are turned -/
def numB : List Int → Nat
  | [] => 0
  | x :: l => x.toNat + 256 * numB l
theorem add_xor {x i : Nat} (m : Nat) (h : x < 2 ^ i) : x + 2 ^ i * m = x ^^^ (m * 2 ^ i) := by
  apply Nat.eq_of_testBit_eq
  intro j
  rw [Nat.add_comm, Nat.testBit_two_pow_mul_add m h, Nat.testBit_xor, ← Nat.shiftLeft_eq, Nat.testBit_shiftLeft]
  by_cases hj : j < i
  · rw [if_pos hj, decide_eq_false (by omega)]; simp
  · rw [if_neg hj, decide_eq_true (by omega), Nat.testBit_lt_two_pow (Nat.lt_of_lt_of_le h (Nat.pow_le_pow_right (by decide) (by omega)))]; simp
theorem feed_it : ∀ (l : List Int) (r : Nat), Bytes l → feed r l = it st1 (8 * l.length) (r ^^^ numB l)
  | [], r, h => by simp [feed, numB, it]
  | x :: l, r, h => by
    have hx := h x (by simp)
    have ih := feed_it l (CrcM.step (r ^^^ x.toNat)) (fun y hy => h y (by simp [hy]))
    show feed (CrcM.step (r ^^^ x.toNat)) l = _
    rw [ih, numB, List.length_cons, show 8 * (l.length + 1) = 8 + 8 * l.length by omega, it_add]
    congr 1
    have e := add_xor (x := x.toNat) (i := 8) (numB l) (by omega)
    rw [show (2 : Nat) ^ 8 = 256 by decide] at e
    rw [e, ← Nat.xor_assoc, (st1_lin.it 8).xor, show (256 : Nat) = 2 ^ 8 by decide, it_even]
    rfl
theorem finds {x b : List Int} (hx : Bytes x) (hb : Bytes b) (hl : x.length = b.length) {k burst : Nat} (hn : numB x = numB b ^^^ (burst * 2 ^ k)) (h0 : burst ≠ 0) (h32 : burst < 4294967296) (hk : k ≤ 8 * b.length) : sumN [x] ≠ sumN [b] := by
  intro he
  rw [sumN_one, sumN_one] at he
  have he2 : feed M x = feed M b := by
    have := congrArg (fun z => M ^^^ z) he
    simp only [M_xor] at this
    exact this
  rw [feed_it x M hx, feed_it b M hb, hl, hn, ← Nat.xor_assoc, (st1_lin.it _).xor] at he2
  have hz : it st1 (8 * b.length) (burst * 2 ^ k) = 0 := by
    have := congrArg (fun z => it st1 (8 * b.length) (M ^^^ numB b) ^^^ z) he2
    simp only [Nat.xor_self] at this
    rw [← Nat.xor_assoc, Nat.xor_self, Nat.zero_xor] at this
    exact this
  rw [show 8 * b.length = k + (8 * b.length - k) by omega, it_add, it_even] at hz
  exact it_ne _ _ h32 h0 hz
end Go.Proofs.Ytdabjklbmmnlkaa.SumM
