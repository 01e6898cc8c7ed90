/- Numbers as few bytes: what the program's Pack and Unpack and the reference's come to, and that they agree. Plain Lean. No condition. -/
import Derived.Test.YtnfajlnpmndkdaaNums
import Derived.Test.YtnfajlnpmndkdaaPAllx1
import Derived.Test.YtnfajlnpmndkdaaPAllx2
namespace Go.Proofs.Ytnfajlnpmndkdaa.PackM
set_option linter.unusedVariables false
open Go Go.RowKit Go.Proofs.Ytnfajlnpmndkdaa.PAll Go.Proofs.Ytnfajlnpmndkdaa.Nums Go.Proofs.YtnfajlnpmndkdaaW.PrintWords Go.Proofs.YtnfajlnpmndkdaaW.PrintLast Go.Proofs.YtnfajlnpmndkdaaW.PrintMore
/-- A number as few bytes. -/
def packN (n : Nat) : List Int := if h : n < 128 then [(n : Int)] else ((n % 128 + 128 : Nat) : Int) :: packN (n / 128)
termination_by n
decreasing_by omega
theorem packN_small {n : Nat} (h : n < 128) : packN n = [(n : Int)] := by rw [packN, dif_pos h]
theorem packN_great {n : Nat} (h : ¬ n < 128) : packN n = ((n % 128 + 128 : Nat) : Int) :: packN (n / 128) := by rw [packN, dif_neg h]
theorem or128 : ∀ y : Fin 256, bits .or .u8 ((y.val : Nat) : Int) 128 = ((y.val % 128 + 128 : Nat) : Int) := by decide +kernel
theorem or128_int (x : Nat) : bits .or .u8 ((x : Int) % 256) 128 = ((x % 128 + 128 : Nat) : Int) := by
  have h := or128 ⟨x % 256, Nat.mod_lt _ (by decide)⟩
  have e : (((x % 256 : Nat)) : Int) = (x : Int) % 256 := by simp
  simp only at h
  rw [e] at h
  rw [h]
  have : x % 256 % 128 = x % 128 := by omega
  rw [this]
theorem pack_l0 : ∀ (k x : Nat) (acc : List Int), x < 128 ^ (k + 1) → acc.length + k + 1 < 140737488355328 → bits_Pack.l0 (k + 1) (x : Int) acc = some (acc ++ packN x)
  | 0, x, acc, hx, hl => by
    have h : x < 128 := by simpa using hx
    rw [bits_Pack.l0, if_neg (by omega), if_pos (by omega), packN_small h]
    rw [show (x : Int) % 256 = (x : Int) by omega]
  | k + 1, x, acc, hx, hl => by
    rw [bits_Pack.l0]
    by_cases h : x < 128
    · rw [if_neg (by omega), if_pos (by omega), packN_small h]
      rw [show (x : Int) % 256 = (x : Int) by omega]
    · rw [if_pos (by omega), if_pos (by omega), packN_great h, or128_int]
      have := pack_l0 k (x / 128) (acc ++ [((x % 128 + 128 : Nat) : Int)]) (by rw [Nat.div_lt_iff_lt_mul (by decide)]; rwa [Nat.pow_succ] at hx) (by simp; omega)
      rw [show ((x : Int) / 128) = ((x / 128 : Nat) : Int) by simp, this]
      simp
theorem pack_mono {k k' : Nat} (h : k ≤ k') {a : Int} {r : List Int} (hr : bits_Pack.f k a = some r) : bits_Pack.f k' a = some r := by
  induction h with
  | refl => exact hr
  | step _ ih => exact bits_Pack.mono _ _ _ ih
theorem pack_eq (k x : Nat) (hx : x < 18446744073709551616) (hk : 10 ≤ k) : bits_Pack.f k (x : Int) = some (packN x) := by
  refine pack_mono hk ?_
  have := pack_l0 9 x [] (Nat.lt_of_lt_of_le hx (by decide)) (by simp)
  unfold bits_Pack.f
  rw [this]; rfl
theorem rpack_l0 : ∀ (k x : Nat) (pre : List Int), x < 128 ^ (k + 1) → x < 18446744073709551616 → pre.length + k + 2 < 140737488355328 → chartularyref01_Pack.l0 (k + 1) (x : Int) (pre ++ [((x % 128 : Nat) : Int)]) = some (pre ++ packN x)
  | 0, x, pre, hx, _, hl => by
    have h : x < 128 := by simpa using hx
    rw [chartularyref01_Pack.l0, if_neg (by omega), packN_small h, Nat.mod_eq_of_lt h]
  | k + 1, x, pre, hx, hx', hl => by
    rw [chartularyref01_Pack.l0]
    by_cases h : x < 128
    · rw [if_neg (by omega), packN_small h, Nat.mod_eq_of_lt h]
    · have hlen : ((pre ++ [((x % 128 : Nat) : Int)]).length : Int) = (pre.length : Int) + 1 := by simp
      have hw : wrap64 ((pre.length : Int) + 1 - 1) = (pre.length : Int) := by rw [w64_in (by omega) (by omega)]; omega
      rw [if_pos (by omega), hlen, hw, if_pos (by omega), if_pos (by omega)]
      have hrd : rd (pre ++ [((x % 128 : Nat) : Int)]) (pre.length : Int) = ((x % 128 : Nat) : Int) := by unfold rd; simp
      rw [hrd]
      have hs : (pre ++ [((x % 128 : Nat) : Int)]).set ((pre.length : Int)).toNat ((((x % 128 : Nat) : Int) + 128) % 256) = pre ++ [((x % 128 + 128 : Nat) : Int)] := by
        rw [Int.toNat_natCast, List.set_append_right _ _ (Nat.le_refl _)]
        simp; omega
      rw [hs]
      simp only [Option.bind_some]
      rw [if_pos (by simp; omega)]
      have hd : IntKind.u64.wrap (Int.tdiv (x : Int) 128) = ((x / 128 : Nat) : Int) := by
        rw [Int.tdiv_eq_ediv_of_nonneg (by omega), u64_in (by omega) (by omega)]; simp
      have hm : (Int.tmod ((x / 128 : Nat) : Int) 128) % 256 = ((x / 128 % 128 : Nat) : Int) := by
        rw [Int.tmod_eq_emod_of_nonneg (by omega)]; omega
      rw [hd, hm]
      have := rpack_l0 k (x / 128) (pre ++ [((x % 128 + 128 : Nat) : Int)]) (by rw [Nat.div_lt_iff_lt_mul (by decide)]; rwa [Nat.pow_succ] at hx) (by omega) (by simp; omega)
      rw [this, packN_great h]; simp
theorem rpack_mono {k k' : Nat} (h : k ≤ k') {a : Int} {r : List Int} (hr : chartularyref01_Pack.f k a = some r) : chartularyref01_Pack.f k' a = some r := by
  induction h with
  | refl => exact hr
  | step _ ih => exact chartularyref01_Pack.mono _ _ _ ih
theorem rpack_eq (k x : Nat) (hx : x < 18446744073709551616) (hk : 10 ≤ k) : chartularyref01_Pack.f k (x : Int) = some (packN x) := by
  refine rpack_mono hk ?_
  have := rpack_l0 9 x [] (Nat.lt_of_lt_of_le hx (by decide)) hx (by simp)
  unfold chartularyref01_Pack.f
  have e : (Int.tmod (x : Int) 128) % 256 = ((x % 128 : Nat) : Int) := by rw [Int.tmod_eq_emod_of_nonneg (by omega)]; omega
  rw [e]; simpa using this
/-- The number that bytes are by their low seven bits, the lowest first. -/
def dec : List Int → Nat
  | [] => 0
  | x :: r => x.toNat % 128 + 128 * dec r
theorem dec_snoc (l : List Int) (x : Int) : dec (l ++ [x]) = dec l + x.toNat % 128 * 128 ^ l.length := by
  induction l with
  | nil => simp [dec]
  | cons y r ih => rw [List.cons_append, dec, ih, dec, List.length_cons, Nat.pow_succ, Nat.mul_add, ← Nat.mul_assoc]; rw [show 128 * (x.toNat % 128) * 128 ^ r.length = x.toNat % 128 * (128 ^ r.length * 128) by rw [Nat.mul_comm 128, Nat.mul_assoc, Nat.mul_comm 128]]; omega
theorem dec_lt (l : List Int) : dec l < 128 ^ l.length := by
  induction l with
  | nil => simp [dec]
  | cons y r ih => rw [dec, List.length_cons, Nat.pow_succ]; omega
theorem packN_bytes (n : Nat) : Bytes (packN n) := by
  induction n using Nat.strongRecOn with
  | _ n ih =>
    by_cases h : n < 128
    · rw [packN_small h]; intro x hx; simp at hx; omega
    · rw [packN_great h]; intro x hx
      rcases List.mem_cons.1 hx with rfl | hx
      · omega
      · exact ih (n / 128) (by omega) x hx
theorem packN_dec (pre : List Int) (x : Int) (hp : ∀ y ∈ pre, 128 ≤ y ∧ y < 256) (h0 : 0 ≤ x) (h1 : x < 128) (hx : pre ≠ [] → x ≠ 0) : packN (dec (pre ++ [x])) = pre ++ [x] ∧ (x ≠ 0 → 0 < dec (pre ++ [x])) := by
  induction pre with
  | nil =>
    have : dec ([] ++ [x]) = x.toNat := by simp [dec]; omega
    rw [this, packN_small (by omega)]
    exact ⟨by simp; omega, by omega⟩
  | cons y r ih =>
    have hy := hp y (by simp)
    have hx0 := hx (by simp)
    obtain ⟨e, pos⟩ := ih (fun z hz => hp z (by simp [hz])) (fun _ => hx0)
    have pos := pos hx0
    rw [List.cons_append, dec]
    refine ⟨?_, fun _ => by omega⟩
    rw [packN_great (by omega)]
    rw [show (y.toNat % 128 + 128 * dec (r ++ [x])) / 128 = dec (r ++ [x]) by omega, e]
    rw [show (y.toNat % 128 + 128 * dec (r ++ [x])) % 128 + 128 = y.toNat by omega, Int.toNat_of_nonneg (by omega)]
theorem packN_zero (n : Nat) : ∀ pre : List Int, packN n = pre ++ [0] → pre = [] ∧ n = 0 := by
  induction n using Nat.strongRecOn with
  | _ n ih =>
    intro pre h
    by_cases hn : n < 128
    · rw [packN_small hn] at h
      cases pre with
      | nil => simp at h; exact ⟨rfl, h⟩
      | cons y r => simp at h
    · rw [packN_great hn] at h
      cases pre with
      | nil => simp at h; omega
      | cons y r =>
        simp only [List.cons_append, List.cons.injEq] at h
        have := (ih (n / 128) (by omega) r h.2).2
        omega
theorem equal_eq {a b : List Int} (ha : Bytes a) (hb : Bytes b) : bytes_Equal.f a b = some (decide (a = b)) := by unfold bytes_Equal.f; rw [str_beq ha hb]
theorem canon (b : List Int) (hb : Bytes b) (i : Nat) (hi : i < b.length) (hp : ∀ j, j < i → 128 ≤ rd b (j : Int)) (hx : rd b (i : Int) < 128) :
    decide (packN (dec (b.take (i + 1))) = b.take (i + 1)) = !decide (0 < i ∧ rd b (i : Int) = 0) := by
  have e : b.take (i + 1) = b.take i ++ [rd b (i : Int)] := by rw [List.take_succ_eq_append_getElem hi, rd_get hi]
  have hpre : ∀ y ∈ b.take i, 128 ≤ y ∧ y < 256 := by
    intro y hy
    obtain ⟨j, hj, rfl⟩ := List.mem_iff_getElem.1 hy
    rw [List.length_take] at hj
    rw [List.getElem_take]
    have := hp j (by omega)
    rw [rd_get (by omega)] at this
    exact ⟨this, (hb _ (List.getElem_mem _)).2⟩
  have hb0 := rd_byte hb i
  by_cases hc : 0 < i ∧ rd b (i : Int) = 0
  · rw [decide_eq_true hc, decide_eq_false]
    · rfl
    · intro h
      rw [e, hc.2] at h
      have := (packN_zero _ _ h).1
      have h2 := congrArg List.length this
      rw [List.length_take, List.length_nil] at h2; omega
  · rw [decide_eq_false hc, e, decide_eq_true]
    · rfl
    · refine (packN_dec (b.take i) _ hpre hb0.1 hx (fun hne h0 => hc ⟨?_, h0⟩)).1
      rcases Nat.eq_zero_or_pos i with h | h
      · subst h; simp at hne
      · exact h
/-- What both come to: from byte i = 9 - d on. -/
def lastU (b : List Int) (i : Nat) : Int × Int × Int := if 0 < i ∧ rd b (i : Int) = 0 then (0, 0, 2) else (((dec (b.take (i + 1)) : Nat) : Int), (i : Int) + 1, 0)
def specU (b : List Int) : Nat → Int × Int × Int
  | 0 => if b.length ≤ 9 then (0, 0, 3) else if rd b 9 > 1 then (0, 0, 2) else lastU b 9
  | d + 1 => if b.length ≤ 8 - d then (0, 0, 3) else if rd b ((8 - d : Nat) : Int) ≥ 128 then specU b d else lastU b (8 - d)
theorem andNot128 : ∀ y : Fin 256, bits .andNot .u8 ((y.val : Nat) : Int) 128 = ((y.val % 128 : Nat) : Int) := by decide +kernel
theorem take_succ {b : List Int} {i : Nat} (hi : i < b.length) : b.take (i + 1) = b.take i ++ [rd b (i : Int)] := by rw [List.take_succ_eq_append_getElem hi, rd_get hi]
theorem dec_take {b : List Int} {i : Nat} (hi : i < b.length) : dec (b.take (i + 1)) = dec (b.take i) + (rd b (i : Int)).toNat % 128 * 128 ^ i := by
  rw [take_succ hi, dec_snoc, List.length_take, Nat.min_eq_left (by omega)]
theorem dec_take_lt (b : List Int) (i : Nat) : dec (b.take i) < 128 ^ i :=
  Nat.lt_of_lt_of_le (dec_lt _) (Nat.pow_le_pow_right (by decide) (by rw [List.length_take]; omega))
theorem pow7 (i : Nat) : 2 ^ (7 * i) = 128 ^ i := by rw [Nat.pow_mul]
theorem low_small {x i : Nat} (hi : i ≤ 9) (h9 : i = 9 → x ≤ 1) : x % 128 * 128 ^ i < 18446744073709551616 := by
  by_cases h : i = 9
  · have := h9 h; subst h
    have h2 : x % 128 * 128 ^ 9 ≤ 1 * 128 ^ 9 := Nat.mul_le_mul_right _ (by omega)
    exact Nat.lt_of_le_of_lt h2 (by decide)
  · have h2 : x % 128 * 128 ^ i ≤ 127 * 128 ^ 8 := Nat.mul_le_mul (by omega) (Nat.pow_le_pow_right (by decide) (by omega))
    exact Nat.lt_of_le_of_lt h2 (by decide)
theorem next_n {b : List Int} (hb : Bytes b) {i : Nat} (hi : i < b.length) (h9 : i ≤ 9) (h1 : i = 9 → rd b (i : Int) ≤ 1) :
    bits .or .u64 ((dec (b.take i) : Nat) : Int) (shl .u64 (IntKind.u64.wrap (bits .andNot .u8 (rd b (i : Int)) 128)) (IntKind.u64.wrap (7 * (IntKind.u64.wrap (i : Int))))) = ((dec (b.take (i + 1)) : Nat) : Int) := by
  obtain ⟨x, hx⟩ := Int.eq_ofNat_of_zero_le (rd_byte hb i).1
  have hx2 := (rd_byte hb i).2
  rw [hx] at hx2
  have ha := andNot128 ⟨x, by omega⟩
  simp only at ha
  rw [hx, ha, u64_in (n := ((x % 128 : Nat) : Int)) (by omega) (by omega), u64_in (n := (i : Int)) (by omega) (by omega), u64_in (by omega) (by omega)]
  rw [show (7 * (i : Int)) = ((7 * i : Nat) : Int) by simp, shlN .u64 rfl, dec_take hi, hx, Int.toNat_natCast]
  have hs := low_small (x := x) h9 (by intro h; have := h1 h; rw [hx] at this; omega)
  have hmin : min (7 * i) IntKind.u64.bits = 7 * i := Nat.min_eq_left (by show 7 * i ≤ 64; omega)
  have hlt := dec_take_lt b i
  have h64 : 128 ^ i ≤ 128 ^ 9 := Nat.pow_le_pow_right (by decide) h9
  rw [hmin, pow7, Nat.mod_eq_of_lt (by show _ < 2 ^ 64; omega), orN .u64 rfl _ _ (by show _ < 2 ^ 64; omega) (by show _ < 2 ^ 64; omega)]
  rw [or_add (i := 7 * i) (by rw [pow7]; exact hlt) (by rw [pow7]; exact Nat.mul_mod_left _ _)]
theorem dec_u64 {b : List Int} {i : Nat} (hi : i < b.length) (h9 : i ≤ 9) (h1 : i = 9 → (rd b (i : Int)).toNat ≤ 1) : dec (b.take (i + 1)) < 18446744073709551616 := by
  rw [dec_take hi]
  have hlt := dec_take_lt b i
  by_cases h : i = 9
  · have := h1 h; subst h
    have h2 : (rd b ((9 : Nat) : Int)).toNat % 128 * 128 ^ 9 ≤ 1 * 128 ^ 9 := Nat.mul_le_mul_right _ (by omega)
    have e : (128 : Nat) ^ 9 = 9223372036854775808 := by decide
    omega
  · have h2 : (rd b (i : Int)).toNat % 128 * 128 ^ i ≤ 127 * 128 ^ 8 := Nat.mul_le_mul (by omega) (Nat.pow_le_pow_right (by decide) (by omega))
    have h3 : 128 ^ i ≤ 128 ^ 8 := Nat.pow_le_pow_right (by decide) (by omega)
    have e : (128 : Nat) ^ 8 = 72057594037927936 := by decide
    omega
theorem unpack_j1 {b : List Int} (hb : Bytes b) (hl : b.length ≤ 9223372036854775807) {i : Nat} (hi : i < b.length) (h9 : i ≤ 9) (h1 : i = 9 → rd b (i : Int) ≤ 1) (hp : ∀ j, j < i → 128 ≤ rd b (j : Int)) (k : Nat) (hk : 10 ≤ k) :
    bits_Unpack.j1 (k + 1) b ((dec (b.take i) : Nat) : Int) (i : Int) (rd b (i : Int)) b (b.length : Int) (i : Int) false =
      if rd b (i : Int) < 128 then some (lastU b i) else bits_Unpack.l0 k b ((dec (b.take (i + 1)) : Nat) : Int) b (b.length : Int) ((i + 1 : Nat) : Int) := by
  have hx := rd_byte hb i
  rw [bits_Unpack.j1, if_neg (by decide), next_n hb hi h9 h1]
  rw [if_pos (by rw [u64_in (n := (i : Int)) (by omega) (by omega), u64_in (by omega) (by omega)]; omega)]
  have hw : wrap64 ((i : Int) + 1) = (i : Int) + 1 := w64_in (by omega) (by omega)
  by_cases h : rd b (i : Int) < 128
  · rw [if_pos (by omega), if_pos h, pack_eq k _ (dec_u64 hi h9 (by intro e; have := h1 e; omega)) hk]
    simp only [Option.bind_some, hw]
    rw [if_pos (by omega), if_pos (by omega)]
    rw [show ((i : Int) + 1).toNat = i + 1 by omega, equal_eq (packN_bytes _) (fun y hy => hb y (List.mem_of_mem_take hy)), canon b hb i hi hp h]
    simp only [Option.bind_some]
    unfold lastU
    by_cases hc : 0 < i ∧ rd b (i : Int) = 0
    · simp [hc]
    · rw [if_neg hc, decide_eq_false hc]; simp
  · rw [if_neg (by omega), if_neg h, hw]; simp
theorem unpack_l0 {b : List Int} (hb : Bytes b) (hl : b.length ≤ 9223372036854775807) : ∀ (d k i : Nat), i + d = 9 → (∀ j, j < i → 128 ≤ rd b (j : Int)) → 2 * d + 12 ≤ k →
    bits_Unpack.l0 k b ((dec (b.take i) : Nat) : Int) b (b.length : Int) (i : Int) = some (specU b d)
  | 0, k, i, hd, hp, hk => by
    obtain rfl : i = 9 := by omega
    obtain ⟨k, rfl⟩ : ∃ m, k = m + 2 := ⟨k - 2, by omega⟩
    rw [bits_Unpack.l0, specU]
    by_cases h : b.length ≤ 9
    · rw [if_neg (by omega), if_pos h]
    · rw [if_pos (by omega), if_pos (by omega), if_pos (by omega), if_pos (by omega), if_neg h]
      by_cases h1 : rd b 9 > 1
      · rw [if_pos h1]
        rw [show rd b ((9 : Nat) : Int) = rd b 9 from rfl, decide_eq_true h1, bits_Unpack.j1, if_pos rfl]
      · rw [if_neg h1]
        have := unpack_j1 hb hl (i := 9) (by omega) (by omega) (fun _ => by have : rd b ((9 : Nat) : Int) = rd b 9 := rfl; omega) hp k (by omega)
        rw [show rd b ((9 : Nat) : Int) = rd b 9 from rfl] at this ⊢
        rw [decide_eq_false h1, this, if_pos (by omega)]
  | d + 1, k, i, hd, hp, hk => by
    obtain rfl : i = 8 - d := by omega
    obtain ⟨k, rfl⟩ : ∃ m, k = m + 2 := ⟨k - 2, by omega⟩
    rw [bits_Unpack.l0, specU]
    by_cases h : b.length ≤ 8 - d
    · rw [if_neg (by omega), if_pos h]
    · rw [if_pos (by omega), if_pos (by omega), if_pos (by omega), if_neg (by omega), if_neg h, unpack_j1 hb hl (by omega) (by omega) (by omega) hp k (by omega)]
      by_cases hx : rd b ((8 - d : Nat) : Int) ≥ 128
      · rw [if_neg (by omega), if_pos hx]
        refine unpack_l0 hb hl d k (8 - d + 1) (by omega) (fun j hj => ?_) (by omega)
        by_cases e : j = 8 - d
        · subst e; omega
        · exact hp j (by omega)
      · rw [if_pos (by omega), if_neg hx]
theorem unpack_eq {b : List Int} (hb : Bytes b) (hl : b.length ≤ 9223372036854775807) (k : Nat) (hk : 30 ≤ k) : bits_Unpack.f k b = some (specU b 9) := by
  have := unpack_l0 hb hl 9 k 0 (by omega) (by omega) (by omega)
  unfold bits_Unpack.f
  simpa [dec] using this
theorem runpack_l1 {b : List Int} (hb : Bytes b) (hl : b.length ≤ 9223372036854775807) (e : Nat) (he : e ≤ 9) : ∀ (m k acc : Nat), m ≤ b.length → m ≤ e + 1 → acc * 128 ^ m + dec (b.take m) < 18446744073709551616 → m + 1 ≤ k →
    chartularyref01_Unpack.l1 k b (e : Int) (acc : Int) ((m : Int) - 1) = some (((acc * 128 ^ m + dec (b.take m) : Nat) : Int), (e : Int) + 1, 0)
  | 0, k, acc, hm, hme, ht, hk => by
    obtain ⟨k, rfl⟩ : ∃ j, k = j + 1 := ⟨k - 1, by omega⟩
    rw [chartularyref01_Unpack.l1, if_neg (by omega), w64_in (by omega) (by omega)]
    simp [dec]
  | m + 1, k, acc, hm, hme, ht, hk => by
    obtain ⟨k, rfl⟩ : ∃ j, k = j + 1 := ⟨k - 1, by omega⟩
    have hx := rd_byte hb m
    have hd := dec_take (b := b) (i := m) (by omega)
    have e1 : (((m + 1 : Nat) : Int) - 1) = (m : Int) := by omega
    rw [e1, chartularyref01_Unpack.l1, if_pos (by omega), if_pos (by omega), if_pos (by omega), Int.tmod_eq_emod_of_nonneg hx.1]
    obtain ⟨x, hxe⟩ := Int.eq_ofNat_of_zero_le hx.1
    rw [hxe] at hx hd ⊢
    rw [Int.toNat_natCast] at hd
    have h128 : 1 ≤ 128 ^ m := Nat.pos_of_ne_zero (by simp)
    have tot : acc * 128 ^ (m + 1) + dec (b.take (m + 1)) = (acc * 128 + x % 128) * 128 ^ m + dec (b.take m) := by
      rw [hd, Nat.pow_succ, Nat.add_mul]
      rw [show acc * (128 ^ m * 128) = acc * 128 * 128 ^ m by rw [Nat.mul_comm (128 ^ m), Nat.mul_assoc]]
      omega
    rw [tot] at ht ⊢
    have hle : (acc * 128 + x % 128) * 1 ≤ (acc * 128 + x % 128) * 128 ^ m := Nat.mul_le_mul_left _ h128
    rw [u64_in (n := (acc : Int) * 128) (by omega) (by omega), u64_in (n := (x : Int) % 128) (by omega) (by omega), u64_in (by omega) (by omega), w64_in (by omega) (by omega)]
    have := runpack_l1 hb hl e he m k (acc * 128 + x % 128) (by omega) (by omega) ht (by omega)
    rw [← this]; simp
theorem runpack_last {b : List Int} (hb : Bytes b) (hl : b.length ≤ 9223372036854775807) {i : Nat} (hi : i < b.length) (h9 : i ≤ 9) (h1 : i = 9 → rd b (i : Int) ≤ 1) (k : Nat) (hk : 15 ≤ k) :
    chartularyref01_Unpack.j1 k b (i : Int) = some (lastU b i) := by
  obtain ⟨k, rfl⟩ : ∃ j, k = j + 2 := ⟨k - 2, by omega⟩
  have hx := rd_byte hb i
  have key : ∀ z : Bool, z = decide (0 < i ∧ rd b (i : Int) = 0) → chartularyref01_Unpack.j2 (k + 1) b (i : Int) z = some (lastU b i) := by
    intro z hz
    rw [chartularyref01_Unpack.j2]
    unfold lastU
    by_cases hc : 0 < i ∧ rd b (i : Int) = 0
    · rw [hz, decide_eq_true hc, if_pos rfl, if_pos hc]
    · rw [hz, decide_eq_false hc, if_neg (by decide), if_neg hc]
      have hu := dec_u64 hi h9 (by intro e; have := h1 e; omega)
      have := runpack_l1 hb hl i h9 (i + 1) k 0 (by omega) (by omega) (by omega) (by omega)
      rw [show (((i + 1 : Nat) : Int) - 1) = (i : Int) by omega] at this
      simpa using this
  rw [chartularyref01_Unpack.j1, if_neg (by omega), if_neg (by omega)]
  by_cases h : (i : Int) = 9
  · have e9 : i = 9 := by omega
    subst e9
    have := h1 rfl
    rw [show rd b ((9 : Nat) : Int) = rd b 9 from rfl] at this key ⊢
    rw [if_pos h, if_pos (by omega), if_neg (by omega), if_pos (by omega), if_pos (by omega), if_pos (by omega)]
    exact key _ (by rw [Bool.eq_iff_iff]; simp)
  · rw [if_neg h]
    by_cases h0 : (i : Int) > 0
    · rw [if_pos h0, if_pos (by omega), if_pos (by omega)]
      exact key _ (by rw [Bool.eq_iff_iff]; simp; omega)
    · rw [if_neg h0]
      exact key _ (by rw [Bool.eq_iff_iff]; simp; omega)
theorem runpack_l0 {b : List Int} (hb : Bytes b) (hl : b.length ≤ 9223372036854775807) : ∀ (d k i : Nat), i + d = 9 → d + 20 ≤ k → i ≤ b.length → chartularyref01_Unpack.l0 k b (i : Int) = some (specU b d)
  | 0, k, i, hd, hk, hle => by
    obtain rfl : i = 9 := by omega
    obtain ⟨k, rfl⟩ : ∃ m, k = m + 2 := ⟨k - 2, by omega⟩
    rw [chartularyref01_Unpack.l0, specU]
    by_cases h : b.length ≤ 9
    · rw [if_pos h]
      rw [if_neg (by omega), chartularyref01_Unpack.j1, if_neg (by omega), if_pos (by omega)]
    · rw [if_pos (by omega), if_pos (by omega), if_pos (by omega), if_neg h]
      rw [show rd b ((9 : Nat) : Int) = rd b 9 from rfl]
      by_cases h1 : rd b 9 ≥ 128
      · rw [if_pos h1, if_pos (by omega), show wrap64 (((9 : Nat) : Int) + 1) = 10 by unfold wrap64; omega]
        have : ∀ k, 3 ≤ k → chartularyref01_Unpack.j1 k b 10 = some (0, 0, 2) := by
          intro k hk
          obtain ⟨k, rfl⟩ : ∃ m, k = m + 1 := ⟨k - 1, by omega⟩
          rw [chartularyref01_Unpack.j1, if_pos rfl]
        rw [chartularyref01_Unpack.l0, this k (by omega)]
        split
        · rw [if_neg (by omega)]
        · rfl
      · rw [if_neg h1]
        by_cases h2 : rd b 9 > 1
        · rw [if_pos h2]
          obtain ⟨k, rfl⟩ : ∃ m, k = m + 2 := ⟨k - 2, by omega⟩
          rw [chartularyref01_Unpack.j1, if_neg (by omega), if_neg (by omega), if_pos (by omega), if_pos (by omega), if_pos h2, chartularyref01_Unpack.j2, if_pos rfl]
        · rw [if_neg h2]
          exact runpack_last hb hl (i := 9) (by omega) (by omega) (fun _ => by have : rd b ((9 : Nat) : Int) = rd b 9 := rfl; omega) (k + 1) (by omega)
  | d + 1, k, i, hd, hk, hle => by
    obtain rfl : i = 8 - d := by omega
    obtain ⟨k, rfl⟩ : ∃ m, k = m + 2 := ⟨k - 2, by omega⟩
    rw [chartularyref01_Unpack.l0, specU]
    by_cases h : b.length ≤ 8 - d
    · rw [if_pos h, if_neg (by omega), chartularyref01_Unpack.j1, if_neg (by omega), if_pos (by omega)]
    · rw [if_pos (by omega), if_pos (by omega), if_pos (by omega), if_neg h]
      by_cases hx : rd b ((8 - d : Nat) : Int) ≥ 128
      · rw [if_pos hx, if_pos hx, w64_in (by omega) (by omega)]
        rw [show (((8 - d : Nat) : Int) + 1) = ((8 - d + 1 : Nat) : Int) by omega]
        exact runpack_l0 hb hl d (k + 1) (8 - d + 1) (by omega) (by omega) (by omega)
      · rw [if_neg hx, if_neg hx]
        exact runpack_last hb hl (by omega) (by omega) (by omega) (k + 1) (by omega)
theorem runpack_eq {b : List Int} (hb : Bytes b) (hl : b.length ≤ 9223372036854775807) (k : Nat) (hk : 30 ≤ k) : chartularyref01_Unpack.f k b = some (specU b 9) := by
  unfold chartularyref01_Unpack.f
  exact runpack_l0 hb hl 9 k 0 (by omega) (by omega) (by omega)
theorem packN_form (n : Nat) : ∃ (pre : List Int) (x : Int), packN n = pre ++ [x] ∧ (∀ y ∈ pre, 128 ≤ y ∧ y < 256) ∧ 0 ≤ x ∧ x < 128 ∧ dec (pre ++ [x]) = n ∧ (n ≠ 0 → x ≠ 0) ∧ (n = 0 → pre = []) := by
  induction n using Nat.strongRecOn with
  | _ n ih =>
    by_cases h : n < 128
    · exact ⟨[], (n : Int), by rw [packN_small h]; rfl, by simp, by omega, by omega, by simp [dec]; omega, by omega, fun _ => rfl⟩
    · obtain ⟨pre, x, e, hp, h0, h1, hd, hx, _⟩ := ih (n / 128) (by omega)
      refine ⟨((n % 128 + 128 : Nat) : Int) :: pre, x, by rw [packN_great h, e]; rfl, ?_, h0, h1, ?_, fun _ => hx (by omega), by omega⟩
      · intro y hy
        rcases List.mem_cons.1 hy with rfl | hy
        · omega
        · exact hp y hy
      · rw [List.cons_append, dec, hd, Int.toNat_natCast]; omega
theorem specU_run {pre rest : List Int} {x : Int} (hp : ∀ y ∈ pre, 128 ≤ y ∧ y < 256) (h0 : 0 ≤ x) (h1 : x < 128) (hl : pre.length ≤ 9) (h9 : pre.length = 9 → x ≤ 1) :
    ∀ (d i : Nat), i + d = 9 → i ≤ pre.length → specU (pre ++ x :: rest) d = lastU (pre ++ x :: rest) pre.length := by
  have hx : rd (pre ++ x :: rest) (pre.length : Int) = x := by unfold rd; simp
  intro d
  induction d with
  | zero =>
    intro i hi hle
    have e9 : pre.length = 9 := by omega
    have hx9 : rd (pre ++ x :: rest) 9 = x := by rw [e9] at hx; exact hx
    rw [specU, if_neg (by simp; omega), hx9, if_neg (by have := h9 e9; omega), e9]
  | succ d ih =>
    intro i hi hle
    rw [specU, if_neg (by simp; omega), show 8 - d = i by omega]
    by_cases h : i < pre.length
    · have hr : rd (pre ++ x :: rest) (i : Int) = pre[i] := by rw [rd_get (by simp; omega), List.getElem_append_left h]
      have := hp pre[i] (List.getElem_mem h)
      rw [hr, if_pos (by omega)]
      exact ih (i + 1) (by omega) (by omega)
    · have e : i = pre.length := by omega
      rw [e, hx, if_neg (by omega)]
theorem packN_length {n : Nat} (h : n < 18446744073709551616) : (packN n).length ≤ 10 := by
  obtain ⟨pre, x, e, hp, h0, h1, hd, hx, hz⟩ := packN_form n
  rw [e]
  by_cases hn : n = 0
  · rw [hz hn]; simp
  · have hx := hx hn
    have hv : x.toNat % 128 * 128 ^ pre.length ≤ n := by rw [← hd, dec_snoc]; omega
    have h2 : 1 * 128 ^ pre.length ≤ x.toNat % 128 * 128 ^ pre.length := Nat.mul_le_mul_right _ (by omega)
    apply Classical.byContradiction
    intro hc
    have h3 : (128 : Nat) ^ 10 ≤ 128 ^ pre.length := Nat.pow_le_pow_right (by decide) (by simp at hc; omega)
    have e10 : (128 : Nat) ^ 10 = 1180591620717411303424 := by decide
    omega
theorem specU_pack {n : Nat} (h : n < 18446744073709551616) (rest : List Int) : specU (packN n ++ rest) 9 = ((n : Int), ((packN n).length : Int), 0) := by
  have hlen := packN_length h
  obtain ⟨pre, x, e, hp, h0, h1, hd, hx, hz⟩ := packN_form n
  rw [e] at hlen ⊢
  have h9 : pre.length = 9 → x ≤ 1 := by
    intro h9
    have hv : x.toNat % 128 * 128 ^ pre.length ≤ n := by rw [← hd, dec_snoc]; omega
    rw [h9] at hv
    have e9 : (128 : Nat) ^ 9 = 9223372036854775808 := by decide
    omega
  rw [List.append_assoc, List.singleton_append, specU_run hp h0 h1 (by simp at hlen; omega) h9 9 0 (by omega) (by omega)]
  unfold lastU
  have hr : rd (pre ++ x :: rest) (pre.length : Int) = x := by unfold rd; simp
  rw [hr, if_neg, show (pre ++ x :: rest).take (pre.length + 1) = pre ++ [x] by rw [List.take_append, List.take_of_length_le (by omega)]; simp, hd]
  · simp
  · rintro ⟨hl, hx0⟩
    by_cases hn : n = 0
    · rw [hz hn] at hl; simp at hl
    · exact hx hn hx0
end Go.Proofs.Ytnfajlnpmndkdaa.PackM
