/- A number as so many bytes, and the number that bytes are: what the program and the reference come to. Plain Lean. No condition. -/
import Derived.Test.YtbkocnclaobabaaDoorNums
import Derived.Test.YtbkocnclaobabaaDoorPAllx1
namespace Go.Proofs.YtbkocnclaobabaaDoor.PutM
set_option linter.unusedVariables false
open Go Go.RowKit Go.Proofs.YtbkocnclaobabaaDoor.PAll Go.Proofs.YtbkocnclaobabaaDoor.Nums Go.Proofs.YtbkocnclaobabaaDoorW.PrintWords Go.Proofs.YtbkocnclaobabaaDoorW.PrintLast Go.Proofs.YtbkocnclaobabaaDoorW.PrintMore
/-- The bytes of a number, the highest first. -/
def T (n s : Nat) : List Int := (List.range s).map fun i => ((n / 256 ^ (s - 1 - i) % 256 : Nat) : Int)
theorem T_length (n s : Nat) : (T n s).length = s := by simp [T]
theorem T_get (n s i : Nat) (h : i < (T n s).length) : (T n s)[i] = ((n / 256 ^ (s - 1 - i) % 256 : Nat) : Int) := by simp [T]
theorem T_bytes (n s : Nat) : Bytes (T n s) := by
  intro x hx
  obtain ⟨i, _, rfl⟩ := List.mem_map.1 hx
  omega
def putR (n : Nat) (s : Int) : List Int × Int := if s < 1 ∨ 8 < s then ([], 1) else if 256 ^ s.toNat ≤ n then ([], 4) else (T n s.toNat, 0)
theorem set_mid (A B : List Int) (x v : Int) : (A ++ x :: B).set A.length v = A ++ v :: B := by rw [List.set_append_right _ _ (Nat.le_refl _)]; simp
theorem pow8 (i : Nat) : 2 ^ (8 * i) = 256 ^ i := by rw [Nat.pow_mul]
theorem put_l0 (n s : Nat) (hs : s ≤ 8) : ∀ (d k i : Nat), i + d = s → d + 1 ≤ k → bits_Put.l0 k (n : Int) (s : Int) ((T n s).take i ++ List.replicate d 0) (s : Int) (i : Int) = some (T n s, 0)
  | 0, k, i, hd, hk => by
    obtain ⟨k, rfl⟩ : ∃ m, k = m + 1 := ⟨k - 1, by omega⟩
    rw [bits_Put.l0, if_neg (by omega), List.take_of_length_le (by rw [T_length]; omega)]
    simp
  | d + 1, k, i, hd, hk => by
    obtain ⟨k, rfl⟩ : ∃ m, k = m + 1 := ⟨k - 1, by omega⟩
    have hT := T_length n s
    have hlen : (List.take i (T n s) ++ List.replicate (d + 1) (0 : Int)).length = s := by simp [hT]; omega
    rw [bits_Put.l0, hlen]
    have e : IntKind.u64.wrap (8 * IntKind.u64.wrap (wrap64 (wrap64 ((s : Int) - 1) - (i : Int)))) = ((8 * (s - 1 - i) : Nat) : Int) := by
      rw [w64_in (n := (s : Int) - 1) (by omega) (by omega), w64_in (by omega) (by omega), u64_in (n := (s : Int) - 1 - i) (by omega) (by omega), u64_in (by omega) (by omega)]
      omega
    rw [e, if_pos (by omega), if_pos (by omega), if_pos (by omega), if_pos (by omega), shrN, w64_in (by omega) (by omega), Int.toNat_natCast]
    rw [Nat.min_eq_left (by show 8 * (s - 1 - i) ≤ 64; omega), pow8]
    have hset : (List.take i (T n s) ++ List.replicate (d + 1) (0 : Int)).set i (((n / 256 ^ (s - 1 - i) : Nat) : Int) % 256) = (T n s).take (i + 1) ++ List.replicate d 0 := by
      have hi : (List.take i (T n s)).length = i := by rw [List.length_take]; omega
      have := set_mid (List.take i (T n s)) (List.replicate d 0) 0 (((n / 256 ^ (s - 1 - i) : Nat) : Int) % 256)
      rw [hi] at this
      rw [List.replicate_succ, this, List.take_succ_eq_append_getElem (by omega), T_get]
      simp
    rw [hset]
    exact put_l0 n s hs d k (i + 1) (by omega) (by omega)
theorem put_eq (k n : Nat) (s : Int) (hn : n < 18446744073709551616) (hk : 12 ≤ k) : bits_Put.f k (n : Int) s = some (putR n s) := by
  obtain ⟨k, rfl⟩ : ∃ m, k = m + 2 := ⟨k - 2, by omega⟩
  unfold bits_Put.f putR
  by_cases h1 : s < 1
  · rw [if_pos h1, if_pos (Or.inl h1), bits_Put.j0, if_pos rfl]
  · rw [if_neg h1]
    by_cases h8 : s > 8
    · rw [decide_eq_true h8, if_pos (Or.inr h8), bits_Put.j0, if_pos rfl]
    · rw [decide_eq_false h8, if_neg (by omega), bits_Put.j0, if_neg (by decide)]
      obtain ⟨m, rfl⟩ := Int.eq_ofNat_of_zero_le (show 0 ≤ s by omega)
      have hr : ∀ b : Bool, (b = true ↔ 256 ^ m ≤ n) → bits_Put.j1 (k + 1) (n : Int) (m : Int) b = some (if 256 ^ (m : Int).toNat ≤ n then ([], 4) else (T n (m : Int).toNat, 0)) := by
        intro b hb
        rw [bits_Put.j1, Int.toNat_natCast]
        by_cases hc : 256 ^ m ≤ n
        · rw [if_pos (hb.2 hc), if_pos hc]
        · rw [if_neg (fun h => hc (hb.1 h)), if_neg hc, if_pos (by omega), if_pos (by omega)]
          simp only [Option.bind_some, List.length_replicate]
          have := put_l0 n m (by omega) m k 0 (by omega) (by omega)
          simpa using this
      by_cases hm : (m : Int) < 8
      · rw [if_pos hm]
        have e : IntKind.u64.wrap (8 * IntKind.u64.wrap (m : Int)) = ((8 * m : Nat) : Int) := by rw [u64_in (n := (m : Int)) (by omega) (by omega), u64_in (by omega) (by omega)]; simp
        rw [e, if_pos (by omega), shrN, Nat.min_eq_left (by show 8 * m ≤ 64; omega), pow8]
        refine hr _ ?_
        have hp : 0 < 256 ^ m := Nat.pos_of_ne_zero (by simp)
        rw [bne_iff_ne]
        constructor
        · intro h
          apply Classical.byContradiction
          intro hlt
          exact h (by rw [Nat.div_eq_of_lt (by omega)]; rfl)
        · intro h he
          have : n / 256 ^ m = 0 := by omega
          have := (Nat.div_eq_zero_iff).1 this
          omega
      · rw [if_neg hm]
        have : m = 8 := by omega
        subst this
        refine hr _ ⟨by simp, fun h => ?_⟩
        have e8 : (256 : Nat) ^ 8 = 18446744073709551616 := by decide
        omega
/-- The number that bytes are, the highest first. -/
def num (b : List Int) : Nat := b.foldl (fun v x => v * 256 + x.toNat) 0
def getR (b : List Int) : Int × Int := if b.length < 1 ∨ 8 < b.length then (0, 1) else ((num b : Nat), 0)
theorem fold_step (b : List Int) (i v : Nat) (hi : i < b.length) : (b.drop i).foldl (fun (v : Nat) (x : Int) => v * 256 + x.toNat) v = (b.drop (i + 1)).foldl (fun v x => v * 256 + x.toNat) (v * 256 + (rd b (i : Int)).toNat) := by
  rw [List.drop_eq_getElem_cons hi, List.foldl_cons, rd_get hi]
theorem get_l0 {b : List Int} (hb : Bytes b) (hl : b.length ≤ 8) : ∀ (d k i v : Nat), i + d = b.length → v < 256 ^ i → d + 1 ≤ k →
    bits_Get.l0 k (v : Int) b (b.length : Int) (i : Int) = some ((((b.drop i).foldl (fun (v : Nat) (x : Int) => v * 256 + x.toNat) v : Nat) : Int), 0)
  | 0, k, i, v, hd, hv, hk => by
    obtain ⟨k, rfl⟩ : ∃ m, k = m + 1 := ⟨k - 1, by omega⟩
    rw [bits_Get.l0, if_neg (by omega), List.drop_of_length_le (by omega)]; rfl
  | d + 1, k, i, v, hd, hv, hk => by
    obtain ⟨k, rfl⟩ : ∃ m, k = m + 1 := ⟨k - 1, by omega⟩
    have hx := rd_byte hb i
    have hp : (256 : Nat) ^ i ≤ 256 ^ 7 := Nat.pow_le_pow_right (by decide) (by omega)
    have e7 : (256 : Nat) ^ 7 = 72057594037927936 := by decide
    rw [bits_Get.l0, if_pos (by omega), if_pos (by omega), if_pos (by omega), w64_in (by omega) (by omega), fold_step b i v (by omega)]
    obtain ⟨x, hxe⟩ := Int.eq_ofNat_of_zero_le hx.1
    rw [hxe] at hx ⊢
    rw [u64_in (n := (v : Int) * 256) (by omega) (by omega), u64_in (n := (x : Int)) (by omega) (by omega)]
    rw [show (v : Int) * 256 = ((v * 256 : Nat) : Int) by simp, orN .u64 rfl _ _ (by show _ < 2 ^ 64; omega) (by show _ < 2 ^ 64; omega), Nat.or_comm, or_add (i := 8) (by omega) (by omega), Int.toNat_natCast, Nat.add_comm x]
    have h2 : v * 256 + x < 256 ^ (i + 1) := by rw [Nat.pow_succ]; omega
    exact get_l0 hb hl d k (i + 1) (v * 256 + x) (by omega) h2 (by omega)
theorem get_eq {b : List Int} (hb : Bytes b) (k : Nat) (hk : 12 ≤ k) : bits_Get.f k b = some (getR b) := by
  obtain ⟨k, rfl⟩ : ∃ m, k = m + 1 := ⟨k - 1, by omega⟩
  unfold bits_Get.f getR
  by_cases h1 : b.length < 1
  · rw [if_pos (by omega), if_pos (Or.inl h1), bits_Get.j0, if_pos rfl]
  · rw [if_neg (by omega)]
    by_cases h8 : (b.length : Int) > 8
    · rw [decide_eq_true h8, if_pos (by omega), bits_Get.j0, if_pos rfl]
    · rw [decide_eq_false h8, if_neg (by omega), bits_Get.j0, if_neg (by decide)]
      have := get_l0 hb (by omega) b.length k 0 0 (by omega) (by simp) (by omega)
      rw [List.drop_zero] at this
      exact this
theorem T_succ (n s : Nat) : T n (s + 1) = T (n / 256) s ++ [((n % 256 : Nat) : Int)] := by
  unfold T
  rw [List.range_succ, List.map_append, List.map_singleton]
  congr 1
  · apply List.map_congr_left
    intro i hi
    rw [List.mem_range] at hi
    rw [Nat.div_div_eq_div_mul, Nat.mul_comm 256, ← Nat.pow_succ]
    congr 3
    congr 1
    omega
  · simp
theorem num_snoc (l : List Int) (x : Int) : num (l ++ [x]) = num l * 256 + x.toNat := by unfold num; simp
theorem num_T : ∀ (s n : Nat), num (T n s) = n % 256 ^ s
  | 0, n => by simp [T, num]; omega
  | s + 1, n => by
    rw [T_succ, num_snoc, num_T s, Nat.pow_succ, Nat.mul_comm (256 ^ s), Nat.mod_mul, Int.toNat_natCast]
    omega
end Go.Proofs.YtbkocnclaobabaaDoor.PutM
