/- FrameTurned: turned bits, plain (ported from r02's Finds). No condition. -/
import Derived.Test.YtdabjklbmmnlkaaTornLaw
namespace Go.Proofs.Ytdabjklbmmnlkaa.TurnedLaw
set_option linter.unusedVariables false
set_option linter.unusedSimpArgs false
open Go.RowKit Go.Proofs.Ytdabjklbmmnlkaa.Nums Go.Proofs.Ytdabjklbmmnlkaa.CrcM Go.Proofs.Ytdabjklbmmnlkaa.SumM Go.Proofs.Ytdabjklbmmnlkaa.PutM Go.Proofs.Ytdabjklbmmnlkaa.Libs Go.Proofs.Ytdabjklbmmnlkaa.PutW Go.Proofs.Ytdabjklbmmnlkaa.FirstW Go.Proofs.YtdabjklbmmnlkaaW.PrintWords Go.Proofs.YtdabjklbmmnlkaaW.PrintLast Go.Proofs.YtdabjklbmmnlkaaW.PrintMore
def turned (xs : List Int) (j : Nat) : List Int := xs.set (j / 8) (((rd xs ((j / 8 : Nat) : Int)).toNat ^^^ 2 ^ (j % 8) : Nat) : Int)
def flips (b : List Int) (burst k : Nat) : Nat → List Int
  | 0 => b
  | i + 1 => if burst / 2 ^ i % 2 = 1 then turned (flips b burst k i) (k + i) else flips b burst k i
theorem turned_length (xs : List Int) (j : Nat) : (turned xs j).length = xs.length := by simp [turned]
theorem flips_length (b : List Int) (burst k : Nat) : ∀ i, (flips b burst k i).length = b.length
  | 0 => rfl
  | i + 1 => by rw [flips]; split <;> simp [turned_length, flips_length b burst k i]
theorem xor8_lt {x q : Nat} (hx : x < 256) (hq : q < 8) : x ^^^ 2 ^ q < 256 := by
  have h : (2 : Nat) ^ q < 2 ^ 8 := Nat.pow_lt_pow_right (by decide) hq
  exact Nat.xor_lt_two_pow (n := 8) hx h
theorem turned_bytes {xs : List Int} (h : Bytes xs) (j : Nat) : Bytes (turned xs j) := by
  intro y hy
  rcases List.mem_or_eq_of_mem_set hy with hy | rfl
  · exact h y hy
  · have hx := rd_byte h (j / 8)
    have := xor8_lt (x := (rd xs ((j / 8 : Nat) : Int)).toNat) (q := j % 8) (by omega) (by omega)
    omega
theorem flips_bytes {b : List Int} (h : Bytes b) (burst k : Nat) : ∀ i, Bytes (flips b burst k i)
  | 0 => h
  | i + 1 => by rw [flips]; split; exact turned_bytes (flips_bytes h burst k i) _; exact flips_bytes h burst k i
theorem numB_set : ∀ (xs : List Int) (i : Nat), Bytes xs → i < xs.length → ∀ q, q < 8 → numB (xs.set i (((rd xs (i : Int)).toNat ^^^ 2 ^ q : Nat) : Int)) = numB xs ^^^ 2 ^ (8 * i + q)
  | x :: l, 0, h, hi, q, hq => by
    have hx := h x (by simp)
    have e : rd (x :: l) ((0 : Nat) : Int) = x := by simp [rd]
    rw [e, List.set_cons_zero, numB, numB, Int.toNat_natCast]
    have h1 := add_xor (x := x.toNat) (i := 8) (numB l) (by omega)
    have h2 := add_xor (x := x.toNat ^^^ 2 ^ q) (i := 8) (numB l) (xor8_lt (by omega) hq)
    rw [show (2 : Nat) ^ 8 = 256 by decide] at h1 h2
    rw [h1, h2, Nat.xor_assoc, Nat.xor_comm (2 ^ q), ← Nat.xor_assoc, Nat.mul_zero, Nat.zero_add]
  | x :: l, i + 1, h, hi, q, hq => by
    have hx := h x (by simp)
    have e : rd (x :: l) ((i + 1 : Nat) : Int) = rd l (i : Int) := by simp [rd]
    have ih := numB_set l i (fun y hy => h y (by simp [hy])) (by simpa using hi) q hq
    rw [e, List.set_cons_succ, numB, numB, ih]
    have h1 := add_xor (x := x.toNat) (i := 8) (numB l) (by omega)
    have h2 := add_xor (x := x.toNat) (i := 8) (numB l ^^^ 2 ^ (8 * i + q)) (by omega)
    rw [show (2 : Nat) ^ 8 = 256 by decide] at h1 h2
    have h3 : (numB l ^^^ 2 ^ (8 * i + q)) * 256 = (numB l * 256) ^^^ 2 ^ (8 * (i + 1) + q) := by
      rw [show (256 : Nat) = 2 ^ 8 by decide, ← Nat.shiftLeft_eq, Nat.shiftLeft_xor_distrib, Nat.shiftLeft_eq, Nat.shiftLeft_eq, ← Nat.pow_add]
      congr 2
      omega
    rw [h1, h2, h3, Nat.xor_assoc]
theorem flips_num {b : List Int} (h : Bytes b) {burst k : Nat} (hk : k + 32 ≤ 8 * b.length) : ∀ i, i ≤ 32 → numB (flips b burst k i) = numB b ^^^ (burst % 2 ^ i * 2 ^ k)
  | 0, hi => by simp [flips, Nat.mod_one]
  | i + 1, hi => by
    have ih := flips_num h (burst := burst) hk i (by omega)
    have hm : burst % 2 ^ (i + 1) = burst % 2 ^ i + 2 ^ i * (burst / 2 ^ i % 2) := by rw [Nat.pow_succ, Nat.mod_mul]
    have hx := add_xor (x := burst % 2 ^ i) (i := i) (burst / 2 ^ i % 2) (Nat.mod_lt _ (Nat.two_pow_pos i))
    rw [flips]
    by_cases hb : burst / 2 ^ i % 2 = 1
    · rw [if_pos hb, turned, numB_set _ _ (flips_bytes h burst k i) (by rw [flips_length]; omega) _ (by omega), ih, show 8 * ((k + i) / 8) + (k + i) % 8 = k + i by omega, hm, hx, hb, Nat.one_mul, ← Nat.shiftLeft_eq, ← Nat.shiftLeft_eq, Nat.shiftLeft_xor_distrib, Nat.shiftLeft_eq, Nat.shiftLeft_eq, ← Nat.pow_add, Nat.xor_assoc, Nat.add_comm i k]
    · rw [if_neg hb, ih, hm, show burst / 2 ^ i % 2 = 0 by omega, Nat.mul_zero, Nat.add_zero]
theorem finds_law {b : List Int} (h : Bytes b) {burst k : Nat} (h0 : burst ≠ 0) (h32 : burst < 4294967296) (hk : k + 32 ≤ 8 * b.length) : sumN [flips b burst k 32] ≠ sumN [b] := by
  refine finds (flips_bytes h burst k 32) h (flips_length b burst k 32) (k := k) (burst := burst) ?_ h0 h32 (by omega)
  rw [flips_num h hk 32 (by omega), Nat.mod_eq_of_lt (by omega)]
theorem turned_mid (p m s : List Int) (j : Nat) (hj : j < 8 * m.length) : turned (p ++ m ++ s) (8 * p.length + j) = p ++ turned m j ++ s := by
  have e1 : (8 * p.length + j) / 8 = p.length + j / 8 := by omega
  have e2 : (8 * p.length + j) % 8 = j % 8 := by omega
  have hq : j / 8 < m.length := by omega
  unfold turned
  rw [e1, e2, List.append_assoc]
  have hr : rd (p ++ (m ++ s)) ((p.length + j / 8 : Nat) : Int) = rd m ((j / 8 : Nat) : Int) := by
    unfold rd
    rw [Int.toNat_natCast, Int.toNat_natCast, List.getD_eq_getElem?_getD, List.getD_eq_getElem?_getD, List.getElem?_append_right (by omega), Nat.add_sub_cancel_left, List.getElem?_append_left hq]
  rw [hr, List.set_append_right _ _ (by omega), Nat.add_sub_cancel_left, List.set_append_left _ _ hq, ← List.append_assoc]
theorem flips_mid (p m s : List Int) (burst q : Nat) : ∀ i, q + i ≤ 8 * m.length → flips (p ++ m ++ s) burst (8 * p.length + q) i = p ++ flips m burst q i ++ s
  | 0, _ => rfl
  | i + 1, h => by
    rw [flips, flips, flips_mid p m s burst q i (by omega)]
    split
    · rw [Nat.add_assoc, turned_mid _ _ _ _ (by rw [flips_length]; omega)]
    · rfl
theorem turned_body (l : List Int) (hB : Bytes l) (hl : l.length ≤ 16384) {burst q : Nat} (h0 : burst ≠ 0) (h32 : burst < 4294967296) (hq : q + 32 ≤ 8 * l.length) : firstR (flips (frameN l) burst (64 + q) 32) = ([], 0, 2) := by
  have SL := sumN_lt (one_parts hB (by omega))
  have h4 := TornW.frame_take4 l hl
  have hm := TornW.frame_mid l SL
  have FL := frameN_length l
  have hF : frameN l = (T l.length 4 ++ T (sumN [l]) 4) ++ l := rfl
  have hP : (T l.length 4 ++ T (sumN [l]) 4).length = 8 := by simp [T_length]
  generalize T l.length 4 ++ T (sumN [l]) 4 = P at hF hP
  have e := flips_mid P l [] burst q 32 hq
  rw [List.append_nil, List.append_nil, hP] at e
  have hfl := flips_length l burst q 32
  rw [hF, e, firstR_eq _ (by rw [List.length_append]; omega)]
  rw [hF, List.take_append_of_le_length (by omega)] at h4
  rw [hF, List.take_left' hP] at hm
  have h4' : num ((P ++ flips l burst q 32).take 4) = l.length := by rw [List.take_append_of_le_length (by omega)]; exact h4
  rw [h4', if_neg (by omega), if_neg (by rw [List.length_append, hP, hfl]; omega), if_neg]
  rw [TornW.body_frame _ P hP (by rw [h4', hfl]), List.take_left' hP, hm]
  exact finds_law hB h0 h32 hq
theorem fold_inj : ∀ (a b : List Int) (v w : Nat), a.length = b.length → Bytes a → Bytes b → a.foldl (fun (v : Nat) (x : Int) => v * 256 + x.toNat) v = b.foldl (fun (v : Nat) (x : Int) => v * 256 + x.toNat) w → v = w ∧ a = b
  | [], [], v, w, _, _, _, h => ⟨h, rfl⟩
  | [], _ :: _, _, _, h, _, _, _ => by simp at h
  | _ :: _, [], _, _, h, _, _, _ => by simp at h
  | x :: a, y :: b, v, w, hl, ha, hb, h => by
    obtain ⟨h1, h2⟩ := fold_inj a b (v * 256 + x.toNat) (w * 256 + y.toNat) (by simpa using hl) (fun z hz => ha z (List.mem_cons_of_mem _ hz)) (fun z hz => hb z (List.mem_cons_of_mem _ hz)) h
    have hx := ha x (by simp)
    have hy := hb y (by simp)
    have h3 : x.toNat = y.toNat := by omega
    exact ⟨by omega, by rw [h2, show x = y by omega]⟩
theorem turned_sum (l : List Int) (hB : Bytes l) (hl : l.length ≤ 16384) {burst : Nat} (h0 : burst ≠ 0) (h32 : burst < 4294967296) : firstR (flips (frameN l) burst 32 32) = ([], 0, 2) := by
  have SL := sumN_lt (one_parts hB (by omega))
  have FL := frameN_length l
  have hsum : num (T (sumN [l]) 4) = sumN [l] := by rw [num_T]; omega
  have hlen : num (T l.length 4) = l.length := by rw [num_T]; omega
  have e := flips_mid (T l.length 4) (T (sumN [l]) 4) l burst 0 32 (by rw [T_length]; omega)
  rw [T_length] at e
  have hfl := flips_length (T (sumN [l]) 4) burst 0 32
  rw [T_length] at hfl
  have hnum := flips_num (T_bytes (sumN [l]) 4) (burst := burst) (k := 0) (by rw [T_length]; omega) 32 (by omega)
  have hfb := flips_bytes (T_bytes (sumN [l]) 4) burst 0 32
  show firstR (flips (T l.length 4 ++ T (sumN [l]) 4 ++ l) burst (8 * 4 + 0) 32) = _
  rw [e]
  generalize flips (T (sumN [l]) 4) burst 0 32 = m at *
  have hP : (T l.length 4 ++ m).length = 8 := by rw [List.length_append, T_length, hfl]
  have h4 : num ((T l.length 4 ++ m ++ l).take 4) = l.length := by rw [List.append_assoc, List.take_left' (T_length _ _), hlen]
  rw [firstR_eq _ (by rw [List.length_append]; omega), h4, if_neg (by omega), if_neg (by rw [List.length_append, hP]; omega), if_neg]
  rw [TornW.body_frame _ _ hP h4, List.take_left' hP, List.drop_left' (T_length _ _)]
  intro h
  have hm : m = T (sumN [l]) 4 := (fold_inj m (T (sumN [l]) 4) 0 0 (by rw [hfl, T_length]) hfb (T_bytes _ _) (by show num m = num _; omega)).2
  rw [hm, Nat.mod_eq_of_lt (by omega), Nat.pow_zero, Nat.mul_one] at hnum
  have := congrArg (numB (T (sumN [l]) 4) ^^^ ·) hnum
  simp [← Nat.xor_assoc] at this
  exact h0 this.symm
end Go.Proofs.Ytdabjklbmmnlkaa.TurnedLaw
