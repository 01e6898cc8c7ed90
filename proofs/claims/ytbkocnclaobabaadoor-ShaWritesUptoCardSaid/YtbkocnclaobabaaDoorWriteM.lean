/- A text mixed in block by block, wherever it is cut: plain Lean. No condition. -/
import Derived.Test.YtbkocnclaobabaaDoorMixM
namespace Go.Proofs.YtbkocnclaobabaaDoor.WriteM
set_option linter.unusedVariables false
open Go Go.RowKit Go.Proofs.YtbkocnclaobabaaDoor.ShaM Go.Proofs.YtbkocnclaobabaaDoor.NewW Go.Proofs.YtbkocnclaobabaaDoor.Nums Go.Proofs.YtbkocnclaobabaaDoor.PutM
/-- The words behind so many blocks. -/
def eatN : Nat → List Int → List Int → List Int
  | 0, now, _ => now
  | k + 1, now, l => mixR (eatN k now l) ((l.drop (64 * k)).take 64)
theorem eatN_length (now l : List Int) : ∀ k, (eatN k now l).length = now.length
  | 0 => rfl
  | k + 1 => by rw [eatN, mixR_length, eatN_length now l k]
theorem eatN_add (m : Nat) (now l : List Int) : ∀ k, eatN (m + k) now l = eatN k (eatN m now l) (l.drop (64 * m))
  | 0 => rfl
  | k + 1 => by
    show eatN ((m + k) + 1) now l = _
    rw [eatN, eatN, eatN_add m now l k, List.drop_drop, Nat.mul_add]
theorem eatN_left (now l b : List Int) : ∀ k, 64 * k ≤ l.length → eatN k now (l ++ b) = eatN k now l
  | 0, _ => rfl
  | k + 1, h => by
    rw [eatN, eatN, eatN_left now l b k (by omega), List.drop_append_of_le_length (by omega), List.take_append_of_le_length (by rw [List.length_drop]; omega)]
/-- The words of a text's whole blocks. -/
def nowT (l : List Int) : List Int := eatN (l.length / 64) H0 l
/-- What is left of it. -/
def restT (l : List Int) : List Int := l.drop (64 * (l.length / 64))
theorem nowT_length (l : List Int) : (nowT l).length = 8 := eatN_length H0 l _
theorem restT_length (l : List Int) : (restT l).length = l.length % 64 := by unfold restT; rw [List.length_drop]; omega
theorem restT_lt (l : List Int) : (restT l).length < 64 := by rw [restT_length]; omega
theorem write_len (l b : List Int) : (restT l ++ b).length / 64 = (l ++ b).length / 64 - l.length / 64 ∧ l.length / 64 ≤ (l ++ b).length / 64 := by
  rw [List.length_append, List.length_append, restT_length]; omega
theorem restT_append (l b : List Int) : restT l ++ b = (l ++ b).drop (64 * (l.length / 64)) := by
  unfold restT; rw [List.drop_append_of_le_length (by omega)]
theorem write_now (l b : List Int) : eatN ((restT l ++ b).length / 64) (nowT l) (restT l ++ b) = nowT (l ++ b) := by
  obtain ⟨h1, h2⟩ := write_len l b
  rw [h1, restT_append]
  unfold nowT
  rw [← eatN_left H0 l b (l.length / 64) (by omega), ← eatN_add]
  congr 1
  omega
theorem write_rest (l b : List Int) : (restT l ++ b).drop (64 * ((restT l ++ b).length / 64)) = restT (l ++ b) := by
  obtain ⟨h1, h2⟩ := write_len l b
  rw [h1, restT_append, List.drop_drop]
  unfold restT
  congr 1
  rw [← Nat.mul_add]
  congr 1
  omega
theorem restT_mem {l : List Int} (h : Bytes l) : Bytes (restT l) := fun x hx => h x (List.mem_of_mem_drop hx)
/-- How many noughts. -/
def padZ (n : Nat) : Nat := (119 - n % 64) % 64
/-- What is put behind a text of so many bytes. -/
def padB (n : Nat) : List Int := (128 :: List.replicate (padZ n) 0) ++ T (n * 8 % 18446744073709551616) 8
def pad (l : List Int) : List Int := l ++ padB l.length
theorem padB_length (n : Nat) : (padB n).length = 9 + padZ n := by unfold padB; simp [T_length]; omega
theorem pad_length (l : List Int) : (restT l ++ padB l.length).length % 64 = 0 := by
  rw [List.length_append, restT_length, padB_length]; unfold padZ; omega
theorem padB_bytes (n : Nat) : Bytes (padB n) := by
  intro x hx
  unfold padB at hx
  rcases List.mem_append.1 hx with h | h
  · rcases List.mem_cons.1 h with rfl | h
    · omega
    · have := (List.mem_replicate.1 h).2; omega
  · exact T_bytes _ _ x h
/-- Are they words? -/
def Words (l : List Int) : Prop := ∀ x ∈ l, 0 ≤ x ∧ x < 4294967296
theorem words_H0 : Words H0 := by
  intro x hx
  simp only [H0, List.mem_cons, List.not_mem_nil, or_false] at hx
  omega
theorem words_mix (s b : List Int) (hs : s.length ≤ 8) : Words (mixR s b) := by
  intro x hx
  obtain ⟨j, hj, rfl⟩ := List.mem_map.1 hx
  have := List.mem_range.1 hj
  rw [if_pos (by omega), wu32]
  omega
theorem words_eat (now l : List Int) (hn : now.length = 8) (h : Words now) : ∀ k, Words (eatN k now l)
  | 0 => h
  | k + 1 => words_mix _ _ (by rw [eatN_length]; omega)
theorem words_now (l : List Int) : Words (nowT l) := words_eat H0 l rfl words_H0 _
/-- The bytes of so many words. -/
def bytesOf (ws : List Int) (i : Nat) : List Int := ((ws.take i).map fun w => T w.toNat 4).flatten
theorem bytesOf_length (ws : List Int) : ∀ i, i ≤ ws.length → (bytesOf ws i).length = 4 * i
  | 0, _ => rfl
  | i + 1, h => by
    unfold bytesOf
    rw [List.take_succ_eq_append_getElem (by omega), List.map_append, List.flatten_append, List.length_append]
    have := bytesOf_length ws i (by omega)
    unfold bytesOf at this
    rw [this]
    simp [T_length]
    omega
theorem bytesOf_succ (ws : List Int) (i : Nat) (h : i < ws.length) : bytesOf ws (i + 1) = bytesOf ws i ++ T (ws.getD i 0).toNat 4 := by
  unfold bytesOf
  rw [List.take_succ_eq_append_getElem h, List.map_append, List.flatten_append, List.getD_eq_getElem?_getD, List.getElem?_eq_getElem h]
  simp
/-- The digest. -/
def dig (l : List Int) : List Int := bytesOf (nowT (pad l)) 8
theorem dig_length (l : List Int) : (dig l).length = 32 := bytesOf_length _ 8 (by rw [nowT_length]; exact Nat.le_refl _)
end Go.Proofs.YtbkocnclaobabaaDoor.WriteM
