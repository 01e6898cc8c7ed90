/- What a digest is made of, in plain Lean: the schedule of a block, a round, a block mixed in. No condition. -/
import Derived.Test.YtbkocnclaobabaaDoorPutM
namespace Go.Proofs.YtbkocnclaobabaaDoor.ShaM
set_option linter.unusedVariables false
open Go Go.RowKit Go.Proofs.YtbkocnclaobabaaDoor.PAll Go.Proofs.YtbkocnclaobabaaDoor.Nums Go.Proofs.YtbkocnclaobabaaDoor.PutM Go.Proofs.YtbkocnclaobabaaDoorW.PrintWords Go.Proofs.YtbkocnclaobabaaDoorW.PrintLast Go.Proofs.YtbkocnclaobabaaDoorW.PrintMore
def spr (a x y z : Int) : Int := (sha_spread.f a x y z).getD 0
theorem spr_some (a : Int) {x y z : Int} (h : (sha_spread.f a x y z).isSome) : sha_spread.f a x y z = some (spr a x y z) := by
  unfold spr
  cases hh : sha_spread.f a x y z with
  | none => rw [hh] at h; simp at h
  | some r => rfl
theorem turn_some (a : Int) {x : Int} (h1 : 0 ≤ (Go.bits .and .u64 (IntKind.u64.wrap (x)) 31)) (h2 : 0 ≤ (IntKind.u64.wrap (32 - (Go.bits .and .u64 (IntKind.u64.wrap (x)) 31)))) : ∃ r, bits_Turn.f a x = some r := ⟨_, by unfold bits_Turn.f; rw [if_pos h1, if_pos h2]⟩
theorem neg_some (a : Int) {x y z : Int} (h0 : 0 ≤ (IntKind.u64.wrap (mx (wrap64 (-z)) 0))) (hz : ¬ z ≥ 0) (t1 : ∃ r, bits_Turn.f a (wrap64 (-x)) = some r) (t2 : ∃ r, bits_Turn.f a (wrap64 (-y)) = some r) : (sha_spread.f a x y z).isSome := by
  obtain ⟨r1, h1⟩ := t1
  obtain ⟨r2, h2⟩ := t2
  unfold sha_spread.f
  rw [if_pos h0, if_neg hz, h1, h2]
  rfl
theorem pos_some (a : Int) {x y z : Int} (h0 : 0 ≤ (IntKind.u64.wrap (mx (wrap64 (-z)) 0))) (hz : z ≥ 0) (t1 : ∃ r, bits_Turn.f a (wrap64 (-x)) = some r) (t2 : ∃ r, bits_Turn.f a (wrap64 (-y)) = some r) (t3 : ∃ r, bits_Turn.f a (wrap64 (-z)) = some r) : (sha_spread.f a x y z).isSome := by
  obtain ⟨r1, h1⟩ := t1
  obtain ⟨r2, h2⟩ := t2
  obtain ⟨r3, h3⟩ := t3
  unfold sha_spread.f
  rw [if_pos h0, if_pos hz, h1, h2, h3]
  rfl
theorem spr1 (a : Int) : sha_spread.f a 17 19 (-10) = some (spr a 17 19 (-10)) := spr_some a (neg_some a (of_decide_eq_true (by kernel_rfl)) (by decide) (turn_some a (of_decide_eq_true (by kernel_rfl)) (of_decide_eq_true (by kernel_rfl))) (turn_some a (of_decide_eq_true (by kernel_rfl)) (of_decide_eq_true (by kernel_rfl))))
theorem spr2 (a : Int) : sha_spread.f a 7 18 (-3) = some (spr a 7 18 (-3)) := spr_some a (neg_some a (of_decide_eq_true (by kernel_rfl)) (by decide) (turn_some a (of_decide_eq_true (by kernel_rfl)) (of_decide_eq_true (by kernel_rfl))) (turn_some a (of_decide_eq_true (by kernel_rfl)) (of_decide_eq_true (by kernel_rfl))))
theorem spr3 (a : Int) : sha_spread.f a 6 11 25 = some (spr a 6 11 25) := spr_some a (pos_some a (of_decide_eq_true (by kernel_rfl)) (by decide) (turn_some a (of_decide_eq_true (by kernel_rfl)) (of_decide_eq_true (by kernel_rfl))) (turn_some a (of_decide_eq_true (by kernel_rfl)) (of_decide_eq_true (by kernel_rfl))) (turn_some a (of_decide_eq_true (by kernel_rfl)) (of_decide_eq_true (by kernel_rfl))))
theorem spr4 (a : Int) : sha_spread.f a 2 13 22 = some (spr a 2 13 22) := spr_some a (pos_some a (of_decide_eq_true (by kernel_rfl)) (by decide) (turn_some a (of_decide_eq_true (by kernel_rfl)) (of_decide_eq_true (by kernel_rfl))) (turn_some a (of_decide_eq_true (by kernel_rfl)) (of_decide_eq_true (by kernel_rfl))) (turn_some a (of_decide_eq_true (by kernel_rfl)) (of_decide_eq_true (by kernel_rfl))))
/-- The next word of a schedule. -/
def nextW (l : List Int) : Int := IntKind.u32.wrap (IntKind.u32.wrap (IntKind.u32.wrap (spr (l.getD (l.length - 2) 0) 17 19 (-10) + l.getD (l.length - 7) 0) + spr (l.getD (l.length - 15) 0) 7 18 (-3)) + l.getD (l.length - 16) 0)
def grow : Nat → List Int → List Int
  | 0, l => l
  | n + 1, l => grow n (l ++ [nextW l])
theorem grow_length : ∀ (n : Nat) (l : List Int), (grow n l).length = l.length + n
  | 0, l => rfl
  | n + 1, l => by rw [grow, grow_length]; simp; omega
theorem grow_snoc : ∀ (n : Nat) (l : List Int), grow (n + 1) l = grow n l ++ [nextW (grow n l)]
  | 0, l => rfl
  | n + 1, l => by rw [grow, grow_snoc n]; rfl
/-- The first words: four bytes each. -/
def first (b : List Int) (n : Nat) : List Int := (List.range n).map fun i => ((num ((b.take (4 * i + 4)).drop (4 * i)) : Nat) : Int)
theorem first_length (b : List Int) (n : Nat) : (first b n).length = n := by simp [first]
theorem first_succ (b : List Int) (n : Nat) : first b (n + 1) = first b n ++ [((num ((b.take (4 * n + 4)).drop (4 * n)) : Nat) : Int)] := by unfold first; rw [List.range_succ, List.map_append]; rfl
def sched (b : List Int) : List Int := grow 48 (first b 16)
theorem num_fold : ∀ (b : List Int) (v : Nat), Bytes b → b.foldl (fun (v : Nat) (x : Int) => v * 256 + x.toNat) v < (v + 1) * 256 ^ b.length
  | [], v, _ => by simp
  | x :: b, v, h => by
    have h1 := num_fold b (v * 256 + x.toNat) fun y hy => h y (List.mem_cons_of_mem _ hy)
    have h2 := h x (List.mem_cons_self ..)
    rw [List.foldl_cons, List.length_cons, Nat.pow_succ, Nat.mul_comm (256 ^ b.length) 256, ← Nat.mul_assoc]
    exact Nat.lt_of_lt_of_le h1 (Nat.mul_le_mul_right _ (by omega))
theorem num_lt {b : List Int} (h : Bytes b) : num b < 256 ^ b.length := by
  have := num_fold b 0 h
  rwa [Nat.zero_add, Nat.one_mul] at this
end Go.Proofs.YtbkocnclaobabaaDoor.ShaM
