/- The reference's words are the program's: plain Lean. No condition. -/
import Derived.Test.YtbkocnclaobabaaDoorAwakeW
namespace Go.Proofs.YtbkocnclaobabaaDoor.RefM
set_option linter.unusedVariables false
set_option linter.unusedSimpArgs false
open Go Go.RowKit Go.Proofs.YtbkocnclaobabaaDoor.PAll Go.Proofs.YtbkocnclaobabaaDoor.ShaM Go.Proofs.YtbkocnclaobabaaDoor.Nums Go.Proofs.YtbkocnclaobabaaDoor.PutM Go.Proofs.YtbkocnclaobabaaDoorW.PrintWords Go.Proofs.YtbkocnclaobabaaDoorW.PrintLast Go.Proofs.YtbkocnclaobabaaDoorW.PrintMore
/-- A word turned to the right. -/
def rt (a n : Int) : Int := Go.bits .or .u32 (shr .u32 a n) (shl .u32 a (32 - n))
theorem orc (a b : Int) : Go.bits .or .u32 a b = Go.bits .or .u32 b a := by
  unfold Go.bits
  simp only [BitVec.or_comm]
theorem rt_turn (a : Int) (n : Int) (h : n = 2 ∨ n = 6 ∨ n = 7 ∨ n = 11 ∨ n = 13 ∨ n = 17 ∨ n = 18 ∨ n = 19 ∨ n = 22 ∨ n = 25) : chartularyref03_turn.f a n = some (rt a n) := by
  rcases h with rfl | rfl | rfl | rfl | rfl | rfl | rfl | rfl | rfl | rfl <;> kernel_rfl
theorem sprN (a : Int) : spr a 17 19 (-10) = Go.bits .xor .u32 (Go.bits .xor .u32 (rt a 17) (rt a 19)) (shr .u32 a 10) := by
  have : sha_spread.f a 17 19 (-10) = some (Go.bits .xor .u32 (Go.bits .xor .u32 (Go.bits .or .u32 (shl .u32 a 15) (shr .u32 a 17)) (Go.bits .or .u32 (shl .u32 a 13) (shr .u32 a 19))) (shr .u32 a 10)) := by kernel_rfl
  unfold spr rt
  rw [this, orc (shl .u32 a 15), orc (shl .u32 a 13)]; rfl
theorem sprM (a : Int) : spr a 7 18 (-3) = Go.bits .xor .u32 (Go.bits .xor .u32 (rt a 7) (rt a 18)) (shr .u32 a 3) := by
  have : sha_spread.f a 7 18 (-3) = some (Go.bits .xor .u32 (Go.bits .xor .u32 (Go.bits .or .u32 (shl .u32 a 25) (shr .u32 a 7)) (Go.bits .or .u32 (shl .u32 a 14) (shr .u32 a 18))) (shr .u32 a 3)) := by kernel_rfl
  unfold spr rt
  rw [this, orc (shl .u32 a 25), orc (shl .u32 a 14)]; rfl
theorem spr6 (a : Int) : spr a 6 11 25 = Go.bits .xor .u32 (Go.bits .xor .u32 (rt a 6) (rt a 11)) (rt a 25) := by
  have : sha_spread.f a 6 11 25 = some (Go.bits .xor .u32 (Go.bits .xor .u32 (Go.bits .or .u32 (shl .u32 a 26) (shr .u32 a 6)) (Go.bits .or .u32 (shl .u32 a 21) (shr .u32 a 11))) (Go.bits .or .u32 (shl .u32 a 7) (shr .u32 a 25))) := by kernel_rfl
  unfold spr rt
  rw [this, orc (shl .u32 a 26), orc (shl .u32 a 21), orc (shl .u32 a 7)]; rfl
theorem spr2 (a : Int) : spr a 2 13 22 = Go.bits .xor .u32 (Go.bits .xor .u32 (rt a 2) (rt a 13)) (rt a 22) := by
  have : sha_spread.f a 2 13 22 = some (Go.bits .xor .u32 (Go.bits .xor .u32 (Go.bits .or .u32 (shl .u32 a 30) (shr .u32 a 2)) (Go.bits .or .u32 (shl .u32 a 19) (shr .u32 a 13))) (Go.bits .or .u32 (shl .u32 a 10) (shr .u32 a 22))) := by kernel_rfl
  unfold spr rt
  rw [this, orc (shl .u32 a 30), orc (shl .u32 a 19), orc (shl .u32 a 10)]; rfl
/-- The next word, as the reference has it. -/
theorem next_ref (l : List Int) : nextW l = IntKind.u32.wrap (IntKind.u32.wrap (IntKind.u32.wrap (l.getD (l.length - 16) 0 + Go.bits .xor .u32 (Go.bits .xor .u32 (rt (l.getD (l.length - 15) 0) 7) (rt (l.getD (l.length - 15) 0) 18)) (shr .u32 (l.getD (l.length - 15) 0) 3)) + l.getD (l.length - 7) 0) + Go.bits .xor .u32 (Go.bits .xor .u32 (rt (l.getD (l.length - 2) 0) 17) (rt (l.getD (l.length - 2) 0) 19)) (shr .u32 (l.getD (l.length - 2) 0) 10)) := by
  unfold nextW
  rw [← sprN, ← sprM]
  simp only [wu32]
  omega
/-- Four bytes as a word. -/
theorem num4 (x0 x1 x2 x3 : Int) : num [x0, x1, x2, x3] = ((x0.toNat * 256 + x1.toNat) * 256 + x2.toNat) * 256 + x3.toNat := by
  simp [num]
end Go.Proofs.YtbkocnclaobabaaDoor.RefM
