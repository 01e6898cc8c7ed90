/- A fixed array of words that lies in a block of its own: what is read of it, and what a cell's being written leaves. No condition. -/
import Derived.Test.YtbkocnclaobabaaDoorShaM
import Derived.Test.YtbkocnclaobabaaDoorLibs
import Derived.Laws.Rows
import Derived.Laws.Tables
import Derived.Deep.RegionHeld3
import Derived.Deep.MidRow
namespace Go.Proofs.YtbkocnclaobabaaDoor.Arr
set_option linter.unusedVariables false
open Go Go.RowKit Go.Proofs.YtbkocnclaobabaaDoor.Nums Go.Proofs.YtbkocnclaobabaaDoor.Libs Go.Proofs.YtbkocnclaobabaaDoorW.PrintWords Go.Proofs.YtbkocnclaobabaaDoorW.PrintLast Go.Proofs.YtbkocnclaobabaaDoorW.PrintMore
/-- Words, as they lie in a block. -/
def At (w : World) (g t : Nat) (l : List Int) : Prop := w.heap[g]? = some (.cells (nums .u32 l).toArray t (0, 0))
theorem At.cell {w : World} {g t : Nat} {l : List Int} (h : At w g t l) (j : Nat) (hj : j < l.length) : w.cell? ⟨g, j, none⟩ = some (.int .u32 (l.getD j 0)) := by
  rw [blk_cell h, List.getElem?_toArray, List.getD_eq_getElem?_getD, List.getElem?_eq_getElem hj]
  unfold nums
  rw [List.getElem?_map, List.getElem?_eq_getElem hj]
  rfl
theorem At.frozen {w : World} {g t : Nat} {l : List Int} (h : At w g t l) (j : Nat) : w.frozen? ⟨g, j, none⟩ = false := blk_frozen h j
theorem At.set {w : World} {g t : Nat} {l : List Int} (h : At w g t l) (j : Nat) (x : Int) : At (w.setCell ⟨g, j, none⟩ (.int .u32 x)) g t (l.set j x) := by
  unfold At
  rw [blk_set h]
  unfold nums
  rw [List.setIfInBounds_toArray, List.map_set]
theorem At.lt {w : World} {g t : Nat} {l : List Int} (h : At w g t l) : g < w.heap.size := (Array.getElem?_eq_some_iff.1 h).1
theorem At.move {w w' : World} {g t : Nat} {l : List Int} (h : At w g t l) (hb : w'.heap[g]? = w.heap[g]?) : At w' g t l := by unfold At; rw [hb]; exact h
theorem At.below {w w' : World} {g t : Nat} {l : List Int} (h : At w g t l) (hb : Below w.heap.size w w') : At w' g t l := h.move (hb.block g h.lt)
theorem nums_all (l : List Int) : (nums .u32 l).toArray.all (·.oneCell') = true := by
  rw [Array.all_eq_true_iff_forall_mem]
  intro u hu
  have hu' : u ∈ nums .u32 l := by simpa using hu
  obtain ⟨x, _, rfl⟩ := List.mem_map.1 hu'
  rfl
theorem set_next (l zs : List Int) (x z : Int) : (l ++ z :: zs).set l.length x = (l ++ [x]) ++ zs := by rw [List.set_append_right _ _ (Nat.le_refl _)]; simp
theorem getD_left (l zs : List Int) (j : Nat) (hj : j < l.length) : (l ++ zs).getD j 0 = l.getD j 0 := by
  rw [List.getD_eq_getElem?_getD, List.getD_eq_getElem?_getD, List.getElem?_append_left hj]
theorem info48 : (Tryd.prog.info? 48).map (·.size) = some 8 := by kernel_rfl
theorem info58 : (Tryd.prog.info? 58).map (·.size) = some 64 := by kernel_rfl
theorem info25 : (Tryd.prog.info? 25).map (·.size) = some 32 := by kernel_rfl
end Go.Proofs.YtbkocnclaobabaaDoor.Arr
