/- begin and New, walked: a Hash of nothing yet. No condition. -/
import Derived.Test.YtbkocnclaobabaaDoorSchedW
namespace Go.Proofs.YtbkocnclaobabaaDoor.NewW
set_option linter.unusedVariables false
set_option linter.unusedSimpArgs false
open Go.RowKit Go.Proofs.YtbkocnclaobabaaDoor.Nums Go.Proofs.YtbkocnclaobabaaDoor.Libs Go.Proofs.YtbkocnclaobabaaDoor.ShaM Go.Proofs.YtbkocnclaobabaaDoor.Arr Go.Proofs.YtbkocnclaobabaaDoorW.PrintWords Go.Proofs.YtbkocnclaobabaaDoorW.PrintLast Go.Proofs.YtbkocnclaobabaaDoorW.PrintMore
/-- The words that a digest begins with. -/
def H0 : List Int := [1779033703, 3144134277, 1013904242, 2773480762, 1359893119, 2600822924, 528734635, 1541459225]
set_option maxHeartbeats 1000000 in
set_option maxRecDepth 100000 in
theorem begin_calls (W : World) : Calls Tryd.prog 18 #[] W fun e w' => e = .returned (.agg (nums .u32 H0).toArray) ∧ Below W.heap.size W w' := by
  have IL : Aside0 ((Tryd.prog.info? 48).map (·.size) = some (nums .u32 H0).toArray.size) := ⟨info48⟩
  go_enter Tryd.func18, Tryd.ntmps18
  go_wp2_with fail
  exact bodyPost_ret (v := .agg (nums .u32 H0).toArray) (results_cell_row rfl _ _ W.heap.size 48 (nums .u32 H0).toArray (0, 0) (.array 8 42) rfl (blk_new W _) Tryd.underlying48 rfl IL.out) rfl ⟨rfl, below_alloc (Below.refl _ _) _⟩
/-- A Hash, as it lies. -/
def HashAt (w : World) (g : Nat) (now : List Int) (v : Value) (n : Int) : Prop := w.heap[g]? = some (.cells (nums .u32 now ++ [v, .int .i64 n]).toArray 51 (0, 0))
set_option maxHeartbeats 1000000 in
set_option maxRecDepth 100000 in
theorem new_calls (W : World) : Calls Tryd.prog 11 #[] W fun e w' => ∃ g, W.heap.size ≤ g ∧ e = .returned (.pointer (some ⟨g, 0, none⟩)) ∧ HashAt w' g H0 (.slice none 0 0) 0 ∧ Below W.heap.size W w' := by
  go_enter Tryd.func11, Tryd.ntmps11
  go_wp2_with fail
  (with_reducible refine (begin_calls _).mono ?_)
  rintro e w1 ⟨rfl, hb1⟩
  have B1 := Aside0.mk hb1
  clear hb1
  go_wp2_with fail
  go_ret
  exact ⟨w1.heap.size, B1.out.size, rfl, blk_new w1 _, below_alloc B1.out _⟩
end Go.Proofs.YtbkocnclaobabaaDoor.NewW
