/- The reference's reader, walked: digests. No condition. -/
import Derived.Test.YtnfajlnpmndkdaaRefX
import Derived.Outline
namespace Go.Proofs.Ytnfajlnpmndkdaa.RefD
set_option linter.unusedVariables false
set_option linter.unusedSimpArgs false
open Go.RowKit Go.Proofs.Ytnfajlnpmndkdaa.Nums Go.Proofs.Ytnfajlnpmndkdaa.PackM Go.Proofs.Ytnfajlnpmndkdaa.TurnM Go.Proofs.Ytnfajlnpmndkdaa.Libs Go.Proofs.Ytnfajlnpmndkdaa.StrW Go.Proofs.Ytnfajlnpmndkdaa.WriteW Go.Proofs.Ytnfajlnpmndkdaa.ReadW Go.Proofs.Ytnfajlnpmndkdaa.ReadX Go.Proofs.Ytnfajlnpmndkdaa.DigW Go.Proofs.Ytnfajlnpmndkdaa.RefW Go.Proofs.Ytnfajlnpmndkdaa.RefX Go.Proofs.YtnfajlnpmndkdaaW.PrintWords Go.Proofs.YtnfajlnpmndkdaaW.PrintLast Go.Proofs.YtnfajlnpmndkdaaW.PrintMore
theorem infoL : (Try.prog.info? 41).map (·.size) = some (#[Value.int .u8 0, Value.int .u8 0, Value.int .u8 0, Value.int .u8 0, Value.int .u8 0, Value.int .u8 0, Value.int .u8 0, Value.int .u8 0, Value.int .u8 0, Value.int .u8 0, Value.int .u8 0, Value.int .u8 0, Value.int .u8 0, Value.int .u8 0, Value.int .u8 0, Value.int .u8 0, Value.int .u8 0, Value.int .u8 0, Value.int .u8 0, Value.int .u8 0, Value.int .u8 0, Value.int .u8 0, Value.int .u8 0, Value.int .u8 0, Value.int .u8 0, Value.int .u8 0, Value.int .u8 0, Value.int .u8 0, Value.int .u8 0, Value.int .u8 0, Value.int .u8 0, Value.int .u8 0] : Array Value).size := info41
/-- So many bytes of a text, and noughts. -/
def sof (l : List Int) (i : Nat) : List Int := l.take i ++ List.replicate (32 - i) 0
theorem sof_length {l : List Int} {i : Nat} (hl : 32 ≤ l.length) (hi : i ≤ 32) : (sof l i).length = 32 := by unfold sof; simp; omega
theorem sof_step {l : List Int} {i : Nat} (hl : 32 ≤ l.length) (hi : i < 32) : (sof l i).set i (rd l (i : Int)) = sof l (i + 1) := by
  unfold sof
  have hr : List.replicate (32 - i) (0 : Int) = 0 :: List.replicate (32 - (i + 1)) 0 := by rw [show 32 - i = (32 - (i + 1)) + 1 by omega, List.replicate_succ]
  rw [hr, PackM.take_succ (by omega)]
  have hlen : (l.take i).length = i := by rw [List.length_take]; omega
  rw [List.set_append_right _ _ (by omega), hlen, Nat.sub_self, List.set_cons_zero, List.append_assoc]
  rfl
theorem sof_set {l : List Int} {i : Nat} (hl : 32 ≤ l.length) (hi : i < 32) : (nums .u8 (sof l i)).toArray.setIfInBounds i (.int .u8 (rd l (i : Int))) = (nums .u8 (sof l (i + 1))).toArray := by
  rw [← sof_step hl hi]
  unfold nums
  rw [List.setIfInBounds_toArray, List.map_set]
theorem fin_ {w w4 : World} {g : Nat} {l' : List Int} {e' : Int} (hlt : g < w.heap.size) (hR : RRd w4 g l' e') (hg : w.grownBy w4 (some g)) (D : Array Value) : RRd (w4.setRow w.heap.size D) g l' e' ∧ w.grownBy (w4.setRow w.heap.size D) (some g) := by
  have hoth : ∀ k, k ≠ w.heap.size → (w4.setRow w.heap.size D).heap[k]? = w4.heap[k]? := fun k hk => setRow_other w4 w.heap.size k _ hk
  exact ⟨(hoth g (by omega)).trans hR, hg.os, hg.tape, hg.output, by have := hg.size; simp [World.setRow]; omega, fun k hk hn => (hoth k (by omega)).trans (hg.block k hk hn)⟩
def RelD (W2 : World) (l : List Int) (B g3 : Nat) (v4 : Value) (wr : World) : Prop :=
  ∃ i : Nat, i ≤ 32 ∧ v4 = .int .i64 (i : Int) ∧ Aside0 (wr.heap[g3]? = some (.cells (nums .u8 (sof l i)).toArray 41 (0, 0))) ∧ Aside0 (Below B W2 wr)
set_option maxHeartbeats 4000000 in
set_option maxRecDepth 100000 in
theorem rdigR_calls (g : Nat) (l : List Int) (e : Int) (w : World) (hR : RRd w g l e) (hB : Bytes l) (hl : l.length ≤ 140737488355328) :
    Calls Try.prog 31 #[.pointer (some ⟨g, 0, none⟩)] w fun x w' => x = .returned (digV (digR l e)) ∧ RRd w' g (takeR 32 l e).2.1 (takeR 32 l e).2.2 ∧ w.grownBy w' (some g) := by
  have HR := Aside0.mk hR
  have hlt := heap_lt hR
  have HLT := Aside0.mk hlt
  have HL := Aside0.mk hl
  have HB := Aside0.mk hB
  clear hR hlt hl hB
  have hdd : digR l e = if (takeR 32 l e).1 = [] then zero32 else (takeR 32 l e).1 := rfl
  have HD := Aside0.mk hdd
  clear hdd
  have hsz := strN_size l
  have halloc : ∀ (w : World) (o : Obj), (w.alloc o).heap.size = w.heap.size + 1 := fun w o => by show (w.heap.push o).size = _; simp
  have hAlloc := Aside0.mk halloc
  clear halloc
  go_enter Try.func31, Try.ntmps31
  go_upto_region 1 with (fail)
  have hb1 := blk_new w (Obj.cells #[Value.int .u8 0, Value.int .u8 0, Value.int .u8 0, Value.int .u8 0, Value.int .u8 0, Value.int .u8 0, Value.int .u8 0, Value.int .u8 0, Value.int .u8 0, Value.int .u8 0, Value.int .u8 0, Value.int .u8 0, Value.int .u8 0, Value.int .u8 0, Value.int .u8 0, Value.int .u8 0, Value.int .u8 0, Value.int .u8 0, Value.int .u8 0, Value.int .u8 0, Value.int .u8 0, Value.int .u8 0, Value.int .u8 0, Value.int .u8 0, Value.int .u8 0, Value.int .u8 0, Value.int .u8 0, Value.int .u8 0, Value.int .u8 0, Value.int .u8 0, Value.int .u8 0, Value.int .u8 0] 41)
  have hbl1 : Below w.heap.size w (w.alloc (Obj.cells #[Value.int .u8 0, Value.int .u8 0, Value.int .u8 0, Value.int .u8 0, Value.int .u8 0, Value.int .u8 0, Value.int .u8 0, Value.int .u8 0, Value.int .u8 0, Value.int .u8 0, Value.int .u8 0, Value.int .u8 0, Value.int .u8 0, Value.int .u8 0, Value.int .u8 0, Value.int .u8 0, Value.int .u8 0, Value.int .u8 0, Value.int .u8 0, Value.int .u8 0, Value.int .u8 0, Value.int .u8 0, Value.int .u8 0, Value.int .u8 0, Value.int .u8 0, Value.int .u8 0, Value.int .u8 0, Value.int .u8 0, Value.int .u8 0, Value.int .u8 0, Value.int .u8 0, Value.int .u8 0] 41)) := below_alloc (Below.refl _ _) _
  have hs1 := hAlloc.out w (Obj.cells #[Value.int .u8 0, Value.int .u8 0, Value.int .u8 0, Value.int .u8 0, Value.int .u8 0, Value.int .u8 0, Value.int .u8 0, Value.int .u8 0, Value.int .u8 0, Value.int .u8 0, Value.int .u8 0, Value.int .u8 0, Value.int .u8 0, Value.int .u8 0, Value.int .u8 0, Value.int .u8 0, Value.int .u8 0, Value.int .u8 0, Value.int .u8 0, Value.int .u8 0, Value.int .u8 0, Value.int .u8 0, Value.int .u8 0, Value.int .u8 0, Value.int .u8 0, Value.int .u8 0, Value.int .u8 0, Value.int .u8 0, Value.int .u8 0, Value.int .u8 0, Value.int .u8 0, Value.int .u8 0] 41)
  generalize hW : w.alloc (Obj.cells #[Value.int .u8 0, Value.int .u8 0, Value.int .u8 0, Value.int .u8 0, Value.int .u8 0, Value.int .u8 0, Value.int .u8 0, Value.int .u8 0, Value.int .u8 0, Value.int .u8 0, Value.int .u8 0, Value.int .u8 0, Value.int .u8 0, Value.int .u8 0, Value.int .u8 0, Value.int .u8 0, Value.int .u8 0, Value.int .u8 0, Value.int .u8 0, Value.int .u8 0, Value.int .u8 0, Value.int .u8 0, Value.int .u8 0, Value.int .u8 0, Value.int .u8 0, Value.int .u8 0, Value.int .u8 0, Value.int .u8 0, Value.int .u8 0, Value.int .u8 0, Value.int .u8 0, Value.int .u8 0] 41) = W1 at *
  have hb2 := blk_new W1 (Obj.cells #[Value.int .u8 0, Value.int .u8 0, Value.int .u8 0, Value.int .u8 0, Value.int .u8 0, Value.int .u8 0, Value.int .u8 0, Value.int .u8 0, Value.int .u8 0, Value.int .u8 0, Value.int .u8 0, Value.int .u8 0, Value.int .u8 0, Value.int .u8 0, Value.int .u8 0, Value.int .u8 0, Value.int .u8 0, Value.int .u8 0, Value.int .u8 0, Value.int .u8 0, Value.int .u8 0, Value.int .u8 0, Value.int .u8 0, Value.int .u8 0, Value.int .u8 0, Value.int .u8 0, Value.int .u8 0, Value.int .u8 0, Value.int .u8 0, Value.int .u8 0, Value.int .u8 0, Value.int .u8 0] 41)
  have hbl2 : Below W1.heap.size W1 (W1.alloc (Obj.cells #[Value.int .u8 0, Value.int .u8 0, Value.int .u8 0, Value.int .u8 0, Value.int .u8 0, Value.int .u8 0, Value.int .u8 0, Value.int .u8 0, Value.int .u8 0, Value.int .u8 0, Value.int .u8 0, Value.int .u8 0, Value.int .u8 0, Value.int .u8 0, Value.int .u8 0, Value.int .u8 0, Value.int .u8 0, Value.int .u8 0, Value.int .u8 0, Value.int .u8 0, Value.int .u8 0, Value.int .u8 0, Value.int .u8 0, Value.int .u8 0, Value.int .u8 0, Value.int .u8 0, Value.int .u8 0, Value.int .u8 0, Value.int .u8 0, Value.int .u8 0, Value.int .u8 0, Value.int .u8 0] 41)) := below_alloc (Below.refl _ _) _
  have hs2 := hAlloc.out W1 (Obj.cells #[Value.int .u8 0, Value.int .u8 0, Value.int .u8 0, Value.int .u8 0, Value.int .u8 0, Value.int .u8 0, Value.int .u8 0, Value.int .u8 0, Value.int .u8 0, Value.int .u8 0, Value.int .u8 0, Value.int .u8 0, Value.int .u8 0, Value.int .u8 0, Value.int .u8 0, Value.int .u8 0, Value.int .u8 0, Value.int .u8 0, Value.int .u8 0, Value.int .u8 0, Value.int .u8 0, Value.int .u8 0, Value.int .u8 0, Value.int .u8 0, Value.int .u8 0, Value.int .u8 0, Value.int .u8 0, Value.int .u8 0, Value.int .u8 0, Value.int .u8 0, Value.int .u8 0, Value.int .u8 0] 41)
  have HS1 := Aside0.mk hs1
  have HS2 := Aside0.mk hs2
  clear hW hs1 hs2
  go_upto_region 2 with (with_reducible refine wpList_store_row rfl 41 (.tmp 3) (.tmp 5) rfl W1.heap.size #[Value.int .u8 0, Value.int .u8 0, Value.int .u8 0, Value.int .u8 0, Value.int .u8 0, Value.int .u8 0, Value.int .u8 0, Value.int .u8 0, Value.int .u8 0, Value.int .u8 0, Value.int .u8 0, Value.int .u8 0, Value.int .u8 0, Value.int .u8 0, Value.int .u8 0, Value.int .u8 0, Value.int .u8 0, Value.int .u8 0, Value.int .u8 0, Value.int .u8 0, Value.int .u8 0, Value.int .u8 0, Value.int .u8 0, Value.int .u8 0, Value.int .u8 0, Value.int .u8 0, Value.int .u8 0, Value.int .u8 0, Value.int .u8 0, Value.int .u8 0, Value.int .u8 0, Value.int .u8 0] rfl rfl 41 #[Value.int .u8 0, Value.int .u8 0, Value.int .u8 0, Value.int .u8 0, Value.int .u8 0, Value.int .u8 0, Value.int .u8 0, Value.int .u8 0, Value.int .u8 0, Value.int .u8 0, Value.int .u8 0, Value.int .u8 0, Value.int .u8 0, Value.int .u8 0, Value.int .u8 0, Value.int .u8 0, Value.int .u8 0, Value.int .u8 0, Value.int .u8 0, Value.int .u8 0, Value.int .u8 0, Value.int .u8 0, Value.int .u8 0, Value.int .u8 0, Value.int .u8 0, Value.int .u8 0, Value.int .u8 0, Value.int .u8 0, Value.int .u8 0, Value.int .u8 0, Value.int .u8 0, Value.int .u8 0] hb2 infoL rfl (by decide +kernel) ?_)
  have hb3 := setRow_heap (W1.alloc (Obj.cells #[Value.int .u8 0, Value.int .u8 0, Value.int .u8 0, Value.int .u8 0, Value.int .u8 0, Value.int .u8 0, Value.int .u8 0, Value.int .u8 0, Value.int .u8 0, Value.int .u8 0, Value.int .u8 0, Value.int .u8 0, Value.int .u8 0, Value.int .u8 0, Value.int .u8 0, Value.int .u8 0, Value.int .u8 0, Value.int .u8 0, Value.int .u8 0, Value.int .u8 0, Value.int .u8 0, Value.int .u8 0, Value.int .u8 0, Value.int .u8 0, Value.int .u8 0, Value.int .u8 0, Value.int .u8 0, Value.int .u8 0, Value.int .u8 0, Value.int .u8 0, Value.int .u8 0, Value.int .u8 0] 41)) W1.heap.size #[Value.int .u8 0, Value.int .u8 0, Value.int .u8 0, Value.int .u8 0, Value.int .u8 0, Value.int .u8 0, Value.int .u8 0, Value.int .u8 0, Value.int .u8 0, Value.int .u8 0, Value.int .u8 0, Value.int .u8 0, Value.int .u8 0, Value.int .u8 0, Value.int .u8 0, Value.int .u8 0, Value.int .u8 0, Value.int .u8 0, Value.int .u8 0, Value.int .u8 0, Value.int .u8 0, Value.int .u8 0, Value.int .u8 0, Value.int .u8 0, Value.int .u8 0, Value.int .u8 0, Value.int .u8 0, Value.int .u8 0, Value.int .u8 0, Value.int .u8 0, Value.int .u8 0, Value.int .u8 0] #[Value.int .u8 0, Value.int .u8 0, Value.int .u8 0, Value.int .u8 0, Value.int .u8 0, Value.int .u8 0, Value.int .u8 0, Value.int .u8 0, Value.int .u8 0, Value.int .u8 0, Value.int .u8 0, Value.int .u8 0, Value.int .u8 0, Value.int .u8 0, Value.int .u8 0, Value.int .u8 0, Value.int .u8 0, Value.int .u8 0, Value.int .u8 0, Value.int .u8 0, Value.int .u8 0, Value.int .u8 0, Value.int .u8 0, Value.int .u8 0, Value.int .u8 0, Value.int .u8 0, Value.int .u8 0, Value.int .u8 0, Value.int .u8 0, Value.int .u8 0, Value.int .u8 0, Value.int .u8 0] 41 (0, 0) hb2
  have ho3 : ∀ k, k < W1.heap.size → ((W1.alloc (Obj.cells #[Value.int .u8 0, Value.int .u8 0, Value.int .u8 0, Value.int .u8 0, Value.int .u8 0, Value.int .u8 0, Value.int .u8 0, Value.int .u8 0, Value.int .u8 0, Value.int .u8 0, Value.int .u8 0, Value.int .u8 0, Value.int .u8 0, Value.int .u8 0, Value.int .u8 0, Value.int .u8 0, Value.int .u8 0, Value.int .u8 0, Value.int .u8 0, Value.int .u8 0, Value.int .u8 0, Value.int .u8 0, Value.int .u8 0, Value.int .u8 0, Value.int .u8 0, Value.int .u8 0, Value.int .u8 0, Value.int .u8 0, Value.int .u8 0, Value.int .u8 0, Value.int .u8 0, Value.int .u8 0] 41)).setRow W1.heap.size #[Value.int .u8 0, Value.int .u8 0, Value.int .u8 0, Value.int .u8 0, Value.int .u8 0, Value.int .u8 0, Value.int .u8 0, Value.int .u8 0, Value.int .u8 0, Value.int .u8 0, Value.int .u8 0, Value.int .u8 0, Value.int .u8 0, Value.int .u8 0, Value.int .u8 0, Value.int .u8 0, Value.int .u8 0, Value.int .u8 0, Value.int .u8 0, Value.int .u8 0, Value.int .u8 0, Value.int .u8 0, Value.int .u8 0, Value.int .u8 0, Value.int .u8 0, Value.int .u8 0, Value.int .u8 0, Value.int .u8 0, Value.int .u8 0, Value.int .u8 0, Value.int .u8 0, Value.int .u8 0]).heap[k]? = W1.heap[k]? := fun k hk => (setRow_other _ W1.heap.size k _ (by omega)).trans (hbl2.block k hk)
  have hsz3 : ((W1.alloc (Obj.cells #[Value.int .u8 0, Value.int .u8 0, Value.int .u8 0, Value.int .u8 0, Value.int .u8 0, Value.int .u8 0, Value.int .u8 0, Value.int .u8 0, Value.int .u8 0, Value.int .u8 0, Value.int .u8 0, Value.int .u8 0, Value.int .u8 0, Value.int .u8 0, Value.int .u8 0, Value.int .u8 0, Value.int .u8 0, Value.int .u8 0, Value.int .u8 0, Value.int .u8 0, Value.int .u8 0, Value.int .u8 0, Value.int .u8 0, Value.int .u8 0, Value.int .u8 0, Value.int .u8 0, Value.int .u8 0, Value.int .u8 0, Value.int .u8 0, Value.int .u8 0, Value.int .u8 0, Value.int .u8 0] 41)).setRow W1.heap.size #[Value.int .u8 0, Value.int .u8 0, Value.int .u8 0, Value.int .u8 0, Value.int .u8 0, Value.int .u8 0, Value.int .u8 0, Value.int .u8 0, Value.int .u8 0, Value.int .u8 0, Value.int .u8 0, Value.int .u8 0, Value.int .u8 0, Value.int .u8 0, Value.int .u8 0, Value.int .u8 0, Value.int .u8 0, Value.int .u8 0, Value.int .u8 0, Value.int .u8 0, Value.int .u8 0, Value.int .u8 0, Value.int .u8 0, Value.int .u8 0, Value.int .u8 0, Value.int .u8 0, Value.int .u8 0, Value.int .u8 0, Value.int .u8 0, Value.int .u8 0, Value.int .u8 0, Value.int .u8 0]).heap.size = W1.heap.size + 1 := by rw [← HS2.out]; simp [World.setRow]
  have hos : ((W1.alloc (Obj.cells #[Value.int .u8 0, Value.int .u8 0, Value.int .u8 0, Value.int .u8 0, Value.int .u8 0, Value.int .u8 0, Value.int .u8 0, Value.int .u8 0, Value.int .u8 0, Value.int .u8 0, Value.int .u8 0, Value.int .u8 0, Value.int .u8 0, Value.int .u8 0, Value.int .u8 0, Value.int .u8 0, Value.int .u8 0, Value.int .u8 0, Value.int .u8 0, Value.int .u8 0, Value.int .u8 0, Value.int .u8 0, Value.int .u8 0, Value.int .u8 0, Value.int .u8 0, Value.int .u8 0, Value.int .u8 0, Value.int .u8 0, Value.int .u8 0, Value.int .u8 0, Value.int .u8 0, Value.int .u8 0] 41)).setRow W1.heap.size #[Value.int .u8 0, Value.int .u8 0, Value.int .u8 0, Value.int .u8 0, Value.int .u8 0, Value.int .u8 0, Value.int .u8 0, Value.int .u8 0, Value.int .u8 0, Value.int .u8 0, Value.int .u8 0, Value.int .u8 0, Value.int .u8 0, Value.int .u8 0, Value.int .u8 0, Value.int .u8 0, Value.int .u8 0, Value.int .u8 0, Value.int .u8 0, Value.int .u8 0, Value.int .u8 0, Value.int .u8 0, Value.int .u8 0, Value.int .u8 0, Value.int .u8 0, Value.int .u8 0, Value.int .u8 0, Value.int .u8 0, Value.int .u8 0, Value.int .u8 0, Value.int .u8 0, Value.int .u8 0]).os = W1.os ∧ ((W1.alloc (Obj.cells #[Value.int .u8 0, Value.int .u8 0, Value.int .u8 0, Value.int .u8 0, Value.int .u8 0, Value.int .u8 0, Value.int .u8 0, Value.int .u8 0, Value.int .u8 0, Value.int .u8 0, Value.int .u8 0, Value.int .u8 0, Value.int .u8 0, Value.int .u8 0, Value.int .u8 0, Value.int .u8 0, Value.int .u8 0, Value.int .u8 0, Value.int .u8 0, Value.int .u8 0, Value.int .u8 0, Value.int .u8 0, Value.int .u8 0, Value.int .u8 0, Value.int .u8 0, Value.int .u8 0, Value.int .u8 0, Value.int .u8 0, Value.int .u8 0, Value.int .u8 0, Value.int .u8 0, Value.int .u8 0] 41)).setRow W1.heap.size #[Value.int .u8 0, Value.int .u8 0, Value.int .u8 0, Value.int .u8 0, Value.int .u8 0, Value.int .u8 0, Value.int .u8 0, Value.int .u8 0, Value.int .u8 0, Value.int .u8 0, Value.int .u8 0, Value.int .u8 0, Value.int .u8 0, Value.int .u8 0, Value.int .u8 0, Value.int .u8 0, Value.int .u8 0, Value.int .u8 0, Value.int .u8 0, Value.int .u8 0, Value.int .u8 0, Value.int .u8 0, Value.int .u8 0, Value.int .u8 0, Value.int .u8 0, Value.int .u8 0, Value.int .u8 0, Value.int .u8 0, Value.int .u8 0, Value.int .u8 0, Value.int .u8 0, Value.int .u8 0]).tape = W1.tape ∧ ((W1.alloc (Obj.cells #[Value.int .u8 0, Value.int .u8 0, Value.int .u8 0, Value.int .u8 0, Value.int .u8 0, Value.int .u8 0, Value.int .u8 0, Value.int .u8 0, Value.int .u8 0, Value.int .u8 0, Value.int .u8 0, Value.int .u8 0, Value.int .u8 0, Value.int .u8 0, Value.int .u8 0, Value.int .u8 0, Value.int .u8 0, Value.int .u8 0, Value.int .u8 0, Value.int .u8 0, Value.int .u8 0, Value.int .u8 0, Value.int .u8 0, Value.int .u8 0, Value.int .u8 0, Value.int .u8 0, Value.int .u8 0, Value.int .u8 0, Value.int .u8 0, Value.int .u8 0, Value.int .u8 0, Value.int .u8 0] 41)).setRow W1.heap.size #[Value.int .u8 0, Value.int .u8 0, Value.int .u8 0, Value.int .u8 0, Value.int .u8 0, Value.int .u8 0, Value.int .u8 0, Value.int .u8 0, Value.int .u8 0, Value.int .u8 0, Value.int .u8 0, Value.int .u8 0, Value.int .u8 0, Value.int .u8 0, Value.int .u8 0, Value.int .u8 0, Value.int .u8 0, Value.int .u8 0, Value.int .u8 0, Value.int .u8 0, Value.int .u8 0, Value.int .u8 0, Value.int .u8 0, Value.int .u8 0, Value.int .u8 0, Value.int .u8 0, Value.int .u8 0, Value.int .u8 0, Value.int .u8 0, Value.int .u8 0, Value.int .u8 0, Value.int .u8 0]).output = W1.output := ⟨rfl, rfl, rfl⟩
  generalize hW2 : (W1.alloc (Obj.cells #[Value.int .u8 0, Value.int .u8 0, Value.int .u8 0, Value.int .u8 0, Value.int .u8 0, Value.int .u8 0, Value.int .u8 0, Value.int .u8 0, Value.int .u8 0, Value.int .u8 0, Value.int .u8 0, Value.int .u8 0, Value.int .u8 0, Value.int .u8 0, Value.int .u8 0, Value.int .u8 0, Value.int .u8 0, Value.int .u8 0, Value.int .u8 0, Value.int .u8 0, Value.int .u8 0, Value.int .u8 0, Value.int .u8 0, Value.int .u8 0, Value.int .u8 0, Value.int .u8 0, Value.int .u8 0, Value.int .u8 0, Value.int .u8 0, Value.int .u8 0, Value.int .u8 0, Value.int .u8 0] 41)).setRow W1.heap.size #[Value.int .u8 0, Value.int .u8 0, Value.int .u8 0, Value.int .u8 0, Value.int .u8 0, Value.int .u8 0, Value.int .u8 0, Value.int .u8 0, Value.int .u8 0, Value.int .u8 0, Value.int .u8 0, Value.int .u8 0, Value.int .u8 0, Value.int .u8 0, Value.int .u8 0, Value.int .u8 0, Value.int .u8 0, Value.int .u8 0, Value.int .u8 0, Value.int .u8 0, Value.int .u8 0, Value.int .u8 0, Value.int .u8 0, Value.int .u8 0, Value.int .u8 0, Value.int .u8 0, Value.int .u8 0, Value.int .u8 0, Value.int .u8 0, Value.int .u8 0, Value.int .u8 0, Value.int .u8 0] = W2 at *
  have H3 : Aside0 (W2.heap[W1.heap.size]? = some (.cells (nums .u8 zero32).toArray 41 (0, 0))) := ⟨hb3⟩
  have H2 : Aside0 (W2.heap[w.heap.size]? = some (.cells (nums .u8 zero32).toArray 41 (0, 0))) := ⟨(ho3 _ (by rw [HS1.out]; omega)).trans hb1⟩
  have BW : Aside0 (Below w.heap.size w W2) := ⟨⟨hos.1.trans hbl1.os, hos.2.1.trans hbl1.tape, hos.2.2.trans hbl1.output, by rw [hsz3, HS1.out]; omega, fun k hk => (ho3 k (by rw [HS1.out]; omega)).trans (hbl1.block k hk)⟩⟩
  have HS := Aside0.mk hsz3
  have R2 : Aside0 (RRd W2 g l e) := ⟨HR.out.below BW.out⟩
  clear hW2 hb1 hb2 hb3 ho3 hsz3 hos hbl1 hbl2
  generalize hg3 : W1.heap.size = g3 at *
  have HG3 : Aside0 (g3 = w.heap.size + 1) := HS1
  clear hg3 HS2 HS1
  have c1 := rrd_s R2.out
  have c2 := rrd_e R2.out
  have hfr0 := blk_frozen R2.out 0
  have hfr1 := blk_frozen R2.out 1
  by_cases he : e = 0
  · subst he
    by_cases hlen : 32 ≤ l.length
    · have HT := Aside0.mk (takeR_ok (n := 32) (l := l) hlen)
      have HDD : Aside0 (digR l 0 = l.take 32) := ⟨by
        rw [HD.out, HT.out]
        have : ¬ (l.take 32 = []) := fun h => by have h2 := congrArg List.length h; rw [List.length_take, Nat.min_eq_left hlen] at h2; simp at h2
        rw [if_neg this]⟩
      have hnl : ¬ ((l.length : Int) < 32) := by omega
      clear c1 hfr0 hfr1 c2
      have c1 := rrd_s R2.out
      have c2 := rrd_e R2.out
      go_wp2_with fail
      go_loopw [4] (fun v4 wr => RelD W2 l (w.heap.size + 1) g3 v4 wr) (fun v4 _ => 32 - (intOf v4).toNat)
      case atStart => exact ⟨0, by omega, rfl, H3, ⟨Below.refl _ _⟩⟩
      case round =>
        obtain ⟨i, hi, rfl, HI, HBL⟩ := hrel
        have hlt' := HLT.out
        have RR : Aside0 (RRd wr g l 0) := ⟨(HBL.out.block g (by omega)).trans R2.out⟩
        have c3 := rrd_s RR.out
        clear hlt' c1 c2
        by_cases hlt : i < 32
        · have hx := idx_str HB.out i (by omega)
          have hfrI := blk_frozen HI.out i
          have hcI := dig_cell HI.out i (by rw [sof_length hlen hi]; exact hlt)
          have NX : Aside0 ((wr.setCell ⟨g3, i, none⟩ (.int .u8 (rd l (i : Int)))).heap[g3]? = some (.cells (nums .u8 (sof l (i + 1))).toArray 41 (0, 0))) := ⟨by rw [blk_set HI.out i _, sof_set hlen hlt]⟩
          have hg3' := HG3.out
          have NB : Aside0 (Below (w.heap.size + 1) W2 (wr.setCell ⟨g3, i, none⟩ (.int .u8 (rd l (i : Int))))) := ⟨HBL.out.setCell (by show w.heap.size + 1 ≤ g3; omega) _⟩
          clear hg3'
          go_wp2_with fail
          go_roundw
          case rel => exact ⟨i + 1, by omega, by go_num, NX, NB⟩
          case measure => simp [intOf]; omega
        · obtain rfl : i = 32 := by omega
          have hs32 : sof l 32 = l.take 32 := by unfold sof; simp
          have HI2 : Aside0 (wr.heap[g3]? = some (.cells (nums .u8 (l.take 32)).toArray 41 (0, 0))) := ⟨by rw [← hs32]; exact HI.out⟩
          have H5 : Aside0 (wr.heap[w.heap.size]? = some (.cells (nums .u8 zero32).toArray 41 (0, 0))) := ⟨(HBL.out.block _ (Nat.lt_succ_self _)).trans H2.out⟩
          have hc32 := cut_str l 32 hlen
          rw [show ((32 : Nat) : Int) = 32 from rfl] at hc32
          have hfr3 := blk_frozen RR.out 0
          have hg3' := HG3.out
          have hlt' := HLT.out
          have HI3 : Aside0 ((wr.setCell ⟨g, 0, none⟩ (.string (strOfNums (l.drop 32)))).heap[g3]? = some (.cells (nums .u8 (l.take 32)).toArray 41 (0, 0))) := ⟨(Below.heap_setCell _ _ _ _ (by show g3 ≠ g; omega)).trans HI2.out⟩
          have H6 : Aside0 ((wr.setCell ⟨g, 0, none⟩ (.string (strOfNums (l.drop 32)))).heap[w.heap.size]? = some (.cells (nums .u8 zero32).toArray 41 (0, 0))) := ⟨(Below.heap_setCell _ _ _ _ (by show w.heap.size ≠ g; omega)).trans H5.out⟩
          have GW : w.grownBy wr (some g) := ⟨HBL.out.os.trans BW.out.os, HBL.out.tape.trans BW.out.tape, HBL.out.output.trans BW.out.output, Nat.le_trans BW.out.size HBL.out.size, fun k hk _ => (HBL.out.block k (by omega)).trans (BW.out.block k hk)⟩
          have G6 := Aside0.mk (grown_trans GW (grown_set wr g 0 (.string (strOfNums (l.drop 32)))))
          clear GW
          have LL : Aside0 ((l.take 32).length = 32) := ⟨by rw [List.length_take]; omega⟩
          have ID := Aside0.mk (infoD LL.out)
          have SZ : Aside0 ((nums .u8 zero32).toArray.size = (nums .u8 (l.take 32)).toArray.size) := ⟨by simp [nums_length]; rw [← List.length_take, LL.out]; rfl⟩
          clear hs32 hg3' hlt'
          go_wp2_with (first
            | (with_reducible refine wpList_load_row rfl 41 (.tmp 3) rfl g3 rfl 41 (nums .u8 (l.take 32)).toArray (0, 0) (.array 32 5) HI3.out Try.underlying41 rfl ID.out ?_)
            | (with_reducible refine wpList_store_row rfl 41 (.tmp 2) (.tmp 48) rfl w.heap.size (nums .u8 (l.take 32)).toArray rfl rfl 41 _ H6.out ID.out SZ.out (digs_one _) ?_))
          rw [HDD.out, HT.out]
          refine bodyPost_ret (v := digV (l.take 32)) (results_cell_row rfl _ _ w.heap.size 41 _ (0, 0) (.array 32 5) rfl (setRow_heap _ _ _ _ _ _ H6.out) Try.underlying41 rfl ID.out) rfl ⟨rfl, ?_⟩
          exact fin_ HLT.out (rrd_setS RR.out _) G6.out _
    · have HT := Aside0.mk (takeR_short (n := 32) (l := l) hlen)
      have HDD : Aside0 (digR l 0 = zero32) := ⟨by rw [HD.out, HT.out, if_pos rfl]⟩
      have hnl : ((l.length : Int) < 32) := by omega
      have hg3' := HG3.out
      have hlt' := HLT.out
      have HI3 : Aside0 ((W2.setCell ⟨g, 1, none⟩ (.int .i64 3)).heap[g3]? = some (.cells (nums .u8 zero32).toArray 41 (0, 0))) := ⟨(Below.heap_setCell _ _ _ _ (by show g3 ≠ g; omega)).trans H3.out⟩
      have H6 : Aside0 ((W2.setCell ⟨g, 1, none⟩ (.int .i64 3)).heap[w.heap.size]? = some (.cells (nums .u8 zero32).toArray 41 (0, 0))) := ⟨(Below.heap_setCell _ _ _ _ (by show w.heap.size ≠ g; omega)).trans H2.out⟩
      have G6 := Aside0.mk (grown_trans (ReadW.grown_of_below BW.out (some g)) (grown_set W2 g 1 (.int .i64 3)))
      clear hg3' hlt'
      go_wp2_with (first
        | (with_reducible refine wpList_load_row rfl 41 (.tmp 3) rfl g3 rfl 41 (nums .u8 zero32).toArray (0, 0) (.array 32 5) HI3.out Try.underlying41 rfl infoZ ?_)
        | (with_reducible refine wpList_store_row rfl 41 (.tmp 2) (.tmp 27) rfl w.heap.size (nums .u8 zero32).toArray rfl rfl 41 _ H6.out infoZ rfl (digs_one _) ?_))
      rw [HDD.out, HT.out]
      refine bodyPost_ret (v := digV zero32) (results_cell_row rfl _ _ w.heap.size 41 _ (0, 0) (.array 32 5) rfl (setRow_heap _ _ _ _ _ _ H6.out) Try.underlying41 rfl infoZ) rfl ⟨rfl, ?_⟩
      exact fin_ HLT.out (rrd_setE R2.out 3) G6.out _
  · have HT := Aside0.mk (takeR_bad (n := 32) (l := l) he)
    have HDD : Aside0 (digR l e = zero32) := ⟨by rw [HD.out, HT.out, if_pos rfl]⟩
    go_wp2_with (first
      | (with_reducible refine wpList_load_row rfl 41 (.tmp 3) rfl g3 rfl 41 (nums .u8 zero32).toArray (0, 0) (.array 32 5) H3.out Try.underlying41 rfl infoZ ?_)
      | (with_reducible refine wpList_store_row rfl 41 (.tmp 2) (.tmp 27) rfl w.heap.size (nums .u8 zero32).toArray rfl rfl 41 _ H2.out infoZ rfl (digs_one _) ?_))
    rw [HDD.out, HT.out]
    refine bodyPost_ret (v := digV zero32) (results_cell_row rfl _ _ w.heap.size 41 _ (0, 0) (.array 32 5) rfl (setRow_heap _ _ _ _ _ _ H2.out) Try.underlying41 rfl infoZ) rfl ⟨rfl, ?_⟩
    exact fin_ HLT.out R2.out (ReadW.grown_of_below BW.out (some g)) _
end Go.Proofs.Ytnfajlnpmndkdaa.RefD
