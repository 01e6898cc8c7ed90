/- Operations on whole rows, each with the world that it leaves told by facts alone. No condition. -/
import Derived.Test.YtbkocnclaobabaaDoorMixM
import Derived.Great.Walk
import Derived.Great.BuildSlice
namespace Go.Proofs.YtbkocnclaobabaaDoor.Ops
set_option linter.unusedVariables false
set_option linter.unusedSimpArgs false
open Go Go.RowKit Go.Proofs.YtbkocnclaobabaaDoor.ShaM Go.Proofs.YtbkocnclaobabaaDoor.Nums Go.Proofs.YtbkocnclaobabaaDoor.Arr Go.Proofs.YtbkocnclaobabaaDoorW.PrintWords Go.Proofs.YtbkocnclaobabaaDoorW.PrintLast Go.Proofs.YtbkocnclaobabaaDoorW.PrintMore
/-- A world in which block g is another one, and nothing else. -/
structure Only (g : Nat) (w w' : World) : Prop where
  os : w'.os = w.os
  tape : w'.tape = w.tape
  output : w'.output = w.output
  size : w'.heap.size = w.heap.size
  block : ∀ k, k ≠ g → w'.heap[k]? = w.heap[k]?
theorem Only.below {g B : Nat} {W w w' : World} (h : Only g w w') (hb : Below B W w) (hg : B ≤ g) : Below B W w' :=
  hb.trans ⟨h.os, h.tape, h.output, by rw [h.size]; exact Nat.le_refl _, fun k hk => h.block k (by omega)⟩
theorem Only.row (w : World) (g : Nat) (cs : Array Value) : Only g w (w.setRow g cs) := ⟨rfl, rfl, rfl, size_setRow .., fun k hk => setRow_other w g k cs hk⟩
theorem Only.at {g k t : Nat} {l : List Int} {w w' : World} (h : Only g w w') (ha : At w k t l) (hk : k ≠ g) : At w' k t l := ha.move (h.block k hk)
theorem wpList_allocRow {P : Program} {ops : Array Oper} {rest : List Oper} {o : Oper} {a : Act} {w : World} {Q : Exit → Act → World → Prop} (hg : o.guard = none) (ty : TypeId) (ho : o.op = .alloc ty) (cs : Array Value)
    (hz : (P.info? ty).bind (fun i => i.zero.map Value.cells) = some cs) (N : Nat) (hN : w.heap.size = N)
    (h : ∀ w', w'.heap[N]? = some (.cells cs ty (0, 0)) → Below N w w' → w'.heap.size = N + 1 → wpList P ops Q rest (a.put o.dst (.pointer (some ⟨N, 0, none⟩))) w') : wpList P ops Q (o :: rest) a w := by
  subst hN
  refine wpList_plain hg fun K hK => ?_
  have hrun : (Instr.alloc ty true (.tuple #[])).run P w = .ok (.pointer (some ⟨w.heap.size, 0, none⟩)) (w.alloc (.cells cs ty (0, 0))) := by
    cases hq : P.info? ty with
    | none => simp [hq] at hz
    | some i =>
      cases hzz : i.zero with
      | none => simp [hq, hzz] at hz
      | some z =>
        have hc : z.cells = cs := by simpa [hq, hzz] using hz
        simp [Instr.alloc, zeroValue, typeInfo, hq, hzz, newVar, newRow, Sem.run_bind, hc]
  unfold Oper.wp execOp
  simp only [ho, Sem.run_bind, hrun, Sem.run_pure, Result.andThen_ok]
  exact hK _ _ (h _ (blk_new w _) (below_alloc (Below.refl _ _) _) (by show (w.heap.push _).size = _; simp))
theorem wpList_setRow {P : Program} {ops : Array Oper} {rest : List Oper} {o : Oper} {a : Act} {w : World} {Q : Exit → Act → World → Prop} (hgd : o.guard = none) (ty : TypeId) (x y : Operand) (ho : o.op = .store ty x y) (hd : o.dst = none)
    (g : Nat) (hx : a.eval x = .pointer (some ⟨g, 0, none⟩)) (cells : Array Value) (hy : a.eval y = .agg cells)
    (t : TypeId) (old : Array Value) (hg : w.heap[g]? = some (.cells old t (0, 0))) (hi : (P.info? ty).map (·.size) = some cells.size)
    (hold : old.size = cells.size) (h1 : cells.all (·.oneCell') = true)
    (h : ∀ w', w'.heap[g]? = some (.cells cells t (0, 0)) → Only g w w' → wpList P ops Q rest a w') : wpList P ops Q (o :: rest) a w := by
  refine Go.wpList_store_rowTo hgd ty x y ho hd g cells hx hy t old hg hi hold h1 (h _ ?_ (Only.row ..))
  exact setRow_heap w g old cells t _ hg
theorem _root_.Go.Proofs.YtbkocnclaobabaaDoor.Arr.At.row {w : World} {g t : Nat} {l : List Int} (h : At w g t l) : w.heap[g]? = some (.cells (nums .u32 l).toArray t (0, 0)) := h
theorem zero48 : (Tryd.prog.info? 48).bind (fun i => i.zero.map Value.cells) = some (nums .u32 (List.replicate 8 0)).toArray := by kernel_rfl
theorem zero58 : (Tryd.prog.info? 58).bind (fun i => i.zero.map Value.cells) = some (nums .u32 (List.replicate 64 0)).toArray := by kernel_rfl
theorem zero25 : (Tryd.prog.info? 25).bind (fun i => i.zero.map Value.cells) = some (nums .u8 (List.replicate 32 0)).toArray := by kernel_rfl
theorem size48 {l : List Int} (h : l.length = 8) : (Tryd.prog.info? 48).map (·.size) = some (nums .u32 l).toArray.size := by rw [List.size_toArray, nums_length, h]; exact info48
theorem size58 {l : List Int} (h : l.length = 64) : (Tryd.prog.info? 58).map (·.size) = some (nums .u32 l).toArray.size := by rw [List.size_toArray, nums_length, h]; exact info58
theorem size_eq {k : IntKind} {l l' : List Int} (h : l.length = l'.length) : (nums k l).toArray.size = (nums k l').toArray.size := by rw [List.size_toArray, List.size_toArray, nums_length, nums_length, h]
theorem _root_.Go.Proofs.YtbkocnclaobabaaDoor.ShaM.Glob.cells {w : World} (h : Glob w) : ∀ j u, (nums .u32 FA)[j]? = some u → w.cell? ⟨0, j, none⟩ = some u := h
/-- An array of whole numbers, at a place that is there. -/
theorem index_nums {P : Program} {ty ety : TypeId} {n : Nat} {k : IntKind} (hu : P.underlying ty = some (.array n ety)) (hz : (P.info? ety).map (·.size) = some 1) (d : TypeDesc) (he : P.underlying ety = some d) (hd : (match d with | .struct _ | .array _ _ => true | _ => false) = false) (l : List Int) (hl : l.length = n) (i : Nat) (hi : i < n) (w : World) :
    (Instr.index ty (.agg (nums k l).toArray) (.int .i64 (i : Int))).run P w = .ok (.int k (l.getD i 0)) w := by
  have hagg : (isAgg ety).run P w = .ok false w := by
    unfold isAgg
    rw [Sem.run_bind, run_underlying he w]
    cases d <;> simp_all
  have hc : (nums k l)[i]? = some (.int k (l.getD i 0)) := by
    unfold nums
    rw [List.getElem?_map, List.getElem?_eq_getElem (by omega), List.getD_eq_getElem?_getD, List.getElem?_eq_getElem (by omega)]
    rfl
  cases hq : P.info? ety with
  | none => simp [hq] at hz
  | some ie =>
    have hs : ie.size = 1 := by simpa [hq] using hz
    simp [Instr.index, asIntOf, Sem.run_bind, run_underlying hu, hi, sizeOf, typeInfo, hq, hs, part, hagg, hc]
theorem index58 (l : List Int) (hl : l.length = 64) (i : Nat) (hi : i < 64) (w : World) : (Instr.index 58 (.agg (nums .u32 l).toArray) (.int .i64 (i : Int))).run Tryd.prog w = .ok (.int .u32 (l.getD i 0)) w :=
  index_nums Tryd.underlying58 (by kernel_rfl) _ Tryd.underlying42 rfl l hl i hi w
theorem index48 (l : List Int) (hl : l.length = 8) (i : Nat) (hi : i < 8) (w : World) : (Instr.index 48 (.agg (nums .u32 l).toArray) (.int .i64 (i : Int))).run Tryd.prog w = .ok (.int .u32 (l.getD i 0)) w :=
  index_nums Tryd.underlying48 (by kernel_rfl) _ Tryd.underlying42 rfl l hl i hi w
theorem cut_clip (A : Option Addr) (n c : Nat) (hc : n ≤ c) (hn : n ≤ 9223372036854775807) (W : World) : (Instr.slice 28 (.slice A n c) none (some (.int .i64 (n : Int))) (some (.int .i64 (n : Int)))).run Tryd.prog W = .ok (.slice A n n) W := by
  obtain ⟨i0, hi, hz0, hz1, hz2⟩ := info_parts Libs.info5
  have ha : (A.map fun x => x.add 0) = A := by cases A <;> simp [Addr.add]
  have hnc : (n : Int) ≤ (c : Int) := by omega
  simp [Instr.slice, run_underlying Tryd.underlying28, Instr.sliceBounds, run_sliceBound, hc, sizeOf, typeInfo, hi]
  try (cases A <;> simp [Addr.add])
theorem built48 (a0 a1 a2 a3 a4 a5 a6 a7 : Int) : Tryd.prog.built 48 [(0, .int .u32 a0), (1, .int .u32 a1), (2, .int .u32 a2), (3, .int .u32 a3), (4, .int .u32 a4), (5, .int .u32 a5), (6, .int .u32 a6), (7, .int .u32 a7)] = some (nums .u32 [a0, a1, a2, a3, a4, a5, a6, a7]).toArray := by kernel_rfl
end Go.Proofs.YtbkocnclaobabaaDoor.Ops
