/- Rows of words for the reference. No condition. -/
import Derived.Test.YtbkocnclaobabaaDoorRefM
import Derived.OwnWalk
import Derived.Deep.RegionHeld3
import Derived.Great.BuildSlice
namespace Go.Proofs.YtbkocnclaobabaaDoor.RefA
set_option linter.unusedVariables false
set_option linter.unusedSimpArgs false
open Go.RowKit Go.Proofs.YtbkocnclaobabaaDoor.PAll Go.Proofs.YtbkocnclaobabaaDoor.Nums Go.Proofs.YtbkocnclaobabaaDoor.PutM Go.Proofs.YtbkocnclaobabaaDoor.Libs Go.Proofs.YtbkocnclaobabaaDoor.ShaM Go.Proofs.YtbkocnclaobabaaDoor.WriteM Go.Proofs.YtbkocnclaobabaaDoor.Arr Go.Proofs.YtbkocnclaobabaaDoor.SchedW Go.Proofs.YtbkocnclaobabaaDoor.NewW Go.Proofs.YtbkocnclaobabaaDoor.MixW Go.Proofs.YtbkocnclaobabaaDoor.App Go.Proofs.YtbkocnclaobabaaDoor.HashW Go.Proofs.YtbkocnclaobabaaDoorW.PrintWords Go.Proofs.YtbkocnclaobabaaDoorW.PrintLast Go.Proofs.YtbkocnclaobabaaDoorW.PrintMore
theorem info42 : (Tryd.prog.info? 42).map (fun i => (i.zero, i.size, i.bytes)) = some (some (.int .u32 0), 1, 4) := by kernel_rfl
theorem info42_parts : ∃ i0, Tryd.prog.info? 42 = some i0 ∧ i0.zero = some (.int .u32 0) ∧ i0.size = 1 ∧ i0.bytes = 4 := by
  cases hq : Tryd.prog.info? 42 with
  | none => have := info42; rw [hq] at this; simp at this
  | some i0 =>
    have := info42
    rw [hq] at this
    simp only [Option.map_some, Option.some.injEq, Prod.mk.injEq] at this
    exact ⟨i0, rfl, this.1, this.2.1, this.2.2⟩
/-- A row that was just made. -/
theorem own_exact {w : World} {base e n g : Nat} {xs : List Value} (h : w.ownsRow base e 1 (.slice (some ⟨g, 0, none⟩) n n) n xs) : w.heap[g]? = some (.cells xs.toArray e (0, 0)) := by
  rcases h.2 with ⟨h0, _⟩ | ⟨g', cap, cur, h0, hg, hh, hnc, hcm, hsz, htk⟩
  · simp at h0
  · simp at h0
    obtain ⟨rfl, rfl⟩ := h0
    rw [hh]
    congr 2
    rw [← htk, List.take_of_length_le (by simp; omega)]
theorem wpList_makeU32 {ops : Array Oper} {rest : List Oper} {o : Oper} {a : Act} {w : World} {Q : Exit → Act → World → Prop} (hg : o.guard = none) (l c : Operand) (hop : o.op = Op.makeSlice 41 l c) (n : Nat) (hn : n ≤ 64) (hl : a.eval l = .int .i64 (n : Int)) (hc : a.eval c = .int .i64 (n : Int))
    (N : Nat) (hN : w.heap.size = N) (hz : (madeCells #[.int .u32 0] (n * 1)).toList = nums .u32 (List.replicate n 0)) (h : ∀ w', At w' N 42 (List.replicate n 0) → Below N w w' → wpList Tryd.prog ops Q rest (a.put o.dst (.slice (some ⟨N, 0, none⟩) n n)) w') : wpList Tryd.prog ops Q (o :: rest) a w := by
  obtain ⟨i0, hi, hz0, hz1, hz2⟩ := info42_parts
  subst hN
  refine wpList_make_full w hg l c 41 hop w.heap.size 42 i0 (.int .u32 0) 1 Tryd.underlying41 hi hz0 hz1 .i64 .i64 n n n hl hc rfl rfl (by rw [hz2]; omega) (by unfold maxLen; omega) (Nat.le_refl _) fun w' h1 h2 => h w' ?_ ((Below.refl _ _).grown h2 (Nat.le_refl _) (fun k hk => by cases hk))
  have := own_exact h1
  rw [show (Value.int .u32 0).cells = #[.int .u32 0] from rfl, hz] at this
  exact this
theorem made64 : (madeCells #[.int .u32 0] (64 * 1)).toList = nums .u32 (List.replicate 64 0) := by kernel_rfl
theorem made8 : (madeCells #[.int .u32 0] (8 * 1)).toList = nums .u32 (List.replicate 8 0) := by kernel_rfl
/-- The words at the head of a row. -/
def Pre (w : World) (g : Nat) (v : List Int) : Prop := ∀ j, j < v.length → w.cell? ⟨g, j, none⟩ = some (.int .u32 (v.getD j 0))
theorem Pre.of_at {w : World} {g : Nat} {v : List Int} (h : At w g 42 v) : Pre w g v := fun j hj => h.cell j hj
/-- 'append' of words to an empty row. -/
theorem wpList_appU32 {ops : Array Oper} {rest : List Oper} {o : Oper} {a : Act} {w : World} {Q : Exit → Act → World → Prop} (hgd : o.guard = none) (s x : Operand)
    (ho : o.op = .call { callee := .builtin .append, args := #[s, x], argTypes := #[41, 41] }) (A : Addr) (hs : a.eval s = .slice (some A) 0 0)
    (g : Nat) (l : List Int) (n c : Nat) (hn : l.length = n) (h0 : 0 < n) (hx : a.eval x = .slice (some ⟨g, 0, none⟩) n c) (hL : At w g 42 l) (hm : n ≤ 64)
    (h : ∀ g' c' w', Pre w' g' l → w.heap.size ≤ g' → g' < w'.heap.size → Below w.heap.size w w' → wpList Tryd.prog ops Q rest (a.put o.dst (.slice (some ⟨g', 0, none⟩) n c')) w') : wpList Tryd.prog ops Q (o :: rest) a w := by
  obtain ⟨i0, hi, hz0, hz1, hz2⟩ := info42_parts
  have hcell : ∀ j u, (nums .u32 l)[j]? = some u → w.cell? ((⟨g, 0, none⟩ : Addr).add j) = some u := fun j u hu => by
    obtain ⟨hj, rfl⟩ := List.getElem?_eq_some_iff.1 hu
    rw [nums_length] at hj
    rw [add_plain, hL.cell j hj, List.getD_eq_getElem?_getD, List.getElem?_eq_getElem hj]
    simp [nums]
  obtain ⟨v', w', hrun, r1, r2⟩ := run_append_arg_grows (P := Tryd.prog) w 41 o.type 42 i0 (.int .u32 0) 1 4 Tryd.underlying41 hi hz0 hz1 hz2 rfl (by decide) A 0 0 [] rfl (fun j u hu => by simp at hu) ⟨g, 0, none⟩ n c (nums .u32 l) (by rw [nums_length, hn]; simp) hcell (by omega) (by unfold maxLen; omega) (by omega)
  have hb : Below w.heap.size w w' := (Below.refl _ _).grown r2 (Nat.le_refl _) (fun k hk => by cases hk)
  rcases r1.2 with ⟨h1, h2⟩ | ⟨g', cap, cur, rfl, hg, hh, hnc, hcm, hsz, htk⟩
  · omega
  · have hv : (Value.slice (some ⟨g', 0, none⟩) (0 + n) cap) = .slice (some ⟨g', 0, none⟩) n cap := by rw [Nat.zero_add]
    rw [hv] at hrun
    refine Lib.wpList_append_run w hgd s x 41 41 ho _ _ hs hx _ w' hrun (h g' cap w' (fun j hj => ?_) hg (Array.getElem?_eq_some_iff.1 hh).1 hb)
    rw [cell_of_row w' g' j cur 42 (0, 0) hh]
    have e : (nums .u32 l)[j]? = some (.int .u32 (l.getD j 0)) := by unfold nums; simp [hj]
    rw [List.nil_append] at htk
    rw [← htk, List.getElem?_take, if_pos (by omega)] at e
    rw [← e, Array.getElem?_toList]
end Go.Proofs.YtbkocnclaobabaaDoor.RefA
