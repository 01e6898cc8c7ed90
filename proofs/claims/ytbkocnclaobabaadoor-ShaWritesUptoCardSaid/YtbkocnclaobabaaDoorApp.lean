/- 'append' of bytes to bytes of which the capacity is the length. No condition. -/
import Derived.Test.YtbkocnclaobabaaDoorOps
import Derived.Deep.AppendSrc
import Derived.Deep.RegionLaw
import Derived.Deep.RegionLawGrows
import Derived.Lib.AppendZeros
namespace Go.Proofs.YtbkocnclaobabaaDoor.App
set_option linter.unusedVariables false
set_option linter.unusedSimpArgs false
open Go Go.RowKit Go.Proofs.YtbkocnclaobabaaDoor.ShaM Go.Proofs.YtbkocnclaobabaaDoor.Nums Go.Proofs.YtbkocnclaobabaaDoor.Arr Go.Proofs.YtbkocnclaobabaaDoor.Libs Go.Proofs.YtbkocnclaobabaaDoorW.PrintWords Go.Proofs.YtbkocnclaobabaaDoorW.PrintLast Go.Proofs.YtbkocnclaobabaaDoorW.PrintMore
theorem run_append_nothing {P : Program} (w : World) (t tx ty e : TypeId) (i : TypeInfo) (ht : P.underlying t = some (.slice e)) (hi : P.info? e = some i) (base : Option Addr) (sLen sCap : Nat) (hle : sLen ≤ sCap) (x : Value) (hs : Src P i.size tx x 0 [] w) :
    (Builtin.append_ #[t, tx] ty #[.slice base sLen sCap, x]).run P w = .ok (.slice base sLen sCap) w := by
  rcases hs.kind with ⟨e', hk⟩ | hk <;> cases base <;>
    simp [Builtin.append_, run_underlying ht, run_underlying hk, sizeOf, typeInfo, hi, hs.len, hle, hs.cells, storeCells]
theorem run_app (w : World) (ty : TypeId) (A : Option Addr) (l1 : List Int) (hC1 : (Kd.int .u8).C w A l1.length l1) (B : Option Addr) (c : Nat) (l2 : List Int) (hC2 : (Kd.int .u8).C w B l2.length l2) (hcap : B = none → c = 0) (hm : l1.length + l2.length ≤ 140737488355328) :
    ∃ A' c' w', (Builtin.append_ #[28, 28] ty #[.slice A l1.length l1.length, .slice B l2.length c]).run Tryd.prog w = .ok (.slice A' (l1 ++ l2).length c') w' ∧ (Kd.int .u8).C w' A' (l1 ++ l2).length (l1 ++ l2) ∧ (l1 ++ l2).length ≤ c' ∧ (A' = none → c' = 0) ∧ Below w.heap.size w w' ∧ (l2 ≠ [] → OwnB w' w.heap.size (.slice A' (l1 ++ l2).length c') (l1 ++ l2)) ∧ (∀ ad, A' = some ad → A = some ad ∨ (w.heap.size ≤ ad.block ∧ ad.block < w'.heap.size)) := by
  obtain ⟨i0, hi, hz0, hz1, hz2⟩ := info_parts info5
  by_cases hl : l2 = []
  · subst hl
    have hs : Src Tryd.prog i0.size 28 (.slice B ([] : List Int).length c) 0 [] w := by
      cases B with
      | none => exact Src.ofNil w Tryd.underlying28 c
      | some b => exact Src.ofSlice w Tryd.underlying28 b 0 c [] (by simp) (by simp) (by simp)
    refine ⟨A, l1.length, w, ?_, by rw [List.append_nil]; exact hC1, by rw [List.append_nil]; exact Nat.le_refl _, fun e => ?_, Below.refl _ _, fun h => absurd rfl h, fun ad e => .inl e⟩
    · rw [List.append_nil]; exact run_append_nothing w 28 28 ty 5 i0 Tryd.underlying28 hi A l1.length l1.length (Nat.le_refl _) _ hs
    · subst e; rw [C_none hC1]; rfl
  · obtain ⟨ad, rfl, _⟩ := hC2.2.2 (List.length_pos_iff.2 hl)
    have hpos := List.length_pos_iff.2 hl
    obtain ⟨v', w', hr, hown, hg⟩ : ∃ v' w', (Builtin.append_ #[28, 28] ty #[.slice A l1.length l1.length, .slice (some ad) l2.length c]).run Tryd.prog w = .ok v' w' ∧ OwnB w' w.heap.size v' (l1 ++ l2) ∧ w.grownBy w' none := by
      cases A with
      | some b =>
        obtain ⟨v', w', hrun, r1, r2⟩ := run_append_arg_grows (P := Tryd.prog) w 28 ty 5 i0 (.int .u8 0) 1 1 Tryd.underlying28 hi hz0 hz1 hz2 rfl (by decide) b l1.length l1.length (nums .u8 l1) (by simp [nums_length]) (C_cells hC1) ad l2.length c (nums .u8 l2) (by simp [nums_length]) (C_cells hC2) (by omega) (by unfold maxLen; omega) (by omega)
        refine ⟨v', w', hrun, ?_, r2⟩
        unfold OwnB
        rw [nums_append, List.length_append]
        exact r1
      | none =>
        obtain rfl := C_none hC1
        obtain ⟨v', w', hrun, r1, r2, _⟩ := run_append_own (P := Tryd.prog) w w.heap.size 28 ty 5 i0 (.int .u8 0) 1 1 Tryd.underlying28 hi hz0 hz1 hz2 rfl (by decide) (.slice none 0 0) 0 [] (World.ownsRow_nil w _ 5 1) ad l2.length c (nums .u8 l2) (by simp [nums_length]) (C_cells hC2) (nums_one l2) (by unfold maxLen; simp at hm; omega) (by simp at hm; omega) (Nat.le_refl _)
        refine ⟨v', w', hrun, ?_, r2⟩
        unfold OwnB
        rw [nums_append, List.length_append]
        exact r1
    obtain ⟨A', c', rfl, h1, h2, h3⟩ := hown.reads (by rw [List.length_append]; omega)
    refine ⟨A', c', w', hr, h2, h1, h3, (Below.refl _ _).grown hg (Nat.le_refl _) (fun k hk => by cases hk), fun _ => hown, fun ad e => .inr ?_⟩
    rcases hown.2 with ⟨h0, _⟩ | ⟨g, cap, cur, h0, hg, hh, _⟩
    · rw [e] at h0; simp at h0
    · injection h0 with h0 _ _
      rw [e] at h0
      injection h0 with h0
      subst h0
      exact ⟨hg, (Array.getElem?_eq_some_iff.1 hh).1⟩
theorem wpList_app {ops : Array Oper} {rest : List Oper} {o : Oper} {a : Act} {w : World} {Q : Exit → Act → World → Prop} (hgd : o.guard = none) (s x : Operand)
    (ho : o.op = .call { callee := .builtin .append, args := #[s, x], argTypes := #[28, 28] }) (A : Option Addr) (l1 : List Int) (hs : a.eval s = .slice A l1.length l1.length) (hC1 : (Kd.int .u8).C w A l1.length l1)
    (B : Option Addr) (c : Nat) (l2 : List Int) (hx : a.eval x = .slice B l2.length c) (hC2 : (Kd.int .u8).C w B l2.length l2) (hcap : B = none → c = 0) (hm : l1.length + l2.length ≤ 140737488355328)
    (h : ∀ A' c' w', (Kd.int .u8).C w' A' (l1 ++ l2).length (l1 ++ l2) → (l1 ++ l2).length ≤ c' → (A' = none → c' = 0) → Below w.heap.size w w' → (l2 ≠ [] → OwnB w' w.heap.size (.slice A' (l1 ++ l2).length c') (l1 ++ l2)) → (∀ ad, A' = some ad → A = some ad ∨ (w.heap.size ≤ ad.block ∧ ad.block < w'.heap.size)) → wpList Tryd.prog ops Q rest (a.put o.dst (.slice A' (l1 ++ l2).length c')) w') : wpList Tryd.prog ops Q (o :: rest) a w := by
  obtain ⟨A', c', w', hr, h1, h2, h3, h4, h5, h6⟩ := run_app w o.type A l1 hC1 B c l2 hC2 hcap hm
  exact Lib.wpList_append_run w hgd s x 28 28 ho _ _ hs hx _ w' hr (h A' c' w' h1 h2 h3 h4 h5 h6)
theorem step_app {ops : Array Oper} {o : Oper} {a : Act} {w : World} {K : Act → World → Prop} {Q : Exit → Act → World → Prop} {E : Prop} (hgd : o.guard = none) (s x : Operand)
    (ho : o.op = .call { callee := .builtin .append, args := #[s, x], argTypes := #[28, 28] }) (A : Option Addr) (l1 : List Int) (hs : a.eval s = .slice A l1.length l1.length) (hC1 : (Kd.int .u8).C w A l1.length l1)
    (B : Option Addr) (c : Nat) (l2 : List Int) (hx : a.eval x = .slice B l2.length c) (hC2 : (Kd.int .u8).C w B l2.length l2) (hcap : B = none → c = 0) (hm : l1.length + l2.length ≤ 140737488355328)
    (h : ∀ A' c' w', (Kd.int .u8).C w' A' (l1 ++ l2).length (l1 ++ l2) → (l1 ++ l2).length ≤ c' → (A' = none → c' = 0) → Below w.heap.size w w' → (l2 ≠ [] → OwnB w' w.heap.size (.slice A' (l1 ++ l2).length c') (l1 ++ l2)) → (∀ ad, A' = some ad → A = some ad ∨ (w.heap.size ≤ ad.block ∧ ad.block < w'.heap.size)) → K (a.put o.dst (.slice A' (l1 ++ l2).length c')) w') :
    if Region.wanted o (yielded ops a.tmps) = true then Oper.wp Tryd.prog o a w K Q else E := by
  have hw : Region.wanted o (yielded ops a.tmps) = true := by simp [Region.wanted, hgd]
  rw [if_pos hw]
  obtain ⟨A', c', w', hr, h1, h2, h3, h4, h5, h6⟩ := run_app w o.type A l1 hC1 B c l2 hC2 hcap hm
  exact Lib.wp_append_run w s x 28 28 ho _ _ hs hx _ w' hr (h A' c' w' h1 h2 h3 h4 h5 h6)
end Go.Proofs.YtbkocnclaobabaaDoor.App
