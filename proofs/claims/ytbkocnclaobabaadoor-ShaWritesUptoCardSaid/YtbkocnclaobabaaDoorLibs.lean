/- Rows of bytes of the call's own, and what is put behind them. No condition. -/
import Derived.Test.YtbkocnclaobabaaDoorPutM
import Derived.Laws.AppendOwnNone
import Derived.Laws.AppendOwn
import Derived.Lib.AppendZerosOnto
import Derived.Lib.SliceRun
namespace Go.Proofs.YtbkocnclaobabaaDoor.Libs
set_option linter.unusedVariables false
set_option linter.unusedSimpArgs false
open Go.RowKit Go.Proofs.YtbkocnclaobabaaDoor.PAll Go.Proofs.YtbkocnclaobabaaDoor.Nums Go.Proofs.YtbkocnclaobabaaDoorW.PrintWords Go.Proofs.YtbkocnclaobabaaDoorW.PrintLast Go.Proofs.YtbkocnclaobabaaDoorW.PrintMore
theorem info5 : (Tryd.prog.info? 5).map (fun i => (i.zero, i.size, i.bytes)) = some (some (.int .u8 0), 1, 1) := by kernel_rfl
/-- A row of bytes of the call's own. -/
def OwnB (W : World) (base : Nat) (v : Value) (l : List Int) : Prop := W.ownsRow base 5 1 v l.length (nums .u8 l)
theorem C_bytes {w : World} {g : Nat} {l : List Int} (hl : l.length ≤ 9223372036854775807) (h : ∀ i : Nat, i < l.length → w.cell? ⟨g, i, none⟩ = some (.int .u8 (l.getD i 0))) : (Kd.int .u8).C w (some ⟨g, 0, none⟩) l.length l := by
  refine ⟨rfl, hl, fun _ => ⟨_, rfl, fun j p hj => ⟨[.int .u8 p], rfl, rfl, fun i u hu => ?_⟩⟩⟩
  obtain ⟨hlt, rfl⟩ := List.getElem?_eq_some_iff.1 hj
  cases i with
  | zero =>
    simp at hu; subst hu
    have := h j hlt
    rw [List.getD_eq_getElem?_getD, List.getElem?_eq_getElem hlt] at this
    have e : (⟨g, 0, none⟩ : Addr).add (j * (Kd.int .u8).sz + 0) = ⟨g, j, none⟩ := by unfold Addr.add; split <;> simp_all [Kd.int, Kd.scalar]
    rw [e]; simpa using this
  | succ i => simp at hu
theorem OwnB.reads {W : World} {base : Nat} {v : Value} {l : List Int} (h : OwnB W base v l) (hl : l.length ≤ 9223372036854775807) : ∃ A c, v = .slice A l.length c ∧ l.length ≤ c ∧ (Kd.int .u8).C W A l.length l ∧ (A = none → c = 0) := by
  obtain ⟨h1, h2 | ⟨g, cap, cur, rfl, hg, hh, hnc, hcm, hsz, htk⟩⟩ := h
  · obtain ⟨rfl, h0⟩ := h2
    obtain rfl : l = [] := List.length_eq_zero_iff.1 h0
    exact ⟨none, 0, rfl, by simp, Kd.C_nil _ _, fun _ => rfl⟩
  · refine ⟨_, cap, rfl, hnc, C_bytes hl (fun i hi => ?_), fun e => by simp at e⟩
    rw [blk_cell hh]
    have e : (nums .u8 l)[i]? = some (.int .u8 (l.getD i 0)) := by unfold nums; simp [hi]
    rw [← htk, Nat.mul_one, List.getElem?_take, if_pos hi] at e
    rw [← e, Array.getElem?_toList]
theorem C_cells {w : World} {ad : Addr} {l : List Int} (h : (Kd.int .u8).C w (some ad) l.length l) : ∀ j u, (nums .u8 l)[j]? = some u → w.cell? (ad.add j) = some u := by
  intro j u hu
  obtain ⟨hj, rfl⟩ := List.getElem?_eq_some_iff.1 hu
  rw [nums_length] at hj
  obtain ⟨ad', e, hc⟩ := h.2.2 (by omega)
  injection e with e
  subst e
  obtain ⟨cs, hlen, hK, hcell⟩ := hc j l[j] (List.getElem?_eq_getElem hj)
  obtain rfl : cs = [.int .u8 l[j]] := hK
  have := hcell 0 _ rfl
  simpa [nums, Kd.int, Kd.scalar] using this
theorem C_none {w : World} {l : List Int} (h : (Kd.int .u8).C w none l.length l) : l = [] := by
  apply Classical.byContradiction
  intro hne
  obtain ⟨ad, e, _⟩ := h.2.2 (List.length_pos_iff.2 hne)
  simp at e
theorem nums_one (l : List Int) : ∀ u ∈ nums .u8 l, u.oneCell' = true := by
  intro u hu
  obtain ⟨x, _, rfl⟩ := List.mem_map.1 hu
  rfl
/-- 'append' of bytes that are read to a row of the call's own. -/
theorem wpList_append_bytes {ops : Array Oper} {rest : List Oper} {o : Oper} {a : Act} {w : World} {Q : Exit → Act → World → Prop} (hgd : o.guard = none) (s x : Operand)
    (ho : o.op = .call { callee := .builtin .append, args := #[s, x], argTypes := #[28, 28] }) (base : Nat) (v : Value) (l1 : List Int) (hs : a.eval s = v) (hown : OwnB w base v l1)
    (A : Option Addr) (c : Nat) (l : List Int) (hx : a.eval x = .slice A l.length c) (hC : (Kd.int .u8).C w A l.length l) (hcap : A = none → c = 0) (h63 : l1.length + l.length ≤ 140737488355328) (hbase : base ≤ w.heap.size)
    (h : ∀ v' w', OwnB w' base v' (l1 ++ l) → (∀ W0, Below base W0 w → Below base W0 w') → wpList Tryd.prog ops Q rest (a.put o.dst v') w') : wpList Tryd.prog ops Q (o :: rest) a w := by
  cases A with
  | none =>
    obtain rfl := C_none hC
    obtain rfl := hcap rfl
    obtain ⟨i0, hi, hz0, hz1, hz2⟩ := info_parts info5
    exact wpList_append_own_none hgd s x 28 ho base 5 i0 1 Tryd.underlying28 hi v _ _ hs hown hx (h v w (by rw [List.append_nil]; exact hown) fun _ hb => hb)
  | some ad =>
    obtain ⟨i0, hi, hz0, hz1, hz2⟩ := info_parts info5
    refine wpList_append_own w hgd s x 28 ho base 5 i0 (.int .u8 0) 1 1 Tryd.underlying28 hi hz0 hz1 hz2 rfl (by decide) v l1.length _ hs hown ad l.length c (nums .u8 l) hx (by simp [nums_length]) (C_cells hC) (nums_one l) (by unfold maxLen; omega) (by omega) hbase fun v' w' h1 h2 _ => ?_
    refine h v' w' ?_ fun W0 hb => hb.grown h2 hbase fun k hk => (hown.lt k hk).1
    unfold OwnB
    rw [nums_append, List.length_append]
    exact h1
end Go.Proofs.YtbkocnclaobabaaDoor.Libs
