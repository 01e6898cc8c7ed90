/- What Hash.Sum needs beside: Put's contracts, an array's being written whole. No condition. -/
import Derived.Test.YtbkocnclaobabaaDoorWriteW
import Derived.Maps.AppendAt
namespace Go.Proofs.YtbkocnclaobabaaDoor.SumA
set_option linter.unusedVariables false
set_option linter.unusedSimpArgs false
open Go Go.RowKit Go.Proofs.YtbkocnclaobabaaDoor.PAll Go.Proofs.YtbkocnclaobabaaDoor.ShaM Go.Proofs.YtbkocnclaobabaaDoor.Ops Go.Proofs.YtbkocnclaobabaaDoor.HashW Go.Proofs.YtbkocnclaobabaaDoor.WriteM Go.Proofs.YtbkocnclaobabaaDoor.Nums Go.Proofs.YtbkocnclaobabaaDoor.PutM Go.Proofs.YtbkocnclaobabaaDoor.Arr Go.Proofs.YtbkocnclaobabaaDoor.Libs Go.Proofs.YtbkocnclaobabaaDoorW.PrintWords Go.Proofs.YtbkocnclaobabaaDoorW.PrintLast Go.Proofs.YtbkocnclaobabaaDoorW.PrintMore
theorem put_calls (n s : Nat) (hs : 1 ≤ s) (h8 : s ≤ 8) (hn : n < 256 ^ s) (w : World) :
    Calls Tryd.prog 19 #[.int .u64 (n : Int), .int .i64 (s : Int)] w fun e w' => ∃ A c, e = .returned (.tuple #[.slice A s c, .int .i64 0]) ∧ s ≤ c ∧ (Kd.int .u8).C w' A (T n s).length (T n s) ∧ (A = none → c = 0) ∧ Below w.heap.size w w' := by
  have hp : 256 ^ s ≤ 256 ^ 8 := Nat.pow_le_pow_right (by omega) h8
  have h := put_eq 12 n (s : Int) (Nat.lt_of_lt_of_le hn hp) (by omega)
  unfold putR at h
  rw [if_neg (by omega), Int.toNat_natCast, if_neg (by omega)] at h
  refine (bits_Put.calls 12 n s _ _ w h).mono ?_
  rintro e w' ⟨v, rfl, hR, hb⟩
  obtain ⟨A, c, rfl, hc, hC⟩ := Kd.R_reads hR
  obtain ⟨inner, ho⟩ := Kd.R_own hR
  refine ⟨A, c, by rw [T_length], by rw [T_length] at hc; exact hc, hC, fun e => ?_, hb⟩
  subst e
  rcases ho.2 with ⟨h1, _⟩ | ⟨g, cap, cur, h1, _⟩
  · injection h1
  · simp at h1
/-- An array's being written whole. -/
theorem setArr {P : Program} {w : World} {g t : Nat} {s : List Int} (h : At w g t s) (r : List Int) (hr : s.length = r.length) : ∃ w', (storeCells ⟨g, 0, none⟩ (nums .u32 r)).run P w = .ok () w' ∧ At w' g t r ∧ Only g w w' := by
  have hone : ∀ u ∈ nums .u32 r, u.oneCell' = true := by
    intro u hu
    obtain ⟨x, _, rfl⟩ := List.mem_map.1 hu
    rfl
  have hrun := run_storeCells_part (P := P) g t (nums .u32 r) 0 _ w h (by simp [nums_length, hr]) hone
  refine ⟨_, hrun, ?_, Only.row ..⟩
  have e : List.take 0 (nums .u32 s).toArray.toList ++ nums .u32 r ++ List.drop (0 + (nums .u32 r).length) (nums .u32 s).toArray.toList = nums .u32 r := by
    rw [List.take_zero, List.nil_append, List.drop_eq_nil_of_le (by simp [nums_length, hr]), List.append_nil]
  rw [e]
  exact setRow_heap w g _ _ t (0, 0) h
theorem row_byte (w : World) (x : Int) : (Kd.int .u8).C (w.alloc (.cells #[.int .u8 x] 5)) (some ⟨w.heap.size, 0, none⟩) [x].length [x] :=
  C_bytes (by simp) fun i hi => by
    have h := blk_cell (blk_new w (.cells #[.int .u8 x] 5)) i
    obtain rfl : i = 0 := by simp at hi; omega
    exact h
theorem HashT.below {lo g : Nat} {w w' : World} {l : List Int} (h : HashT lo w g l) (hb : Below w.heap.size w w') : HashT lo w' g l := by
  obtain ⟨h1, h2, h3, A, c, h4, h5, h6, h7, h8⟩ := h
  exact ⟨h1, Nat.le_trans h2 hb.size, h3, A, c, HashAt.move h4 (hb.block g (by omega)), Kd.C_below h5 hb, h6, h7, fun ad e => ⟨(h8 ad e).1, Nat.lt_of_lt_of_le (h8 ad e).2 hb.size⟩⟩
theorem ownB_alloc {w : World} {base : Nat} {v : Value} {l : List Int} (h : OwnB w base v l) (o : Obj) : OwnB (w.alloc o) base v l := own_alloc h o
/-- 'append' of one byte. -/
theorem wpList_append_byte {ops : Array Oper} {rest : List Oper} {o : Oper} {a : Act} {w : World} {Q : Exit → Act → World → Prop} (hgd : o.guard = none) (s x : Operand)
    (ho : o.op = .call { callee := .builtin .append, args := #[s, x], argTypes := #[28, 28] }) (base : Nat) (v : Value) (l1 : List Int) (hs : a.eval s = v) (hown : OwnB w base v l1)
    (A : Option Addr) (b : Int) (hx : a.eval x = .slice A 1 1) (hC : (Kd.int .u8).C w A [b].length [b]) (hA : A ≠ none) (h63 : l1.length + 1 ≤ 140737488355328) (hbase : base ≤ w.heap.size)
    (h : ∀ v' w', OwnB w' base v' (l1 ++ [b]) → (∀ W0, Below base W0 w → Below base W0 w') → wpList Tryd.prog ops Q rest (a.put o.dst v') w') : wpList Tryd.prog ops Q (o :: rest) a w :=
  wpList_append_bytes hgd s x ho base v l1 hs hown A 1 [b] hx hC (fun e => absurd e hA) (by simpa using h63) hbase h
/-- 'append' of bytes, with what else stays. -/
theorem wpList_append_grown {ops : Array Oper} {rest : List Oper} {o : Oper} {a : Act} {w : World} {Q : Exit → Act → World → Prop} (hgd : o.guard = none) (s x : Operand)
    (ho : o.op = .call { callee := .builtin .append, args := #[s, x], argTypes := #[28, 28] }) (base : Nat) (v : Value) (l1 : List Int) (hs : a.eval s = v) (hown : OwnB w base v l1)
    (ad : Addr) (c : Nat) (l : List Int) (n : Nat) (hn : l.length = n) (hx : a.eval x = .slice (some ad) n c) (hC : (Kd.int .u8).C w (some ad) l.length l) (h63 : l1.length + l.length ≤ 140737488355328) (hbase : base ≤ w.heap.size)
    (h : ∀ A' c' w', (Kd.int .u8).C w' A' (l1 ++ l).length (l1 ++ l) → (l1 ++ l).length ≤ c' → (A' = none → c' = 0) → w.grownBy w' v.ownBlock → (∀ ad', A' = some ad' → some ad'.block = v.ownBlock ∨ ad'.block = w.heap.size) → wpList Tryd.prog ops Q rest (a.put o.dst (.slice A' (l1 ++ l).length c')) w') : wpList Tryd.prog ops Q (o :: rest) a w := by
  obtain ⟨i0, hi, hz0, hz1, hz2⟩ := info_parts Libs.info5
  subst hn
  obtain ⟨v', w', hr, h2, h3, _, h5⟩ := run_append_own_at (P := Tryd.prog) w base 28 o.type 5 i0 (.int .u8 0) 1 1 Tryd.underlying28 hi hz0 hz1 hz2 rfl (by decide) _ l1.length _ hown ad l.length c (nums .u8 l) (by simp [nums_length]) (C_cells hC) (nums_one l) (by unfold maxLen; omega) (by omega) hbase
  have H2 : OwnB w' base v' (l1 ++ l) := by
    unfold OwnB
    rw [nums_append, List.length_append]
    exact h2
  obtain ⟨A', c', rfl, h6, h7, h8⟩ := H2.reads (by rw [List.length_append]; omega)
  refine Lib.wpList_append_run w hgd s x 28 28 ho _ _ hs hx _ w' hr (h A' c' w' h7 h6 h8 h3 fun ad' e => ?_)
  subst e
  have hb : (Value.slice (some ad') (l1 ++ l).length c').ownBlock = some ad'.block := by
    rcases H2.2 with ⟨h0, _⟩ | ⟨g, cap, cur, h0, _⟩
    · simp at h0
    · injection h0 with h0 _ _
      injection h0 with h0
      subst h0
      rfl
  rw [hb] at h5
  rcases h5 with h | h
  · exact .inl h
  · injection h with h; exact .inr h
theorem ownB_below {w w' : World} {base : Nat} {v : Value} {l : List Int} (h : OwnB w base v l) (hb : Below w.heap.size w w') : OwnB w' base v l :=
  ⟨h.1, h.2.imp id fun ⟨g, cap, cur, e, hg, hh, r⟩ => ⟨g, cap, cur, e, hg, (hb.block g (Array.getElem?_eq_some_iff.1 hh).1).trans hh, r⟩⟩
theorem info5s : (Tryd.prog.info? 5).map (·.size) = some 1 := by kernel_rfl
/-- A digest's bytes from a place on. -/
theorem slice_arr (g i : Nat) (hi : i < 8) (w : World) : (Instr.sliceAt 25 (.pointer (some ⟨g, 0, none⟩)) (some (.int .i64 (4 * (i : Int)))) none none).run Tryd.prog w = .ok (.slice (some ⟨g, 4 * i, none⟩) (32 - 4 * i) (32 - 4 * i)) w := by
  obtain ⟨i0, hi0, hz0, hz1, hz2⟩ := info_parts Libs.info5
  have h1 : (0 : Int) ≤ 4 * (i : Int) := by omega
  have h2 : 4 * (i : Int) ≤ ((32 : Nat) : Int) := by omega
  have e1 : (4 * (i : Int)).toNat = 4 * i := by omega
  have e2 : ¬ 32 = 4 * i := by omega
  have hb : (Instr.sliceBound (.int .i64 (4 * (i : Int))) 32 .sliceB).run Tryd.prog w = .ok (4 * i) w := by
    rw [run_sliceBound _ _ _ _ _ h1 (by omega), e1]
  simp [Instr.sliceAt, Sem.run_bind, run_underlying Tryd.underlying25, Instr.sureAddr, Instr.sliceBounds, sizeOf, typeInfo, hi0, hz1, hb, e2, Addr.add]
  try (split <;> simp_all)
  try omega
theorem splice_next (L Z : List Int) (X : List Int) (m : Nat) (hm : X.length = m) (hz : m ≤ Z.length) : splice (nums .u8 (L ++ Z)) L.length (nums .u8 X) = nums .u8 (L ++ X ++ Z.drop m) := by
  subst hm
  unfold splice
  simp only [nums, List.map_append, List.length_map, List.map_drop]
  rw [List.take_left' (by simp), ← List.drop_drop, List.drop_left' (by simp)]
  simp
structure Held (p : Prop) : Prop where
  out : p
theorem held_ {p : Prop} (h : Held p) : p := h.out
end Go.Proofs.YtbkocnclaobabaaDoor.SumA
