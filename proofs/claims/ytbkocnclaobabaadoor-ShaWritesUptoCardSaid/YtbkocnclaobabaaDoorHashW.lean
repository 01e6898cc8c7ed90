/- A Hash as it lies: what is read of it, and what a field's being written leaves. No condition. -/
import Derived.Test.YtbkocnclaobabaaDoorWriteM
import Derived.Test.YtbkocnclaobabaaDoorMixW
import Derived.Test.YtbkocnclaobabaaDoorApp
namespace Go.Proofs.YtbkocnclaobabaaDoor.HashW
set_option linter.unusedVariables false
set_option linter.unusedSimpArgs false
open Go Go.RowKit Go.Proofs.YtbkocnclaobabaaDoor.ShaM Go.Proofs.YtbkocnclaobabaaDoor.Ops Go.Proofs.YtbkocnclaobabaaDoor.NewW Go.Proofs.YtbkocnclaobabaaDoor.WriteM Go.Proofs.YtbkocnclaobabaaDoor.Nums Go.Proofs.YtbkocnclaobabaaDoor.Arr Go.Proofs.YtbkocnclaobabaaDoor.Libs Go.Proofs.YtbkocnclaobabaaDoorW.PrintWords Go.Proofs.YtbkocnclaobabaaDoorW.PrintLast Go.Proofs.YtbkocnclaobabaaDoorW.PrintMore
section
variable {w : World} {g : Nat} {now : List Int} {v : Value} {n : Int}
theorem at8 (h : HashAt w g now v n) (hl : now.length = 8) : w.cell? ⟨g, 8, none⟩ = some v := by
  rw [blk_cell h, List.getElem?_toArray, List.getElem?_append_right (by rw [nums_length, hl]; omega), nums_length, hl]; rfl
theorem at9 (h : HashAt w g now v n) (hl : now.length = 8) : w.cell? ⟨g, 9, none⟩ = some (.int .i64 n) := by
  rw [blk_cell h, List.getElem?_toArray, List.getElem?_append_right (by rw [nums_length, hl]; omega), nums_length, hl]; rfl
theorem atN (h : HashAt w g now v n) (j : Nat) (hj : j < now.length) : w.cell? ⟨g, j, none⟩ = some (.int .u32 (now.getD j 0)) := by
  rw [blk_cell h, List.getElem?_toArray, List.getElem?_append_left (by rw [nums_length]; exact hj), List.getD_eq_getElem?_getD, List.getElem?_eq_getElem hj]
  unfold nums
  rw [List.getElem?_map, List.getElem?_eq_getElem hj]
  rfl
theorem atF (h : HashAt w g now v n) (j : Nat) : w.frozen? ⟨g, j, none⟩ = false := blk_frozen h j
theorem set9 (h : HashAt w g now v n) (hl : now.length = 8) (m : Int) : HashAt (w.setCell ⟨g, 9, none⟩ (.int .i64 m)) g now v m := by
  unfold HashAt
  rw [blk_set h, List.setIfInBounds_toArray, List.set_append_right _ _ (by rw [nums_length, hl]; omega), nums_length, hl]
  rfl
theorem set8 (h : HashAt w g now v n) (hl : now.length = 8) (u : Value) : HashAt (w.setCell ⟨g, 8, none⟩ u) g now u n := by
  unfold HashAt
  rw [blk_set h, List.setIfInBounds_toArray, List.set_append_right _ _ (by rw [nums_length, hl]; omega), nums_length, hl]
  rfl
theorem HashAt.lt (h : HashAt w g now v n) : g < w.heap.size := (Array.getElem?_eq_some_iff.1 h).1
theorem HashAt.move {w' : World} (h : HashAt w g now v n) (hb : w'.heap[g]? = w.heap[g]?) : HashAt w' g now v n := by unfold HashAt; rw [hb]; exact h
theorem setRow_self {w : World} {g t : Nat} {cur : Array Value} (hg : w.heap[g]? = some (.cells cur t (0, 0))) : w.setRow g cur = w := by
  have hlt : g < w.heap.size := (Array.getElem?_eq_some_iff.1 hg).1
  have hv : w.heap[g] = .cells cur t (0, 0) := (Array.getElem?_eq_some_iff.1 hg).2
  unfold World.setRow
  cases w with
  | mk heap tape drawn os output =>
    congr 1
    apply Array.ext
    · simp
    · intro k h1 h2
      simp only [Array.getElem_modify]
      split
      · rename_i hk; subst hk; simp at hv; simp [hv]
      · rfl
theorem run_storeCells_part {P : Program} (g t : Nat) : ∀ (vs : List Value) (i : Nat) (cur : Array Value) (w : World), w.heap[g]? = some (.cells cur t (0, 0)) → i + vs.length ≤ cur.size → (∀ v ∈ vs, v.oneCell' = true) →
    (storeCells ⟨g, 0, none⟩ vs i).run P w = .ok () (w.setRow g (cur.toList.take i ++ vs ++ cur.toList.drop (i + vs.length)).toArray)
  | [], i, cur, w, hg, hl, _ => by
    simp only [storeCells, List.append_nil, List.length_nil, Nat.add_zero, List.take_append_drop, Array.toArray_toList]
    rw [setRow_self hg]
    rfl
  | v :: rest, i, cur, w, hg, hl, h1 => by
    have hi : i < cur.size := by simp at hl; omega
    have hadd : (⟨g, 0, none⟩ : Addr).add i = ⟨g, i, none⟩ := by unfold Addr.add; split <;> simp_all
    have hcell : w.cell? ⟨g, i, none⟩ = some cur[i] := by simp [World.cell?, hg, hi]
    have hfro : w.frozen? ⟨g, i, none⟩ = false := by simp [World.frozen?, hg]
    have hst : (store ((⟨g, 0, none⟩ : Addr).add i) v).run P w = .ok () (w.setRow g (cur.setIfInBounds i v)) := by
      rw [hadd, run_store P w _ v _ (h1 v (by simp)), hcell]
      simp [hfro, setCell_eq_setRow w g i cur t (0, 0) v hg]
    have ih := run_storeCells_part (P := P) g t rest (i + 1) (cur.setIfInBounds i v) (w.setRow g (cur.setIfInBounds i v)) (setRow_heap w g cur _ t _ hg) (by simp at hl ⊢; omega) (fun x hx => h1 x (by simp [hx]))
    simp only [storeCells, Sem.run_bind, hst, Result.andThen_ok, ih, setRow_setRow]
    congr 3
    apply List.ext_getElem?
    intro k
    simp only [List.length_cons] at hl
    simp only [Array.toList_setIfInBounds, List.getElem?_append, List.length_take, List.length_set, Array.length_toList, List.length_append, List.length_cons, List.getElem?_drop, List.getElem?_take, List.getElem?_set]
    by_cases hk : k < i
    · simp [hk, show k < i + 1 by omega, show min (i + 1) cur.size = i + 1 by omega, show min i cur.size = i by omega, show i ≠ k by omega, show k < i + 1 + rest.length by omega, show k < i + (rest.length + 1) by omega]
    · by_cases hk2 : k = i
      · subst hk2
        simp [show min (k + 1) cur.size = k + 1 by omega, show min k cur.size = k by omega, hi, show ¬ (k + 1 + rest.length ≤ k) by omega]
      · by_cases hk3 : k < i + (rest.length + 1)
        · simp [hk, show ¬ k < i + 1 by omega, show min (i + 1) cur.size = i + 1 by omega, show min i cur.size = i by omega, show k - i = (k - (i + 1)) + 1 by omega, hk3, show k < i + 1 + rest.length by omega]
        · simp [show min (i + 1) cur.size = i + 1 by omega, show min i cur.size = i by omega, hk3, show ¬ k < i + 1 + rest.length by omega, show i + 1 + rest.length + (k - (i + 1 + rest.length)) = k by omega, show i + (rest.length + 1) + (k - (i + (rest.length + 1))) = k by omega, show i ≠ k by omega]
/-- The words are written whole. -/
theorem setNow {P : Program} {w : World} {g : Nat} {now : List Int} {v : Value} {n : Int} (h : HashAt w g now v n) (hl : now.length = 8) (r : List Int) (hr : r.length = 8) : ∃ w', (storeCells ⟨g, 0, none⟩ (nums .u32 r)).run P w = .ok () w' ∧ HashAt w' g r v n ∧ Only g w w' := by
  have hone : ∀ u ∈ nums .u32 r, u.oneCell' = true := by
    intro u hu
    obtain ⟨x, _, rfl⟩ := List.mem_map.1 hu
    rfl
  have hrun := run_storeCells_part (P := P) g 51 (nums .u32 r) 0 _ w h (by simp [nums_length, hl, hr]) hone
  refine ⟨_, hrun, ?_, Only.row ..⟩
  have e : List.take 0 (nums .u32 now ++ [v, .int .i64 n]).toArray.toList ++ nums .u32 r ++ List.drop (0 + (nums .u32 r).length) (nums .u32 now ++ [v, .int .i64 n]).toArray.toList = nums .u32 r ++ [v, .int .i64 n] := by
    rw [List.take_zero, List.nil_append, List.drop_append_of_le_length (by simp [nums_length, hl, hr]), List.drop_eq_nil_of_le (by simp [nums_length, hl, hr]), List.nil_append]
  rw [e]
  exact setRow_heap w g _ _ 51 (0, 0) h
end
/-- A Hash of a text: its rest lies at or above lo. -/
structure HashT (lo : Nat) (w : World) (g : Nat) (l : List Int) : Prop where
  lt : g < lo
  le : lo ≤ w.heap.size
  bytes : Bytes l
  is : ∃ (A : Option Addr) (c : Nat), HashAt w g (nowT l) (.slice A (restT l).length c) (l.length : Int) ∧ (Kd.int .u8).C w A (restT l).length (restT l) ∧ (restT l).length ≤ c ∧ (A = none → c = 0) ∧ ∀ ad, A = some ad → lo ≤ ad.block ∧ ad.block < w.heap.size
/-- All that was there is as it was, but for one block. -/
structure Sav (g : Nat) (w w' : World) : Prop where
  os : w'.os = w.os
  tape : w'.tape = w.tape
  output : w'.output = w.output
  size : w.heap.size ≤ w'.heap.size
  block : ∀ k, k < w.heap.size → k ≠ g → w'.heap[k]? = w.heap[k]?
theorem Sav.refl (g : Nat) (w : World) : Sav g w w := ⟨rfl, rfl, rfl, Nat.le_refl _, fun _ _ _ => rfl⟩
theorem Sav.trans {g : Nat} {a b c : World} (h : Sav g a b) (k : Sav g b c) : Sav g a c :=
  ⟨k.os.trans h.os, k.tape.trans h.tape, k.output.trans h.output, Nat.le_trans h.size k.size, fun j hj hn => (k.block j (Nat.lt_of_lt_of_le hj h.size) hn).trans (h.block j hj hn)⟩
theorem Sav.of_below {g : Nat} {w w' : World} (h : Below w.heap.size w w') : Sav g w w' := ⟨h.os, h.tape, h.output, h.size, fun k hk _ => h.block k hk⟩
theorem Sav.of_only {g : Nat} {w w' : World} (h : Only g w w') : Sav g w w' := ⟨h.os, h.tape, h.output, by rw [h.size]; exact Nat.le_refl _, fun k _ hn => h.block k hn⟩
theorem Sav.setCell {g j : Nat} (w : World) (u : Value) : Sav g w (w.setCell ⟨g, j, none⟩ u) := ⟨rfl, rfl, rfl, by simp [World.setCell], fun k _ hn => Below.heap_setCell w _ u k hn⟩
theorem Sav.drew {g : Nat} {w w' : World} (h : Sav g w w') : Sav g w w'.drew := ⟨h.os, h.tape, h.output, h.size, h.block⟩
theorem Sav.below {g B : Nat} {w w' : World} (h : Sav g w w') (hg : B ≤ g) (hB : B ≤ w.heap.size) : Below B w w' := ⟨h.os, h.tape, h.output, h.size, fun k hk => h.block k (by omega) (by omega)⟩
theorem keep_of_sav {g : Nat} {w w' : World} (h : Sav g w w') : KeepBut w w' g none := ⟨h.size, fun i hi hg _ => h.block i hi hg⟩
end Go.Proofs.YtbkocnclaobabaaDoor.HashW
