/- Two digests compared. No condition. -/
import Derived.Test.YtbkocnclaobabaaDoorPartsW
import Derived.DeepKeys
namespace Go.Proofs.YtbkocnclaobabaaDoor.DigEq
set_option linter.unusedVariables false
set_option linter.unusedSimpArgs false
open Go.RowKit Go.Proofs.YtbkocnclaobabaaDoor.Nums Go.Proofs.YtbkocnclaobabaaDoor.WriteM Go.Proofs.YtbkocnclaobabaaDoor.PutM Go.Proofs.YtbkocnclaobabaaDoor.PartsW Go.Proofs.YtbkocnclaobabaaDoorW.PrintWords
def digV (D : List Int) : Value := .agg (nums .u8 D).toArray
def rd (l : List Int) (i : Int) : Int := l.getD i.toNat 0
theorem rd_get {l : List Int} {i : Nat} (h : i < l.length) : rd l (i : Int) = l[i] := by
  unfold rd
  rw [Int.toNat_natCast, List.getD_eq_getElem?_getD, List.getElem?_eq_getElem h]
  rfl
theorem rd_byte {l : List Int} (hb : Bytes l) (i : Nat) : 0 ≤ rd l (i : Int) ∧ rd l (i : Int) < 256 := by
  unfold rd
  rw [Int.toNat_natCast, List.getD_eq_getElem?_getD]
  by_cases h : i < l.length
  · rw [List.getElem?_eq_getElem h]
    exact hb _ (List.getElem_mem h)
  · rw [List.getElem?_eq_none (by omega)]
    simp
theorem mapM_some {α β : Type} (f : α → Option β) (g : α → β) : ∀ l : List α, (∀ i ∈ l, f i = some (g i)) → l.mapM f = some (l.map g)
  | [], _ => by simp
  | x :: l, h => by
    rw [List.mapM_cons, h x (by simp), mapM_some f g l fun i hi => h i (by simp [hi])]
    rfl
theorem byte_wf {x : Int} (h : 0 ≤ x ∧ x < 256) : (Lit.int .u8 x).wf = true := by
  have : 0 ≤ x ∧ x ≤ 255 := by omega
  simpa [Lit.wf, IntKind.min, IntKind.max, IntKind.bits, IntKind.signed] using this
theorem cells25 : Tryd.prog.cellsOf 25 = 32 := by kernel_rfl
theorem cells5 : Tryd.prog.cellsOf 5 = 1 := by kernel_rfl
theorem digs_flat (D : List Int) : ((List.range D.length).map fun i : Nat => [Lit.int .u8 (rd D (i : Int))]).flatten = D.map (Lit.int .u8) := by
  apply List.ext_getElem?
  intro i
  have e : ((List.range D.length).map fun i : Nat => [Lit.int .u8 (rd D (i : Int))]).flatten = (List.range D.length).map fun i : Nat => Lit.int .u8 (rd D (i : Int)) := by
    generalize List.range D.length = r
    induction r with
    | nil => rfl
    | cons x r ih => simp [ih]
  rw [e, List.getElem?_map, List.getElem?_map]
  by_cases h : i < D.length
  · rw [List.getElem?_range h, List.getElem?_eq_getElem h]
    simp [rd_get h]
  · rw [List.getElem?_eq_none (by simpa using h), List.getElem?_eq_none (by omega)]
    rfl
theorem dig_lits {D : List Int} (hD : D.length = 32) (hB : Bytes D) : Tryd.prog.keyLits 2 25 (nums .u8 D) = some (D.map (Lit.int .u8)) := by
  rw [Program.keyLits.eq_def]
  simp only [Tryd.underlying25]
  show (if (nums .u8 D).length = Tryd.prog.cellsOf 25 then ((List.range 32).mapM fun i => Tryd.prog.keyLits 1 5 (((nums .u8 D).drop (i * Tryd.prog.cellsOf 5)).take (Tryd.prog.cellsOf 5))).map List.flatten else none) = _
  rw [if_pos (by rw [nums_length, hD, cells25]), cells5, mapM_some _ (fun i : Nat => [Lit.int .u8 (rd D (i : Int))])]
  · rw [← hD]
    show some _ = some _
    rw [digs_flat]
  · intro i hi
    rw [List.mem_range] at hi
    have e : ((nums .u8 D).drop (i * 1)).take 1 = [.int .u8 (rd D (i : Int))] := by
      unfold nums
      rw [Nat.mul_one, ← List.map_drop, ← List.map_take, List.drop_eq_getElem_cons (by omega), rd_get (by omega)]
      rfl
    rw [e, Program.keyLits.eq_def]
    simp only [Tryd.underlying5]
    have := byte_wf (rd_byte hB i)
    simp [this]
theorem key25 : Tryd.prog.keyTypeAt 2 25 = true := by kernel_rfl
theorem dig_formed {D : List Int} (hD : D.length = 32) : (digV D).formed Tryd.prog 25 = true := by
  unfold digV Value.formed
  simp [Tryd.underlying25, cells25, nums_length, hD]
theorem dig_cells {D : List Int} (hD : D.length = 32) (hB : Bytes D) : Tryd.prog.keyLits 2 25 (digV D).cells.toList = some (D.map (Lit.int .u8)) := by
  have e : (digV D).cells.toList = nums .u8 D := by simp [digV, Value.cells]
  rw [e]
  exact dig_lits hD hB
theorem lits_inj {D E : List Int} (h : D.map (Lit.int .u8) = E.map (Lit.int .u8)) : D = E := by
  induction D generalizing E with
  | nil => cases E with
    | nil => rfl
    | cons y r => simp at h
  | cons x l ih => cases E with
    | nil => simp at h
    | cons y r =>
      simp only [List.map_cons, List.cons.injEq, Lit.int.injEq, true_and] at h
      rw [h.1, ih h.2]
theorem dig_eq {D E : List Int} (hD : D.length = 32) (hE : E.length = 32) (bD : Bytes D) (bE : Bytes E) (w : World) :
    (Op.equalIn 10000 25 (digV D) (digV E)).run Tryd.prog w = .ok (decide (D = E)) w := by
  obtain ⟨r, h1, h2⟩ := run_equalIn_deep (P := Tryd.prog) 9998 2 25 key25 w 2 2 (digV D) (digV E) _ _ (dig_formed hD) (dig_formed hE) (dig_cells hD bD) (dig_cells hE bE)
  rw [show (9998 + 2 : Nat) = 10000 from rfl] at h1
  rw [h1]
  congr 1
  rw [Bool.eq_iff_iff, h2, decide_eq_true_iff]
  exact ⟨lits_inj, fun h => by rw [h]⟩
theorem dig_bytes (l : List Int) : Bytes (dig l) := by
  intro x hx
  unfold dig WriteM.bytesOf at hx
  obtain ⟨b, hb, hxb⟩ := List.mem_flatten.1 hx
  obtain ⟨w, _, rfl⟩ := List.mem_map.1 hb
  exact T_bytes _ _ x hxb
theorem z32_bytes : Bytes Z32 := by
  intro x hx
  unfold Z32 at hx
  rw [List.eq_of_mem_replicate hx]
  omega
theorem same {D : List Int} (hD : D.length = 32) (bD : Bytes D) (w : World) : (Op.equalIn 10000 25 (.agg (nums .u8 D).toArray) (.agg (nums .u8 D).toArray)).run Tryd.prog w = .ok true w := by
  have := dig_eq hD hD bD bD w
  rw [decide_eq_true rfl] at this
  exact this
end Go.Proofs.YtbkocnclaobabaaDoor.DigEq
