/- What the bound of the second form gives, and a row of rows of bytes that came in, read with all that its elements are. No condition. -/
import Derived.Test.YtbkocnclaobabaaDoorRows
import Derived.Test.YtbkocnclaobabaaDoorWMore
import Derived.Deep.Matrix
import Derived.SizedLaws
import Derived.ChangeSlices
import Derived.ProofKit
namespace Go.Proofs.YtbkocnclaobabaaDoor.Bulk
open Go.ChangeShapes Go.WideShapes Go.ChangeAt Go.RowKit Go.Proofs.YtbkocnclaobabaaDoorW.PrintWords
set_option linter.unusedVariables false
theorem one_le {H : Type} (d : DataW H) : 1 ≤ Rows.uptoBulk d := by
  cases d with
  | lit l => cases l <;> simp [Rows.uptoBulk]
  | nil => simp [Rows.uptoBulk]
  | ptr d => simp [Rows.uptoBulk]
  | slice elems spare => simp [Rows.uptoBulk]
  | agg parts => simp [Rows.uptoBulk]
  | iface t d => simp [Rows.uptoBulk]
  | map entries => simp [Rows.uptoBulk]
  | held h => simp [Rows.uptoBulk]
theorem length_le {H : Type} (l : List (DataW H)) : l.length ≤ Rows.uptoBulkAll l := by
  induction l with
  | nil => simp [Rows.uptoBulkAll]
  | cons x r ih => have := one_le x; simp only [Rows.uptoBulkAll, List.length_cons]; omega
theorem bound {H : Type} {l : List (DataW H)} (hk : Rows.uptoSmall H l = true) : Rows.uptoBulkAll l ≤ 1048576 := of_decide_eq_true hk
/-- A row of whole numbers: its length. -/
theorem bulk_ints {H : Type} {enc : TypeId × Value → H} {P : Program} {W : World} {base : Nat} {spare : Nat → Bool} {held : Bool} {t e : TypeId} {k : IntKind} {a : Option Addr} {len cap : Nat} {d : DataW H} {ps : List MemPlace}
    (hu : P.underlying t = some (.slice e)) (he : P.underlying e = some (.int k)) (hc : P.cellsOf e = 1) (h : DataW.Trod enc P W base spare held t (.slice a len cap) d ps) : len ≤ Rows.uptoBulk d := by
  obtain ⟨fuel, hf⟩ := h
  rcases open_ints hu he hc hf with ⟨hcs, _⟩ | ⟨x, l, c, zs, hcs, _, hl, _, hz, hx, _, _⟩
  · simp [Value.cells] at hcs
    obtain ⟨rfl, rfl, rfl⟩ := hcs
    omega
  · simp [Value.cells] at hcs
    obtain ⟨rfl, rfl, rfl⟩ := hcs
    obtain ⟨hx, _⟩ := Prod.mk.inj hx
    subst hx
    have hl2 : len ≤ zs.length := by
      rw [hz]
      split
      · exact hl
      · exact Nat.le_refl _
    have h1 := length_le (lits (H := H) k (zs.take len))
    have h2 : (lits (H := H) k (zs.take len)).length = len := by simp [lits]; omega
    simp only [Rows.uptoBulk]
    omega
theorem bulk_row {H : Type} (k : IntKind) (A : Option Addr) (L : Nat) (zs : List Int) (hn : A = none → zs.length = 0) : (zs.take L).length + 1 ≤ Rows.uptoBulk (Deep.intRow (H := H) k A L zs) := by
  cases A with
  | none => obtain rfl : zs = [] := List.length_eq_zero_iff.1 (hn rfl); simp [Deep.intRow, Rows.uptoBulk]
  | some a =>
    have h1 := length_le (lits (H := H) k (zs.take L))
    have h2 : (lits (H := H) k (zs.take L)).length = (zs.take L).length := by simp [lits]
    simp only [Deep.intRow, Rows.uptoBulk]
    omega
theorem bulk_rows {H : Type} (k : IntKind) (A : Nat → Option Addr) (L : Nat → Nat) (Z : Nat → List Int) : ∀ rs : List Nat, (∀ r ∈ rs, A r = none → (Z r).length = 0) →
    (rs.map fun r => (Z r).take (L r)).flatten.length + rs.length ≤ Rows.uptoBulkAll (rs.map fun r => Deep.intRow (H := H) k (A r) (L r) (Z r))
  | [], _ => by simp
  | r :: rs, h => by
    have h1 := bulk_row (H := H) k (A r) (L r) (Z r) (h r (by simp))
    have h2 := bulk_rows (H := H) k A L Z rs fun x hx => h x (by simp [hx])
    simp only [List.map_cons, List.flatten_cons, List.length_append, List.length_cons, Rows.uptoBulkAll]
    omega
/-- What a row of rows of bytes that came in reads as. -/
def RowsIn (W : World) (A : Option Addr) (ls : List (List Int)) : Prop :=
  ∀ i, ∀ hi : i < ls.length, ∃ (ad : Addr) (A0 : Option Addr) (c0 : Nat), A = some ad ∧ W.cell? (ad.add i) = some (.slice A0 ls[i].length c0) ∧ ls[i].length ≤ c0 ∧ (Kd.int .u8).C W A0 ls[i].length ls[i] ∧ (A0 = none → c0 = 0) ∧ ls[i].length ≤ 9223372036854775807 ∧ ∀ x ∈ ls[i], (Lit.int .u8 x).wf = true
theorem open_rows {H : Type} {enc : TypeId × Value → H} {P : Program} {W : World} {base : Nat} {held : Bool} {t e q : TypeId} {A : Option Addr} {len cap : Nat} {d : DataW H} {ps : List MemPlace} 
    (hu : P.underlying t = some (.slice e)) (he : P.underlying e = some (.slice q)) (hq : P.underlying q = some (.int .u8)) (ce : P.cellsOf e = 1) (cq : P.cellsOf q = 1)
    (h : DataW.Trod enc P W base (fun _ => true) held t (.slice A len cap) d ps) :
    ∃ ls : List (List Int), len = ls.length ∧ ls.length ≤ cap ∧ (A = none → cap = 0) ∧ ls.length ≤ 9223372036854775807 ∧ RowsIn W A ls ∧ ls.flatten.length + ls.length ≤ Rows.uptoBulk d := by
  obtain ⟨fuel, hf⟩ := h
  rcases Deep.open_int_rows hu he hq ce cq hf with ⟨hcs, _⟩ | ⟨a, l, c, AA, L, C, Z, hcs, _, hl, hm, hx, hcell⟩
  · simp [Value.cells] at hcs
    obtain ⟨rfl, rfl, rfl⟩ := hcs
    exact ⟨[], rfl, by simp, fun _ => rfl, by simp, fun i hi => by simp at hi, by simp⟩
  · simp [Value.cells] at hcs
    obtain ⟨rfl, rfl, rfl⟩ := hcs
    obtain ⟨hx, _⟩ := Prod.mk.inj hx
    subst hx
    unfold maxLen at hm
    have hin : ∀ r, r < len → ((Z r).take (L r)).length = L r := fun r hr => by
      obtain ⟨_, h2, _, h4, _⟩ := hcell r (by omega)
      rw [List.length_take]; omega
    refine ⟨(List.range len).map fun r => (Z r).take (L r), by simp, by simpa using hl, fun hA => by simp at hA, by simp; omega, ?_, ?_⟩
    · intro i hi
      simp only [List.length_map, List.length_range] at hi
      simp only [List.getElem_map, List.getElem_range]
      obtain ⟨h1, h2, h3, h4, h5, h6, h7⟩ := hcell i (by omega)
      unfold maxLen at h3
      refine ⟨a, AA i, C i, rfl, by rw [hin i hi]; exact h1, by rw [hin i hi]; exact h2, ?_, h6, by rw [hin i hi]; omega, fun x hx => h5 x (List.mem_of_mem_take hx)⟩
      refine ⟨rfl, by rw [hin i hi]; omega, fun hpos => ?_⟩
      rw [hin i hi] at hpos
      cases hA : AA i with
      | none => have := h6 hA; omega
      | some a' =>
        refine ⟨a', rfl, fun k x hk => ⟨[.int .u8 x], rfl, rfl, fun m u hu => ?_⟩⟩
        obtain ⟨hkl, rfl⟩ := List.getElem?_eq_some_iff.1 hk
        rw [hin i hi] at hkl
        cases m with
        | zero =>
          simp at hu
          subst hu
          have := (h7 a' hA).2 k (by omega)
          rw [List.getD_eq_getElem?_getD, List.getElem?_eq_getElem (by omega)] at this
          simpa [Kd.int, Kd.scalar] using this
        | succ m => simp at hu
    · have h1 := bulk_rows (H := H) .u8 AA L Z (List.range len) fun r hr hA => by
        rw [List.mem_range] at hr
        obtain ⟨_, _, _, h4, _, h6, _⟩ := hcell r (by omega)
        have := h6 hA
        omega
      simp only [List.length_map, List.length_range] at h1 ⊢
      simp only [Rows.uptoBulk]
      omega
theorem sized_rows {H : Type} {enc : TypeId × Value → H} {P : Program} {W : World} {base : Nat} {held : Bool} {t e q : TypeId} {A : Option Addr} {len cap : Nat} {d : DataW H} {ps : List MemPlace} {ts : List TypeId} {ds : List (DataW H)} {j : Nat}
    (hsz : (DataW.weightsEach P ts ds).all (· ≤ reachBytes) = true) (ht : ts[j]? = some t) (hd : ds[j]? = some d) (hu : P.underlying t = some (.slice e)) (he : P.underlying e = some (.slice q)) (hq : P.underlying q = some (.int .u8)) (ce : P.cellsOf e = 1) (cq : P.cellsOf q = 1) (hB : P.bytesOf e = 24)
    (h : DataW.Trod enc P W base (fun _ => true) held t (.slice A len cap) d ps) : len * 24 ≤ 140737488351232 := by
  obtain ⟨fuel, hf⟩ := h
  rcases Deep.open_int_rows hu he hq ce cq hf with ⟨hcs, _⟩ | ⟨a, l, c, AA, L, C, Z, hcs, _, hl, hm, hx, hcell⟩
  · simp [Value.cells] at hcs
    obtain ⟨rfl, rfl, rfl⟩ := hcs
    simp
  · simp [Value.cells] at hcs
    obtain ⟨rfl, rfl, rfl⟩ := hcs
    obtain ⟨hx, _⟩ := Prod.mk.inj hx
    subst hx
    have z := sized_slice hsz ht hd hu
    rw [hB] at z
    simp only [List.length_map, List.length_range] at z
    have h2 : len * 24 ≤ (len + (cap - len)) * 24 := Nat.mul_le_mul_right _ (by omega)
    exact Nat.le_trans h2 z
end Go.Proofs.YtbkocnclaobabaaDoor.Bulk
