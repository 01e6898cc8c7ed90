/- A row of rows of bytes that came in: what it reads as. No condition. -/
import Derived.Test.YthcebfjpgmkjjaaWMore
import Derived.Deep.Matrix
import Derived.SizedLaws
import Derived.ChangeSlices
import Derived.ProofKit
namespace Go.Proofs.Ythcebfjpgmkjjaa.Open
open Go.ChangeShapes Go.WideShapes Go.ChangeAt Go.RowKit Go.Proofs.YthcebfjpgmkjjaaW.PrintWords
set_option linter.unusedVariables false
theorem open_rows {H : Type} {enc : TypeId × Value → H} {P : Program} {W : World} {base : Nat} {held : Bool} {t e q : TypeId} {A : Option Addr} {len cap : Nat} {d : DataW H} {ps : List MemPlace} {ts : List TypeId} {ds : List (DataW H)} {j : Nat}
    (hsz : (DataW.weightsEach P ts ds).all (· ≤ reachBytes) = true) (ht : ts[j]? = some t) (hd : ds[j]? = some d) (hu : P.underlying t = some (.slice e)) (he : P.underlying e = some (.slice q)) (hq : P.underlying q = some (.int .u8)) (ce : P.cellsOf e = 1) (cq : P.cellsOf q = 1) (hB : P.bytesOf e = 24)
    (h : DataW.Trod enc P W base (fun _ => true) held t (.slice A len cap) d ps) :
    ∃ ls : List (List Int), len = ls.length ∧ ls.length ≤ cap ∧ (Kd.slice q (Kd.int .u8)).C W A ls.length ls ∧ (A = none → cap = 0) ∧ ls.length * 24 ≤ 140737488351232 ∧ ∀ l ∈ ls, (∀ x ∈ l, (Lit.int .u8 x).wf = true) ∧ l.length ≤ 9223372036854775807 := by
  obtain ⟨fuel, hf⟩ := h
  rcases Deep.open_int_rows hu he hq ce cq hf with ⟨hcs, _⟩ | ⟨a, l, c, AA, L, C, Z, hcs, _, hl, hm, hx, hcell⟩
  · simp [Value.cells] at hcs
    obtain ⟨rfl, rfl, rfl⟩ := hcs
    exact ⟨[], rfl, by simp, Kd.C_nil _ _, fun _ => rfl, by simp, by simp⟩
  · simp [Value.cells] at hcs
    obtain ⟨rfl, rfl, rfl⟩ := hcs
    obtain ⟨hx, _⟩ := Prod.mk.inj hx
    subst hx
    have z := sized_slice hsz ht hd hu
    rw [hB] at z
    simp only [List.length_map, List.length_range] at z
    unfold maxLen at hm
    have hlen : ((List.range len).map fun r => (Z r).take (L r)).length = len := by simp
    have hin : ∀ r, r < len → ((Z r).take (L r)).length = L r := fun r hr => by
      obtain ⟨_, h2, _, h4, _⟩ := hcell r (by omega)
      rw [List.length_take]; omega
    refine ⟨(List.range len).map fun r => (Z r).take (L r), by simp, by simpa using hl, ?_, fun hA => by simp at hA, ?_, ?_⟩
    · refine ⟨rfl, by rw [hlen]; omega, fun _ => ⟨a, rfl, fun i p hp => ?_⟩⟩
      obtain ⟨hi, rfl⟩ := List.getElem?_eq_some_iff.1 hp
      rw [hlen] at hi
      simp only [List.getElem_map, List.getElem_range]
      obtain ⟨h1, h2, h3, h4, h5, h6, h7⟩ := hcell i (by omega)
      unfold maxLen at h3
      refine ⟨[.slice (AA i) ((Z i).take (L i)).length (C i)], rfl, ⟨AA i, C i, rfl, by rw [hin i hi]; exact h2, ?_⟩, ?_⟩
      · refine ⟨rfl, by rw [hin i hi]; omega, fun hpos => ?_⟩
        rw [hin i hi] at hpos
        cases hA : AA i with
        | none => have := h6 hA; omega
        | some a' =>
          refine ⟨a', rfl, fun k x hk => ⟨[.int .u8 x], rfl, rfl, fun m u hu => ?_⟩⟩
          obtain ⟨hkl, rfl⟩ := List.getElem?_eq_some_iff.1 hk
          rw [hin i hi] at hkl
          cases m with
          | zero =>
            simp at hu
            subst hu
            have := (h7 a' hA).2 k (by omega)
            rw [List.getD_eq_getElem?_getD, List.getElem?_eq_getElem (by omega)] at this
            simpa [Kd.int, Kd.scalar] using this
          | succ m => simp at hu
      · intro m u hu
        cases m with
        | zero =>
          simp at hu
          subst hu
          have h1' := h1
          rw [← hin i hi] at h1'
          simpa [Kd.slice] using h1'
        | succ m => simp at hu
    · rw [hlen]
      have : len + (cap - len) = cap := by omega
      have h2 : len * 24 ≤ (len + (cap - len)) * 24 := Nat.mul_le_mul_right _ (by omega)
      exact Nat.le_trans h2 z
    · intro l hl'
      obtain ⟨r, hr, rfl⟩ := List.mem_map.1 hl'
      rw [List.mem_range] at hr
      obtain ⟨h1, h2, h3, h4, h5, _⟩ := hcell r (by omega)
      unfold maxLen at h3
      exact ⟨fun x hx => h5 x (List.mem_of_mem_take hx), by rw [List.length_take]; omega⟩
end Go.Proofs.Ythcebfjpgmkjjaa.Open
