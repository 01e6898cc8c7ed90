/- A row of fields that came in: what it reads as. No condition. -/
import Derived.Test.YtnfajlnpmndkdaaBulk
import Derived.Test.YtnfajlnpmndkdaaDigEq
import Derived.Deep.Slices
import Derived.OpenShut
namespace Go.Proofs.Ytnfajlnpmndkdaa.FieldIn
set_option linter.unusedVariables false
set_option linter.unusedSimpArgs false
open Go.ChangeShapes Go.WideShapes Go.ChangeAt Go.RowKit Go.Proofs.Ytnfajlnpmndkdaa.Nums Go.Proofs.Ytnfajlnpmndkdaa.Bulk Go.Proofs.Ytnfajlnpmndkdaa.DigEq Go.Proofs.YtnfajlnpmndkdaaW.PrintWords
structure Fld where
  what : Int
  n : Nat
  a : Int
  s : ByteArray
  D : List Int
def fcells (F : Fld) : List Value := [.int .i64 F.what, .int .u64 F.n, .int .i64 F.a, .string F.s] ++ nums .u8 F.D
structure Fld.ok (F : Fld) : Prop where
  n : F.n < 18446744073709551616
  a0 : -9223372036854775808 ≤ F.a
  a1 : F.a < 9223372036854775808
  len : F.D.length = 32
  bytes : Bytes F.D
def FieldsIn (W : World) (A : Option Addr) (fs : List Fld) : Prop :=
  ∀ i, ∀ hi : i < fs.length, ∃ ad : Addr, A = some ad ∧ (∀ j v, (fcells fs[i])[j]? = some v → W.cell? ((ad.add (i * 36)).add j) = some v) ∧ fs[i].ok
theorem cells43 : Try.prog.cellsOf 43 = 36 := by kernel_rfl
theorem off43 (i : Nat) (f : Field) : True := trivial
theorem fields43 : ∃ f0 f1 f2 f3 f4 : Field, Try.prog.underlying 43 = some (.struct #[f0, f1, f2, f3, f4]) ∧ (f0.type = 3 ∧ f0.offset = 0) ∧ (f1.type = 22 ∧ f1.offset = 1) ∧ (f2.type = 2 ∧ f2.offset = 2) ∧ (f3.type = 9 ∧ f3.offset = 3) ∧ (f4.type = 41 ∧ f4.offset = 4) :=
  ⟨_, _, _, _, _, Try.underlying43, by decide, by decide, by decide, by decide, by decide⟩
section
variable {H : Type} {enc : TypeId × Value → H} {w : World} {base : Nat} {spare : Nat → Bool} {held : Bool}
theorem trod_dig {fuel : Nat} {cs : List Value} {x : DataW H × List MemPlace} (h : DataW.trod enc Try.prog w base spare held fuel 41 cs = some x) : ∃ D : List Int, cs = nums .u8 D ∧ D.length = 32 ∧ Bytes D := by
  obtain ⟨xs, m, _, _, hlen, hl, hel⟩ := DataW.trod_array Try.underlying41 h
  rw [cells41] at hlen
  have each : ∀ i, i < 32 → ∃ n : Int, cs[i]? = some (.int .u8 n) ∧ (Lit.int .u8 n).wf = true := by
    intro i hi
    have h1 := hel i hi
    rw [cells5, List.getElem?_eq_getElem (by omega)] at h1
    obtain ⟨n, h2, _, h3⟩ := DataW.trod_int Try.underlying5 h1
    refine ⟨n, ?_, h3⟩
    rw [Nat.mul_one, List.drop_eq_getElem_cons (by omega)] at h2
    simp only [List.take_succ_cons, List.take_zero, List.cons.injEq, and_true] at h2
    rw [List.getElem?_eq_getElem (by omega), h2]
  have numOf : ∃ D : List Int, cs = nums .u8 D ∧ ∀ x ∈ D, (Lit.int .u8 x).wf = true := by
    have gen : ∀ l : List Value, (∀ i (hi : i < l.length), ∃ n : Int, l[i]? = some (.int .u8 n) ∧ (Lit.int .u8 n).wf = true) → ∃ D : List Int, l = nums .u8 D ∧ ∀ x ∈ D, (Lit.int .u8 x).wf = true := by
      intro l
      induction l with
      | nil => intro _; exact ⟨[], rfl, by simp⟩
      | cons v l ih =>
        intro hh
        obtain ⟨n, h1, h2⟩ := hh 0 (by simp)
        obtain ⟨D, h3, h4⟩ := ih fun i hi => by
          have := hh (i + 1) (by simpa using hi)
          simpa using this
        have hv : v = .int .u8 n := by simpa using h1
        refine ⟨n :: D, by rw [hv, h3]; rfl, fun x hx => ?_⟩
        rcases List.mem_cons.1 hx with rfl | hx
        · exact h2
        · exact h4 x hx
    exact gen cs fun i hi => each i (by omega)
  obtain ⟨D, h1, h2⟩ := numOf
  refine ⟨D, h1, ?_, bytes_of_wf h2⟩
  rw [h1, nums_length] at hlen
  exact hlen
theorem cells2 : Try.prog.cellsOf 2 = 1 ∧ Try.prog.cellsOf 3 = 1 ∧ Try.prog.cellsOf 22 = 1 ∧ Try.prog.cellsOf 9 = 1 := ⟨by kernel_rfl, by kernel_rfl, by kernel_rfl, by kernel_rfl⟩
theorem trod_field {fuel : Nat} {cs : List Value} {x : DataW H × List MemPlace} (h : DataW.trod enc Try.prog w base spare held fuel 43 cs = some x) : ∃ F : Fld, cs = fcells F ∧ F.ok ∧ F.s.size + 1 ≤ Rows.uptoBulk x.1 := by
  obtain ⟨f0, f1, f2, f3, f4, hu, ⟨t0, o0⟩, ⟨t1, o1⟩, ⟨t2, o2⟩, ⟨t3, o3⟩, ⟨t4, o4⟩⟩ := fields43
  obtain ⟨xs, m, _, hx, hlen, hl, hf⟩ := DataW.trod_struct hu h
  obtain ⟨c2, c3, c22, c9⟩ := cells2
  rw [cells43] at hlen
  have hl5 : xs.length = 5 := hl
  have h0 := hf 0 f0 rfl
  have h1 := hf 1 f1 rfl
  have h2 := hf 2 f2 rfl
  have h3 := hf 3 f3 rfl
  have h4 := hf 4 f4 rfl
  rw [t0, o0, c3, List.getElem?_eq_getElem (by omega)] at h0
  rw [t1, o1, c22, List.getElem?_eq_getElem (by omega)] at h1
  rw [t2, o2, c2, List.getElem?_eq_getElem (by omega)] at h2
  rw [t3, o3, c9, List.getElem?_eq_getElem (by omega)] at h3
  rw [t4, o4, cells41, List.getElem?_eq_getElem (by omega)] at h4
  obtain ⟨what, e0, _, _⟩ := DataW.trod_int Try.underlying3 h0
  obtain ⟨n, e1, _, w1⟩ := DataW.trod_int Try.underlying22 h1
  obtain ⟨a, e2, _, w2⟩ := DataW.trod_int Try.underlying2 h2
  obtain ⟨s, e3, b3, _⟩ := DataW.trod_string Try.underlying9 h3
  obtain ⟨D, e4, hD, hB⟩ := trod_dig h4
  obtain ⟨n0, n1⟩ := wf_u64 w1
  obtain ⟨a0, a1⟩ := wf_i64 w2
  obtain ⟨n, rfl⟩ := Int.eq_ofNat_of_zero_le n0
  refine ⟨⟨what, n, a, s, D⟩, ?_, ⟨by show n < _; omega, a0, a1, hD, hB⟩, ?_⟩
  · match cs, hlen with
    | v0 :: v1 :: v2 :: v3 :: r, hlen =>
      simp only [List.drop_zero, List.drop_succ_cons, List.take_succ_cons, List.take_zero, List.cons.injEq, and_true] at e0 e1 e2 e3 e4
      have hr : r.length = 32 := by simpa using hlen
      rw [List.take_of_length_le (by omega)] at e4
      rw [e0, e1, e2, e3, e4]
      rfl
  · rw [hx]
    have hm : (xs[3]'(by omega)).1 ∈ xs.map (·.1) := List.mem_map.2 ⟨_, List.getElem_mem _, rfl⟩
    have hp : ∀ (l : List (DataW H)) (d : DataW H), d ∈ l → Rows.uptoBulk d ≤ Rows.uptoBulkAll l := by
      intro l d
      induction l with
      | nil => intro h; simp at h
      | cons x r ih =>
        intro h
        simp only [Rows.uptoBulkAll]
        rcases List.mem_cons.1 h with rfl | h
        · omega
        · have := ih h; omega
    have h5 := hp _ _ hm
    rw [b3] at h5
    simp only [Rows.uptoBulk] at h5 ⊢
    have e : s.data.toList.length = s.size := by rw [Array.length_toList]; rfl
    show s.size + 1 ≤ _
    omega
theorem open_fields {t : TypeId} {A : Option Addr} {len cap : Nat} {d : DataW H} {ps : List MemPlace} (hu : Try.prog.underlying t = some (.slice 43)) (h : DataW.Trod enc Try.prog w base (fun _ => true) held t (.slice A len cap) d ps) :
    ∃ fs : List Fld, len = fs.length ∧ fs.length ≤ cap ∧ (A = none → cap = 0) ∧ fs.length ≤ 9223372036854775807 ∧ FieldsIn w A fs ∧ (fs.map fun F => F.s.size).sum + fs.length ≤ Rows.uptoBulk d := by
  obtain ⟨fuel, hf⟩ := h
  rcases Deep.open_slice hu hf with ⟨hcs, _⟩ | ⟨a, l, c, m, n, D, Pl, hcs, _, hl, hm, hmm, hx, hi⟩
  · simp [Value.cells] at hcs
    obtain ⟨rfl, rfl, rfl⟩ := hcs
    exact ⟨[], rfl, by simp, fun _ => rfl, by simp, fun i hi => by simp at hi, by simp⟩
  · simp [Value.cells] at hcs
    obtain ⟨rfl, rfl, rfl⟩ := hcs
    simp only [if_true] at hmm
    subst hmm
    obtain ⟨hx, _⟩ := Prod.mk.inj hx
    subst hx
    unfold maxLen at hm
    rw [cells43] at hi
    have each : ∀ i, ∃ F : Fld, i < len → (∀ j v, (fcells F)[j]? = some v → w.cell? ((a.add (i * 36)).add j) = some v) ∧ F.ok ∧ F.s.size + 1 ≤ Rows.uptoBulk (D i) := by
      intro i
      by_cases hil : i < len
      · obtain ⟨cs', hc, ht⟩ := hi i (by omega)
        obtain ⟨F, h1, h2, h3⟩ := trod_field ht
        obtain ⟨_, hcl, hat⟩ := World.cells?_some hc
        refine ⟨F, fun _ => ⟨fun j v hj => ?_, h2, h3⟩⟩
        have hjl : j < 36 := by rw [← hcl, h1]; exact (List.getElem?_eq_some_iff.1 hj).1
        rw [hat j hjl, h1]
        exact hj
      · exact ⟨⟨0, 0, 0, ⟨#[]⟩, []⟩, fun h => absurd h hil⟩
    refine ⟨(List.range len).map fun i => Classical.choose (each i), by simp, by simpa using hl, fun hA => by simp at hA, by simp; omega, ?_, ?_⟩
    · intro i hi'
      simp only [List.length_map, List.length_range] at hi'
      simp only [List.getElem_map, List.getElem_range]
      obtain ⟨h1, h2, _⟩ := Classical.choose_spec (each i) hi'
      exact ⟨a, rfl, h1, h2⟩
    · have key : ∀ rs : List Nat, (∀ r ∈ rs, r < len) → ((rs.map fun i => Classical.choose (each i)).map fun F => F.s.size).sum + rs.length ≤ Rows.uptoBulkAll (rs.map D) := by
        intro rs
        induction rs with
        | nil => intro _; simp
        | cons r rs ih =>
          intro hr
          have h1 := ih fun x hx => hr x (by simp [hx])
          obtain ⟨_, _, h2⟩ := Classical.choose_spec (each r) (hr r (by simp))
          simp only [List.map_cons, List.sum_cons, List.length_cons, Rows.uptoBulkAll]
          omega
      have h1 := key (List.range len) fun r hr => List.mem_range.1 hr
      simp only [List.length_map, List.length_range] at h1 ⊢
      simp only [Rows.uptoBulk]
      omega
end
end Go.Proofs.Ytnfajlnpmndkdaa.FieldIn
