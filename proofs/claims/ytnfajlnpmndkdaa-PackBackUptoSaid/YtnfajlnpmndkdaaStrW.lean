/- Texts as numbers: a string turned into bytes, put together, cut. No condition. -/
import Derived.Test.YtnfajlnpmndkdaaLibs
import Derived.Lib.ConvBytes
namespace Go.Proofs.Ytnfajlnpmndkdaa.StrW
set_option linter.unusedVariables false
set_option linter.unusedSimpArgs false
open Go.RowKit Go.Proofs.Ytnfajlnpmndkdaa.Nums Go.Proofs.Ytnfajlnpmndkdaa.Libs Go.Proofs.YtnfajlnpmndkdaaW.PrintWords Go.Proofs.YtnfajlnpmndkdaaW.PrintLast Go.Proofs.YtnfajlnpmndkdaaW.PrintMore
/-- The bytes of a text, as numbers. -/
def numsOf (s : ByteArray) : List Int := s.data.toList.map fun b => (b.toNat : Int)
theorem numsOf_length (s : ByteArray) : (numsOf s).length = s.size := by unfold numsOf; simp
theorem numsOf_bytes (s : ByteArray) : Bytes (numsOf s) := by
  intro x hx
  obtain ⟨b, _, rfl⟩ := List.mem_map.1 hx
  have := b.toNat_lt
  omega
theorem strN_data (l : List Int) : (strOfNums l).data.toList = l.map fun n => UInt8.ofNat n.toNat := by
  rw [← ByteArray.toList_eq]; exact str_toList l
theorem strN_size (l : List Int) : (strOfNums l).size = l.length := by
  have := congrArg List.length (strN_data l)
  simpa using this
theorem str_eq {a b : ByteArray} (h : a.data.toList = b.data.toList) : a = b := by
  cases a; cases b; simp at h; rw [h]
theorem str_nums (s : ByteArray) : strOfNums (numsOf s) = s := by
  apply str_eq
  rw [strN_data]
  unfold numsOf
  rw [List.map_map]
  have : (fun n : Int => UInt8.ofNat n.toNat) ∘ (fun b : UInt8 => (b.toNat : Int)) = id := by
    funext b; simp
  rw [this, List.map_id]
theorem nums_str {l : List Int} (h : Bytes l) : numsOf (strOfNums l) = l := by
  unfold numsOf
  rw [strN_data, List.map_map]
  conv => rhs; rw [← List.map_id l]
  apply List.map_congr_left
  intro x hx
  have := h x hx
  show ((UInt8.ofNat x.toNat).toNat : Int) = x
  rw [UInt8.toNat_ofNat_of_lt' (by show x.toNat < 256; omega)]
  omega
theorem str_append (a b : List Int) : strOfNums a ++ strOfNums b = strOfNums (a ++ b) := by
  apply str_eq
  rw [ByteArray.data_append, Array.toList_append, strN_data, strN_data, strN_data, List.map_append]
theorem str_extract (l : List Int) (i j : Nat) : (strOfNums l).extract i j = strOfNums ((l.take j).drop i) := by
  apply str_eq
  rw [ByteArray.data_extract, Array.toList_extract, strN_data, strN_data, List.map_drop, List.map_take, List.extract_eq_take_drop, List.drop_take]
/-- '[]byte(s)': the row, and what was there is there. -/
theorem conv_bytes (w : World) (s : ByteArray) : ∃ c w', (convert 9 24 (.string s)).run Try.prog w = .ok (.slice (some ⟨w.heap.size, 0, none⟩) s.size c) w' ∧ s.size ≤ c ∧ (s.size ≤ 9223372036854775807 → (Kd.int .u8).C w' (some ⟨w.heap.size, 0, none⟩) s.size (numsOf s)) ∧ Below w.heap.size w w' ∧ w'.heap.size = w.heap.size + 1 := by
  refine ⟨_, _, Lib.run_convert_string_bytes w 9 24 5 s Try.underlying9 Try.underlying24 Try.underlying5, grownCap_ge w s.size 0 5, fun hm => ?_, ⟨rfl, rfl, rfl, ?_, fun k hk => Lib.bytesWorld_at_old w 5 s k hk⟩, Lib.bytesWorld_size w 5 s⟩
  · have := C_bytes (w := Lib.bytesWorld w 5 s) (g := w.heap.size) (l := numsOf s) (by rw [numsOf_length]; exact hm) fun i hi => by
      rw [numsOf_length] at hi
      rw [Lib.bytesWorld_cell w 5 s i hi]
      unfold numsOf
      simp [List.getD_eq_getElem?_getD, hi]
    rw [numsOf_length] at this
    exact this
  · rw [Lib.bytesWorld_size]; omega
end Go.Proofs.Ytnfajlnpmndkdaa.StrW
