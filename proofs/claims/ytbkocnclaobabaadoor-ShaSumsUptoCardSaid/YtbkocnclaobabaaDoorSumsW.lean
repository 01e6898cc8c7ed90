/- law.all and ShaSums, walked. Condition: the rows hold at most 1048576 bytes in all. -/
import Derived.Test.YtbkocnclaobabaaDoorPartsW
import Derived.Test.YtbkocnclaobabaaDoorRefS
import Derived.Test.YtbkocnclaobabaaDoorDigEq
import Derived.Test.YtbkocnclaobabaaDoorAwakeW
import Derived.Test.YtbkocnclaobabaaDoorTwoW
import Derived.Test.YtbkocnclaobabaaDoorBulk
namespace Go.Proofs.YtbkocnclaobabaaDoor.AllW
set_option linter.unusedVariables false
set_option linter.unusedSimpArgs false
open Go.RowKit Go.Proofs.YtbkocnclaobabaaDoor.PAll Go.Proofs.YtbkocnclaobabaaDoor.Nums Go.Proofs.YtbkocnclaobabaaDoor.PutM Go.Proofs.YtbkocnclaobabaaDoor.Libs Go.Proofs.YtbkocnclaobabaaDoor.ShaM Go.Proofs.YtbkocnclaobabaaDoor.WriteM Go.Proofs.YtbkocnclaobabaaDoor.Arr Go.Proofs.YtbkocnclaobabaaDoor.SchedW Go.Proofs.YtbkocnclaobabaaDoor.NewW Go.Proofs.YtbkocnclaobabaaDoor.MixW Go.Proofs.YtbkocnclaobabaaDoor.App Go.Proofs.YtbkocnclaobabaaDoor.HashW Go.Proofs.YtbkocnclaobabaaDoorW.PrintWords Go.Proofs.YtbkocnclaobabaaDoorW.PrintLast Go.Proofs.YtbkocnclaobabaaDoorW.PrintMore
open Go.Proofs.YtbkocnclaobabaaDoor.WriteW Go.Proofs.YtbkocnclaobabaaDoor.PartsW Go.Proofs.YtbkocnclaobabaaDoor.RefS
/-- What the loop of 'all' holds. -/
def RelF (W : World) (N : Nat) (ls : List (List Int)) (v3 v4 : Value) (wr : World) : Prop :=
  ∃ i : Nat, i ≤ ls.length ∧ v4 = .int .i64 (i : Int) ∧ Aside0 (OwnB wr N v3 (ls.take i).flatten) ∧ Aside0 (Below N W wr)
set_option maxHeartbeats 1000000 in
set_option maxRecDepth 100000 in
theorem all_calls (A : Option Addr) (c : Nat) (ls : List (List Int)) (W : World) (hP : PartsAt W A ls) (hc : ls.length ≤ c) (hl : ls.length ≤ 9223372036854775807) (hf : ls.flatten.length ≤ 1048576) :
    Calls Tryd.prog 10 #[.slice A ls.length c] W fun e w' => ∃ A' c', e = .returned (.slice A' ls.flatten.length c') ∧ ls.flatten.length ≤ c' ∧ (Kd.int .u8).C w' A' ls.flatten.length ls.flatten ∧ (A' = none → c' = 0) ∧ Below W.heap.size W w' := by
  obtain ⟨N, hN⟩ : ∃ N, W.heap.size = N := ⟨_, rfl⟩
  have HP := Aside0.mk hP
  have HF := Aside0.mk hf
  clear hP hf
  have E0 : Aside0 (OwnB (W.alloc (.cells #[] 5)) N (.slice (some ⟨N, 0, none⟩) 0 0) (ls.take 0).flatten) := ⟨by rw [← hN]; exact empty_own W⟩
  have B0 : Aside0 (Below N W (W.alloc (.cells #[] 5))) := ⟨by rw [← hN]; exact below_alloc (Below.refl _ _) _⟩
  go_enter Tryd.func10, Tryd.ntmps10
  go_wp2_with fail
  go_loopw [3, 4] (fun v3 v4 wr => RelF W N ls v3 v4 wr) (fun _ v4 _ => ls.length - (intOf v4).toNat)
  case atStart => exact ⟨0, by omega, rfl, E0, B0⟩
  case round =>
    clear E0 B0
    obtain ⟨i, hi, rfl, HO, HB⟩ := hrel
    by_cases hlt : i < ls.length
    · have hi1 : (i : Int) < (ls.length : Int) := by omega
      have hi2 : (0 : Int) ≤ (i : Int) := by omega
      obtain ⟨ad, A0, c0, rfl, hcell, hc0, hC0, hn0, hB0, hm0⟩ := HP.out i hlt
      have hblk : (ad.add i).block < W.heap.size := block_lt_of_cell hcell
      have ci : wr.cell? (ad.add i) = some (.slice A0 ls[i].length c0) := by rw [HB.out.cell (p := ad.add i) (by omega)]; exact hcell
      have htake : (ls.take (i + 1)).flatten = (ls.take i).flatten ++ ls[i] := by rw [List.take_succ_eq_append_getElem hlt, List.flatten_append]; simp
      have HT := Aside0.mk htake
      have hle1 := flatten_take_le ls (i + 1)
      rw [htake, List.length_append] at hle1
      have HC0 : Aside0 ((Kd.int .u8).C wr A0 ls[i].length ls[i]) := ⟨Kd.C_below hC0 (by rw [hN]; exact HB.out)⟩
      have HN0 := Aside0.mk hn0
      have hsum : (ls.take i).flatten.length + ls[i].length ≤ 140737488355328 := by have := HF.out; omega
      have hNw : N ≤ wr.heap.size := by have := HB.out.size; omega
      generalize ls[i] = b at *
      generalize (ls.take i).flatten = Y at *
      clear hcell hC0 htake hB0 hblk hn0
      go_wp2_with (first
        | (at_builtin; (refine wpList_append_bytes rfl (.tmp 12) (.tmp 16) rfl N _ Y rfl HO.out A0 c0 b rfl HC0.out HN0.out hsum hNw ?_); intro v5 w5 ho5 hb5; have O5 := Aside0.mk ho5; have B5 : Aside0 (Below N W w5) := ⟨hb5 W HB.out⟩; clear ho5 hb5))
      go_roundw
      case rel => exact ⟨i + 1, by omega, by go_num, ⟨by rw [HT.out]; exact O5.out⟩, B5⟩
      case measure => simp [intOf]; omega
    · have hil : i = ls.length := by omega
      subst hil
      rw [List.take_of_length_le (Nat.le_refl _)] at HO
      obtain ⟨A4, c4, rfl, hc4, hC4, hn4⟩ := HO.out.reads (by have := HF.out; omega)
      go_wp2_with fail
      go_ret
      exact ⟨A4, c4, by rfl, hc4, hC4, hn4, by rw [hN]; exact HB.out⟩
end Go.Proofs.YtbkocnclaobabaaDoor.AllW

namespace Go.Proofs.YtbkocnclaobabaaDoor.SumsW
set_option linter.unusedVariables false
set_option linter.unusedSimpArgs false
open Go.RowKit Go.Proofs.YtbkocnclaobabaaDoor.PAll Go.Proofs.YtbkocnclaobabaaDoor.Nums Go.Proofs.YtbkocnclaobabaaDoor.PutM Go.Proofs.YtbkocnclaobabaaDoor.Libs Go.Proofs.YtbkocnclaobabaaDoor.ShaM Go.Proofs.YtbkocnclaobabaaDoor.WriteM Go.Proofs.YtbkocnclaobabaaDoor.Arr Go.Proofs.YtbkocnclaobabaaDoor.SchedW Go.Proofs.YtbkocnclaobabaaDoor.NewW Go.Proofs.YtbkocnclaobabaaDoor.MixW Go.Proofs.YtbkocnclaobabaaDoor.App Go.Proofs.YtbkocnclaobabaaDoor.HashW Go.Proofs.YtbkocnclaobabaaDoorW.PrintWords Go.Proofs.YtbkocnclaobabaaDoorW.PrintLast Go.Proofs.YtbkocnclaobabaaDoorW.PrintMore
open Go.Proofs.YtbkocnclaobabaaDoor.WriteW Go.Proofs.YtbkocnclaobabaaDoor.SumW Go.Proofs.YtbkocnclaobabaaDoor.PartsW Go.Proofs.YtbkocnclaobabaaDoor.DigEq Go.Proofs.YtbkocnclaobabaaDoor.AwakeW Go.Proofs.YtbkocnclaobabaaDoor.RefS Go.Proofs.YtbkocnclaobabaaDoor.AllW
theorem parts_below {W w : World} {A : Option Addr} {ls : List (List Int)} (h : PartsAt W A ls) (hb : Below W.heap.size W w) : PartsAt w A ls := fun i hi => by
  obtain ⟨ad, A0, c0, e, hcell, hc0, hC0, hn0, hB0, hm0⟩ := h i hi
  exact ⟨ad, A0, c0, e, by rw [hb.cell (p := ad.add i) (block_lt_of_cell hcell)]; exact hcell, hc0, Kd.C_below hC0 hb, hn0, hB0, hm0⟩
set_option maxHeartbeats 1000000 in
set_option maxRecDepth 100000 in
theorem sums_law0 (A : Option Addr) (c : Nat) (ls : List (List Int)) (W : World) (hG : Glob W) (hc : ls.length ≤ c) (hl : ls.length ≤ 9223372036854775807) (hP : PartsAt W A ls) (hf : ls.flatten.length ≤ 1048576) (hB : Bytes ls.flatten) :
    Calls Tryd.prog 3 #[.slice A ls.length c] W fun e w' => e = .returned (.bool true) ∧ Below W.heap.size W w' := by
  have HG := Aside0.mk hG
  have KA := Aside0.mk (fun w' (h : Below W.heap.size W w') => awake_calls w' (Glob.below HG.out h))
  have K1 : Aside0 (∀ w', Below W.heap.size W w' → Calls Tryd.prog 8 #[.slice A ls.length c] w' fun e w'' => e = .returned (.agg (nums .u8 (dig ls.flatten)).toArray) ∧ Below w'.heap.size w' w'') := ⟨fun w' h => parts_calls A c ls w' (Glob.below HG.out h) (parts_below hP h) hc hl (by omega)⟩
  have K2 : Aside0 (∀ w', Below W.heap.size W w' → Calls Tryd.prog 10 #[.slice A ls.length c] w' fun e w'' => ∃ A' c', e = .returned (.slice A' ls.flatten.length c') ∧ ls.flatten.length ≤ c' ∧ (Kd.int .u8).C w'' A' ls.flatten.length ls.flatten ∧ (A' = none → c' = 0) ∧ Below w'.heap.size w' w'') := ⟨fun w' h => all_calls A c ls w' (parts_below hP h) hc hl hf⟩
  have K3 : Aside0 (∀ (w' : World) A' c', (Kd.int .u8).C w' A' ls.flatten.length ls.flatten → ls.flatten.length ≤ c' → (A' = none → c' = 0) → Calls Tryd.prog 9 #[.slice A' ls.flatten.length c'] w' fun e w'' => e = .returned (.agg (nums .u8 (dig ls.flatten)).toArray) ∧ Below w'.heap.size w' w'') := ⟨fun w' A' c' h1 h2 h3 => ref_calls A' c' ls.flatten w' h1 h2 h3 hB hf⟩
  have hdl := dig_length ls.flatten
  have hdb := dig_bytes ls.flatten
  have qb := fun w => same hdl hdb w
  generalize dig ls.flatten = E at *
  clear hG hP hdl hdb
  generalize ls.flatten = F at *
  go_enter Tryd.func3, Tryd.ntmps3
  go_wp2_with fail
  (with_reducible refine (KA.out _ (Below.refl _ _)).mono ?_)
  rintro x w1 ⟨rfl, b1⟩
  have B1 := Aside0.mk b1
  clear b1
  go_wp2_with fail
  (with_reducible refine (K1.out _ B1.out).mono ?_)
  rintro x w2 ⟨rfl, b2⟩
  have B2 : Aside0 (Below W.heap.size W w2) := ⟨below_step B1.out b2⟩
  clear b2
  go_wp2_with fail
  (with_reducible refine (K2.out _ B2.out).mono ?_)
  rintro x w3 ⟨A', c', rfl, h1, h2, h3, b3⟩
  have B3 : Aside0 (Below W.heap.size W w3) := ⟨below_step B2.out b3⟩
  have R := Aside0.mk (K3.out w3 A' c' h2 h1 h3)
  clear b3 h1 h2 h3
  go_wp2_with fail
  (with_reducible refine R.out.mono ?_)
  rintro x w4 ⟨rfl, b4⟩
  have B4 : Aside0 (Below W.heap.size W w4) := ⟨below_step B3.out b4⟩
  clear b4
  go_wp2_with fail
  go_ret
  exact ⟨by rfl, B4.out⟩
theorem parts_of {W : World} {A : Option Addr} {ls : List (List Int)} (h : Bulk.RowsIn W A ls) (hf : ls.flatten.length + ls.length ≤ 1048576) : PartsAt W A ls := fun i hi => by
  obtain ⟨ad, A0, c0, e, hcell, hc0, hC0, hn0, hm0, hB0⟩ := h i hi
  exact ⟨ad, A0, c0, e, hcell, hc0, hC0, hn0, bytes_of_wf hB0, by
    have := flatten_take_le ls (i + 1)
    have e1 : [ls[i]].flatten = ls[i] := List.flatten_singleton
    rw [List.take_succ_eq_append_getElem hi, List.flatten_append, List.length_append, e1] at this
    omega⟩
theorem flat_bytes {W : World} {A : Option Addr} {ls : List (List Int)} (h : Bulk.RowsIn W A ls) : Bytes ls.flatten := by
  intro x hx
  obtain ⟨m, hm, hx⟩ := List.mem_flatten.1 hx
  obtain ⟨i, hi, rfl⟩ := List.getElem_of_mem hm
  obtain ⟨ad, A0, c0, e, hcell, hc0, hC0, hn0, hm0, hB0⟩ := h i hi
  exact bytes_of_wf hB0 x hx
theorem sums_law (A : Option Addr) (c : Nat) (ls : List (List Int)) (W : World) (hG : Glob W) (ga : ls.length ≤ c) (gb : A = none → c = 0) (gc : ls.length ≤ 9223372036854775807) (gd : Bulk.RowsIn W A ls) (hu : ls.flatten.length + ls.length ≤ 1048576) :
    Calls Tryd.prog 3 #[.slice A ls.length c] W fun e w' => e = .returned (.bool true) ∧ Below W.heap.size W w' :=
  sums_law0 A c ls W hG ga gc (parts_of gd hu) (by omega) (flat_bytes gd)
end Go.Proofs.YtbkocnclaobabaaDoor.SumsW
