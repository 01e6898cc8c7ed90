/- The digest of parts, walked. No condition. -/
import Derived.Test.YtbkocnclaobabaaDoorSumW
namespace Go.Proofs.YtbkocnclaobabaaDoor.PartsW
set_option linter.unusedVariables false
set_option linter.unusedSimpArgs false
open Go.RowKit Go.Proofs.YtbkocnclaobabaaDoor.PAll Go.Proofs.YtbkocnclaobabaaDoor.Nums Go.Proofs.YtbkocnclaobabaaDoor.PutM Go.Proofs.YtbkocnclaobabaaDoor.Libs Go.Proofs.YtbkocnclaobabaaDoor.ShaM Go.Proofs.YtbkocnclaobabaaDoor.WriteM Go.Proofs.YtbkocnclaobabaaDoor.Arr Go.Proofs.YtbkocnclaobabaaDoor.SchedW Go.Proofs.YtbkocnclaobabaaDoor.NewW Go.Proofs.YtbkocnclaobabaaDoor.MixW Go.Proofs.YtbkocnclaobabaaDoor.App Go.Proofs.YtbkocnclaobabaaDoor.HashW Go.Proofs.YtbkocnclaobabaaDoorW.PrintWords Go.Proofs.YtbkocnclaobabaaDoorW.PrintLast Go.Proofs.YtbkocnclaobabaaDoorW.PrintMore
set_option maxRecDepth 1000000 in
set_option maxHeartbeats 4000000 in
theorem dig_abc : (dig [97, 98, 99]).getD 0 0 = 186 ∧ (dig [97, 98, 99]).getD 1 0 = 120 ∧ (dig [97, 98, 99]).getD 31 0 = 173 := of_decide_eq_true (by kernel_rfl)
theorem newT_calls (W : World) (hG : Glob W) : Calls Tryd.prog 11 #[] W fun e w' => ∃ g, W.heap.size ≤ g ∧ e = .returned (.pointer (some ⟨g, 0, none⟩)) ∧ HashT w'.heap.size w' g [] ∧ Below W.heap.size W w' := by
  refine (new_calls W).mono ?_
  rintro e w' ⟨g, hg, rfl, hA, hb⟩
  exact ⟨g, hg, rfl, ⟨HashAt.lt hA, Nat.le_refl _, (fun x hx => by cases hx), none, 0, hA, Kd.C_nil _ _, Nat.le_refl _, fun _ => rfl, fun ad e => by cases e⟩, hb⟩
set_option maxHeartbeats 1000000 in
set_option maxRecDepth 100000 in
theorem write_nil (B : Value) (W : World) : Calls Tryd.prog 14 #[.pointer none, B] W fun e w' => e = .returned (.tuple #[]) ∧ Below W.heap.size W w' := by
  go_enter Tryd.func14, Tryd.ntmps14
  go_wp2_with fail
  (try simp only [Exit.inBlock, Exit.then])
  refine bodyPost_ret (v := .tuple #[]) (results_none rfl _ _ _) rfl ?_
  exact ⟨rfl, Below.refl _ _⟩
set_option maxHeartbeats 1000000 in
set_option maxRecDepth 100000 in
theorem len_nil (W : World) : Calls Tryd.prog 13 #[.pointer none] W fun e w' => e = .returned (.int .i64 0) ∧ Below W.heap.size W w' := by
  go_enter Tryd.func13, Tryd.ntmps13
  go_wp2_with fail
  go_ret
  exact ⟨rfl, Below.refl _ _⟩
set_option maxHeartbeats 1000000 in
set_option maxRecDepth 100000 in
theorem len_calls (lo g : Nat) (l : List Int) (W : World) (hH : HashT lo W g l) : Calls Tryd.prog 13 #[.pointer (some ⟨g, 0, none⟩)] W fun e w' => e = .returned (.int .i64 (l.length : Int)) ∧ Below W.heap.size W w' := by
  obtain ⟨_, _, _, A, cA, hA, _, _, _, _⟩ := hH
  have c9 := at9 hA (nowT_length l)
  clear hA
  go_enter Tryd.func13, Tryd.ntmps13
  go_wp2_with fail
  go_ret
  exact ⟨rfl, Below.refl _ _⟩
/-- 32 noughts. -/
def Z32 : List Int := List.replicate 32 0
set_option maxHeartbeats 1000000 in
set_option maxRecDepth 100000 in
theorem sum_nil (W : World) : Calls Tryd.prog 12 #[.pointer none] W fun e w' => e = .returned (.agg (nums .u8 Z32).toArray) ∧ Below W.heap.size W w' := by
  obtain ⟨N, hN⟩ : ∃ N, W.heap.size = N := ⟨_, rfl⟩
  go_enter Tryd.func12, Tryd.ntmps12
  have hi25 : (Tryd.prog.info? 25).map (·.size) = some (nums .u8 Z32).toArray.size := info25
  have hone : (nums .u8 Z32).toArray.all (·.oneCell') = true := by
    rw [Array.all_eq_true_iff_forall_mem]; intro u hu; exact nums_one Z32 u (by simpa using hu)
  have HRES := Aside0.mk (fun (tmps : Array Value) (w' : World) (hw : w'.heap[N]? = some (.cells (nums .u8 Z32).toArray 25 (0, 0))) (hp : tmps.getD 2 undef = .pointer (some ⟨N, 0, none⟩)) => results_cell_row (fn := Tryd.f12) rfl tmps w' N 25 (nums .u8 Z32).toArray (0, 0) (.array 32 5) hp hw Tryd.underlying25 rfl hi25)
  go_wp2_with (first
    | ((with_reducible refine Ops.wpList_allocRow rfl 25 rfl _ Ops.zero25 N hN fun W1 k1 b1 z1 => ?_); have K1 := Aside0.mk k1; have B1 := Aside0.mk b1; have Z1 := Aside0.mk z1; clear k1 b1 z1)
    | ((with_reducible refine Ops.wpList_allocRow rfl 25 rfl _ Ops.zero25 (N + 1) Z1.out fun W2 k2 b2 z2 => ?_); have K2 : Aside0 (W2.heap[N + 1]? = some (.cells (nums .u8 Z32).toArray 25 (0, 0))) := Aside0.mk k2; have B2 : Aside0 (Below N W W2) := ⟨B1.out.trans (b2.mono (Nat.le_succ _))⟩; have K1' : Aside0 (W2.heap[N]? = some (.cells (nums .u8 Z32).toArray 25 (0, 0))) := ⟨(b2.block N (Nat.lt_succ_self _)).trans K1.out⟩; clear k2 b2 z2)
    | (with_reducible refine wpList_load_row rfl 25 (.tmp 3) rfl (N + 1) rfl 25 (nums .u8 Z32).toArray (0, 0) (.array 32 5) K2.out Tryd.underlying25 rfl hi25 ?_)
    | ((with_reducible refine Ops.wpList_setRow rfl 25 (.tmp 2) (.tmp 14) rfl rfl N rfl (nums .u8 Z32).toArray rfl 25 _ K1'.out hi25 rfl hone fun w3 k3 o3 => ?_); have K3 := Aside0.mk k3; have O3 := Aside0.mk o3; clear k3 o3))
  refine bodyPost_ret (v := .agg (nums .u8 Z32).toArray) (HRES.out _ _ K3.out ?_) ?_ ⟨rfl, by rw [hN]; exact O3.out.below B2.out (Nat.le_refl _)⟩
  · simp [Act.put]
  · simp [Act.put]
/-- Rows of bytes, as they came in or were made. -/
def PartsAt (W : World) (A : Option Addr) (ls : List (List Int)) : Prop :=
  ∀ i, ∀ hi : i < ls.length, ∃ (ad : Addr) (A0 : Option Addr) (c0 : Nat), A = some ad ∧ W.cell? (ad.add i) = some (.slice A0 ls[i].length c0) ∧ ls[i].length ≤ c0 ∧ (Kd.int .u8).C W A0 ls[i].length ls[i] ∧ (A0 = none → c0 = 0) ∧ Bytes ls[i] ∧ ls[i].length ≤ 140737488351232
/-- What the parts' loop holds. -/
def RelP (W : World) (lo g N : Nat) (ls : List (List Int)) (v9 : Value) (wr : World) : Prop :=
  ∃ i : Nat, i ≤ ls.length ∧ v9 = .int .i64 (i : Int) ∧ Aside0 (HashT lo wr g (ls.take i).flatten) ∧ Aside0 (wr.heap[N]? = some (.cells (nums .u8 Z32).toArray 25 (0, 0))) ∧ Aside0 (Below N W wr)
theorem flatten_take_le (ls : List (List Int)) (i : Nat) : (ls.take i).flatten.length ≤ ls.flatten.length := by
  conv => rhs; rw [← List.take_append_drop i ls, List.flatten_append, List.length_append]
  omega
set_option maxHeartbeats 1000000 in
set_option maxRecDepth 100000 in
theorem parts_calls (A : Option Addr) (c : Nat) (ls : List (List Int)) (W : World) (hG : Glob W) (hP : PartsAt W A ls) (hc : ls.length ≤ c) (hl : ls.length ≤ 9223372036854775807) (hf : ls.flatten.length < 2305843009213693952) :
    Calls Tryd.prog 8 #[.slice A ls.length c] W fun e w' => e = .returned (.agg (nums .u8 (dig ls.flatten)).toArray) ∧ Below W.heap.size W w' := by
  obtain ⟨N, hN⟩ : ∃ N, W.heap.size = N := ⟨_, rfl⟩
  have HG := Aside0.mk hG
  have HP := Aside0.mk hP
  have HF := Aside0.mk hf
  clear hG hP hf
  go_enter Tryd.func8, Tryd.ntmps8
  go_wp2_with ((with_reducible refine Ops.wpList_allocRow rfl 25 rfl _ Ops.zero25 N hN fun W1 k1 b1 z1 => ?_); have K1 : Aside0 (W1.heap[N]? = some (.cells (nums .u8 Z32).toArray 25 (0, 0))) := Aside0.mk k1; have B1 := Aside0.mk b1; have Z1 := Aside0.mk z1; clear k1 b1 z1)
  have G1 : Aside0 (Glob W1) := ⟨Glob.below HG.out (by rw [hN]; exact B1.out)⟩
  (with_reducible refine (newT_calls W1 G1.out).mono ?_)
  rintro e W2 ⟨g, hg, rfl, hH, hb⟩
  have hgN : N + 1 ≤ g := by have := Z1.out; omega
  have hpos : 0 < N := by have := HG.out.pos; omega
  have H2 := Aside0.mk hH
  have B2 : Aside0 (Below N W W2) := ⟨B1.out.trans (hb.mono (by have := Z1.out; omega))⟩
  have K2 : Aside0 (W2.heap[N]? = some (.cells (nums .u8 Z32).toArray 25 (0, 0))) := ⟨(hb.block N (by have := Z1.out; omega)).trans K1.out⟩
  generalize W2.heap.size = lo at *
  clear hH hb hg
  go_wp2_with fail
  go_loopw [9] (fun v9 wr => RelP W lo g N ls v9 wr) (fun v9 _ => ls.length - (intOf v9).toNat)
  case atStart => exact ⟨0, by omega, rfl, H2, K2, B2⟩
  case round =>
    clear H2 K2 B2
    obtain ⟨i, hi, rfl, H2, K2, B2⟩ := hrel
    have GR : Aside0 (Glob wr) := ⟨Glob.below HG.out (by rw [hN]; exact B2.out)⟩
    by_cases hlt : i < ls.length
    · have hi1 : (i : Int) < (ls.length : Int) := by omega
      have hi2 : (0 : Int) ≤ (i : Int) := by omega
      obtain ⟨ad, A0, c0, rfl, hcell, hc0, hC0, hn0, hB0, hm0⟩ := HP.out i hlt
      have hblk : (ad.add i).block < W.heap.size := block_lt_of_cell hcell
      have ci : wr.cell? (ad.add i) = some (.slice A0 ls[i].length c0) := by rw [B2.out.cell (p := ad.add i) (by omega)]; exact hcell
      have htake : (ls.take (i + 1)).flatten = (ls.take i).flatten ++ ls[i] := by rw [List.take_succ_eq_append_getElem hlt, List.flatten_append]; simp
      have HT := Aside0.mk htake
      have hle1 := flatten_take_le ls (i + 1)
      rw [htake, List.length_append] at hle1
      have HC0 : Aside0 ((Kd.int .u8).C wr A0 ls[i].length ls[i]) := ⟨Kd.C_below hC0 (by rw [hN]; exact B2.out)⟩
      have hsep : ∀ ad0, A0 = some ad0 → 0 < ls[i].length → ad0.block ≠ g := fun ad0 e hp => by
        subst e
        have := Kd.C_lt hC0 hp (by decide)
        omega
      have HB0 := Aside0.mk hB0
      generalize ls[i] = b at *
      clear hcell hC0 htake hB0 hblk
      have G := Aside0.mk (WriteW.write_calls lo g (ls.take i).flatten b wr GR.out (by omega) H2.out A0 c0 HC0.out hc0 hn0 HB0.out hm0 (by have := HF.out; omega) hsep)
      clear hsep
      go_wp2_with fail
      (with_reducible refine G.out.mono ?_)
      rintro e w1 ⟨rfl, h1, s1⟩
      have H1 := Aside0.mk h1
      have S1 := Aside0.mk s1
      have HLT : Aside0 (N < wr.heap.size) := ⟨(Array.getElem?_eq_some_iff.1 K2.out).1⟩
      clear h1 s1
      go_wp2_with fail
      go_roundw
      case rel => exact ⟨i + 1, by omega, by go_num, ⟨by rw [HT.out]; exact H1.out⟩, ⟨(S1.out.block N HLT.out (by omega)).trans K2.out⟩, ⟨B2.out.trans (S1.out.below (by omega) (Nat.le_of_lt HLT.out))⟩⟩
      case measure => simp [intOf]; omega
    · have hil : i = ls.length := by omega
      subst hil
      rw [List.take_of_length_le (Nat.le_refl _)] at H2
      have G := Aside0.mk (SumW.sum_calls lo g ls.flatten wr GR.out (by omega) H2.out HF.out)
      have hdl := dig_length ls.flatten
      generalize hdd : dig ls.flatten = D at *
      have HDD := Aside0.mk hdd
      have hi25 : (Tryd.prog.info? 25).map (·.size) = some (nums .u8 D).toArray.size := by rw [List.size_toArray, nums_length, hdl]; exact info25
      have hz32 : (nums .u8 Z32).toArray.size = (nums .u8 D).toArray.size := Ops.size_eq (by rw [hdl]; rfl)
      have hone : (nums .u8 D).toArray.all (·.oneCell') = true := by
        rw [Array.all_eq_true_iff_forall_mem]; intro u hu; exact nums_one D u (by simpa using hu)
      have HRES := Aside0.mk (fun (tmps : Array Value) (w' : World) (hw : w'.heap[N]? = some (.cells (nums .u8 D).toArray 25 (0, 0))) (hp : tmps.getD 2 undef = .pointer (some ⟨N, 0, none⟩)) => results_cell_row (fn := Tryd.f8) rfl tmps w' N 25 (nums .u8 D).toArray (0, 0) (.array 32 5) hp hw Tryd.underlying25 rfl hi25)
      have HLT : Aside0 (N < wr.heap.size) := ⟨(Array.getElem?_eq_some_iff.1 K2.out).1⟩
      clear hdd
      go_wp2_with fail
      (with_reducible refine G.out.mono ?_)
      rintro e w1 ⟨rfl, b1⟩
      have KA : Aside0 (w1.heap[N]? = some (.cells (nums .u8 Z32).toArray 25 (0, 0))) := ⟨(b1.block N HLT.out).trans K2.out⟩
      have BA : Aside0 (Below N W w1) := ⟨B2.out.trans (b1.mono (Nat.le_of_lt HLT.out))⟩
      clear b1
      go_wp2_with ((with_reducible refine Ops.wpList_setRow rfl 25 (.tmp 2) (.tmp 18) rfl rfl N rfl (nums .u8 D).toArray rfl 25 _ KA.out hi25 hz32 hone fun w3 k3 o3 => ?_); have K3 := Aside0.mk k3; have O3 := Aside0.mk o3; clear k3 o3)
      refine bodyPost_ret (v := .agg (nums .u8 D).toArray) (HRES.out _ _ K3.out ?_) ?_ ⟨by rw [HDD.out], by rw [hN]; exact O3.out.below BA.out (Nat.le_refl _)⟩
      · simp [Act.put]
      · simp [Act.put]
end Go.Proofs.YtbkocnclaobabaaDoor.PartsW
