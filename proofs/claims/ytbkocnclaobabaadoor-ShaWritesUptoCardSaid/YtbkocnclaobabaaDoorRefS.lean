/- Sum of the reference, walked. No condition. -/
import Derived.Test.YtbkocnclaobabaaDoorRefB
import Derived.Test.YtbkocnclaobabaaDoorRefC
namespace Go.Proofs.YtbkocnclaobabaaDoor.RefS
set_option linter.unusedVariables false
set_option linter.unusedSimpArgs false
open Go.RowKit Go.Proofs.YtbkocnclaobabaaDoor.PAll Go.Proofs.YtbkocnclaobabaaDoor.Nums Go.Proofs.YtbkocnclaobabaaDoor.PutM Go.Proofs.YtbkocnclaobabaaDoor.Libs Go.Proofs.YtbkocnclaobabaaDoor.ShaM Go.Proofs.YtbkocnclaobabaaDoor.WriteM Go.Proofs.YtbkocnclaobabaaDoor.Arr Go.Proofs.YtbkocnclaobabaaDoor.SchedW Go.Proofs.YtbkocnclaobabaaDoor.NewW Go.Proofs.YtbkocnclaobabaaDoor.MixW Go.Proofs.YtbkocnclaobabaaDoor.App Go.Proofs.YtbkocnclaobabaaDoor.HashW Go.Proofs.YtbkocnclaobabaaDoorW.PrintWords Go.Proofs.YtbkocnclaobabaaDoorW.PrintLast Go.Proofs.YtbkocnclaobabaaDoorW.PrintMore
open Go.Proofs.YtbkocnclaobabaaDoor.WriteW Go.Proofs.YtbkocnclaobabaaDoor.RefM Go.Proofs.YtbkocnclaobabaaDoor.RefA Go.Proofs.YtbkocnclaobabaaDoor.RefB Go.Proofs.YtbkocnclaobabaaDoor.RefC
theorem empty_own (w : World) : OwnB (w.alloc (.cells #[] 5)) w.heap.size (.slice (some ⟨w.heap.size, 0, none⟩) 0 0) [] :=
  ⟨rfl, .inr ⟨w.heap.size, 0, #[], rfl, Nat.le_refl _, blk_new w _, Nat.le_refl _, by unfold maxLen; omega, rfl, rfl⟩⟩
theorem C_cells64 {w : World} {ad : Addr} (h : (Kd.int .u64).C w (some ad) PR.length PR) (j : Nat) (hj : j < 64) : w.cell? (ad.add j) = some (.int .u64 (PR.getD j 0)) := by
  obtain ⟨ad', e, hc⟩ := h.2.2 (by decide)
  injection e with e
  subst e
  have hj' : j < PR.length := hj
  obtain ⟨cs, hlen, hK, hcell⟩ := hc j PR[j] (List.getElem?_eq_getElem hj')
  obtain rfl : cs = [.int .u64 PR[j]] := hK
  have := hcell 0 _ rfl
  rw [List.getD_eq_getElem?_getD, List.getElem?_eq_getElem hj']
  simpa [Kd.int, Kd.scalar] using this
theorem info44 : (Tryd.prog.info? 44).map (·.size) = some 1 := by kernel_rfl
theorem at_u64 (ad : Addr) (c i : Nat) (h : i < 64) (w : World) : (Instr.indexAt 39 (.slice (some ad) 64 c) (.int .i64 (i : Int))).run Tryd.prog w = .ok (.pointer (some (ad.add i))) w := by
  have hel : Tryd.prog.elem 39 = 44 := by simp [Program.elem, Tryd.underlying39]
  have hu : Tryd.prog.underlying 39 = some (.slice (Tryd.prog.elem 39)) := by rw [hel]; exact Tryd.underlying39
  rw [run_indexAt_slice (h := hu), if_pos (by omega), hel]
  cases hq : Tryd.prog.info? 44 with
  | none => have := info44; rw [hq] at this; simp at this
  | some ie =>
    have hs : ie.size = 1 := by have := info44; rw [hq] at this; simpa using this
    simp [sizeOf, typeInfo, hq, hs]
theorem cell8 {w : World} {g t : Nat} {l : List Int} (h : w.heap[g]? = some (.cells (nums .u8 l).toArray t (0, 0))) (j : Nat) (hj : j < l.length) : w.cell? ⟨g, j, none⟩ = some (.int .u8 (l.getD j 0)) := by
  rw [blk_cell h, List.getElem?_toArray, List.getD_eq_getElem?_getD, List.getElem?_eq_getElem hj]
  unfold nums
  rw [List.getElem?_map, List.getElem?_eq_getElem hj]
  rfl
theorem set8 {w : World} {g t : Nat} {l : List Int} (h : w.heap[g]? = some (.cells (nums .u8 l).toArray t (0, 0))) (j : Nat) (x : Int) : (w.setCell ⟨g, j, none⟩ (.int .u8 x)).heap[g]? = some (.cells (nums .u8 (l.set j x)).toArray t (0, 0)) := by
  rw [blk_set h]
  unfold nums
  rw [List.setIfInBounds_toArray, List.map_set]
/-- What the answer's loop holds. -/
def RelQ (N G gh : Nat) (W : World) (F D : List Int) (v12 : Value) (wr : World) : Prop :=
  ∃ i : Nat, i ≤ 32 ∧ v12 = .int .i64 (i : Int) ∧ Aside0 (At wr gh 42 F) ∧ Aside0 (wr.heap[G]? = some (.cells (nums .u8 (D.take i ++ zeros (32 - i))).toArray 25 (0, 0))) ∧ Aside0 (wr.heap[N]? = some (.cells (nums .u8 (List.replicate 32 0)).toArray 25 (0, 0))) ∧ Aside0 (Below N W wr)
theorem out_byte (F : List Int) (hF : F.length = 8) (hw : Words F) (i : Nat) (hi : i < 32) : ∃ n : Nat, n < 4294967296 ∧ F.getD (i / 4) 0 = (n : Int) ∧ (bytesOf F 8)[i]? = some ((n / 2 ^ (24 - 8 * (i % 4)) % 256 : Nat) : Int) := by
  have hm : F.getD (i / 4) 0 ∈ F := by rw [List.getD_eq_getElem?_getD, List.getElem?_eq_getElem (by omega)]; exact List.getElem_mem _
  have hr := hw _ hm
  refine ⟨(F.getD (i / 4) 0).toNat, by omega, by omega, ?_⟩
  have key : ∀ k, k ≤ 8 → i < 4 * k → (bytesOf F k)[i]? = some (((F.getD (i / 4) 0).toNat / 2 ^ (24 - 8 * (i % 4)) % 256 : Nat) : Int) := by
    intro k
    induction k with
    | zero => intro _ h; omega
    | succ k ih =>
      intro hk h
      rw [bytesOf_succ F k (by omega)]
      by_cases hlt : i < 4 * k
      · rw [List.getElem?_append_left (by rw [bytesOf_length F k (by omega)]; exact hlt)]
        exact ih (by omega) hlt
      · have hq : i / 4 = k := by omega
        have hr4 : i - 4 * k = i % 4 := by omega
        rw [List.getElem?_append_right (by rw [bytesOf_length F k (by omega)]; omega), bytesOf_length F k (by omega), hr4, hq]
        have hl4 : i % 4 < (T (F.getD k 0).toNat 4).length := by rw [T_length]; omega
        rw [List.getElem?_eq_getElem hl4, T_get, ← pow8, show 8 * (4 - 1 - i % 4) = 24 - 8 * (i % 4) by omega]
  exact key 8 (Nat.le_refl _) (by omega)
/-- What the blocks' loop holds. -/
def RelK (N M2 : Nat) (ad : Addr) (W : World) (E : List Int) (v4 v10 : Value) (wr : World) : Prop :=
  ∃ j gh : Nat, 64 * j ≤ E.length ∧ v10 = .int .i64 (64 * (j : Int)) ∧ v4 = .slice (some ⟨gh, 0, none⟩) 8 8 ∧ Aside0 (At wr gh 42 (eatN j H0 E)) ∧ Aside0 (At wr M2 42 FA) ∧ Aside0 ((Kd.int .u8).C wr (some ad) E.length E) ∧ Aside0 (wr.heap[N]? = some (.cells (nums .u8 (List.replicate 32 0)).toArray 25 (0, 0))) ∧ Aside0 (Below N W wr) ∧ N < gh
/-- What the size's loop holds. -/
def RelU (B : Nat) (Y : List Int) (n : Nat) (w6 : World) (v7 v9 : Value) (wr : World) : Prop :=
  ∃ k : Nat, k ≤ 8 ∧ v9 = .int .i64 (7 - (k : Int)) ∧ Aside0 (OwnB wr B v7 (Y ++ (T n 8).take k)) ∧ Aside0 (Below B w6 wr)
/-- What the tables' loop holds. -/
def RelT (M1 M2 : Nat) (W2 : World) (v6 : Value) (wr : World) : Prop :=
  ∃ i : Nat, i ≤ 64 ∧ v6 = .int .i64 (i : Int) ∧ Aside0 (At wr M2 42 (FA.take i ++ zeros (64 - i))) ∧ Aside0 (At wr M1 42 (H0.take i ++ zeros (8 - i))) ∧ Aside0 (Below M1 W2 wr)
theorem take_set (T : List Int) (n i : Nat) (hT : T.length = n) (hi : i < n) : (T.take i ++ zeros (n - i)).set i (T.getD i 0) = T.take (i + 1) ++ zeros (n - (i + 1)) := by
  have hl : (T.take i).length = i := by rw [List.length_take]; omega
  rw [zeros_succ (by omega)]
  have h := set_next (T.take i) (zeros (n - i - 1)) (T.getD i 0) 0
  rw [hl] at h
  rw [h, List.take_succ_eq_append_getElem (by omega), List.getD_eq_getElem?_getD, List.getElem?_eq_getElem (by omega)]
  rfl
theorem root_at (i : Nat) (hi : i < 64) (w : World) : Calls Tryd.prog 16 #[.int .u64 (PR.getD i 0), .bool true] w fun e w' => e = .returned (.int .u32 (FA.getD i 0)) ∧ Below w.heap.size w w' := chartularyref03_root.calls 60 _ _ _ w (cube i hi)
theorem root_sq (i : Nat) (hi : i < 8) (w : World) : Calls Tryd.prog 16 #[.int .u64 (PR.getD i 0), .bool false] w fun e w' => e = .returned (.int .u32 (H0.getD i 0)) ∧ Below w.heap.size w w' := chartularyref03_root.calls 60 _ _ _ w (square i hi)
set_option maxHeartbeats 8000000 in
set_option maxRecDepth 100000 in
theorem ref_calls (A : Option Addr) (c : Nat) (l : List Int) (W : World) (hC : (Kd.int .u8).C W A l.length l) (hc : l.length ≤ c) (hn : A = none → c = 0) (hB : Bytes l) (hl : l.length ≤ 1048576) :
    Calls Tryd.prog 9 #[.slice A l.length c] W fun e w' => e = .returned (.agg (nums .u8 (dig l)).toArray) ∧ Below W.heap.size W w' := by
  obtain ⟨N, hN⟩ : ∃ N, W.heap.size = N := ⟨_, rfl⟩
  have HC := Aside0.mk hC
  have HB := Aside0.mk hB
  have HN := Aside0.mk hn
  clear hC hB hn
  go_enter Tryd.func9, Tryd.ntmps9
  go_wp2_with ((with_reducible refine Ops.wpList_allocRow rfl 25 rfl _ Ops.zero25 N hN fun W1 k1 b1 z1 => ?_); have K1 := Aside0.mk k1; have B1 := Aside0.mk b1; have Z1 := Aside0.mk z1; clear k1 b1 z1)
  (with_reducible refine (chartularyref03_primes.calls 30000 64 _ _ primes_eq).mono ?_)
  rintro e W2 ⟨vp, rfl, hR, hb⟩
  obtain ⟨Ap, cp, rfl, hcp, hCp⟩ := Kd.R_reads hR
  have CP := Aside0.mk hCp
  have B2 := Aside0.mk hb
  obtain ⟨M1, hM1⟩ : ∃ M, W2.heap.size = M := ⟨_, rfl⟩
  have hN1 : N + 1 ≤ M1 := by have := hb.size; have := Z1.out; omega
  clear hR hCp hb
  go_wp2_with (first
    | ((with_reducible refine wpList_makeU32 rfl (.const (.int .i64 8)) (.const (.int .i64 8)) rfl 8 (by omega) rfl rfl M1 hM1 made8 ?_); intro W3 k3 b3; have K3 := Aside0.mk k3; have B3 := Aside0.mk b3; obtain ⟨M2, hM2⟩ : ∃ M, W3.heap.size = M := ⟨_, rfl⟩; have h12 : M1 < M2 := (by have := k3.lt; omega); clear k3 b3)
    | ((with_reducible refine wpList_makeU32 rfl (.const (.int .i64 64)) (.const (.int .i64 64)) rfl 64 (by omega) rfl rfl M2 hM2 made64 ?_); intro W4 k4 b4; have K4 := Aside0.mk k4; have B4 := Aside0.mk b4; clear k4 b4))
  have B24 : Aside0 (Below M1 W2 W4) := ⟨B3.out.trans (B4.out.mono (by omega))⟩
  have K34 : Aside0 (At W4 M1 42 (List.replicate 8 0)) := ⟨At.move K3.out (B4.out.block M1 h12)⟩
  obtain ⟨adp, hadp, _⟩ := CP.out.2.2 (by decide)
  subst hadp
  have hab : adp.block < M1 := by have := Kd.C_lt CP.out (by decide) (by decide); omega
  go_loopw [6] (fun v6 wr => RelT M1 M2 W2 v6 wr) (fun v6 _ => 64 - (intOf v6).toNat)
  case atStart => exact ⟨0, by omega, rfl, K4, K34, B24⟩
  case round =>
    obtain ⟨i, hi, rfl, HK, HH, HBe⟩ := hrel
    by_cases hlt : i < 64
    · have hi1 : (i : Int) < 64 := by omega
      have hi2 : (0 : Int) ≤ (i : Int) := by omega
      have hpc0 := C_cells64 CP.out i hlt
      have hpx : ∀ w : World, (Instr.indexAt 39 (.slice (some adp) PR.length cp) (.int .i64 (i : Int))).run Tryd.prog w = .ok (.pointer (some (adp.add i))) w := at_u64 adp cp i hlt
      have HPC : Aside0 (∀ w, Below M1 W2 w → w.cell? (adp.add i) = some (.int .u64 (PR.getD i 0))) := ⟨fun w hb => by rw [hb.cell (p := adp.add i) (by rw [add_block]; exact hab)]; exact hpc0⟩
      have R1 := Aside0.mk (root_at i hlt)
      have TS := Aside0.mk (take_set FA 64 i FA_length hlt)
      have R2 : Aside0 (i < 8 → ∀ w, Calls Tryd.prog 16 #[.int .u64 (PR.getD i 0), .bool false] w fun e w' => e = .returned (.int .u32 (H0.getD i 0)) ∧ Below w.heap.size w w') := ⟨fun h8 w => root_sq i h8 w⟩
      have TH : Aside0 (i < 8 → (H0.take i ++ zeros (8 - i)).set i (H0.getD i 0) = H0.take (i + 1) ++ zeros (8 - (i + 1))) := ⟨fun h8 => take_set H0 8 i rfl h8⟩
      clear hpc0
      generalize adp.add i = dp at *
      generalize PR.getD i 0 = p at *
      generalize FA.getD i 0 = fi at *
      generalize H0.getD i 0 = h0i at *
      have hkl : (FA.take i ++ zeros (64 - i)).length = 64 := by rw [List.length_append, List.length_take, FA_length]; unfold zeros; rw [List.length_replicate]; omega
      have hM1w := HH.out.lt
      have hpc := HPC.out _ HBe.out
      by_cases h8 : i < 8
      · have h81 : (i : Int) < 8 := by omega
        go_wp2_with fail
        (with_reducible refine (R1.out _).mono ?_)
        rintro e w5 ⟨rfl, hb5⟩
        have K5 := Aside0.mk (HK.out.below hb5)
        have H5 := Aside0.mk (HH.out.below hb5)
        have B5 : Aside0 (Below M1 W2 w5) := ⟨HBe.out.trans (hb5.mono (Nat.le_of_lt hM1w))⟩
        have ck := K5.out.cell i (by omega)
        have fk := K5.out.frozen i
        have K6 := Aside0.mk (K5.out.set i fi)
        have H6 : Aside0 (At (w5.setCell ⟨M2, i, none⟩ (.int .u32 fi)) M1 42 (H0.take i ++ zeros (8 - i))) := ⟨H5.out.move (Below.heap_setCell _ _ _ _ (by show M1 ≠ M2; omega))⟩
        have B6 : Aside0 (Below M1 W2 (w5.setCell ⟨M2, i, none⟩ (.int .u32 fi))) := ⟨Below.setCell B5.out (by show M1 ≤ M2; omega) _⟩
        have hpc6 := HPC.out _ B6.out
        clear hb5 hpc
        rw [TS.out] at K6
        go_wp2_with fail
        (with_reducible refine (R2.out h8 _).mono ?_)
        rintro e w7 ⟨rfl, hb7⟩
        have K7 := Aside0.mk (K6.out.below hb7)
        have H7 := Aside0.mk (H6.out.below hb7)
        have B7 : Aside0 (Below M1 W2 w7) := ⟨B6.out.trans (hb7.mono (Nat.le_of_lt H6.out.lt))⟩
        have hhl : (H0.take i ++ zeros (8 - i)).length = 8 := by rw [List.length_append, List.length_take]; unfold zeros; rw [List.length_replicate]; show min i 8 + (8 - i) = 8; omega
        have cm := H7.out.cell i (by omega)
        have fm := H7.out.frozen i
        clear hb7 hpc6 ck fk
        go_wp2_with fail
        go_roundw
        case rel =>
          refine ⟨i + 1, by omega, by go_num, ⟨K7.out.move (Below.heap_setCell _ _ _ _ (by show M2 ≠ M1; omega))⟩, ⟨?_⟩, ⟨Below.setCell B7.out (Nat.le_refl _) _⟩⟩
          have := H7.out.set i h0i
          rw [TH.out h8] at this
          exact this
        case measure => simp [intOf]; omega
      · have h81 : ¬ (i : Int) < 8 := by omega
        go_wp2_with fail
        (with_reducible refine (R1.out _).mono ?_)
        rintro e w5 ⟨rfl, hb5⟩
        have K5 := Aside0.mk (HK.out.below hb5)
        have H5 := Aside0.mk (HH.out.below hb5)
        have B5 : Aside0 (Below M1 W2 w5) := ⟨HBe.out.trans (hb5.mono (Nat.le_of_lt hM1w))⟩
        have ck := K5.out.cell i (by omega)
        have fk := K5.out.frozen i
        have K6 := Aside0.mk (K5.out.set i fi)
        rw [TS.out] at K6
        have e8 : ∀ k, 8 ≤ k → H0.take k ++ zeros (8 - k) = H0 := fun k hk => by
          rw [List.take_of_length_le (by show 8 ≤ k; exact hk), show 8 - k = 0 by omega]; show H0 ++ [] = H0; rw [List.append_nil]
        have E8 : Aside0 (H0.take i ++ zeros (8 - i) = H0.take (i + 1) ++ zeros (8 - (i + 1))) := ⟨by rw [e8 i (by omega), e8 (i + 1) (by omega)]⟩
        clear hb5 hpc e8
        go_wp2_with fail
        go_roundw
        case rel =>
          refine ⟨i + 1, by omega, by go_num, K6, ⟨?_⟩, ⟨Below.setCell B5.out (by show M1 ≤ M2; omega) _⟩⟩
          have h := H5.out.move (w' := w5.setCell ⟨M2, i, none⟩ (.int .u32 fi)) (Below.heap_setCell _ _ _ _ (by show M1 ≠ M2; omega))
          rw [E8.out] at h
          exact h
        case measure => simp [intOf]; omega
    · have hi64 : i = 64 := by omega
      subst hi64
      have KF : Aside0 (At wr M2 42 FA) := ⟨by have := HK.out; rw [List.take_of_length_le (by rw [FA_length]; omega)] at this; rw [show zeros (64 - 64) = [] from rfl, List.append_nil] at this; exact this⟩
      have KH : Aside0 (At wr M1 42 H0) := ⟨by have := HH.out; rw [List.take_of_length_le (by show 8 ≤ 64; omega)] at this; rw [show zeros (8 - 64) = [] from rfl, List.append_nil] at this; exact this⟩
      have hBW : Below (N + 1) W1 wr := (B2.out.mono (by have := Z1.out; omega)).trans (HBe.out.mono hN1)
      have BW : Aside0 (Below N W wr) := ⟨B1.out.trans (hBW.mono (Nat.le_succ _))⟩
      have KN : Aside0 (wr.heap[N]? = some (.cells (nums .u8 (List.replicate 32 0)).toArray 25 (0, 0))) := ⟨(hBW.block N (Nat.lt_succ_self _)).trans K1.out⟩
      have HC0 : Aside0 ((Kd.int .u8).C wr A l.length l) := ⟨Kd.C_below HC.out (by rw [hN]; exact BW.out)⟩
      obtain ⟨B, hBs⟩ : ∃ B, wr.heap.size = B := ⟨_, rfl⟩
      have hM2B : M2 < B := by rw [← hBs]; exact KF.out.lt
      rw [show ((64 : Nat) : Int) = 64 from rfl]
      clear hBW HK HH HBe CP B2 B24 K34 K3 K4 B3 B4 K1 B1
      have hl1 : ([] : List Int).length + l.length ≤ 140737488355328 := by simp; omega
      have hwa : ∀ (w : World) (o : Obj), B ≤ w.heap.size → B ≤ (w.alloc o).heap.size := fun w o h => by show _ ≤ (w.heap.push o).size; simp; omega
      have EO : Aside0 (OwnB (wr.alloc (.cells #[] 5)) B (.slice (some ⟨B, 0, none⟩) 0 0) []) := ⟨by rw [← hBs]; exact empty_own wr⟩
      go_wp2_with (first
        | (at_builtin; (refine wpList_append_bytes rfl (.tmp 38) (.tmp 39) rfl B _ [] rfl EO.out A c l rfl (Kd.C_below HC0.out (below_alloc (Below.refl _ _) _)) HN.out hl1 (hwa wr _ (by omega)) ?_); intro v5 w5 ho5 hb5; rw [List.nil_append] at ho5; have O5 := Aside0.mk ho5; have B5 : Aside0 (Below B wr w5) := ⟨hb5 wr ((Below.refl B wr).alloc (by omega) _)⟩; clear ho5 hb5)
        | (at_builtin; (refine SumA.wpList_append_byte rfl (.tmp 41) (.tmp 42) rfl B _ l rfl (SumA.ownB_alloc O5.out _) (some ⟨w5.heap.size, 0, none⟩) 128 rfl (SumA.row_byte w5 128) (by simp) (by omega) (hwa w5 _ (by have := B5.out.size; omega)) ?_); intro v6 w6 ho6 hb6; have O6 := Aside0.mk ho6; have B6 : Aside0 (Below B wr w6) := ⟨hb6 wr (B5.out.alloc (by have := B5.out.size; omega) _)⟩; clear ho6 hb6))
      have O6' : Aside0 (OwnB w6 B v6 (l ++ 128 :: List.replicate 0 0)) := ⟨O6.out⟩
      have hB6 : B ≤ w6.heap.size := by have := B6.out.size; omega
      have HB6 := Aside0.mk hB6
      have KF6 := Aside0.mk (KF.out.move (B6.out.block M2 hM2B))
      have KH6 := Aside0.mk (KH.out.move (B6.out.block M1 (by omega)))
      have KN6 : Aside0 (w6.heap[N]? = some (.cells (nums .u8 (List.replicate 32 0)).toArray 25 (0, 0))) := ⟨(B6.out.block N (by omega)).trans KN.out⟩
      have BW6 : Aside0 (Below N W w6) := ⟨BW.out.trans (B6.out.mono (by omega))⟩
      clear KF KH KN BW
      obtain ⟨A6, c6, hv6, _, _, _⟩ := O6.out.reads (by simp; omega)
      subst hv6
      clear O5 O6 EO B5
      generalize l ++ [128] = R1 at *
      go_loopw [7] (fun v7 wq => SumW.RelZ B l (padZ l.length) w6 v7 wq) (fun v7 _ => l.length + 1 + padZ l.length - slen v7)
      case atStart => exact ⟨0, by omega, O6', ⟨Below.refl _ _⟩⟩
      case round =>
        obtain ⟨k, hk, HO, HBq⟩ := hrel
        have hpz : padZ l.length < 64 := Nat.mod_lt _ (by omega)
        have hL : (l ++ 128 :: List.replicate k 0).length = l.length + 1 + k := by simp; omega
        obtain ⟨A4, c4, rfl, hc4, hC4, hn4⟩ := HO.out.reads (by omega)
        by_cases hlt : k < padZ l.length
        · have hne : ¬ Int.tmod (((l ++ 128 :: List.replicate k 0).length : Nat) : Int) 64 = 56 := by
            unfold padZ at hlt
            rw [Int.tmod_eq_emod_of_nonneg (by omega)]; omega
          have hne2 : ¬ ((((l ++ 128 :: List.replicate k 0).length : Nat) : Int) % 64 = 56) := by rw [← Int.tmod_eq_emod_of_nonneg (by omega)]; exact hne
          have hsnoc : (l ++ 128 :: List.replicate k 0) ++ [0] = l ++ 128 :: List.replicate (k + 1) 0 := by
            rw [List.replicate_succ']; simp
          have HSN := Aside0.mk hsnoc
          have HL := Aside0.mk hL
          have HC4 := Aside0.mk hC4
          have hwz : wr.heap.size ≥ B := Nat.le_trans HB6.out HBq.out.size
          have hY1 : (l ++ 128 :: List.replicate k 0).length + 1 ≤ 140737488355328 := by omega
          clear hC4 hsnoc hL
          generalize l ++ 128 :: List.replicate k 0 = Y at *
          have hwa2 : ∀ o : Obj, B ≤ (wr.alloc o).heap.size := fun o => by show _ ≤ (wr.heap.push o).size; simp; omega
          go_wp2_with (first
            | (at_builtin; refine SumA.wpList_append_byte rfl (.tmp 48) (.tmp 49) rfl B _ Y rfl (SumA.ownB_alloc HO.out _) (some ⟨wr.heap.size, 0, none⟩) 0 rfl (SumA.row_byte wr 0) (by simp) hY1 (hwa2 _) ?_; intro v5 w8 ho5 hb5; have HO5 := Aside0.mk ho5; have HB5 := Aside0.mk (hb5 w6 (HBq.out.alloc hwz _)); clear ho5 hb5))
          go_roundw
          case rel => exact ⟨k + 1, by omega, ⟨by rw [← HSN.out]; exact HO5.out⟩, HB5⟩
          case measure =>
            obtain ⟨A5, c5, rfl, _, _, _⟩ := HO5.out.reads (by simp; omega)
            have := HL.out
            simp [slen]
            omega
        · have hkz : k = padZ l.length := by omega
          have heq2 : ((((l ++ 128 :: List.replicate k 0).length : Nat) : Int) % 64 = 56) := by
            rw [hkz]
            rw [hkz] at hL
            unfold padZ at hL ⊢
            omega
          have HPB : Aside0 ((l ++ 128 :: List.replicate k 0) ++ T (l.length * 8 % 18446744073709551616) 8 = pad l) := ⟨by unfold pad padB; rw [hkz, List.append_assoc]⟩
          have HLk := Aside0.mk hL
          have hwz : B ≤ wr.heap.size := Nat.le_trans HB6.out HBq.out.size
          have BQ : Aside0 (Below B w6 wr) := HBq
          have hT8 : (T (l.length * 8 % 18446744073709551616) 8).length = 8 := T_length _ _
          have hw1 : IntKind.u64.wrap (l.length : Int) = (l.length : Int) := u64_in (by omega) (by omega)
          have hw2 : IntKind.u64.wrap ((l.length : Int) * 8) = (l.length : Int) * 8 := u64_in (by omega) (by omega)
          have hn8 : l.length * 8 % 18446744073709551616 = l.length * 8 := by omega
          rw [hn8] at HPB hT8
          have O0 : Aside0 (OwnB wr B (.slice A4 (l ++ 128 :: List.replicate k 0).length c4) ((l ++ 128 :: List.replicate k 0) ++ (T (l.length * 8) 8).take 0)) := ⟨by rw [List.take_zero, List.append_nil]; exact HO.out⟩
          clear hC4 hL hlt HO hn8
          generalize l ++ 128 :: List.replicate k 0 = Y at *
          go_wp2_with fail
          (try rw [heq2])
          clear heq2
          go_loopw [7, 9] (fun v7 v9 wq => RelU B Y (l.length * 8) w6 v7 v9 wq) (fun _ v9 _ => (intOf v9 + 1).toNat)
          case atStart => exact ⟨0, by omega, rfl, O0, BQ⟩
          case round =>
            clear O0 BQ
            obtain ⟨k, hk, rfl, HO, HBq⟩ := hrel
            have hYl : (Y ++ (T (l.length * 8) 8).take k).length = Y.length + k := by rw [List.length_append, List.length_take, hT8]; omega
            obtain ⟨A5, c5, rfl, hc5, hC5, hn5⟩ := HO.out.reads (by have := HLk.out; omega)
            by_cases hlt : k < 8
            · have hk1 : (0 : Int) ≤ 7 - (k : Int) := by omega
              have hT : (Y ++ (T (l.length * 8) 8).take k) ++ [((l.length * 8 / 256 ^ (7 - k) % 256 : Nat) : Int)] = Y ++ (T (l.length * 8) 8).take (k + 1) := by
                rw [List.take_succ_eq_append_getElem (by omega), T_get, List.append_assoc]
              have hm1 : IntKind.i64.wrap (8 * (7 - (k : Int))) = 8 * (7 - (k : Int)) := by rw [IntKind.wrap_i64]; omega
              have hm2 : IntKind.u64.wrap (8 * (7 - (k : Int))) = 8 * (7 - (k : Int)) := u64_in (by omega) (by omega)
              have hxe : (l.length : Int) * 8 / 2 ^ (8 * (7 - k)) % 256 = ((l.length * 8 / 256 ^ (7 - k) % 256 : Nat) : Int) := by
                rw [show (l.length : Int) * 8 = ((l.length * 8 : Nat) : Int) by omega, ← pow8]; simp
              have HT := Aside0.mk hT
              have HYl := Aside0.mk hYl
              have hZ1 : (Y ++ (T (l.length * 8) 8).take k).length + 1 ≤ 140737488355328 := by have := HLk.out; omega
              have hwz2 : B ≤ wr.heap.size := by have := HBq.out.size; have := HB6.out; omega
              have hwa2 : ∀ o : Obj, B ≤ (wr.alloc o).heap.size := fun o => by show _ ≤ (wr.heap.push o).size; simp; omega
              rw [← hxe] at HT
              clear hT hYl hxe hC5
              generalize Y ++ (T (l.length * 8) 8).take k = Z at *
              go_wp2_with (first
                | (at_builtin; refine SumA.wpList_append_byte rfl (.tmp 59) (.tmp 66) rfl B _ Z rfl (SumA.ownB_alloc HO.out _) (some ⟨wr.heap.size, 0, none⟩) ((l.length : Int) * 8 / 2 ^ (8 * (7 - k)) % 256) rfl (SumA.row_byte wr _) (by simp) hZ1 (hwa2 _) ?_; intro v8 w8 ho5 hb5; have HO5 := Aside0.mk ho5; have HB5 := Aside0.mk (hb5 w6 (HBq.out.alloc hwz2 _)); clear ho5 hb5))
              go_roundw
              case rel => exact ⟨k + 1, by omega, by go_num, ⟨by rw [← HT.out]; exact HO5.out⟩, HB5⟩
              case measure => simp [intOf]; omega
            · have hk8 : k = 8 := by omega
              subst hk8
              have hPad : Y ++ (T (l.length * 8) 8).take 8 = pad l := by rw [List.take_of_length_le (by omega), HPB.out]
              have hk1 : ¬ (0 : Int) ≤ 7 - 8 := by decide
              have hpl : (pad l).length % 64 = 0 := by
                have := pad_length l
                rw [restT_append, List.length_drop] at this
                have h2 : (l ++ padB l.length).length = (pad l).length := rfl
                rw [h2] at this
                have h3 : l.length ≤ (pad l).length := by unfold pad; rw [List.length_append]; omega
                omega
              have HPL := Aside0.mk hpl
              have HBP : Aside0 (Bytes (pad l)) := ⟨fun x hx => (List.mem_append.1 hx).elim (fun h => HB.out x h) (fun h => padB_bytes _ x h)⟩
              have HDG : Aside0 (dig l = bytesOf (nowT (pad l)) 8) := ⟨rfl⟩
              have HNOW : Aside0 (eatN ((pad l).length / 64) H0 (pad l) = nowT (pad l)) := ⟨rfl⟩
              have HLP : Aside0 ((pad l).length ≤ 1048800) := ⟨by unfold pad; rw [List.length_append, padB_length]; have := hpz; omega⟩
              rw [hPad] at hc5 hC5
              rw [hPad]
              rw [show ((8 : Nat) : Int) = 8 from rfl]
              have C5 := Aside0.mk hC5
              have KFr := Aside0.mk (KF6.out.move (HBq.out.block M2 hM2B))
              have KHr : Aside0 (At wr M1 42 (eatN 0 H0 (pad l))) := ⟨KH6.out.move (HBq.out.block M1 (by omega))⟩
              have KNr : Aside0 (wr.heap[N]? = some (.cells (nums .u8 (List.replicate 32 0)).toArray 25 (0, 0))) := ⟨(HBq.out.block N (by omega)).trans KN6.out⟩
              have BWr : Aside0 (Below N W wr) := ⟨BW6.out.trans (HBq.out.mono (by omega))⟩
              have hBr : B ≤ wr.heap.size := Nat.le_trans HB6.out HBq.out.size
              clear hpl hPad hC5 hYl HO HBq
              have hE0 : 0 < (pad l).length := by unfold pad; rw [List.length_append, padB_length]; omega
              generalize pad l = E at *
              obtain ⟨ad5, rfl, _⟩ := C5.out.2.2 hE0
              go_wp2_with fail
              go_loopw [4, 10] (fun v4 v10 wq => RelK N M2 ad5 W E v4 v10 wq) (fun _ v10 _ => E.length - (intOf v10).toNat)
              case atStart => exact ⟨0, M1, by omega, rfl, rfl, KHr, KFr, C5, KNr, BWr, by omega⟩
              case round =>
                clear KHr KFr C5 KNr BWr hBr
                obtain ⟨j, gh, hj, rfl, rfl, KH, KF, C5, KN, BW, hgh⟩ := hrel
                by_cases hlt : 64 * j < E.length
                · obtain ⟨i0, hi0, _, hsz, _⟩ := info_parts Libs.info5
                  have hpl := HPL.out
                  have hj64 : 64 * j + 64 ≤ E.length := by omega
                  have hlp := HLP.out
                  have hlt1 : 64 * (j : Int) < (E.length : Int) := by omega
                  have hcm := cut_mid (P := Tryd.prog) 28 5 .i64 .i64 Tryd.underlying28 hi0 1 hsz (some ad5) E.length c5 (64 * (j : Int)) (64 * (j : Int) + 64) (by omega) (by omega) (by omega) (by omega)
                  have D2 := Aside0.mk (Kd.C_mid (lo := 64 * j) (hi := 64 * j + 64) C5.out (by omega) (by omega) hc5)
                  have L2 : ((E.take (64 * j + 64)).drop (64 * j)).length = 64 := by rw [List.length_drop, List.length_take]; omega
                  have e1 : (64 * (j : Int)).toNat = 64 * j := by omega
                  have e2 : (64 * (j : Int) + 64).toNat - 64 * j = 64 := by omega
                  rw [e1, e2] at hcm
                  rw [show 64 * j * (Kd.int .u8).sz = 64 * j * 1 from rfl] at D2
                  have HEA : Aside0 (mixR (eatN j H0 E) ((E.take (64 * j + 64)).drop (64 * j)) = eatN (j + 1) H0 E) := ⟨by rw [eatN, ← List.take_drop]⟩
                  generalize (if c5 = 64 * j then some ad5 else (some ad5).map (·.add (64 * j * 1))) = A2 at D2 hcm
                  have G := Aside0.mk (block_calls gh M2 (eatN j H0 E) (eatN_length H0 E j) A2 (c5 - 64 * j) ((E.take (64 * j + 64)).drop (64 * j)) wr KH.out KF.out D2.out (by rw [L2]; omega) L2 (bytes_drop (bytes_take HBP.out (64 * j + 64)) (64 * j)))
                  clear e1 e2 D2 hpl
                  go_wp2_with fail
                  (with_reducible refine (G.out).mono ?_)
                  rintro e w1 ⟨g1, hg1, rfl, hH1, hb1⟩
                  have KH1 : Aside0 (At w1 g1 42 (eatN (j + 1) H0 E)) := ⟨by rw [← HEA.out]; exact hH1⟩
                  have KF1 := Aside0.mk (KF.out.below hb1)
                  have C51 := Aside0.mk (Kd.C_below C5.out hb1)
                  have hNs : N < wr.heap.size := (Array.getElem?_eq_some_iff.1 KN.out).1
                  have KN1 : Aside0 (w1.heap[N]? = some (.cells (nums .u8 (List.replicate 32 0)).toArray 25 (0, 0))) := ⟨(hb1.block N hNs).trans KN.out⟩
                  have BW1 : Aside0 (Below N W w1) := ⟨BW.out.trans (hb1.mono (by omega))⟩
                  clear hH1 hb1
                  go_wp2_with fail
                  go_roundw
                  case rel => exact ⟨j + 1, g1, by omega, by go_num, rfl, KH1, KF1, C51, KN1, BW1, by omega⟩
                  case measure => simp [intOf]; omega
                · have hjq : j = E.length / 64 := by omega
                  have hlt1 : ¬ 64 * (j : Int) < (E.length : Int) := by omega
                  have hFE : eatN j H0 E = nowT E := by rw [hjq]; exact HNOW.out
                  rw [hFE] at KH
                  have hw8 := nowT_length E
                  have hww := words_now E
                  have HBY : Aside0 (∀ i, i < 32 → ∃ n : Nat, n < 4294967296 ∧ (nowT E).getD (i / 4) 0 = (n : Int) ∧ (dig l)[i]? = some ((n / 2 ^ (24 - 8 * (i % 4)) % 256 : Nat) : Int)) := ⟨fun i hi => by rw [HDG.out]; exact out_byte (nowT E) hw8 hww i hi⟩
                  have hdl := dig_length l
                  clear hjq hFE HNOW HPL HBP HLP hww HDG
                  generalize nowT E = F at *
                  generalize hdd : dig l = D at *
                  have HDD := Aside0.mk hdd
                  clear hdd
                  obtain ⟨G, hG⟩ : ∃ G, wr.heap.size = G := ⟨_, rfl⟩
                  have hNG : N < G := by rw [← hG]; exact (Array.getElem?_eq_some_iff.1 KN.out).1
                  have hghG : gh < G := by rw [← hG]; exact KH.out.lt
                  have hi25 : (Tryd.prog.info? 25).map (·.size) = some (nums .u8 (List.replicate 32 0)).toArray.size := by rw [List.size_toArray, nums_length, List.length_replicate]; exact info25
                  have hone : (nums .u8 (List.replicate 32 0)).toArray.all (·.oneCell') = true := by
                    rw [Array.all_eq_true_iff_forall_mem]; intro u hu; exact nums_one _ u (by simpa using hu)
                  generalize 64 * (j : Int) = jj at *
                  go_wp2_with (first
                    | ((with_reducible refine Go.wpList_buildTo rfl 25 _ rfl (some 82) rfl (nums .u8 (List.replicate 32 0)).toArray ?_ ?_); (as_aux_lemma => kernel_rfl))
                    | ((with_reducible refine Ops.wpList_allocRow rfl 25 rfl _ Ops.zero25 G hG fun W7 k7 b7 z7 => ?_); have K7 := Aside0.mk k7; have B7 := Aside0.mk b7; have Z7 := Aside0.mk z7; clear k7 b7 z7)
                    | ((with_reducible refine Ops.wpList_setRow rfl 25 (.tmp 11) (.tmp 82) rfl rfl G rfl (nums .u8 (List.replicate 32 0)).toArray rfl 25 _ K7.out hi25 rfl hone fun W8 k8 o8 => ?_); have K8 := Aside0.mk k8; have O8 := Aside0.mk o8; clear k8 o8))
                  have B8 : Aside0 (Below G wr W8) := ⟨O8.out.below B7.out (Nat.le_refl _)⟩
                  go_loopw [12] (fun v12 wq => RelQ N G gh W F D v12 wq) (fun v12 _ => 32 - (intOf v12).toNat)
                  case atStart => exact ⟨0, by omega, rfl, ⟨At.move KH.out (B8.out.block gh hghG)⟩, ⟨K8.out⟩, ⟨(B8.out.block N hNG).trans KN.out⟩, ⟨BW.out.trans (B8.out.mono (Nat.le_of_lt hNG))⟩⟩
                  case round =>
                    clear KH KN BW K7 K8 O8 B7 Z7 B8
                    obtain ⟨i, hi, rfl, KH, KG, KN, BW⟩ := hrel
                    by_cases hlt2 : i < 32
                    · obtain ⟨n, hn32, hn, hnD⟩ := HBY.out i hlt2
                      have hi1 : (i : Int) < 32 := by omega
                      have hi2 : (0 : Int) ≤ (i : Int) := by omega
                      have hc := KH.out.cell (i / 4) (by rw [hw8]; omega)
                      rw [hn] at hc
                      have hlB : (D.take i ++ zeros (32 - i)).length = 32 := by rw [List.length_append, List.length_take]; unfold zeros; rw [List.length_replicate]; omega
                      have hcb := cell8 KG.out i (by omega)
                      have hfb := blk_frozen KG.out i
                      have hx : D.getD i 0 = (n : Int) / 2 ^ (24 - 8 * (i % 4)) % 256 := by rw [List.getD_eq_getElem?_getD, hnD]; simp
                      have TS := Aside0.mk (take_set D 32 i hdl hlt2)
                      rw [hx] at TS
                      clear hn hnD hx
                      go_wp2_with fail
                      go_roundw
                      case rel =>
                        refine ⟨i + 1, by omega, by go_num, ⟨KH.out.move (Below.heap_setCell _ _ _ _ (by show gh ≠ G; omega))⟩, ⟨?_⟩, ⟨(Below.heap_setCell _ _ _ _ (by show N ≠ G; omega)).trans KN.out⟩, ⟨Below.setCell BW.out (Nat.le_of_lt hNG) _⟩⟩
                        rw [← TS.out]
                        exact set8 KG.out i _
                      case measure => simp [intOf]; omega
                    · have hi32 : i = 32 := by omega
                      subst hi32
                      have hD : D.take 32 ++ zeros (32 - 32) = D := by rw [List.take_of_length_le (by omega)]; show D ++ [] = D; rw [List.append_nil]
                      rw [hD] at KG
                      have hi25' : (Tryd.prog.info? 25).map (·.size) = some (nums .u8 D).toArray.size := by rw [List.size_toArray, nums_length, hdl]; exact info25
                      have hz32 : (nums .u8 (List.replicate 32 0)).toArray.size = (nums .u8 D).toArray.size := Ops.size_eq (by rw [hdl, List.length_replicate])
                      have hone' : (nums .u8 D).toArray.all (·.oneCell') = true := by
                        rw [Array.all_eq_true_iff_forall_mem]; intro u hu; exact nums_one D u (by simpa using hu)
                      have HRES := Aside0.mk (fun (tmps : Array Value) (w' : World) (hw : w'.heap[N]? = some (.cells (nums .u8 D).toArray 25 (0, 0))) (hp : tmps.getD 2 undef = .pointer (some ⟨N, 0, none⟩)) => results_cell_row (fn := Tryd.f9) rfl tmps w' N 25 (nums .u8 D).toArray (0, 0) (.array 32 5) hp hw Tryd.underlying25 rfl hi25')
                      clear hD
                      go_wp2_with (first
                        | (with_reducible refine wpList_load_row rfl 25 (.tmp 11) rfl G rfl 25 (nums .u8 D).toArray (0, 0) (.array 32 5) KG.out Tryd.underlying25 rfl hi25' ?_)
                        | ((with_reducible refine Ops.wpList_setRow rfl 25 (.tmp 2) (.tmp 101) rfl rfl N rfl (nums .u8 D).toArray rfl 25 _ KN.out hi25' hz32 hone' fun w3 k3 o3 => ?_); have K3 := Aside0.mk k3; have O3 := Aside0.mk o3; clear k3 o3))
                      refine bodyPost_ret (v := .agg (nums .u8 D).toArray) (HRES.out _ _ K3.out ?_) ?_ ⟨by rw [HDD.out], by rw [hN]; exact O3.out.below BW.out (Nat.le_refl _)⟩
                      · simp [Act.put]
                      · simp [Act.put]
end Go.Proofs.YtbkocnclaobabaaDoor.RefS
