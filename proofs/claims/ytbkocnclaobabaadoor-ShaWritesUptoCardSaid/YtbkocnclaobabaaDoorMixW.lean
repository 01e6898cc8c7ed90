/- mix, walked: a block is mixed into the words. No condition. -/
import Derived.Test.YtbkocnclaobabaaDoorOps
namespace Go.Proofs.YtbkocnclaobabaaDoor.MixW
set_option linter.unusedVariables false
set_option linter.unusedSimpArgs false
open Go.RowKit Go.Proofs.YtbkocnclaobabaaDoor.PAll Go.Proofs.YtbkocnclaobabaaDoor.Nums Go.Proofs.YtbkocnclaobabaaDoor.PutM Go.Proofs.YtbkocnclaobabaaDoor.Libs Go.Proofs.YtbkocnclaobabaaDoor.ShaM Go.Proofs.YtbkocnclaobabaaDoor.Arr Go.Proofs.YtbkocnclaobabaaDoor.SchedW Go.Proofs.YtbkocnclaobabaaDoorW.PrintWords Go.Proofs.YtbkocnclaobabaaDoorW.PrintLast Go.Proofs.YtbkocnclaobabaaDoorW.PrintMore
/-- What the rounds hold. -/
def RelM (W : World) (g : Nat) (s S : List Int) (v18 : Value) (wr : World) : Prop :=
  ∃ i : Nat, i ≤ 64 ∧ v18 = .int .i64 (i : Int) ∧ Aside0 (At wr g 48 (rnds S i s)) ∧ Aside0 (Below g W wr)
/-- What the adding up holds. -/
def RelN (W : World) (s v : List Int) (N : Nat) (v91 : Value) (wr : World) : Prop :=
  ∃ i : Nat, i ≤ 8 ∧ v91 = .int .i64 (i : Int) ∧ Aside0 (At wr W.heap.size 48 (addTo i s v)) ∧ Aside0 (At wr (N + 1) 48 v) ∧ Aside0 (At wr (W.heap.size + 1) 48 (List.replicate 8 0)) ∧ Aside0 (Below W.heap.size W wr)
set_option maxHeartbeats 1000000 in
set_option maxRecDepth 100000 in
theorem mix_calls (s : List Int) (hs : s.length = 8) (A : Option Addr) (c : Nat) (b : List Int) (W : World) (hG : Glob W) (hC : (Kd.int .u8).C W A b.length b) (hc : b.length ≤ c) (hl : b.length = 64) (hB : Bytes b) :
    Calls Tryd.prog 20 #[.agg (nums .u32 s).toArray, .slice A 64 c] W fun e w' => e = .returned (.agg (nums .u32 (mixR s b)).toArray) ∧ Below W.heap.size W w' := by
  have HG := Aside0.mk hG
  have HC := Aside0.mk hC
  have HB := Aside0.mk hB
  have HS := Aside0.mk hs
  have hbs := blk_new W (.cells (nums .u32 s).toArray 48 (0, 0))
  have hbb := below_alloc (Below.refl W.heap.size W) (.cells (nums .u32 s).toArray 48 (0, 0))
  have hbz : (W.alloc (.cells (nums .u32 s).toArray 48 (0, 0))).heap.size = W.heap.size + 1 := by show (W.heap.push _).size = _; simp
  generalize hW1 : W.alloc (.cells (nums .u32 s).toArray 48 (0, 0)) = W1 at hbs hbb hbz
  have HW1 := Aside0.mk hW1
  have K1 := Aside0.mk hbs
  have B1 := Aside0.mk hbb
  have Z1 := Aside0.mk hbz
  clear hG hC hB hbs hbb hbz hs hW1
  go_enter Tryd.func20, Tryd.ntmps20
  go_wp2_with (rw [HW1.out]; refine Ops.wpList_allocRow rfl 48 rfl _ Ops.zero48 _ Z1.out fun W2 k2 b2 z2 => ?_)
  have K12 : Aside0 (At W2 W.heap.size 48 s) := ⟨At.move K1.out (b2.block _ (by omega))⟩
  have K22 : Aside0 (At W2 (W.heap.size + 1) 48 (List.replicate 8 0)) := ⟨k2⟩
  have B2 : Aside0 (Below W.heap.size W W2) := ⟨B1.out.trans (b2.mono (by omega))⟩
  have Z2 := Aside0.mk z2
  clear k2 b2 z2 HW1 K1 B1 Z1
  (with_reducible refine (sched_calls A c b _ (Kd.C_below HC.out B2.out) hc hl HB.out).mono ?_)
  rintro e W3 ⟨rfl, b3⟩
  have hsl : (sched b).length = 64 := by unfold sched; rw [grow_length, first_length]
  have HSC : Aside0 (mixR s b = addTo 8 s (rnds (sched b) 64 s)) := ⟨rfl⟩
  generalize sched b = S at *
  generalize hRR : mixR s b = R at *
  have HRR := Aside0.mk hRR
  clear hRR
  have B3 : Aside0 (Below W.heap.size W W3) := ⟨below_step B2.out b3⟩
  have hz3 : W.heap.size + 2 ≤ W3.heap.size := by have := b3.size; have := Z2.out; omega
  have K13 := Aside0.mk (At.below K12.out b3)
  have K23 := Aside0.mk (At.below K22.out b3)
  clear b3 K12 K22 B2 Z2
  obtain ⟨N, hN⟩ : ∃ N, W3.heap.size = N := ⟨_, rfl⟩
  rw [hN] at hz3
  have G3 : Aside0 (Glob W3) := ⟨HG.out.below B3.out⟩
  go_wp2_with (first
    | (with_reducible refine Ops.wpList_allocRow rfl 58 rfl _ Ops.zero58 N hN fun W4 k4 b4 z4 => ?_)
      have S4 := Aside0.mk k4; have L4 := Aside0.mk b4; have Z4 := Aside0.mk z4; clear k4 b4 z4
    | (with_reducible refine Ops.wpList_setRow rfl 58 (.tmp 5) (.tmp 15) rfl rfl N rfl (nums .u32 S).toArray rfl 58 _ S4.out (Ops.size58 hsl) (Ops.size_eq (l := List.replicate 64 0) (by rw [hsl, List.length_replicate])) (nums_all S) fun W5 k5 o5 => ?_)
      have S5 : Aside0 (At W5 N 58 S) := ⟨k5⟩; have L5 : Aside0 (Below N W3 W5) := ⟨o5.below L4.out (Nat.le_refl N)⟩; have Z5 : Aside0 (W5.heap.size = N + 1) := ⟨o5.size.trans Z4.out⟩; have K15 : Aside0 (At W5 W.heap.size 48 s) := ⟨At.move K13.out (L5.out.block _ (by omega))⟩; clear k5 o5
    | (with_reducible refine wpList_load_row rfl 48 (.tmp 2) rfl W.heap.size rfl 48 (nums .u32 s).toArray (0, 0) (.array 8 42) K15.out.row Tryd.underlying48 rfl (Ops.size48 HS.out) ?_)
    | (with_reducible refine Ops.wpList_allocRow rfl 48 rfl _ Ops.zero48 (N + 1) Z5.out fun W6 k6 b6 z6 => ?_)
      have S6 := Aside0.mk k6; have L6 := Aside0.mk b6; have Z6 := Aside0.mk z6; clear k6 b6 z6
    | (with_reducible refine Ops.wpList_setRow rfl 48 (.tmp 6) (.tmp 16) rfl rfl (N + 1) rfl (nums .u32 s).toArray rfl 48 _ S6.out (Ops.size48 HS.out) (Ops.size_eq (l := List.replicate 8 0) (by rw [HS.out, List.length_replicate])) (nums_all s) fun W7 k7 o7 => ?_)
      have S7 : Aside0 (At W7 (N + 1) 48 s) := ⟨k7⟩; have M7 : Aside0 (Below (N + 1) W5 W7) := ⟨o7.below L6.out (Nat.le_refl _)⟩; have L7 : Aside0 (Below N W3 W7) := ⟨L5.out.trans (M7.out.mono (Nat.le_succ _))⟩; have Z7 : Aside0 (W7.heap.size = N + 2) := ⟨o7.size.trans Z6.out⟩; have K17 : Aside0 (At W7 W.heap.size 48 s) := ⟨At.move K13.out (L7.out.block _ (by omega))⟩; have K27 : Aside0 (At W7 (W.heap.size + 1) 48 (List.replicate 8 0)) := ⟨At.move K23.out (L7.out.block _ (by omega))⟩; have K57 : Aside0 (At W7 N 58 S) := ⟨At.move S5.out (M7.out.block _ (by omega))⟩; have BW7 : Aside0 (Below W.heap.size W W7) := ⟨B3.out.trans (L7.out.mono (by omega))⟩; have G7 : Aside0 (Glob W7) := ⟨G3.out.below (by rw [hN]; exact L7.out)⟩; clear k7 o7
    | (with_reducible refine wpList_load_cells rfl 58 (.global 0) rfl 0 rfl (nums .u32 FA) (.array 64 42) G7.out.cells Tryd.underlying58 rfl (by kernel_rfl) ?_))
  clear K13 K23 B3 G3 L5 Z5 K15
  go_loopw [18] (fun v18 wr => RelM W7 (N + 1) s S v18 wr) (fun v18 _ => 64 - (intOf v18).toNat)
  case atStart => exact ⟨0, by omega, rfl, ⟨S7.out⟩, ⟨Below.refl _ _⟩⟩
  case round =>
    obtain ⟨i, hi, rfl, HX, HBe⟩ := hrel
    by_cases hlt : i < 64
    · have hi1 : (i : Int) < 64 := by omega
      have hi2 : (0 : Int) ≤ (i : Int) := by omega
      have hix : ∀ w : World, (Instr.index 58 (.agg (nums .u32 FA).toArray) (.int .i64 (i : Int))).run Tryd.prog w = .ok (.int .u32 (FA.getD i 0)) w := Ops.index58 FA FA_length i hlt
      have hvl : (rnds S i s).length = 8 := rnds_length S i s HS.out
      have HR : Aside0 (rnds S (i + 1) s = ShaM.step (rnds S i s) (FA.getD i 0) (S.getD i 0)) := ⟨rfl⟩
      generalize rnds S i s = v at *
      obtain ⟨v0, v1, v2, v3, v4, v5, v6, v7, rfl⟩ : ∃ v0 v1 v2 v3 v4 v5 v6 v7, v = [v0, v1, v2, v3, v4, v5, v6, v7] := by
        match v, hvl with
        | [s0, s1, s2, s3, s4, s5, s6, s7], _ => exact ⟨s0, s1, s2, s3, s4, s5, s6, s7, rfl⟩
      have HSi : Aside0 (∀ w' : World, Below wr.heap.size wr w' → w'.cell? ⟨N, i, none⟩ = some (.int .u32 (S.getD i 0))) := ⟨fun w' hb => At.cell (At.below (At.move K57.out (HBe.out.block _ (Nat.lt_succ_self _))) hb) i (by rw [hsl]; exact hlt)⟩
      generalize FA.getD i 0 = kf at *
      generalize S.getD i 0 = wf at *
      have c0 : wr.cell? ⟨N + 1, 0, none⟩ = some (.int .u32 v0) := HX.out.cell 0 (by omega)
      have c1 : wr.cell? ⟨N + 1, 1, none⟩ = some (.int .u32 v1) := HX.out.cell 1 (by omega)
      have c2 : wr.cell? ⟨N + 1, 2, none⟩ = some (.int .u32 v2) := HX.out.cell 2 (by omega)
      have c4 : wr.cell? ⟨N + 1, 4, none⟩ = some (.int .u32 v4) := HX.out.cell 4 (by omega)
      have c5 : wr.cell? ⟨N + 1, 5, none⟩ = some (.int .u32 v5) := HX.out.cell 5 (by omega)
      have c6 : wr.cell? ⟨N + 1, 6, none⟩ = some (.int .u32 v6) := HX.out.cell 6 (by omega)
      go_wp2_with fail
      have SK : Aside0 (∀ w' : World, Below wr.heap.size wr w' → w'.cell? ⟨N + 1, 7, none⟩ = some (.int .u32 v7) ∧ w'.cell? ⟨N + 1, 4, none⟩ = some (.int .u32 v4) ∧ w'.cell? ⟨N, i, none⟩ = some (.int .u32 wf)) := ⟨fun w' hb => ⟨(HX.out.below hb).cell 7 (by omega), (HX.out.below hb).cell 4 (by omega), HSi.out w' hb⟩⟩
      have X0 : Aside0 (Below wr.heap.size wr wr.drew) := ⟨(Below.refl _ _).drew⟩
      clear c0 c1 c2 c4 c5 c6
      go_region_held3 (fun w' : World => w'.cell? ⟨N + 1, 7, none⟩ = some (.int .u32 v7) ∧ w'.cell? ⟨N + 1, 4, none⟩ = some (.int .u32 v4) ∧ w'.cell? ⟨N, i, none⟩ = some (.int .u32 wf))
        (first | exact SK.out _ X0.out | exact SK.out _ X1.out)
        (first | (go_at_call 24; (with_reducible refine (sha_spread.calls _ 6 11 25 _ _ (spr3 _)).mono ?_); rintro x w1 ⟨rfl, hb1⟩; (have X1 := Aside0.mk (below_step X0.out hb1)); clear hb1))
      have HX1 := Aside0.mk (HX.out.below X1.out)
      have c0 : w1.cell? ⟨N + 1, 0, none⟩ = some (.int .u32 v0) := HX1.out.cell 0 (by omega)
      go_wp2_with fail
      (with_reducible refine (sha_spread.calls _ 2 13 22 _ _ (spr4 _)).mono ?_)
      rintro x w2 ⟨rfl, hb2⟩
      have X2 := Aside0.mk (below_step X1.out hb2)
      have HX2 := Aside0.mk (HX.out.below X2.out)
      clear hb2 c0
      have c0 : w2.cell? ⟨N + 1, 0, none⟩ = some (.int .u32 v0) := HX2.out.cell 0 (by omega)
      have c1 : w2.cell? ⟨N + 1, 1, none⟩ = some (.int .u32 v1) := HX2.out.cell 1 (by omega)
      have c2 : w2.cell? ⟨N + 1, 2, none⟩ = some (.int .u32 v2) := HX2.out.cell 2 (by omega)
      have c3 : w2.cell? ⟨N + 1, 3, none⟩ = some (.int .u32 v3) := HX2.out.cell 3 (by omega)
      have c4 : w2.cell? ⟨N + 1, 4, none⟩ = some (.int .u32 v4) := HX2.out.cell 4 (by omega)
      have c5 : w2.cell? ⟨N + 1, 5, none⟩ = some (.int .u32 v5) := HX2.out.cell 5 (by omega)
      have c6 : w2.cell? ⟨N + 1, 6, none⟩ = some (.int .u32 v6) := HX2.out.cell 6 (by omega)
      go_upto_region 10 with (fail)
      generalize hone : IntKind.u32.wrap (IntKind.u32.wrap (IntKind.u32.wrap (IntKind.u32.wrap (v7 + spr v4 6 11 25) + Go.bits .xor .u32 (Go.bits .and .u32 v4 v5) (Go.bits .and .u32 (Go.bits .xor .u32 IntKind.u32.max v4) v6)) + kf) + wf) = one
      generalize htwo : (spr v0 2 13 22 + Go.bits .xor .u32 (Go.bits .xor .u32 (Go.bits .and .u32 v0 v1) (Go.bits .and .u32 v0 v2)) (Go.bits .and .u32 v1 v2)) % 4294967296 = two
      generalize hdd : Go.bits .xor .u32 (Go.bits .and .u32 v4 v5) (Go.bits .and .u32 (Go.bits .xor .u32 IntKind.u32.max v4) v6) = dd at *
      generalize hee : Go.bits .xor .u32 (Go.bits .xor .u32 (Go.bits .and .u32 v0 v1) (Go.bits .and .u32 v0 v2)) (Go.bits .and .u32 v1 v2) = ee at *
      have HDD := Aside0.mk hdd
      have HEE := Aside0.mk hee
      clear hdd hee
      have HO := Aside0.mk hone
      have HT := Aside0.mk htwo
      clear hone htwo
      have HV : Aside0 (rnds S (i + 1) s = [IntKind.u32.wrap (one + two), v0, v1, v2, IntKind.u32.wrap (v3 + one), v4, v5, v6]) := ⟨by
        rw [HR.out, ← HO.out, ← HT.out, ← HDD.out, ← HEE.out, ← IntKind.wrap_u32 (_ + _)]; rfl⟩
      have hv8 : [IntKind.u32.wrap (one + two), v0, v1, v2, IntKind.u32.wrap (v3 + one), v4, v5, v6].length = 8 := rfl
      generalize hvd : [IntKind.u32.wrap (one + two), v0, v1, v2, IntKind.u32.wrap (v3 + one), v4, v5, v6] = vd at HV hv8
      have HVD := Aside0.mk hvd
      have hv88 : [v0, v1, v2, v3, v4, v5, v6, v7].length = vd.length := hv8.symm
      clear hvd
      go_wp2_with (first
        | ((with_reducible refine Go.wpList_buildTo rfl 48 _ rfl (some 89) rfl (nums .u32 [IntKind.u32.wrap (one + two), v0, v1, v2, IntKind.u32.wrap (v3 + one), v4, v5, v6]).toArray ?_ ?_); (as_aux_lemma => kernel_rfl); rw [HVD.out])
        | (with_reducible refine Ops.wpList_setRow rfl 48 (.tmp 6) (.tmp 89) rfl rfl (N + 1) rfl (nums .u32 vd).toArray rfl 48 _ HX2.out.row (Ops.size48 hv8) (Ops.size_eq hv88) (nums_all vd) fun w3 k3 o3 => ?_)
          have K3 := Aside0.mk k3; have O3 := Aside0.mk o3; clear k3 o3)
      go_roundw
      case rel => exact ⟨i + 1, by omega, by go_num, ⟨by rw [HV.out]; exact K3.out⟩, ⟨O3.out.below (HBe.out.trans (X2.out.mono (Nat.le_of_lt HX.out.lt))) (Nat.le_refl _)⟩⟩
      case measure => simp [intOf]; omega
    · have hi64 : i = 64 := by omega
      subst hi64
      have hvl : (rnds S 64 s).length = 8 := rnds_length S 64 s HS.out
      generalize rnds S 64 s = v at *
      rw [show ((64 : Nat) : Int) = 64 from rfl]
      have K1 : Aside0 (At wr W.heap.size 48 (addTo 0 s v)) := ⟨by rw [addTo_zero]; exact At.move K17.out (HBe.out.block _ (by omega))⟩
      have K2 : Aside0 (At wr (W.heap.size + 1) 48 (List.replicate 8 0)) := ⟨At.move K27.out (HBe.out.block _ (by omega))⟩
      have BW : Aside0 (Below W.heap.size W wr) := ⟨BW7.out.trans (HBe.out.mono (by omega))⟩
      clear K17 K27 HBe K57 S7 G7
      go_wp2_with fail
      go_loopw [91] (fun v91 wr => RelN W s v N v91 wr) (fun v91 _ => 8 - (intOf v91).toNat)
      case atStart => exact ⟨0, by omega, rfl, K1, HX, K2, BW⟩
      case round =>
        clear K1 HX K2 BW
        obtain ⟨i, hi, rfl, K1, HX, K2, BW⟩ := hrel
        by_cases hlt : i < 8
        · have hi1 : (i : Int) < 8 := by omega
          have hi2 : (0 : Int) ≤ (i : Int) := by omega
          have hadd := addTo_succ i s v (by rw [HS.out]; exact hlt)
          have hal : (addTo i s v).length = 8 := by rw [addTo_length, HS.out]
          have HA := Aside0.mk hadd
          generalize addTo i s v = u at *
          have c1 := K1.out.cell i (by omega)
          have f1 := K1.out.frozen i
          have c2 := HX.out.cell i (by omega)
          generalize u.getD i 0 = ui at *
          generalize v.getD i 0 = vi at *
          clear hadd
          go_wp2_with fail
          go_region
          go_wp2_with fail
          go_roundw
          case rel =>
            refine ⟨i + 1, by omega, by go_num, ⟨?_⟩, ⟨HX.out.move (Below.heap_setCell _ _ _ _ (by simp; omega))⟩, ⟨K2.out.move (Below.heap_setCell _ _ _ _ (by simp))⟩, ⟨below_set BW.out.drew (Nat.le_refl _)⟩⟩
            rw [HA.out, IntKind.wrap_u32]
            exact At.move (K1.out.set i ((ui + vi) % 4294967296)) rfl
          case measure => simp [intOf]; omega
        · have hi8 : i = 8 := by omega
          subst hi8
          have hal : (addTo 8 s v).length = 8 := by rw [addTo_length, HS.out]
          rw [← HSC.out] at K1 hal
          have hres := fun (tmps : Array Value) (w' : World) (hw : w'.heap[W.heap.size + 1]? = some (.cells (nums .u32 R).toArray 48 (0, 0))) (hp : tmps.getD 4 undef = .pointer (some ⟨W.heap.size + 1, 0, none⟩)) => results_cell_row (fn := Tryd.f20) rfl tmps w' (W.heap.size + 1) 48 (nums .u32 R).toArray (0, 0) (.array 8 42) hp hw Tryd.underlying48 rfl (Ops.size48 hal)
          have HRES := Aside0.mk hres
          clear hres
          have hz8 : (List.replicate 8 (0 : Int)).length = R.length := by rw [hal]; rfl
          go_wp2_with (first
            | (with_reducible refine wpList_load_row rfl 48 (.tmp 2) rfl W.heap.size rfl 48 (nums .u32 R).toArray (0, 0) (.array 8 42) K1.out.row Tryd.underlying48 rfl (Ops.size48 hal) ?_)
            | (with_reducible refine Ops.wpList_setRow rfl 48 (.tmp 4) (.tmp 103) rfl rfl (W.heap.size + 1) rfl (nums .u32 R).toArray rfl 48 _ K2.out.row (Ops.size48 hal) (Ops.size_eq hz8) (nums_all R) fun w3 k3 o3 => ?_)
              have K3 := Aside0.mk k3; have O3 := Aside0.mk o3; clear k3 o3)
          refine bodyPost_ret (v := .agg (nums .u32 R).toArray) (HRES.out _ _ K3.out ?_) ?_ ⟨by rw [HRR.out], O3.out.below BW.out (Nat.le_succ _)⟩
          · simp [Act.put]
          · simp [Act.put]
end Go.Proofs.YtbkocnclaobabaaDoor.MixW
