/- block of the reference, walked. No condition. -/
import Derived.Test.YtbkocnclaobabaaDoorRefA
namespace Go.Proofs.YtbkocnclaobabaaDoor.RefB
set_option linter.unusedVariables false
set_option linter.unusedSimpArgs false
open Go.RowKit Go.Proofs.YtbkocnclaobabaaDoor.PAll Go.Proofs.YtbkocnclaobabaaDoor.Nums Go.Proofs.YtbkocnclaobabaaDoor.PutM Go.Proofs.YtbkocnclaobabaaDoor.Libs Go.Proofs.YtbkocnclaobabaaDoor.ShaM Go.Proofs.YtbkocnclaobabaaDoor.WriteM Go.Proofs.YtbkocnclaobabaaDoor.Arr Go.Proofs.YtbkocnclaobabaaDoor.SchedW Go.Proofs.YtbkocnclaobabaaDoor.NewW Go.Proofs.YtbkocnclaobabaaDoor.MixW Go.Proofs.YtbkocnclaobabaaDoor.App Go.Proofs.YtbkocnclaobabaaDoor.HashW Go.Proofs.YtbkocnclaobabaaDoorW.PrintWords Go.Proofs.YtbkocnclaobabaaDoorW.PrintLast Go.Proofs.YtbkocnclaobabaaDoorW.PrintMore
open Go.Proofs.YtbkocnclaobabaaDoor.WriteW Go.Proofs.YtbkocnclaobabaaDoor.RefM Go.Proofs.YtbkocnclaobabaaDoor.RefA
theorem take4 (b : List Int) (i : Nat) (h : 4 * i + 4 ≤ b.length) : (b.take (4 * i + 4)).drop (4 * i) = [b.getD (4 * i) 0, b.getD (4 * i + 1) 0, b.getD (4 * i + 2) 0, b.getD (4 * i + 3) 0] := by
  apply List.ext_getElem?
  intro j
  rw [List.getElem?_drop, List.getElem?_take]
  match j with
  | 0 => simp [List.getD_eq_getElem?_getD, List.getElem?_eq_getElem (show 4 * i < b.length by omega)]
  | 1 => simp [List.getD_eq_getElem?_getD, List.getElem?_eq_getElem (show 4 * i + 1 < b.length by omega)]
  | 2 => simp [List.getD_eq_getElem?_getD, List.getElem?_eq_getElem (show 4 * i + 2 < b.length by omega)]
  | 3 => simp [List.getD_eq_getElem?_getD, List.getElem?_eq_getElem (show 4 * i + 3 < b.length by omega)]
  | j + 4 => rw [if_neg (by omega)]; simp
theorem word4 (y0 y1 y2 y3 : Nat) (h0 : y0 < 256) (h1 : y1 < 256) (h2 : y2 < 256) (h3 : y3 < 256) :
    Go.bits .or .u32 (Go.bits .or .u32 (Go.bits .or .u32 ((y0 : Int) * 16777216) ((y1 : Int) * 65536)) ((y2 : Int) * 256)) (y3 : Int) = ((((y0 * 256 + y1) * 256 + y2) * 256 + y3 : Nat) : Int) := by
  rw [show (y0 : Int) * 16777216 = ((y0 * 16777216 : Nat) : Int) by omega, show (y1 : Int) * 65536 = ((y1 * 65536 : Nat) : Int) by omega, show (y2 : Int) * 256 = ((y2 * 256 : Nat) : Int) by omega]
  have e1 : y0 * 16777216 ||| y1 * 65536 = y1 * 65536 + y0 * 16777216 := by rw [Nat.or_comm]; exact or_add (i := 24) (by omega) (by omega)
  rw [orN .u32 rfl _ _ (by show _ < 4294967296; omega) (by show _ < 4294967296; omega), e1]
  have e2 : (y1 * 65536 + y0 * 16777216) ||| y2 * 256 = y2 * 256 + (y1 * 65536 + y0 * 16777216) := by rw [Nat.or_comm]; exact or_add (i := 16) (by omega) (by omega)
  rw [orN .u32 rfl _ _ (by show _ < 4294967296; omega) (by show _ < 4294967296; omega), e2]
  have e3 : (y2 * 256 + (y1 * 65536 + y0 * 16777216)) ||| y3 = y3 + (y2 * 256 + (y1 * 65536 + y0 * 16777216)) := by rw [Nat.or_comm]; exact or_add (i := 8) (by omega) (by omega)
  rw [orN .u32 rfl _ _ (by show _ < 4294967296; omega) (by show _ < 4294967296; omega), e3]
  omega
theorem at_byte (ad : Addr) (c : Nat) (x : Int) (m : Nat) (hm : x.toNat = m) (h0 : 0 ≤ x) (h1 : x < 64) (w : World) : (Instr.indexAt 28 (.slice (some ad) 64 c) (.int .i64 x)).run Tryd.prog w = .ok (.pointer (some (ad.add m))) w := by
  obtain ⟨i0, hi, hz0, hz1, hz2⟩ := info_parts Libs.info5
  have hel : Tryd.prog.elem 28 = 5 := by simp [Program.elem, Tryd.underlying28]
  have hu : Tryd.prog.underlying 28 = some (.slice (Tryd.prog.elem 28)) := by rw [hel]; exact Tryd.underlying28
  rw [run_indexAt_slice (h := hu), if_pos (by omega), hel]
  simp [sizeOf, typeInfo, hi, hz1, hm]
theorem turn_calls (a n : Int) (h : n = 2 ∨ n = 6 ∨ n = 7 ∨ n = 11 ∨ n = 13 ∨ n = 17 ∨ n = 18 ∨ n = 19 ∨ n = 22 ∨ n = 25) (w : World) : Calls Tryd.prog 22 #[.int .u32 a, .int .u64 n] w fun e w' => e = .returned (.int .u32 (rt a n)) ∧ Below w.heap.size w w' := by
  refine (chartularyref03_turn.calls a n (rt a n) w (rt_turn a n h)).mono ?_
  rintro e w' ⟨rfl, nd, hd⟩
  exact ⟨rfl, by rw [hd]; exact pw_below_drewN (Below.refl _ _) nd⟩
/-- What the first loop holds. -/
def RelF (W1 : World) (b : List Int) (N : Nat) (v8 : Value) (wr : World) : Prop :=
  ∃ i : Nat, i ≤ 16 ∧ v8 = .int .i64 (i : Int) ∧ Aside0 (At wr N 42 (first b i ++ zeros (64 - i))) ∧ Aside0 (Below N W1 wr)
/-- What the second loop holds. -/
def RelG (W1 : World) (N : Nat) (L : List Int) (v9 : Value) (wr : World) : Prop :=
  ∃ j : Nat, 16 ≤ j ∧ j ≤ 64 ∧ v9 = .int .i64 (j : Int) ∧ Aside0 (At wr N 42 (grow (j - 16) L ++ zeros (64 - j))) ∧ Aside0 (Below N W1 wr)
/-- What the rounds hold. -/
def RelV (W : World) (N : Nat) (S h : List Int) (gh gk : Nat) (v12 v13 : Value) (wr : World) : Prop :=
  ∃ i gv cv : Nat, i ≤ 64 ∧ v13 = .int .i64 (i : Int) ∧ v12 = .slice (some ⟨gv, 0, none⟩) 8 cv ∧ Aside0 (Pre wr gv (rnds S i h)) ∧ Aside0 (0 < i → cv = 8 ∧ At wr gv 42 (rnds S i h) ∧ W.heap.size ≤ gv) ∧ Aside0 (At wr N 42 S) ∧ Aside0 (At wr gk 42 FA) ∧ Aside0 (At wr gh 42 h) ∧ Aside0 (Below W.heap.size W wr)
/-- What the adding up holds. -/
def RelE (W : World) (gv gh : Nat) (v h : List Int) (v20 : Value) (wr : World) : Prop :=
  ∃ i : Nat, i ≤ 8 ∧ v20 = .int .i64 (i : Int) ∧ Aside0 (At wr gv 42 (addTo i v h)) ∧ Aside0 (At wr gh 42 h) ∧ Aside0 (Below W.heap.size W wr)
theorem addTo_comm (s v : List Int) (hs : s.length = 8) (hv : v.length = 8) : addTo 8 s v = addTo 8 v s := by
  unfold addTo
  rw [hs, hv]
  apply List.map_congr_left
  intro j hj
  rw [if_pos (List.mem_range.1 hj), if_pos (List.mem_range.1 hj), Int.add_comm]
set_option maxHeartbeats 16000000 in
set_option maxRecDepth 100000 in
theorem block_calls (gh gk : Nat) (h : List Int) (hh : h.length = 8) (B : Option Addr) (c : Nat) (b : List Int) (W : World) (hH : At W gh 42 h) (hK : At W gk 42 FA) (hC : (Kd.int .u8).C W B b.length b) (hc : b.length ≤ c) (hl : b.length = 64) (hB : Bytes b) :
    Calls Tryd.prog 17 #[.slice (some ⟨gh, 0, none⟩) 8 8, .slice (some ⟨gk, 0, none⟩) 64 64, .slice B 64 c] W fun e w' => ∃ g, W.heap.size ≤ g ∧ e = .returned (.slice (some ⟨g, 0, none⟩) 8 8) ∧ At w' g 42 (mixR h b) ∧ Below W.heap.size W w' := by
  obtain ⟨N, hN⟩ : ∃ N, W.heap.size = N := ⟨_, rfl⟩
  have HH := Aside0.mk hH
  have HHw := Aside0.mk hH.lt
  have HK := Aside0.mk hK
  have HC := Aside0.mk hC
  have HB := Aside0.mk hB
  clear hH hK hC hB
  go_enter Tryd.func17, Tryd.ntmps17
  obtain ⟨adb, rfl, _⟩ := HC.out.2.2 (by omega)
  go_wp2_with ((with_reducible refine wpList_makeU32 rfl (.const (.int .i64 64)) (.const (.int .i64 64)) rfl 64 (by omega) rfl rfl N hN made64 ?_); intro W1 k1 b1; have K1 := Aside0.mk k1; have B1 := Aside0.mk b1; clear k1 b1)
  go_loopw [8] (fun v8 wr => RelF W1 b N v8 wr) (fun v8 _ => 16 - (intOf v8).toNat)
  case atStart => exact ⟨0, by omega, rfl, K1, ⟨Below.refl _ _⟩⟩
  case round =>
    obtain ⟨i, hi, rfl, HX, HBe⟩ := hrel
    by_cases hlt : i < 16
    · have hi1 : (i : Int) < 16 := by omega
      have hi2 : (0 : Int) ≤ (i : Int) := by omega
      have hi3 : (i : Int) < 64 := by omega
      have hadb : adb.block < N := by
        have hC := HC.out
        rw [← hN]
        exact Kd.C_lt hC (by omega) (by decide)
      have hbyte : ∀ j, j < 64 → ∃ y : Nat, b.getD j 0 = (y : Int) ∧ y < 256 ∧ ∀ w', Below W.heap.size W w' → w'.cell? (adb.add j) = some (.int .u8 (y : Int)) := fun j hj => by
        have hm : b.getD j 0 ∈ b := by rw [List.getD_eq_getElem?_getD, List.getElem?_eq_getElem (by omega)]; exact List.getElem_mem _
        have h1 := HB.out _ hm
        refine ⟨(b.getD j 0).toNat, by omega, by omega, fun w' hb => ?_⟩
        rw [hb.cell (p := adb.add j) (by rw [add_block]; omega), C_cells HC.out j (.int .u8 (b.getD j 0)) (by unfold nums; rw [List.getElem?_map, List.getElem?_eq_getElem (by omega), List.getD_eq_getElem?_getD, List.getElem?_eq_getElem (by omega)]; rfl)]
        congr 2
        omega
      obtain ⟨y0, e0, l0, q0⟩ := hbyte (4 * i) (by omega)
      obtain ⟨y1, e1, l1, q1⟩ := hbyte (4 * i + 1) (by omega)
      obtain ⟨y2, e2, l2, q2⟩ := hbyte (4 * i + 2) (by omega)
      obtain ⟨y3, e3, l3, q3⟩ := hbyte (4 * i + 3) (by omega)
      have SK : Aside0 (∀ w', Below W.heap.size W w' → w'.cell? (adb.add (4 * i)) = some (.int .u8 (y0 : Int)) ∧ w'.cell? (adb.add (4 * i + 1)) = some (.int .u8 (y1 : Int)) ∧ w'.cell? (adb.add (4 * i + 2)) = some (.int .u8 (y2 : Int)) ∧ w'.cell? (adb.add (4 * i + 3)) = some (.int .u8 (y3 : Int))) := ⟨fun w' hb => ⟨q0 w' hb, q1 w' hb, q2 w' hb, q3 w' hb⟩⟩
      have X0 : Aside0 (Below W.heap.size W wr.drew) := ⟨by rw [hN]; exact (B1.out.trans HBe.out).drew⟩
      have XS : Aside0 (∀ u, Below W.heap.size W (wr.drew.setCell ⟨N, i, none⟩ u)) := ⟨fun u => Below.setCell X0.out (by show W.heap.size ≤ N; omega) u⟩
      have n0 : (4 * (i : Int)).toNat = 4 * i := by omega
      have n1 : (4 * (i : Int) + 1).toNat = 4 * i + 1 := by omega
      have n2 : (4 * (i : Int) + 2).toNat = 4 * i + 2 := by omega
      have n3 : (4 * (i : Int) + 3).toNat = 4 * i + 3 := by omega
      have hx0 : ∀ w : World, (Instr.indexAt 28 (.slice (some adb) 64 c) (.int .i64 (4 * (i : Int)))).run Tryd.prog w = .ok (.pointer (some (adb.add (4 * i)))) w := at_byte adb c _ _ n0 (by omega) (by omega)
      have hx1 : ∀ w : World, (Instr.indexAt 28 (.slice (some adb) 64 c) (.int .i64 (4 * (i : Int) + 1))).run Tryd.prog w = .ok (.pointer (some (adb.add (4 * i + 1)))) w := at_byte adb c _ _ n1 (by omega) (by omega)
      have hx2 : ∀ w : World, (Instr.indexAt 28 (.slice (some adb) 64 c) (.int .i64 (4 * (i : Int) + 2))).run Tryd.prog w = .ok (.pointer (some (adb.add (4 * i + 2)))) w := at_byte adb c _ _ n2 (by omega) (by omega)
      have hx3 : ∀ w : World, (Instr.indexAt 28 (.slice (some adb) 64 c) (.int .i64 (4 * (i : Int) + 3))).run Tryd.prog w = .ok (.pointer (some (adb.add (4 * i + 3)))) w := at_byte adb c _ _ n3 (by omega) (by omega)
      have r0 : IntKind.i64.wrap (4 * (i : Int)) = 4 * (i : Int) := by rw [IntKind.wrap_i64]; omega
      have r1 : IntKind.i64.wrap (4 * (i : Int) + 1) = 4 * (i : Int) + 1 := by rw [IntKind.wrap_i64]; omega
      have r2 : IntKind.i64.wrap (4 * (i : Int) + 2) = 4 * (i : Int) + 2 := by rw [IntKind.wrap_i64]; omega
      have r3 : IntKind.i64.wrap (4 * (i : Int) + 3) = 4 * (i : Int) + 3 := by rw [IntKind.wrap_i64]; omega
      have HW4 : Aside0 (((num ((b.take (4 * i + 4)).drop (4 * i)) : Nat) : Int) = Go.bits .or .u32 (Go.bits .or .u32 (Go.bits .or .u32 ((y0 : Int) * 16777216) ((y1 : Int) * 65536)) ((y2 : Int) * 256)) (y3 : Int)) := ⟨by
        rw [take4 b i (by omega), e0, e1, e2, e3, num4, word4 y0 y1 y2 y3 l0 l1 l2 l3]
        simp only [Int.toNat_natCast]⟩
      have cN := HX.out.cell i (by rw [List.length_append, first_length]; unfold zeros; rw [List.length_replicate]; omega)
      have fN := HX.out.frozen i
      have c0 : IntKind.u32.wrap (y0 : Int) = (y0 : Int) := by rw [wu32]; omega
      have c1 : IntKind.u32.wrap (y1 : Int) = (y1 : Int) := by rw [wu32]; omega
      have c2 : IntKind.u32.wrap (y2 : Int) = (y2 : Int) := by rw [wu32]; omega
      have c3 : IntKind.u32.wrap (y3 : Int) = (y3 : Int) := by rw [wu32]; omega
      have s0 : IntKind.u32.wrap ((y0 : Int) * 16777216) = (y0 : Int) * 16777216 := by rw [wu32]; omega
      have s1 : IntKind.u32.wrap ((y1 : Int) * 65536) = (y1 : Int) * 65536 := by rw [wu32]; omega
      have s2 : IntKind.u32.wrap ((y2 : Int) * 256) = (y2 : Int) * 256 := by rw [wu32]; omega
      have HF := Aside0.mk (first_succ b i)
      clear hbyte q0 q1 q2 q3 e0 e1 e2 e3
      generalize adb.add (4 * i) = d0 at *
      generalize adb.add (4 * i + 1) = d1 at *
      generalize adb.add (4 * i + 2) = d2 at *
      generalize adb.add (4 * i + 3) = d3 at *
      go_wp2_with fail
      go_region_held3 (fun w' => w'.cell? d0 = some (.int .u8 (y0 : Int)) ∧ w'.cell? d1 = some (.int .u8 (y1 : Int)) ∧ w'.cell? d2 = some (.int .u8 (y2 : Int)) ∧ w'.cell? d3 = some (.int .u8 (y3 : Int)))
        (first | exact SK.out _ X0.out | exact SK.out _ (XS.out _))
        (first | fail)
      rw [← HW4.out]
      generalize num ((b.take (4 * i + 4)).drop (4 * i)) = z at *
      go_wp2_with fail
      go_roundw
      case rel =>
        have hlen := first_length b i
        refine ⟨i + 1, by omega, by go_num, ⟨?_⟩, ⟨?_⟩⟩
        · have h := HX.out.set i ((z : Nat) : Int)
          have e : (first b i ++ zeros (64 - i)).set i (z : Int) = first b (i + 1) ++ zeros (64 - (i + 1)) := by
            rw [HF.out, zeros_succ (by omega)]
            have h := set_next (first b i) (zeros (64 - i - 1)) (z : Int) 0
            rw [hlen] at h
            rw [h]
            rfl
          rw [e] at h
          exact At.move h rfl
        · exact (Below.setCell HBe.out (Nat.le_refl _) _).drew
      case measure => simp [intOf]; omega
    · have hi16 : i = 16 := by omega
      subst hi16
      have hlen := first_length b 16
      have HSC : Aside0 (sched b = grow 48 (first b 16)) := ⟨rfl⟩
      generalize first b 16 = L at *
      rw [show ((16 : Nat) : Int) = 16 from rfl]
      go_wp2_with fail
      go_loopw [9] (fun v9 wr => RelG W1 N L v9 wr) (fun v9 _ => 64 - (intOf v9).toNat)
      case atStart => exact ⟨16, by omega, by omega, rfl, HX, HBe⟩
      case round =>
        clear HX HBe
        obtain ⟨j, hj, hj2, rfl, HX, HBe⟩ := hrel
        by_cases hlt : j < 64
        · have hj3 : (j : Int) < 64 := by omega
          have hj4 : (0 : Int) ≤ (j : Int) := by omega
          have hgl : (grow (j - 16) L).length = j := by rw [grow_length, hlen]; omega
          have hgs : grow (j + 1 - 16) L = grow (j - 16) L ++ [nextW (grow (j - 16) L)] := by rw [show j + 1 - 16 = (j - 16) + 1 by omega]; exact grow_snoc _ _
          have HNX := next_ref (grow (j - 16) L)
          rw [hgl] at HNX
          generalize grow (j - 16) L = M at *
          have hlen2 : (M ++ zeros (64 - j)).length = 64 := by rw [List.length_append, hgl]; unfold zeros; rw [List.length_replicate]; omega
          have hcell : ∀ k, k < j → ∀ w', Below wr.heap.size wr w' → w'.cell? ⟨N, k, none⟩ = some (.int .u32 (M.getD k 0)) := fun k hk w' hb => by rw [(HX.out.below hb).cell k (by omega), getD_left _ _ _ (by omega)]
          have S2 := Aside0.mk (hcell (j - 2) (by omega))
          have S7 := Aside0.mk (hcell (j - 7) (by omega))
          have S15 := Aside0.mk (hcell (j - 15) (by omega))
          have S16 := Aside0.mk (hcell (j - 16) (by omega))
          have HG := Aside0.mk hgs
          rw [show ∀ a : Int, shr .u32 a 3 = a / 8 from fun a => by unfold shr; rfl, show ∀ a : Int, shr .u32 a 10 = a / 1024 from fun a => by unfold shr; rfl] at HNX
          have HN9 := Aside0.mk HNX
          clear hcell hgs HNX
          generalize M.getD (j - 2) 0 = x2 at *
          generalize M.getD (j - 7) 0 = x7 at *
          generalize M.getD (j - 15) 0 = x15 at *
          generalize M.getD (j - 16) 0 = x16 at *
          have X0 : Aside0 (Below wr.heap.size wr wr.drew) := ⟨(Below.refl _ _).drew⟩
          have T := Aside0.mk turn_calls
          have n2 : ((j : Int) - 2).toNat = j - 2 := by omega
          have a2 : (0 : Int) ≤ (j : Int) - 2 := by omega
          have b2 : (j : Int) - 2 < 64 := by omega
          have q2 : (2 : Int) ≤ (j : Int) := by omega
          have r2 : IntKind.i64.wrap ((j : Int) - 2) = (j : Int) - 2 := by rw [IntKind.wrap_i64]; omega
          have n7 : ((j : Int) - 7).toNat = j - 7 := by omega
          have a7 : (0 : Int) ≤ (j : Int) - 7 := by omega
          have b7 : (j : Int) - 7 < 64 := by omega
          have q7 : (7 : Int) ≤ (j : Int) := by omega
          have r7 : IntKind.i64.wrap ((j : Int) - 7) = (j : Int) - 7 := by rw [IntKind.wrap_i64]; omega
          have n15 : ((j : Int) - 15).toNat = j - 15 := by omega
          have a15 : (0 : Int) ≤ (j : Int) - 15 := by omega
          have b15 : (j : Int) - 15 < 64 := by omega
          have q15 : (15 : Int) ≤ (j : Int) := by omega
          have r15 : IntKind.i64.wrap ((j : Int) - 15) = (j : Int) - 15 := by rw [IntKind.wrap_i64]; omega
          have n16 : ((j : Int) - 16).toNat = j - 16 := by omega
          have a16 : (0 : Int) ≤ (j : Int) - 16 := by omega
          have b16 : (j : Int) - 16 < 64 := by omega
          have q16 : (16 : Int) ≤ (j : Int) := by omega
          have r16 : IntKind.i64.wrap ((j : Int) - 16) = (j : Int) - 16 := by rw [IntKind.wrap_i64]; omega
          go_wp2_with fail
          go_region_held3 (fun w' : World => w'.cell? ⟨N, j - 15, none⟩ = some (.int .u32 x15))
            (first | exact S15.out _ X0.out | exact S15.out _ X1.out | exact S15.out _ X2.out)
            (first
              | (go_at_call 22; (with_reducible refine (T.out x15 7 (by simp) _).mono ?_); rintro x w1 ⟨rfl, hb1⟩; have X1 := Aside0.mk (below_step X0.out hb1); clear hb1)
              | (go_at_call 22; (with_reducible refine (T.out x15 18 (by simp) _).mono ?_); rintro x w2 ⟨rfl, hb1⟩; have X2 := Aside0.mk (below_step X1.out hb1); clear hb1))
          generalize hxx : Go.bits .xor .u32 (Go.bits .xor .u32 (rt x15 7) (rt x15 18)) (x15 / 8) = y10 at *
          go_wp2_with fail
          go_region_held3 (fun w' : World => w'.cell? ⟨N, j - 2, none⟩ = some (.int .u32 x2))
            (first | exact S2.out _ (X2.out.drew) | exact S2.out _ X3.out | exact S2.out _ X4.out)
            (first
              | (go_at_call 22; (with_reducible refine (T.out x2 17 (by simp) _).mono ?_); rintro x w3 ⟨rfl, hb1⟩; have X3 := Aside0.mk (below_step X2.out.drew hb1); clear hb1)
              | (go_at_call 22; (with_reducible refine (T.out x2 19 (by simp) _).mono ?_); rintro x w4 ⟨rfl, hb1⟩; have X4 := Aside0.mk (below_step X3.out hb1); clear hb1))
          generalize hyy : Go.bits .xor .u32 (Go.bits .xor .u32 (rt x2 17) (rt x2 19)) (x2 / 1024) = y11 at *
          have c16 := S16.out _ X4.out
          have c7 := S7.out _ X4.out
          have HX4 := Aside0.mk (HX.out.below X4.out)
          have cj := HX4.out.cell j (by omega)
          have fj := HX4.out.frozen j
          have HYX := Aside0.mk hxx
          have HYY := Aside0.mk hyy
          clear hxx hyy
          go_wp2_with fail
          go_region
          have hv : (x16 + y10 + x7 + y11) % 4294967296 = nextW M := by rw [HN9.out]; simp only [wu32]; omega
          rw [hv]
          go_wp2_with fail
          go_roundw
          case rel =>
            refine ⟨j + 1, by omega, by omega, by go_num, ⟨?_⟩, ⟨?_⟩⟩
            · have h := HX4.out.set j (nextW M)
              have hs := set_next M (zeros (64 - j - 1)) (nextW M) 0
              rw [hgl] at hs
              rw [zeros_succ (by omega), hs] at h
              rw [HG.out]
              exact At.move h rfl
            · exact (Below.setCell (HBe.out.trans (X4.out.mono (Nat.le_of_lt HX.out.lt))) (Nat.le_refl _) _).drew
          case measure => simp [intOf]; omega
        · have hj64 : j = 64 := by omega
          subst hj64
          have hz0 : grow (64 - 16) L ++ zeros (64 - 64) = sched b := by rw [HSC.out]; show grow 48 L ++ [] = _; rw [List.append_nil]
          rw [hz0] at HX
          have hsl : (sched b).length = 64 := by rw [HSC.out, grow_length, hlen]
          have HMX : Aside0 (mixR h b = addTo 8 h (rnds (sched b) 64 h)) := ⟨rfl⟩
          clear hz0 HSC
          generalize sched b = S at *
          have hBW : Below W.heap.size W wr := by rw [hN]; exact B1.out.trans HBe.out
          have BW := Aside0.mk hBW
          have HHr := Aside0.mk (HH.out.below hBW)
          have HKr := Aside0.mk (HK.out.below hBW)
          clear hBW HH HK HC HB B1 HBe
          rw [show ((64 : Nat) : Int) = 64 from rfl]
          have hNw : N < wr.heap.size := HX.out.lt
          go_wp2_with (at_builtin; (refine wpList_appU32 rfl (.tmp 124) (.tmp 125) rfl ⟨wr.heap.size, 0, none⟩ rfl gh h 8 8 hh (by decide) rfl (HHr.out.below (below_alloc (Below.refl _ _) _)) (by decide) ?_); intro g2 c2 w2 hp2 hg2 hl2 hb2; have P2 := Aside0.mk hp2; have hbb := below_step (below_alloc (Below.refl wr.heap.size wr) (.cells #[] 42)) hb2; have H2 := Aside0.mk (HHr.out.below hbb); have K2 := Aside0.mk (HKr.out.below hbb); have X2 := Aside0.mk (HX.out.below hbb); have B2 : Aside0 (Below W.heap.size W w2) := ⟨below_step BW.out hbb⟩; clear hp2 hbb hb2)
          go_loopw [12, 13] (fun v12 v13 wr => RelV W N S h gh gk v12 v13 wr) (fun _ v13 _ => 64 - (intOf v13).toNat)
          case atStart => exact ⟨0, g2, c2, by omega, rfl, rfl, P2, ⟨fun h => absurd h (by omega)⟩, X2, K2, H2, B2⟩
          case round =>
            clear P2 X2 K2 H2 B2 hg2 hl2 HX HHr HKr BW
            obtain ⟨i, gv, cv, hi, rfl, rfl, HP, HV, HX, HKr, HHr, BW⟩ := hrel
            by_cases hlt : i < 64
            · have hi1 : (i : Int) < 64 := by omega
              have hi2 : (0 : Int) ≤ (i : Int) := by omega
              have hvl : (rnds S i h).length = 8 := rnds_length S i h hh
              have HR : Aside0 (rnds S (i + 1) h = ShaM.step (rnds S i h) (FA.getD i 0) (S.getD i 0)) := ⟨rfl⟩
              have HSi : Aside0 (∀ w' : World, Below wr.heap.size wr w' → w'.cell? ⟨N, i, none⟩ = some (.int .u32 (S.getD i 0))) := ⟨fun w' hb => (HX.out.below hb).cell i (by omega)⟩
              have HKi : Aside0 (∀ w' : World, Below wr.heap.size wr w' → w'.cell? ⟨gk, i, none⟩ = some (.int .u32 (FA.getD i 0))) := ⟨fun w' hb => (HKr.out.below hb).cell i (by rw [FA_length]; omega)⟩
              have HVi : Aside0 (∀ j, j < 8 → ∀ w' : World, Below wr.heap.size wr w' → w'.cell? ⟨gv, j, none⟩ = some (.int .u32 ((rnds S i h).getD j 0))) := ⟨fun j hj w' hb => by
                have hc := HP.out j (by omega)
                rw [hb.cell (p := ⟨gv, j, none⟩) (block_lt_of_cell hc)]; exact hc⟩
              clear HV
              generalize rnds S i h = v at *
              obtain ⟨v0, v1, v2, v3, v4, v5, v6, v7, rfl⟩ : ∃ v0 v1 v2 v3 v4 v5 v6 v7, v = [v0, v1, v2, v3, v4, v5, v6, v7] := by
                match v, hvl with
                | [s0, s1, s2, s3, s4, s5, s6, s7], _ => exact ⟨s0, s1, s2, s3, s4, s5, s6, s7, rfl⟩
              generalize FA.getD i 0 = kf at *
              generalize S.getD i 0 = wf at *
              have SK : Aside0 (∀ w' : World, Below wr.heap.size wr w' → (fun w' : World => w'.cell? ⟨gv, 0, none⟩ = some (.int .u32 v0) ∧ w'.cell? ⟨gv, 1, none⟩ = some (.int .u32 v1) ∧ w'.cell? ⟨gv, 2, none⟩ = some (.int .u32 v2) ∧ w'.cell? ⟨gv, 3, none⟩ = some (.int .u32 v3) ∧ w'.cell? ⟨gv, 4, none⟩ = some (.int .u32 v4) ∧ w'.cell? ⟨gv, 5, none⟩ = some (.int .u32 v5) ∧ w'.cell? ⟨gv, 6, none⟩ = some (.int .u32 v6) ∧ w'.cell? ⟨gv, 7, none⟩ = some (.int .u32 v7) ∧ w'.cell? ⟨gk, i, none⟩ = some (.int .u32 kf) ∧ w'.cell? ⟨N, i, none⟩ = some (.int .u32 wf)) w') := ⟨fun w' hb => ⟨HVi.out 0 (by omega) w' hb, HVi.out 1 (by omega) w' hb, HVi.out 2 (by omega) w' hb, HVi.out 3 (by omega) w' hb, HVi.out 4 (by omega) w' hb, HVi.out 5 (by omega) w' hb, HVi.out 6 (by omega) w' hb, HVi.out 7 (by omega) w' hb, HKi.out w' hb, HSi.out w' hb⟩⟩
              have X0 : Aside0 (Below wr.heap.size wr wr.drew) := ⟨(Below.refl _ _).drew⟩
              have T := Aside0.mk turn_calls
              go_wp2_with fail
              go_region_held3 (fun w' : World => w'.cell? ⟨gv, 0, none⟩ = some (.int .u32 v0) ∧ w'.cell? ⟨gv, 1, none⟩ = some (.int .u32 v1) ∧ w'.cell? ⟨gv, 2, none⟩ = some (.int .u32 v2) ∧ w'.cell? ⟨gv, 3, none⟩ = some (.int .u32 v3) ∧ w'.cell? ⟨gv, 4, none⟩ = some (.int .u32 v4) ∧ w'.cell? ⟨gv, 5, none⟩ = some (.int .u32 v5) ∧ w'.cell? ⟨gv, 6, none⟩ = some (.int .u32 v6) ∧ w'.cell? ⟨gv, 7, none⟩ = some (.int .u32 v7) ∧ w'.cell? ⟨gk, i, none⟩ = some (.int .u32 kf) ∧ w'.cell? ⟨N, i, none⟩ = some (.int .u32 wf))
                (first | exact SK.out _ X0.out | exact SK.out _ X1.out | exact SK.out _ X2.out | exact SK.out _ X3.out)
                (first
                  | (go_at_call 22; (with_reducible refine (T.out v4 6 (by simp) _).mono ?_); rintro x w1 ⟨rfl, hb1⟩; have X1 := Aside0.mk (below_step X0.out hb1); clear hb1)
                  | (go_at_call 22; (with_reducible refine (T.out v4 11 (by simp) _).mono ?_); rintro x w2 ⟨rfl, hb1⟩; have X2 := Aside0.mk (below_step X1.out hb1); clear hb1)
                  | (go_at_call 22; (with_reducible refine (T.out v4 25 (by simp) _).mono ?_); rintro x w3 ⟨rfl, hb1⟩; have X3 := Aside0.mk (below_step X2.out hb1); clear hb1))
              rw [← spr6]
              go_wp2_with fail
              go_region_held3 (fun w' : World => w'.cell? ⟨gv, 0, none⟩ = some (.int .u32 v0) ∧ w'.cell? ⟨gv, 1, none⟩ = some (.int .u32 v1) ∧ w'.cell? ⟨gv, 2, none⟩ = some (.int .u32 v2) ∧ w'.cell? ⟨gv, 3, none⟩ = some (.int .u32 v3) ∧ w'.cell? ⟨gv, 4, none⟩ = some (.int .u32 v4) ∧ w'.cell? ⟨gv, 5, none⟩ = some (.int .u32 v5) ∧ w'.cell? ⟨gv, 6, none⟩ = some (.int .u32 v6) ∧ w'.cell? ⟨gv, 7, none⟩ = some (.int .u32 v7) ∧ w'.cell? ⟨gk, i, none⟩ = some (.int .u32 kf) ∧ w'.cell? ⟨N, i, none⟩ = some (.int .u32 wf))
                (first | exact SK.out _ X3.out.drew)
                (first | fail)
              have hch : Go.bits .xor .u32 (Go.bits .and .u32 v4 v5) (Go.bits .and .u32 (Go.bits .xor .u32 4294967295 v4) v6) = ShaM.choose v4 v5 v6 := rfl
              rw [hch]
              clear hch
              generalize hss : spr v4 6 11 25 = ss at *
              generalize hcc : ShaM.choose v4 v5 v6 = cc at *
              have HSS := Aside0.mk hss
              have HCC := Aside0.mk hcc
              clear hss hcc
              go_wp2_with fail
              go_region_held3 (fun w' : World => w'.cell? ⟨gv, 0, none⟩ = some (.int .u32 v0) ∧ w'.cell? ⟨gv, 1, none⟩ = some (.int .u32 v1) ∧ w'.cell? ⟨gv, 2, none⟩ = some (.int .u32 v2) ∧ w'.cell? ⟨gv, 3, none⟩ = some (.int .u32 v3) ∧ w'.cell? ⟨gv, 4, none⟩ = some (.int .u32 v4) ∧ w'.cell? ⟨gv, 5, none⟩ = some (.int .u32 v5) ∧ w'.cell? ⟨gv, 6, none⟩ = some (.int .u32 v6) ∧ w'.cell? ⟨gv, 7, none⟩ = some (.int .u32 v7) ∧ w'.cell? ⟨gk, i, none⟩ = some (.int .u32 kf) ∧ w'.cell? ⟨N, i, none⟩ = some (.int .u32 wf))
                (first | exact SK.out _ X3.out.drew.drew)
                (first | fail)
              have h1e : IntKind.u32.wrap (IntKind.u32.wrap (IntKind.u32.wrap (IntKind.u32.wrap (v7 + ss) + cc) + kf) + wf) = oneR [v0, v1, v2, v3, v4, v5, v6, v7] kf wf := by rw [← HSS.out, ← HCC.out]; rfl
              rw [h1e]
              clear h1e
              generalize h1f : oneR [v0, v1, v2, v3, v4, v5, v6, v7] kf wf = one at *
              have H1E := Aside0.mk h1f
              clear h1f
              have Y0 : Aside0 (Below wr.heap.size wr w3.drew.drew.drew) := ⟨X3.out.drew.drew.drew⟩
              go_wp2_with fail
              go_region_held3 (fun w' : World => w'.cell? ⟨gv, 0, none⟩ = some (.int .u32 v0) ∧ w'.cell? ⟨gv, 1, none⟩ = some (.int .u32 v1) ∧ w'.cell? ⟨gv, 2, none⟩ = some (.int .u32 v2) ∧ w'.cell? ⟨gv, 3, none⟩ = some (.int .u32 v3) ∧ w'.cell? ⟨gv, 4, none⟩ = some (.int .u32 v4) ∧ w'.cell? ⟨gv, 5, none⟩ = some (.int .u32 v5) ∧ w'.cell? ⟨gv, 6, none⟩ = some (.int .u32 v6) ∧ w'.cell? ⟨gv, 7, none⟩ = some (.int .u32 v7) ∧ w'.cell? ⟨gk, i, none⟩ = some (.int .u32 kf) ∧ w'.cell? ⟨N, i, none⟩ = some (.int .u32 wf))
                (first | exact SK.out _ Y0.out.drew | exact SK.out _ Y0.out | exact SK.out _ Y1.out | exact SK.out _ Y2.out | exact SK.out _ Y3.out)
                (first
                  | (go_at_call 22; (with_reducible refine (T.out v0 2 (by simp) _).mono ?_); rintro x w4 ⟨rfl, hb1⟩; have Y1 := Aside0.mk (below_step Y0.out.drew hb1); clear hb1)
                  | (go_at_call 22; (with_reducible refine (T.out v0 2 (by simp) _).mono ?_); rintro x w4 ⟨rfl, hb1⟩; have Y1 := Aside0.mk (below_step Y0.out hb1); clear hb1)
                  | (go_at_call 22; (with_reducible refine (T.out v0 13 (by simp) _).mono ?_); rintro x w5 ⟨rfl, hb1⟩; have Y2 := Aside0.mk (below_step Y1.out hb1); clear hb1)
                  | (go_at_call 22; (with_reducible refine (T.out v0 22 (by simp) _).mono ?_); rintro x w6 ⟨rfl, hb1⟩; have Y3 := Aside0.mk (below_step Y2.out hb1); clear hb1))
              rw [← RefM.spr2]
              generalize htt : spr v0 2 13 22 = tt at *
              have HTT := Aside0.mk htt
              clear htt
              go_wp2_with fail
              go_region_held3 (fun w' : World => w'.cell? ⟨gv, 0, none⟩ = some (.int .u32 v0) ∧ w'.cell? ⟨gv, 1, none⟩ = some (.int .u32 v1) ∧ w'.cell? ⟨gv, 2, none⟩ = some (.int .u32 v2) ∧ w'.cell? ⟨gv, 3, none⟩ = some (.int .u32 v3) ∧ w'.cell? ⟨gv, 4, none⟩ = some (.int .u32 v4) ∧ w'.cell? ⟨gv, 5, none⟩ = some (.int .u32 v5) ∧ w'.cell? ⟨gv, 6, none⟩ = some (.int .u32 v6) ∧ w'.cell? ⟨gv, 7, none⟩ = some (.int .u32 v7) ∧ w'.cell? ⟨gk, i, none⟩ = some (.int .u32 kf) ∧ w'.cell? ⟨N, i, none⟩ = some (.int .u32 wf))
                (first | exact SK.out _ Y3.out.drew)
                (first | fail)
              have hmo : Go.bits .xor .u32 (Go.bits .xor .u32 (Go.bits .and .u32 v0 v1) (Go.bits .and .u32 v0 v2)) (Go.bits .and .u32 v1 v2) = ShaM.most v0 v1 v2 := rfl
              rw [hmo]
              clear hmo
              generalize hmm : ShaM.most v0 v1 v2 = mm at *
              have HMM := Aside0.mk hmm
              clear hmm
              go_wp2_with fail
              have h2e : IntKind.u32.wrap (tt + mm) = twoR [v0, v1, v2, v3, v4, v5, v6, v7] := by rw [← HTT.out, ← HMM.out]; rfl
              have h2f : (tt + mm) % 4294967296 = twoR [v0, v1, v2, v3, v4, v5, v6, v7] := by rw [← h2e, wu32]
              first | rw [h2e] | rw [h2f]
              have HR2 : Aside0 (rnds S (i + 1) h = [IntKind.u32.wrap (one + twoR [v0, v1, v2, v3, v4, v5, v6, v7]), v0, v1, v2, IntKind.u32.wrap (v3 + one), v4, v5, v6]) := ⟨by rw [HR.out, ← H1E.out]; rfl⟩
              clear h2e h2f HR
              generalize twoR [v0, v1, v2, v3, v4, v5, v6, v7] = two at *
              generalize hva : IntKind.u32.wrap (one + two) = va at *
              generalize hvb : IntKind.u32.wrap (v3 + one) = vb at *
              go_region_held3 (fun w' : World => w'.cell? ⟨gv, 0, none⟩ = some (.int .u32 v0) ∧ w'.cell? ⟨gv, 1, none⟩ = some (.int .u32 v1) ∧ w'.cell? ⟨gv, 2, none⟩ = some (.int .u32 v2) ∧ w'.cell? ⟨gv, 3, none⟩ = some (.int .u32 v3) ∧ w'.cell? ⟨gv, 4, none⟩ = some (.int .u32 v4) ∧ w'.cell? ⟨gv, 5, none⟩ = some (.int .u32 v5) ∧ w'.cell? ⟨gv, 6, none⟩ = some (.int .u32 v6) ∧ w'.cell? ⟨gv, 7, none⟩ = some (.int .u32 v7) ∧ w'.cell? ⟨gk, i, none⟩ = some (.int .u32 kf) ∧ w'.cell? ⟨N, i, none⟩ = some (.int .u32 wf))
                (first | exact SK.out _ Y3.out.drew.drew | exact SK.out _ (below_alloc Y3.out.drew.drew _))
                (first | fail)
              have hb6 := below_alloc (Below.refl w6.heap.size w6) (.cells #[.int .u32 va, .int .u32 v0, .int .u32 v1, .int .u32 v2, .int .u32 vb, .int .u32 v4, .int .u32 v5, .int .u32 v6] 42)
              have Z7 : Aside0 (Below wr.heap.size wr ((w6.alloc (.cells #[.int .u32 va, .int .u32 v0, .int .u32 v1, .int .u32 v2, .int .u32 vb, .int .u32 v4, .int .u32 v5, .int .u32 v6] 42)).drew.drew)) := ⟨(below_step Y3.out hb6).drew.drew⟩
              have A7 : Aside0 (At ((w6.alloc (.cells #[.int .u32 va, .int .u32 v0, .int .u32 v1, .int .u32 v2, .int .u32 vb, .int .u32 v4, .int .u32 v5, .int .u32 v6] 42)).drew.drew) w6.heap.size 42 [va, v0, v1, v2, vb, v4, v5, v6]) := ⟨blk_new w6 _⟩
              have L6 : Aside0 (W.heap.size ≤ w6.heap.size) := ⟨Nat.le_trans BW.out.size Y3.out.size⟩
              clear hb6
              generalize (w6.alloc (.cells #[.int .u32 va, .int .u32 v0, .int .u32 v1, .int .u32 v2, .int .u32 vb, .int .u32 v4, .int .u32 v5, .int .u32 v6] 42)).drew.drew = w7 at *
              go_wp2_with fail
              go_roundw
              case rel => exact ⟨i + 1, w6.heap.size, 8, by omega, by go_num, rfl, ⟨by rw [HR2.out]; exact Pre.of_at A7.out⟩, ⟨fun _ => ⟨rfl, by rw [HR2.out]; exact A7.out, L6.out⟩⟩, ⟨HX.out.below Z7.out⟩, ⟨HKr.out.below Z7.out⟩, ⟨HHr.out.below Z7.out⟩, ⟨below_step BW.out Z7.out⟩⟩
              case measure => simp [intOf]; omega
            · have hi64 : i = 64 := by omega
              subst hi64
              obtain ⟨rfl, hAv, hgv⟩ := HV.out (by omega)
              have hvl : (rnds S 64 h).length = 8 := rnds_length S 64 h hh
              generalize rnds S 64 h = v at *
              have A0 : Aside0 (At wr gv 42 (addTo 0 v h)) := ⟨by rw [addTo_zero]; exact hAv⟩
              have HMX2 : Aside0 (mixR h b = addTo 8 v h) := ⟨by rw [HMX.out, addTo_comm h v hh hvl]⟩
              have hne : gv ≠ gh := by have h1 := HHw.out; omega
              clear HP HV hAv
              rw [show ((64 : Nat) : Int) = 64 from rfl]
              go_wp2_with fail
              go_loopw [20] (fun v20 wr => RelE W gv gh v h v20 wr) (fun v20 _ => 8 - (intOf v20).toNat)
              case atStart => exact ⟨0, by omega, rfl, A0, HHr, BW⟩
              case round =>
                clear A0 HHr BW
                obtain ⟨j, hj, rfl, A0, HHr, BW⟩ := hrel
                by_cases hlt : j < 8
                · have hj1 : (j : Int) < 8 := by omega
                  have hj2 : (0 : Int) ≤ (j : Int) := by omega
                  have HA := Aside0.mk (addTo_succ j v h (by omega))
                  have hal : (addTo j v h).length = 8 := by rw [addTo_length, hvl]
                  generalize addTo j v h = u at *
                  have e1 := A0.out.cell j (by omega)
                  have e2 := A0.out.frozen j
                  have e3 := HHr.out.cell j (by omega)
                  generalize u.getD j 0 = uj at *
                  generalize h.getD j 0 = hj0 at *
                  go_wp2_with fail
                  go_region
                  go_wp2_with fail
                  go_roundw
                  case rel =>
                    refine ⟨j + 1, by omega, by go_num, ⟨?_⟩, ⟨HHr.out.move (Below.heap_setCell _ _ _ _ (fun e => hne e.symm))⟩, ⟨(Below.setCell BW.out hgv _).drew⟩⟩
                    rw [HA.out, IntKind.wrap_u32]
                    exact At.move (A0.out.set j ((uj + hj0) % 4294967296)) rfl
                  case measure => simp [intOf]; omega
                · have hj8 : j = 8 := by omega
                  subst hj8
                  rw [← HMX2.out] at A0
                  go_wp2_with fail
                  go_ret
                  exact ⟨gv, hgv, rfl, A0.out, BW.out⟩
end Go.Proofs.YtbkocnclaobabaaDoor.RefB
