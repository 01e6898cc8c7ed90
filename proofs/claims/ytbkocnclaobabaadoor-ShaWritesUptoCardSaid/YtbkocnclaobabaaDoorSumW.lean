/- Sum of a Hash, walked. No condition. -/
import Derived.Test.YtbkocnclaobabaaDoorSumA
namespace Go.Proofs.YtbkocnclaobabaaDoor.SumW
set_option linter.unusedVariables false
set_option linter.unusedSimpArgs false
open Go.RowKit Go.Proofs.YtbkocnclaobabaaDoor.PAll Go.Proofs.YtbkocnclaobabaaDoor.Nums Go.Proofs.YtbkocnclaobabaaDoor.PutM Go.Proofs.YtbkocnclaobabaaDoor.Libs Go.Proofs.YtbkocnclaobabaaDoor.ShaM Go.Proofs.YtbkocnclaobabaaDoor.WriteM Go.Proofs.YtbkocnclaobabaaDoor.Arr Go.Proofs.YtbkocnclaobabaaDoor.SchedW Go.Proofs.YtbkocnclaobabaaDoor.NewW Go.Proofs.YtbkocnclaobabaaDoor.MixW Go.Proofs.YtbkocnclaobabaaDoor.App Go.Proofs.YtbkocnclaobabaaDoor.HashW Go.Proofs.YtbkocnclaobabaaDoorW.PrintWords Go.Proofs.YtbkocnclaobabaaDoorW.PrintLast Go.Proofs.YtbkocnclaobabaaDoorW.PrintMore
/-- What the noughts' loop holds. -/
def RelZ (base : Nat) (r : List Int) (z : Nat) (W3 : World) (v4 : Value) (wr : World) : Prop :=
  ∃ k : Nat, k ≤ z ∧ Aside0 (OwnB wr base v4 (r ++ 128 :: List.replicate k 0)) ∧ Aside0 (Below base W3 wr)
/-- What the blocks' loop holds. -/
def RelS (M : Nat) (X : List Int) (c : Nat) (now : List Int) (W3 : World) (v4 : Value) (wr : World) : Prop :=
  ∃ (k : Nat) (A4 : Option Addr), 64 * k ≤ X.length ∧ v4 = .slice A4 (X.length - 64 * k) (c - 64 * k) ∧ Aside0 (A4 = none → c - 64 * k = 0) ∧ Aside0 ((Kd.int .u8).C wr A4 (X.drop (64 * k)).length (X.drop (64 * k))) ∧ Aside0 (∀ ad, A4 = some ad → 0 < (X.drop (64 * k)).length → ad.block ≠ M) ∧ Aside0 (At wr M 48 (eatN k now X)) ∧ Aside0 (Sav M W3 wr)
/-- What the words' loop holds. -/
def RelO (W : World) (N : Nat) (F : List Int) (v66 : Value) (wr : World) : Prop :=
  ∃ i : Nat, i ≤ 8 ∧ v66 = .int .i64 (i : Int) ∧ Aside0 (wr.heap[N]? = some (.cells (nums .u8 (List.replicate 32 0)).toArray 25 (0, 0))) ∧ Aside0 (wr.heap[N + 1]? = some (.cells (nums .u8 (bytesOf F i ++ List.replicate (32 - 4 * i) 0)).toArray 25 (0, 0))) ∧ Aside0 (Below N W wr)
set_option maxHeartbeats 2000000 in
set_option maxRecDepth 100000 in
theorem sum_calls (lo g : Nat) (l : List Int) (W : World) (hG : Glob W) (hg0 : 0 < g) (hH : HashT lo W g l) (hl : l.length < 2305843009213693952) :
    Calls Tryd.prog 12 #[.pointer (some ⟨g, 0, none⟩)] W fun e w' => e = .returned (.agg (nums .u8 (dig l)).toArray) ∧ Below W.heap.size W w' := by
  have hlt := hH.lt
  have hle := hH.le
  have HG := Aside0.mk hG
  have HH := Aside0.mk hH
  obtain ⟨N, hN⟩ : ∃ N, W.heap.size = N := ⟨_, rfl⟩
  rw [hN] at hle
  clear hG hH
  go_enter Tryd.func12, Tryd.ntmps12
  go_wp2_with (first
    | ((with_reducible refine Ops.wpList_allocRow rfl 25 rfl _ Ops.zero25 N hN fun W1 k1 b1 z1 => ?_); have K1 := Aside0.mk k1; have B1 := Aside0.mk b1; have Z1 := Aside0.mk z1; clear k1 b1 z1)
    | ((with_reducible refine Ops.wpList_allocRow rfl 25 rfl _ Ops.zero25 (N + 1) Z1.out fun W2 k2 b2 z2 => ?_); have K2 := Aside0.mk k2; have B2 := Aside0.mk b2; have Z2 := Aside0.mk z2; clear k2 b2 z2))
  have B02 : Aside0 (Below W.heap.size W W2) := ⟨by rw [hN]; exact B1.out.trans (B2.out.mono (Nat.le_succ _))⟩
  have K12 : Aside0 (W2.heap[N]? = some (.cells (nums .u8 (List.replicate 32 0)).toArray 25 (0, 0))) := ⟨(B2.out.block N (Nat.lt_succ_self _)).trans K1.out⟩
  have HH2 := SumA.HashT.below HH.out B02.out
  obtain ⟨_, _, hby, A, cA, hA, hCA, hcA, hnA, hblk⟩ := HH2
  have hrl := restT_lt l
  have hn8 := nowT_length l
  have hpl := pad_length l
  have hpz : padZ l.length < 64 := Nat.mod_lt _ (by omega)
  have HBY : Aside0 (Bytes (restT l ++ padB l.length)) := ⟨fun x hx => (List.mem_append.1 hx).elim (fun h => restT_mem hby x h) (fun h => padB_bytes _ x h)⟩
  have HWN := Aside0.mk (write_now l (padB l.length))
  have HPB : Aside0 (padB l.length = (128 :: List.replicate (padZ l.length) 0) ++ T (l.length * 8 % 18446744073709551616) 8) := ⟨rfl⟩
  have HA := Aside0.mk hA
  have HCA := Aside0.mk hCA
  have hrm := restT_length l
  have HRM := Aside0.mk hrm
  clear hrm hA hCA hblk hby K1 B1 Z1
  generalize restT l = r at *
  have c8 := at8 HA.out hn8
  have hcut : ∀ W : World, (Instr.slice 28 (.slice A r.length cA) none (some (.int .i64 (r.length : Int))) (some (.int .i64 (r.length : Int)))).run Tryd.prog W = .ok (.slice A r.length r.length) W := Ops.cut_clip A r.length cA hcA (by omega)
  have X0 : Aside0 (Below W2.heap.size W2 W2.drew) := ⟨(Below.refl _ _).drew⟩
  have X1 : Aside0 (Below W2.heap.size W2 (W2.drew.alloc (.cells #[.int .u8 128] 5))) := ⟨below_alloc (Below.refl _ _).drew _⟩
  have SK : Aside0 (∀ w' : World, Below W2.heap.size W2 w' → w'.cell? ⟨g, 8, none⟩ = some (.slice A r.length cA)) := ⟨fun w' hb => (hb.cell (p := ⟨g, 8, none⟩) (HashAt.lt HA.out)).trans c8⟩
  clear c8
  go_wp2_with fail
  go_region_held3 (fun w' : World => w'.cell? ⟨g, 8, none⟩ = some (.slice A r.length cA)) (first | exact SK.out _ X0.out | exact SK.out _ X1.out | exact SK.out _ X3.out)
    (first
    | (refine step_app rfl (.tmp 29) (.tmp 30) rfl A r (by simp [Act.eval, Act.put]) (Kd.C_below HCA.out X1.out) (some ⟨W2.heap.size, 0, none⟩) 1 [128] (by simp [Act.eval, Act.put]) (SumA.row_byte W2.drew 128) (by simp) (by simp; omega) ?_; intro A3 c3 W3 hC3 hc3 hn3 hb3 ho3 hw3; have X3 : Aside0 (Below W2.heap.size W2 W3) := ⟨below_step X1.out hb3⟩; have O3 := Aside0.mk (ho3 (by simp)); clear ho3 hw3 hC3))
  have hz3 : (W2.drew.alloc (.cells #[.int .u8 128] 5)).heap.size = N + 3 := by
    have := Z2.out
    show (W2.drew.heap.push _).size = _
    rw [Array.size_push]; show W2.heap.size + 1 = _; omega
  have O3' : Aside0 (OwnB W3 (N + 3) (.slice A3 (r ++ [128]).length c3) (r ++ [128])) := ⟨by rw [← hz3]; exact O3.out⟩
  have hs3 : N + 3 ≤ W3.heap.size := by rw [← hz3]; exact hb3.size
  generalize hR1 : r ++ [128] = R1 at *
  have hlen1 : r.length + 1 = R1.length := by rw [← hR1]; simp
  rw [hlen1]
  have HR1 : Aside0 (r ++ 128 :: List.replicate 0 0 = R1) := ⟨hR1⟩
  clear hR1
  clear O3 hb3 hcut X0 X1 SK hlen1
  have HS3 := Aside0.mk hs3
  go_wp2_with fail
  go_loopw [4] (fun v4 wr => RelZ (N + 3) r (padZ l.length) W3 v4 wr) (fun v4 _ => r.length + 1 + padZ l.length - WriteW.slen v4)
  case atStart => exact ⟨0, by omega, ⟨by rw [HR1.out]; exact O3'.out⟩, ⟨Below.refl _ _⟩⟩
  case round =>
    obtain ⟨k, hk, HO, HB⟩ := hrel
    have hL : (r ++ 128 :: List.replicate k 0).length = r.length + 1 + k := by simp; omega
    obtain ⟨A4, c4, rfl, hc4, hC4, hn4⟩ := HO.out.reads (by omega)
    by_cases hlt : k < padZ l.length
    · have hne : ¬ Int.tmod (((r ++ 128 :: List.replicate k 0).length : Nat) : Int) 64 = 56 := by
        have := HRM.out
        unfold padZ at hlt
        rw [Int.tmod_eq_emod_of_nonneg (by omega)]; omega
      have hne2 : ¬ ((((r ++ 128 :: List.replicate k 0).length : Nat) : Int) % 64 = 56) := by rw [← Int.tmod_eq_emod_of_nonneg (by omega)]; exact hne
      have hsnoc : (r ++ 128 :: List.replicate k 0) ++ [0] = r ++ 128 :: List.replicate (k + 1) 0 := by
        rw [List.replicate_succ']; simp
      have HSN := Aside0.mk hsnoc
      have HL := Aside0.mk hL
      have HC4 := Aside0.mk hC4
      have hwz : wr.heap.size ≥ N + 3 := Nat.le_trans HS3.out HB.out.size
      clear hC4 hsnoc
      generalize r ++ 128 :: List.replicate k 0 = Y at *
      have hY1 : Y.length + 1 ≤ 140737488355328 := by omega
      clear hL
      have hwa : ∀ o : Obj, N + 3 ≤ (wr.alloc o).heap.size := fun o => by show _ ≤ (wr.heap.push o).size; simp; omega
      go_wp2_with (first
        | (at_builtin; refine SumA.wpList_append_byte rfl (.tmp 36) (.tmp 37) rfl (N + 3) _ Y rfl (SumA.ownB_alloc HO.out _) (some ⟨wr.heap.size, 0, none⟩) 0 rfl (SumA.row_byte wr 0) (by simp) hY1 (hwa _) ?_; intro v5 W5 ho5 hb5; have HO5 := Aside0.mk ho5; have HB5 := Aside0.mk (hb5 W3 (HB.out.alloc hwz _)); clear ho5 hb5))
      go_roundw
      case rel => exact ⟨k + 1, by omega, ⟨by rw [← HSN.out]; exact HO5.out⟩, HB5⟩
      case measure =>
        obtain ⟨A5, c5, rfl, _, _, _⟩ := HO5.out.reads (by simp; omega)
        have := HL.out
        simp [WriteW.slen]
        omega
    · have hkz : k = padZ l.length := by omega
      have heq2 : ((((r ++ 128 :: List.replicate k 0).length : Nat) : Int) % 64 = 56) := by
        have := HRM.out
        rw [hkz]
        rw [hkz] at hL
        unfold padZ at hL ⊢
        omega
      have hE : (r ++ 128 :: List.replicate k 0) ++ T (l.length * 8 % 18446744073709551616) 8 = r ++ padB l.length := by rw [HPB.out, hkz, List.append_assoc]
      have HE := Aside0.mk hE
      have HLk := Aside0.mk hL
      have hwz : N + 3 ≤ wr.heap.size := Nat.le_trans HS3.out HB.out.size
      have HAr : Aside0 (HashAt wr g (nowT l) (.slice A r.length cA) (l.length : Int)) := ⟨HashAt.move HA.out ((HB.out.block g (by omega)).trans (X3.out.block g (HashAt.lt HA.out)))⟩
      have c9 := at9 HAr.out hn8
      have P1 : Aside0 (∀ w, Calls Tryd.prog 19 #[.int .u64 ((l.length * 8 % 18446744073709551616 : Nat) : Int), .int .i64 8] w fun e w' => ∃ A c, e = .returned (.tuple #[.slice A 8 c, .int .i64 0]) ∧ 8 ≤ c ∧ (Kd.int .u8).C w' A (T (l.length * 8 % 18446744073709551616) 8).length (T (l.length * 8 % 18446744073709551616) 8) ∧ (A = none → c = 0) ∧ Below w.heap.size w w') := ⟨fun w => SumA.put_calls (l.length * 8 % 18446744073709551616) 8 (by omega) (by omega) (by show _ < 256 ^ 8; omega) w⟩
      have hT8 : (T (l.length * 8 % 18446744073709551616) 8).length = 8 := T_length _ _
      rw [show ((l.length * 8 % 18446744073709551616 : Nat) : Int) = (l.length : Int) * 8 by omega] at P1
      have hu64 : IntKind.u64.wrap (l.length : Int) = (l.length : Int) := u64_in (by omega) (by omega)
      generalize l.length * 8 % 18446744073709551616 = n8 at *
      have HC4 := Aside0.mk hC4
      clear hC4 hE hL hlt HRM
      generalize r ++ 128 :: List.replicate k 0 = Y at *
      go_wp2_with fail
      (with_reducible refine (P1.out _).mono ?_)
      rintro e W5 ⟨A5, c5, rfl, hc5, hC5, hn5, hb5⟩
      obtain ⟨ad5, rfl, _⟩ := hC5.2.2 (by rw [hT8]; decide)
      have HC5 := Aside0.mk hC5
      have HB5 := Aside0.mk hb5
      have HA5 : Aside0 (HashAt W5 g (nowT l) (.slice A r.length cA) (l.length : Int)) := ⟨HashAt.move HAr.out (hb5.block g (HashAt.lt HAr.out))⟩
      have HNW : Aside0 (∀ j u, (nums .u32 (nowT l))[j]? = some u → W5.cell? ⟨g, j, none⟩ = some u) := ⟨fun j u hu => by
        obtain ⟨hj, rfl⟩ := List.getElem?_eq_some_iff.1 hu
        rw [nums_length] at hj
        rw [atN HA5.out j hj, List.getD_eq_getElem?_getD, List.getElem?_eq_getElem hj]
        simp [nums]⟩
      have HO5 : Aside0 (OwnB W5 (N + 3) (.slice A4 Y.length c4) Y) := ⟨SumA.ownB_below HO.out hb5⟩
      obtain ⟨M, hM⟩ : ∃ M, W5.heap.size = M := ⟨_, rfl⟩
      have hMN : N + 3 ≤ M := by have := hb5.size; omega
      have hown : ∀ q, (Value.slice A4 Y.length c4).ownBlock = some q → N + 3 ≤ q ∧ q < M := fun q hq => by rw [← hM]; exact World.ownsRow.lt HO5.out q hq
      have HOWN := Aside0.mk hown
      have hz8 : (List.replicate 8 (0 : Int)).length = (nowT l).length := by rw [hn8]; rfl
      have hY1 : Y.length + (T n8 8).length ≤ 140737488355328 := by have := HLk.out; omega
      clear hC5 hb5 c9 hown
      go_wp2_with (first
        | (with_reducible refine wpList_load_cells rfl 48 (.tmp 51) rfl g rfl (nums .u32 (nowT l)) (.array 8 42) HNW.out Tryd.underlying48 rfl (by rw [nums_length, hn8]; exact info48) ?_)
        | ((with_reducible refine Ops.wpList_allocRow rfl 48 rfl _ Ops.zero48 M hM fun W6 k6 b6 z6 => ?_); have K6 := Aside0.mk k6; have B6 := Aside0.mk b6; have Z6 := Aside0.mk z6; clear k6 b6 z6)
        | ((with_reducible refine Ops.wpList_setRow rfl 48 (.tmp 7) (.tmp 52) rfl rfl M rfl (nums .u32 (nowT l)).toArray rfl 48 _ K6.out (Ops.size48 hn8) (Ops.size_eq hz8) (nums_all (nowT l)) fun W7 k7 o7 => ?_); have K7 : Aside0 (At W7 M 48 (nowT l)) := Aside0.mk k7; have B7 : Aside0 (Below M W5 W7) := ⟨o7.below B6.out (Nat.le_refl _)⟩; have Z7 : Aside0 (W7.heap.size = M + 1) := ⟨o7.size.trans Z6.out⟩; have hb7 : Below W5.heap.size W5 W7 := (by rw [hM]; exact B7.out); have HO7 : Aside0 (OwnB W7 (N + 3) (.slice A4 Y.length c4) Y) := ⟨SumA.ownB_below HO5.out hb7⟩; have HC7 := Aside0.mk (Kd.C_below HC5.out hb7); have hz7 : N + 3 ≤ W7.heap.size := (by have := Z7.out; omega); clear k7 o7 hb7)
        | (at_builtin; (refine SumA.wpList_append_grown rfl (.tmp 53) (.tmp 54) rfl (N + 3) _ Y rfl HO7.out ad5 c5 (T n8 8) 8 hT8 rfl HC7.out hY1 hz7 ?_); intro A9 c9 W9 hC9 hc9 hn9 hg9 hw9; have HC9 := Aside0.mk hC9; have HG9 := Aside0.mk hg9; have HW9 := Aside0.mk hw9; have HN9 := Aside0.mk hn9; have HCC9 := Aside0.mk hc9; clear hC9 hc9 hn9 hg9 hw9))
      have hel : Y.length + 8 = (Y ++ T n8 8).length := by rw [List.length_append, hT8]
      rw [hel]
      clear hel hY1
      generalize Y ++ T n8 8 = E at *
      have HG9' : Aside0 (∀ q, q ≤ M → (q < N + 3 ∨ q = M) → W9.heap[q]? = W7.heap[q]?) := ⟨fun q hq hh => HG9.out.block q (by have := Z7.out; omega) (fun e => by have := HOWN.out q e.symm; omega)⟩
      have KM : Aside0 (At W9 M 48 (nowT l)) := ⟨At.move K7.out (HG9'.out M (Nat.le_refl _) (.inr rfl))⟩
      have HF9 : Aside0 (∀ ad, A9 = some ad → 0 < E.length → ad.block ≠ M) := ⟨fun ad e _ => by
        rcases HW9.out ad e with h | h
        · have := HOWN.out _ h.symm; omega
        · have := Z7.out; omega⟩
      have B9 : Aside0 (Below (N + 2) W2 W9) := ⟨by
        have s1 : Below (N + 2) W2 W3 := X3.out.mono (by have := Z2.out; omega)
        have s2 : Below (N + 2) W3 wr := HB.out.mono (by omega)
        have s3 : Below (N + 2) wr W5 := HB5.out.mono (by omega)
        have s4 : Below (N + 2) W5 W7 := B7.out.mono (by omega)
        have s5 : Below (N + 2) W7 W9 := ⟨HG9.out.os, HG9.out.tape, HG9.out.output, HG9.out.size, fun q hq => HG9'.out q (by omega) (.inl (by omega))⟩
        exact (((s1.trans s2).trans s3).trans s4).trans s5⟩
      have G9 : Aside0 (Glob W9) := ⟨Glob.below (Glob.below HG.out B02.out) (by have := Z2.out; rw [this]; exact B9.out)⟩
      have hE64 : E.length % 64 = 0 := by rw [HE.out]; exact hpl
      have HBE : Aside0 (Bytes E) := ⟨by rw [HE.out]; exact HBY.out⟩
      have HM9 : Aside0 (M < W9.heap.size) := ⟨At.lt KM.out⟩
      have HEN : Aside0 (eatN (E.length / 64) (nowT l) E = nowT (pad l)) := ⟨by rw [HE.out]; exact HWN.out⟩
      go_loopw [4] (fun v4 wr => RelS M E c9 (nowT l) W9 v4 wr) (fun v4 _ => WriteW.slen v4)
      case atStart => exact ⟨0, A9, by omega, rfl, HN9, HC9, HF9, KM, ⟨Sav.refl M W9⟩⟩
      case round =>
        clear KM HC9 HF9 HN9
        obtain ⟨j, A4, hj, rfl, HN4, HC4, HF4, HA4, SV4⟩ := hrel
        by_cases hlt : 0 < E.length - 64 * j
        · have hlt1 : (0 : Int) < ((E.length - 64 * j : Nat) : Int) := by omega
          obtain ⟨i0, hi0, _, hsz, _⟩ := info_parts Libs.info5
          have hdl : (E.drop (64 * j)).length = E.length - 64 * j := List.length_drop
          have hcc := HCC9.out
          have hct := cut_to (P := Tryd.prog) 28 5 .i64 Tryd.underlying28 hi0 A4 (E.length - 64 * j) (c9 - 64 * j) 64 (by omega) (by omega) (by omega)
          have hcf := cut_from (P := Tryd.prog) 28 5 .i64 Tryd.underlying28 hi0 1 hsz A4 (E.length - 64 * j) (c9 - 64 * j) 64 (by omega) (by omega)
          rw [show (64 : Int).toNat = 64 from rfl] at hct hcf
          have CB := Aside0.mk (Kd.C_take (m := 64) HC4.out (by omega))
          have CD := Aside0.mk (Kd.C_drop (m := 64) (c := c9 - 64 * j) HC4.out (by omega) (by omega))
          have hbl : ((E.drop (64 * j)).take 64).length = 64 := by rw [List.length_take]; omega
          have hul : (eatN j (nowT l) E).length = 8 := by rw [eatN_length]; exact hn8
          have HU : Aside0 (eatN (j + 1) (nowT l) E = mixR (eatN j (nowT l) E) ((E.drop (64 * j)).take 64)) := ⟨rfl⟩
          generalize eatN j (nowT l) E = u at *
          obtain ⟨u0, u1, u2, u3, u4, u5, u6, u7, rfl⟩ : ∃ v0 v1 v2 v3 v4 v5 v6 v7, u = [v0, v1, v2, v3, v4, v5, v6, v7] := by
            match u, hul with
            | [s0, s1, s2, s3, s4, s5, s6, s7], _ => exact ⟨s0, s1, s2, s3, s4, s5, s6, s7, rfl⟩
          have HBX : Aside0 (Bytes ((E.drop (64 * j)).take 64)) := ⟨bytes_take (bytes_drop HBE.out _) _⟩
          have G : Aside0 (∀ w, Below wr.heap.size wr w → Calls Tryd.prog 20 #[.agg #[.int .u32 u0, .int .u32 u1, .int .u32 u2, .int .u32 u3, .int .u32 u4, .int .u32 u5, .int .u32 u6, .int .u32 u7], .slice A4 64 (c9 - 64 * j)] w fun e w' => e = .returned (.agg (nums .u32 (mixR [u0, u1, u2, u3, u4, u5, u6, u7] ((E.drop (64 * j)).take 64))).toArray) ∧ Below w.heap.size w w') := ⟨fun w hb => mix_calls [u0, u1, u2, u3, u4, u5, u6, u7] rfl A4 (c9 - 64 * j) ((E.drop (64 * j)).take 64) w (Glob.below (Glob.sav G9.out SV4.out (by omega)) hb) (Kd.C_below CB.out hb) (by omega) hbl HBX.out⟩
          have hRl : (mixR [u0, u1, u2, u3, u4, u5, u6, u7] ((E.drop (64 * j)).take 64)).length = 8 := by rw [mixR_length]; rfl
          generalize mixR [u0, u1, u2, u3, u4, u5, u6, u7] ((E.drop (64 * j)).take 64) = R at *
          have e0 : wr.cell? ⟨M, 0, none⟩ = some (.int .u32 u0) := At.cell HA4.out 0 (by simp)
          have e1 : wr.cell? ⟨M, 1, none⟩ = some (.int .u32 u1) := At.cell HA4.out 1 (by simp)
          have e2 : wr.cell? ⟨M, 2, none⟩ = some (.int .u32 u2) := At.cell HA4.out 2 (by simp)
          have e3 : wr.cell? ⟨M, 3, none⟩ = some (.int .u32 u3) := At.cell HA4.out 3 (by simp)
          have e4 : wr.cell? ⟨M, 4, none⟩ = some (.int .u32 u4) := At.cell HA4.out 4 (by simp)
          have e5 : wr.cell? ⟨M, 5, none⟩ = some (.int .u32 u5) := At.cell HA4.out 5 (by simp)
          have e6 : wr.cell? ⟨M, 6, none⟩ = some (.int .u32 u6) := At.cell HA4.out 6 (by simp)
          have e7 : wr.cell? ⟨M, 7, none⟩ = some (.int .u32 u7) := At.cell HA4.out 7 (by simp)
          have hRn : (nums .u32 R).length = 8 := by rw [nums_length, hRl]
          have HHT := Aside0.mk (fun w h => SumA.setArr (P := Tryd.prog) (w := w) (At.move HA4.out h) R hRl.symm)
          have X0 : Aside0 (Below wr.heap.size wr wr.drew) := ⟨(Below.refl _ _).drew⟩
          go_wp2_with fail
          go_region_law (first
            | (go_simp; go_at_call 20; (with_reducible refine (G.out _ X0.out).mono ?_); rintro x w1 ⟨rfl, hb1⟩; obtain ⟨w2, hst, hA5, hO5⟩ := HHT.out w1 (hb1.block M (At.lt HA4.out)); have A5 := Aside0.mk hA5; have O5 := Aside0.mk hO5; have B1 := Aside0.mk hb1; clear hA5 hO5 hb1))
          have HF5 : Aside0 (∀ ad, (if c9 - 64 * j = 64 then A4 else A4.map (·.add (64 * 1))) = some ad → 0 < ((E.drop (64 * j)).drop 64).length → ad.block ≠ M) := ⟨fun ad e hp => by
            rw [List.length_drop] at hp
            split at e
            · exact HF4.out ad e (by omega)
            · cases hA4 : A4 with
              | none => rw [hA4] at e; simp at e
              | some a4 =>
                rw [hA4] at e
                simp at e
                rw [← e, add_block]
                exact HF4.out a4 hA4 (by omega)⟩
          have HN5 : Aside0 ((if c9 - 64 * j = 64 then A4 else A4.map (·.add (64 * 1))) = none → c9 - 64 * j = 0) := ⟨fun e => by
            split at e
            · exact HN4.out e
            · cases hA4 : A4 with
              | none => exact HN4.out hA4
              | some a4 => rw [hA4] at e; simp at e⟩
          rw [show 64 * (Kd.int .u8).sz = 64 * 1 from rfl] at CD
          generalize (if c9 - 64 * j = 64 then A4 else A4.map (·.add (64 * 1))) = A5' at *
          have SV5 : Aside0 (Sav M wr w2) := ⟨(Sav.of_below (w := wr) ⟨B1.out.os, B1.out.tape, B1.out.output, B1.out.size, B1.out.block⟩).trans (Sav.of_only O5.out)⟩
          have CD5 : Aside0 ((Kd.int .u8).C w2 A5' ((E.drop (64 * j)).drop 64).length ((E.drop (64 * j)).drop 64)) := ⟨Kd.C_keep 0 CD.out (keep_of_sav SV5.out) HF5.out⟩
          clear hst HHT e0 e1 e2 e3 e4 e5 e6 e7 hRn
          go_wp2_with fail
          go_roundw
          case rel =>
            have e1 : E.length - 64 * j - 64 = E.length - 64 * (j + 1) := by omega
            have e2 : c9 - 64 * j - 64 = c9 - 64 * (j + 1) := by omega
            have e3 : (E.drop (64 * j)).drop 64 = E.drop (64 * (j + 1)) := by rw [List.drop_drop]; rfl
            rw [e3] at CD5 HF5
            exact ⟨j + 1, A5', by omega, by rw [e1, e2], ⟨fun e => absurd (HN5.out e) (by omega)⟩, CD5, HF5, ⟨by rw [HU.out]; exact A5.out⟩, ⟨SV4.out.trans SV5.out⟩⟩
          case measure => simp [WriteW.slen]; omega
        · have hjq : j = E.length / 64 := by omega
          rw [hjq, HEN.out] at HA4
          have hw8 := nowT_length (pad l)
          have hww := words_now (pad l)
          have HDG : Aside0 (dig l = bytesOf (nowT (pad l)) 8) := ⟨rfl⟩
          have hBO : Aside0 (∀ i, i < 8 → bytesOf (nowT (pad l)) (i + 1) = bytesOf (nowT (pad l)) i ++ T ((nowT (pad l)).getD i 0).toNat 4) := ⟨fun i hi => bytesOf_succ _ i (by omega)⟩
          have hBL : Aside0 (∀ i, i ≤ 8 → (bytesOf (nowT (pad l)) i).length = 4 * i) := ⟨fun i hi => bytesOf_length _ i (by omega)⟩
          generalize nowT (pad l) = F at *
          have K1 : Aside0 (wr.heap[N]? = some (.cells (nums .u8 (List.replicate 32 0)).toArray 25 (0, 0))) := ⟨(SV4.out.block N (by have := HM9.out; omega) (by omega)).trans ((B9.out.block N (by omega)).trans K12.out)⟩
          have K2' : Aside0 (wr.heap[N + 1]? = some (.cells (nums .u8 (bytesOf F 0 ++ List.replicate 32 0)).toArray 25 (0, 0))) := ⟨(SV4.out.block (N + 1) (by have := HM9.out; omega) (by omega)).trans ((B9.out.block (N + 1) (by omega)).trans K2.out)⟩
          have BW : Aside0 (Below N W wr) := ⟨(by have := B02.out; rw [hN] at this; exact (this.trans (B9.out.mono (by omega))).trans ((SV4.out.below (B := N) (by omega) (by have := HM9.out; omega))))⟩
          clear HC4 HF4 SV4 B9 HG9 HG9' HW9 HOWN HN4 HCC9
          have hlt1 : ¬ (0 : Int) < ((E.length - 64 * j : Nat) : Int) := by omega
          clear hjq hlt
          generalize E.length - 64 * j = q1 at *
          generalize c9 - 64 * j = q2 at *
          go_wp2_with (first
            | (with_reducible refine wpList_load_row rfl 48 (.tmp 7) rfl M rfl 48 (nums .u32 F).toArray (0, 0) (.array 8 42) HA4.out.row Tryd.underlying48 rfl (Ops.size48 hw8) ?_))
          have hwf : ∀ i, i < 8 → ∃ n : Nat, F.getD i 0 = (n : Int) ∧ n < 4294967296 := fun i hi => by
            have hm : F.getD i 0 ∈ F := by rw [List.getD_eq_getElem?_getD, List.getElem?_eq_getElem (by omega)]; exact List.getElem_mem _
            have := hww _ hm
            exact ⟨(F.getD i 0).toNat, by omega, by omega⟩
          have HWF := Aside0.mk hwf
          clear hwf hww
          go_loopw [66] (fun v66 wr => RelO W N F v66 wr) (fun v66 _ => 8 - (intOf v66).toNat)
          case atStart => exact ⟨0, by omega, rfl, K1, K2', BW⟩
          case round =>
            clear K1 K2' BW
            obtain ⟨i, hi, rfl, K1, K2', BW⟩ := hrel
            by_cases hlt : i < 8
            · have hi1 : (i : Int) < 8 := by omega
              have hi2 : (0 : Int) ≤ (i : Int) := by omega
              have hix : ∀ w : World, (Instr.index 48 (.agg (nums .u32 F).toArray) (.int .i64 (i : Int))).run Tryd.prog w = .ok (.int .u32 (F.getD i 0)) w := Ops.index48 F hw8 i hlt
              have HS := hBO.out i hlt
              obtain ⟨n, hn, hn32⟩ := HWF.out i hlt
              rw [hn] at hix HS
              rw [Int.toNat_natCast] at HS
              replace HS := Aside0.mk HS
              have hu : IntKind.u64.wrap (n : Int) = (n : Int) := u64_in (by omega) (by omega)
              have P4 : Aside0 (∀ w, Calls Tryd.prog 19 #[.int .u64 (n : Int), .int .i64 4] w fun e w' => ∃ A c, e = .returned (.tuple #[.slice A 4 c, .int .i64 0]) ∧ 4 ≤ c ∧ (Kd.int .u8).C w' A (T n 4).length (T n 4) ∧ (A = none → c = 0) ∧ Below w.heap.size w w') := ⟨fun w => SumA.put_calls n 4 (by omega) (by omega) hn32 w⟩
              go_wp2_with fail
              (with_reducible refine (P4.out _).mono ?_)
              rintro e w1 ⟨A7, c7, rfl, hc7, hC7, hn7, hb7⟩
              have HC7 := Aside0.mk hC7
              have hs1 : N + 1 < wr.heap.size := (Array.getElem?_eq_some_iff.1 K2'.out).1
              have KA : Aside0 (w1.heap[N + 1]? = some (.cells (nums .u8 (bytesOf F i ++ List.replicate (32 - 4 * i) 0)).toArray 25 (0, 0))) := ⟨(hb7.block _ hs1).trans K2'.out⟩
              have KB : Aside0 (w1.heap[N]? = some (.cells (nums .u8 (List.replicate 32 0)).toArray 25 (0, 0))) := ⟨(hb7.block _ (by omega)).trans K1.out⟩
              have BW1 : Aside0 (Below N W w1) := ⟨BW.out.trans (hb7.mono (by omega))⟩
              have hsl : ∀ w : World, (Instr.sliceAt 25 (.pointer (some ⟨N + 1, 0, none⟩)) (some (.int .i64 (4 * (i : Int)))) none none).run Tryd.prog w = .ok (.slice (some ⟨N + 1, 4 * i, none⟩) (32 - 4 * i) (32 - 4 * i)) w := SumA.slice_arr (N + 1) i hlt
              have hbl := hBL.out i (by omega)
              have hsp := SumA.splice_next (bytesOf F i) (List.replicate (32 - 4 * i) 0) (T n 4) 4 (T_length _ _) (by rw [List.length_replicate]; omega)
              rw [hbl, ← HS.out, List.drop_replicate] at hsp
              have HSP := Aside0.mk hsp
              have CN : Aside0 ((nums .u8 (T n 4)).length = Nat.min 4 (32 - 4 * i)) := ⟨by rw [nums_length, T_length]; show 4 = min 4 _; omega⟩
              have CF : Aside0 (4 * i + (nums .u8 (T n 4)).length ≤ (nums .u8 (bytesOf F i ++ List.replicate (32 - 4 * i) 0)).length) := ⟨by rw [nums_length, nums_length, T_length, List.length_append, hbl, List.length_replicate]; omega⟩
              have CP : Aside0 (0 < (nums .u8 (T n 4)).length → ∃ ad, A7 = some ad ∧ ∀ j v, (nums .u8 (T n 4))[j]? = some v → w1.cell? (ad.add j) = some v) := ⟨fun hpos => by
                rw [nums_length] at hpos
                obtain ⟨ad, rfl, _⟩ := HC7.out.2.2 hpos
                exact ⟨ad, rfl, C_cells HC7.out⟩⟩
              clear hC7 hb7 hsp hbl
              go_wp2_with ((with_reducible refine wpList_copy_splice rfl (.tmp 78) (.tmp 79) 28 28 rfl 5 Tryd.underlying28 SumA.info5s (some ⟨N + 1, 4 * i, none⟩) A7 (32 - 4 * i) (32 - 4 * i) 4 c7 rfl rfl (N + 1) (4 * i) (nums .u8 (bytesOf F i ++ List.replicate (32 - 4 * i) 0)) 25 KA.out (nums .u8 (T n 4)) CN.out (fun h => ⟨rfl, CP.out h⟩) CF.out (nums_one (T n 4)) (N + 1) w1 (Below.refl _ _) (Nat.le_refl _) ?_); intro w4 hg4 hb4; have HG4 := Aside0.mk hg4.out; have HB4 := Aside0.mk hb4; clear hg4 hb4)
              go_roundw
              case rel => exact ⟨i + 1, by omega, by go_num, ⟨(HB4.out.block N (by omega)).trans KB.out⟩, ⟨by
                have := HG4.out
                rw [HSP.out] at this
                rw [show 32 - 4 * (i + 1) = 32 - 4 * i - 4 by omega]
                exact this⟩, ⟨BW1.out.trans (HB4.out.mono (by omega))⟩⟩
              case measure => simp [intOf]; omega
            · have hi8 : i = 8 := by omega
              subst hi8
              have hb8 : bytesOf F 8 ++ List.replicate (32 - 4 * 8) 0 = dig l := by rw [HDG.out]; simp
              rw [hb8] at K2'
              have hdl := dig_length l
              generalize hdd : dig l = D at *
              have HDD := Aside0.mk hdd
              have hi25 : (Tryd.prog.info? 25).map (·.size) = some (nums .u8 D).toArray.size := by rw [List.size_toArray, nums_length, hdl]; exact info25
              have hz32 : (nums .u8 (List.replicate 32 0)).toArray.size = (nums .u8 D).toArray.size := Ops.size_eq (by rw [hdl, List.length_replicate])
              have hone : (nums .u8 D).toArray.all (·.oneCell') = true := by
                rw [Array.all_eq_true_iff_forall_mem]; intro u hu; exact nums_one D u (by simpa using hu)
              have HRES := Aside0.mk (fun (tmps : Array Value) (w' : World) (hw : w'.heap[N]? = some (.cells (nums .u8 D).toArray 25 (0, 0))) (hp : tmps.getD 2 undef = .pointer (some ⟨N, 0, none⟩)) => results_cell_row (fn := Tryd.f12) rfl tmps w' N 25 (nums .u8 D).toArray (0, 0) (.array 32 5) hp hw Tryd.underlying25 rfl hi25)
              clear hb8 hdd
              go_wp2_with (first
                | (with_reducible refine wpList_load_row rfl 25 (.tmp 3) rfl (N + 1) rfl 25 (nums .u8 D).toArray (0, 0) (.array 32 5) K2'.out Tryd.underlying25 rfl hi25 ?_)
                | ((with_reducible refine Ops.wpList_setRow rfl 25 (.tmp 2) (.tmp 82) rfl rfl N rfl (nums .u8 D).toArray rfl 25 _ K1.out hi25 hz32 hone fun w3 k3 o3 => ?_); have K3 := Aside0.mk k3; have O3 := Aside0.mk o3; clear k3 o3))
              refine bodyPost_ret (v := .agg (nums .u8 D).toArray) (HRES.out _ _ K3.out ?_) ?_ ⟨by rw [HDD.out], by rw [hN]; exact O3.out.below BW.out (Nat.le_refl _)⟩
              · simp [Act.put]
              · simp [Act.put]
end Go.Proofs.YtbkocnclaobabaaDoor.SumW
