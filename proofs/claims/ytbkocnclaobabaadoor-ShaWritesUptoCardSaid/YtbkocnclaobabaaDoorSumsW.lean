/- law.all, ShaSums and ShaWrites, walked. Condition: the rows hold at most 1048576 bytes in all. -/
import Derived.Test.YtbkocnclaobabaaDoorPartsW
import Derived.Test.YtbkocnclaobabaaDoorRefS
import Derived.Test.YtbkocnclaobabaaDoorDigEq
import Derived.Test.YtbkocnclaobabaaDoorAwakeW
import Derived.Test.YtbkocnclaobabaaDoorTwoW
import Derived.Test.YtbkocnclaobabaaDoorBulk
namespace Go.Proofs.YtbkocnclaobabaaDoor.AllW
set_option linter.unusedVariables false
set_option linter.unusedSimpArgs false
open Go.RowKit Go.Proofs.YtbkocnclaobabaaDoor.PAll Go.Proofs.YtbkocnclaobabaaDoor.Nums Go.Proofs.YtbkocnclaobabaaDoor.PutM Go.Proofs.YtbkocnclaobabaaDoor.Libs Go.Proofs.YtbkocnclaobabaaDoor.ShaM Go.Proofs.YtbkocnclaobabaaDoor.WriteM Go.Proofs.YtbkocnclaobabaaDoor.Arr Go.Proofs.YtbkocnclaobabaaDoor.SchedW Go.Proofs.YtbkocnclaobabaaDoor.NewW Go.Proofs.YtbkocnclaobabaaDoor.MixW Go.Proofs.YtbkocnclaobabaaDoor.App Go.Proofs.YtbkocnclaobabaaDoor.HashW Go.Proofs.YtbkocnclaobabaaDoorW.PrintWords Go.Proofs.YtbkocnclaobabaaDoorW.PrintLast Go.Proofs.YtbkocnclaobabaaDoorW.PrintMore
open Go.Proofs.YtbkocnclaobabaaDoor.WriteW Go.Proofs.YtbkocnclaobabaaDoor.PartsW Go.Proofs.YtbkocnclaobabaaDoor.RefS
/-- What the loop of 'all' holds. -/
def RelF (W : World) (N : Nat) (ls : List (List Int)) (v3 v4 : Value) (wr : World) : Prop :=
  ∃ i : Nat, i ≤ ls.length ∧ v4 = .int .i64 (i : Int) ∧ Aside0 (OwnB wr N v3 (ls.take i).flatten) ∧ Aside0 (Below N W wr)
set_option maxHeartbeats 1000000 in
set_option maxRecDepth 100000 in
theorem all_calls (A : Option Addr) (c : Nat) (ls : List (List Int)) (W : World) (hP : PartsAt W A ls) (hc : ls.length ≤ c) (hl : ls.length ≤ 9223372036854775807) (hf : ls.flatten.length ≤ 1048576) :
    Calls Tryd.prog 10 #[.slice A ls.length c] W fun e w' => ∃ A' c', e = .returned (.slice A' ls.flatten.length c') ∧ ls.flatten.length ≤ c' ∧ (Kd.int .u8).C w' A' ls.flatten.length ls.flatten ∧ (A' = none → c' = 0) ∧ Below W.heap.size W w' := by
  obtain ⟨N, hN⟩ : ∃ N, W.heap.size = N := ⟨_, rfl⟩
  have HP := Aside0.mk hP
  have HF := Aside0.mk hf
  clear hP hf
  have E0 : Aside0 (OwnB (W.alloc (.cells #[] 5)) N (.slice (some ⟨N, 0, none⟩) 0 0) (ls.take 0).flatten) := ⟨by rw [← hN]; exact empty_own W⟩
  have B0 : Aside0 (Below N W (W.alloc (.cells #[] 5))) := ⟨by rw [← hN]; exact below_alloc (Below.refl _ _) _⟩
  go_enter Tryd.func10, Tryd.ntmps10
  go_wp2_with fail
  go_loopw [3, 4] (fun v3 v4 wr => RelF W N ls v3 v4 wr) (fun _ v4 _ => ls.length - (intOf v4).toNat)
  case atStart => exact ⟨0, by omega, rfl, E0, B0⟩
  case round =>
    clear E0 B0
    obtain ⟨i, hi, rfl, HO, HB⟩ := hrel
    by_cases hlt : i < ls.length
    · have hi1 : (i : Int) < (ls.length : Int) := by omega
      have hi2 : (0 : Int) ≤ (i : Int) := by omega
      obtain ⟨ad, A0, c0, rfl, hcell, hc0, hC0, hn0, hB0, hm0⟩ := HP.out i hlt
      have hblk : (ad.add i).block < W.heap.size := block_lt_of_cell hcell
      have ci : wr.cell? (ad.add i) = some (.slice A0 ls[i].length c0) := by rw [HB.out.cell (p := ad.add i) (by omega)]; exact hcell
      have htake : (ls.take (i + 1)).flatten = (ls.take i).flatten ++ ls[i] := by rw [List.take_succ_eq_append_getElem hlt, List.flatten_append]; simp
      have HT := Aside0.mk htake
      have hle1 := flatten_take_le ls (i + 1)
      rw [htake, List.length_append] at hle1
      have HC0 : Aside0 ((Kd.int .u8).C wr A0 ls[i].length ls[i]) := ⟨Kd.C_below hC0 (by rw [hN]; exact HB.out)⟩
      have HN0 := Aside0.mk hn0
      have hsum : (ls.take i).flatten.length + ls[i].length ≤ 140737488355328 := by have := HF.out; omega
      have hNw : N ≤ wr.heap.size := by have := HB.out.size; omega
      generalize ls[i] = b at *
      generalize (ls.take i).flatten = Y at *
      clear hcell hC0 htake hB0 hblk hn0
      go_wp2_with (first
        | (at_builtin; (refine wpList_append_bytes rfl (.tmp 12) (.tmp 16) rfl N _ Y rfl HO.out A0 c0 b rfl HC0.out HN0.out hsum hNw ?_); intro v5 w5 ho5 hb5; have O5 := Aside0.mk ho5; have B5 : Aside0 (Below N W w5) := ⟨hb5 W HB.out⟩; clear ho5 hb5))
      go_roundw
      case rel => exact ⟨i + 1, by omega, by go_num, ⟨by rw [HT.out]; exact O5.out⟩, B5⟩
      case measure => simp [intOf]; omega
    · have hil : i = ls.length := by omega
      subst hil
      rw [List.take_of_length_le (Nat.le_refl _)] at HO
      obtain ⟨A4, c4, rfl, hc4, hC4, hn4⟩ := HO.out.reads (by have := HF.out; omega)
      go_wp2_with fail
      go_ret
      exact ⟨A4, c4, by rfl, hc4, hC4, hn4, by rw [hN]; exact HB.out⟩
end Go.Proofs.YtbkocnclaobabaaDoor.AllW

namespace Go.Proofs.YtbkocnclaobabaaDoor.SumsW
set_option linter.unusedVariables false
set_option linter.unusedSimpArgs false
open Go.RowKit Go.Proofs.YtbkocnclaobabaaDoor.PAll Go.Proofs.YtbkocnclaobabaaDoor.Nums Go.Proofs.YtbkocnclaobabaaDoor.PutM Go.Proofs.YtbkocnclaobabaaDoor.Libs Go.Proofs.YtbkocnclaobabaaDoor.ShaM Go.Proofs.YtbkocnclaobabaaDoor.WriteM Go.Proofs.YtbkocnclaobabaaDoor.Arr Go.Proofs.YtbkocnclaobabaaDoor.SchedW Go.Proofs.YtbkocnclaobabaaDoor.NewW Go.Proofs.YtbkocnclaobabaaDoor.MixW Go.Proofs.YtbkocnclaobabaaDoor.App Go.Proofs.YtbkocnclaobabaaDoor.HashW Go.Proofs.YtbkocnclaobabaaDoorW.PrintWords Go.Proofs.YtbkocnclaobabaaDoorW.PrintLast Go.Proofs.YtbkocnclaobabaaDoorW.PrintMore
open Go.Proofs.YtbkocnclaobabaaDoor.WriteW Go.Proofs.YtbkocnclaobabaaDoor.SumW Go.Proofs.YtbkocnclaobabaaDoor.PartsW Go.Proofs.YtbkocnclaobabaaDoor.DigEq Go.Proofs.YtbkocnclaobabaaDoor.AwakeW Go.Proofs.YtbkocnclaobabaaDoor.RefS Go.Proofs.YtbkocnclaobabaaDoor.AllW
theorem parts_below {W w : World} {A : Option Addr} {ls : List (List Int)} (h : PartsAt W A ls) (hb : Below W.heap.size W w) : PartsAt w A ls := fun i hi => by
  obtain ⟨ad, A0, c0, e, hcell, hc0, hC0, hn0, hB0, hm0⟩ := h i hi
  exact ⟨ad, A0, c0, e, by rw [hb.cell (p := ad.add i) (block_lt_of_cell hcell)]; exact hcell, hc0, Kd.C_below hC0 hb, hn0, hB0, hm0⟩
set_option maxHeartbeats 1000000 in
set_option maxRecDepth 100000 in
theorem sums_law0 (A : Option Addr) (c : Nat) (ls : List (List Int)) (W : World) (hG : Glob W) (hc : ls.length ≤ c) (hl : ls.length ≤ 9223372036854775807) (hP : PartsAt W A ls) (hf : ls.flatten.length ≤ 1048576) (hB : Bytes ls.flatten) :
    Calls Tryd.prog 3 #[.slice A ls.length c] W fun e w' => e = .returned (.bool true) ∧ Below W.heap.size W w' := by
  have HG := Aside0.mk hG
  have KA := Aside0.mk (fun w' (h : Below W.heap.size W w') => awake_calls w' (Glob.below HG.out h))
  have K1 : Aside0 (∀ w', Below W.heap.size W w' → Calls Tryd.prog 8 #[.slice A ls.length c] w' fun e w'' => e = .returned (.agg (nums .u8 (dig ls.flatten)).toArray) ∧ Below w'.heap.size w' w'') := ⟨fun w' h => parts_calls A c ls w' (Glob.below HG.out h) (parts_below hP h) hc hl (by omega)⟩
  have K2 : Aside0 (∀ w', Below W.heap.size W w' → Calls Tryd.prog 10 #[.slice A ls.length c] w' fun e w'' => ∃ A' c', e = .returned (.slice A' ls.flatten.length c') ∧ ls.flatten.length ≤ c' ∧ (Kd.int .u8).C w'' A' ls.flatten.length ls.flatten ∧ (A' = none → c' = 0) ∧ Below w'.heap.size w' w'') := ⟨fun w' h => all_calls A c ls w' (parts_below hP h) hc hl hf⟩
  have K3 : Aside0 (∀ (w' : World) A' c', (Kd.int .u8).C w' A' ls.flatten.length ls.flatten → ls.flatten.length ≤ c' → (A' = none → c' = 0) → Calls Tryd.prog 9 #[.slice A' ls.flatten.length c'] w' fun e w'' => e = .returned (.agg (nums .u8 (dig ls.flatten)).toArray) ∧ Below w'.heap.size w' w'') := ⟨fun w' A' c' h1 h2 h3 => ref_calls A' c' ls.flatten w' h1 h2 h3 hB hf⟩
  have hdl := dig_length ls.flatten
  have hdb := dig_bytes ls.flatten
  have qb := fun w => same hdl hdb w
  generalize dig ls.flatten = E at *
  clear hG hP hdl hdb
  generalize ls.flatten = F at *
  go_enter Tryd.func3, Tryd.ntmps3
  go_wp2_with fail
  (with_reducible refine (KA.out _ (Below.refl _ _)).mono ?_)
  rintro x w1 ⟨rfl, b1⟩
  have B1 := Aside0.mk b1
  clear b1
  go_wp2_with fail
  (with_reducible refine (K1.out _ B1.out).mono ?_)
  rintro x w2 ⟨rfl, b2⟩
  have B2 : Aside0 (Below W.heap.size W w2) := ⟨below_step B1.out b2⟩
  clear b2
  go_wp2_with fail
  (with_reducible refine (K2.out _ B2.out).mono ?_)
  rintro x w3 ⟨A', c', rfl, h1, h2, h3, b3⟩
  have B3 : Aside0 (Below W.heap.size W w3) := ⟨below_step B2.out b3⟩
  have R := Aside0.mk (K3.out w3 A' c' h2 h1 h3)
  clear b3 h1 h2 h3
  go_wp2_with fail
  (with_reducible refine R.out.mono ?_)
  rintro x w4 ⟨rfl, b4⟩
  have B4 : Aside0 (Below W.heap.size W w4) := ⟨below_step B3.out b4⟩
  clear b4
  go_wp2_with fail
  go_ret
  exact ⟨by rfl, B4.out⟩
theorem parts_of {W : World} {A : Option Addr} {ls : List (List Int)} (h : Bulk.RowsIn W A ls) (hf : ls.flatten.length + ls.length ≤ 1048576) : PartsAt W A ls := fun i hi => by
  obtain ⟨ad, A0, c0, e, hcell, hc0, hC0, hn0, hm0, hB0⟩ := h i hi
  exact ⟨ad, A0, c0, e, hcell, hc0, hC0, hn0, bytes_of_wf hB0, by
    have := flatten_take_le ls (i + 1)
    have e1 : [ls[i]].flatten = ls[i] := List.flatten_singleton
    rw [List.take_succ_eq_append_getElem hi, List.flatten_append, List.length_append, e1] at this
    omega⟩
theorem flat_bytes {W : World} {A : Option Addr} {ls : List (List Int)} (h : Bulk.RowsIn W A ls) : Bytes ls.flatten := by
  intro x hx
  obtain ⟨m, hm, hx⟩ := List.mem_flatten.1 hx
  obtain ⟨i, hi, rfl⟩ := List.getElem_of_mem hm
  obtain ⟨ad, A0, c0, e, hcell, hc0, hC0, hn0, hm0, hB0⟩ := h i hi
  exact bytes_of_wf hB0 x hx
theorem sums_law (A : Option Addr) (c : Nat) (ls : List (List Int)) (W : World) (hG : Glob W) (ga : ls.length ≤ c) (gb : A = none → c = 0) (gc : ls.length ≤ 9223372036854775807) (gd : Bulk.RowsIn W A ls) (hu : ls.flatten.length + ls.length ≤ 1048576) :
    Calls Tryd.prog 3 #[.slice A ls.length c] W fun e w' => e = .returned (.bool true) ∧ Below W.heap.size W w' :=
  sums_law0 A c ls W hG ga gc (parts_of gd hu) (by omega) (flat_bytes gd)
end Go.Proofs.YtbkocnclaobabaaDoor.SumsW

namespace Go.Proofs.YtbkocnclaobabaaDoor.WritesW
set_option linter.unusedVariables false
set_option linter.unusedSimpArgs false
open Go.RowKit Go.Proofs.YtbkocnclaobabaaDoor.PAll Go.Proofs.YtbkocnclaobabaaDoor.Nums Go.Proofs.YtbkocnclaobabaaDoor.PutM Go.Proofs.YtbkocnclaobabaaDoor.Libs Go.Proofs.YtbkocnclaobabaaDoor.ShaM Go.Proofs.YtbkocnclaobabaaDoor.WriteM Go.Proofs.YtbkocnclaobabaaDoor.Arr Go.Proofs.YtbkocnclaobabaaDoor.SchedW Go.Proofs.YtbkocnclaobabaaDoor.NewW Go.Proofs.YtbkocnclaobabaaDoor.MixW Go.Proofs.YtbkocnclaobabaaDoor.App Go.Proofs.YtbkocnclaobabaaDoor.HashW Go.Proofs.YtbkocnclaobabaaDoorW.PrintWords Go.Proofs.YtbkocnclaobabaaDoorW.PrintLast Go.Proofs.YtbkocnclaobabaaDoorW.PrintMore
open Go.Proofs.YtbkocnclaobabaaDoor.WriteW Go.Proofs.YtbkocnclaobabaaDoor.SumW Go.Proofs.YtbkocnclaobabaaDoor.PartsW Go.Proofs.YtbkocnclaobabaaDoor.DigEq Go.Proofs.YtbkocnclaobabaaDoor.AwakeW Go.Proofs.YtbkocnclaobabaaDoor.TwoW Go.Proofs.YtbkocnclaobabaaDoor.RefS Go.Proofs.YtbkocnclaobabaaDoor.AllW Go.Proofs.YtbkocnclaobabaaDoor.SumsW
theorem info28 : (Tryd.prog.info? 28).map (fun i => (i.zero, i.size, i.bytes)) = some (some (.slice none 0 0), 1, 24) := by kernel_rfl
theorem own_apart {w : World} {base : Nat} {v : Value} {l : List Int} (h : OwnB w base v l) {ad : Addr} {n c : Nat} (e : v = .slice (some ad) n c) : base ≤ ad.block := by
  obtain ⟨h1, h2 | ⟨g, cap, cur, rfl, hg, hh, hnc, hcm, hsz, htk⟩⟩ := h
  · obtain ⟨rfl, h0⟩ := h2
    injection e with e1
    cases e1
  · injection e with e1
    injection e1 with e1
    subst e1
    exact hg
/-- What the rounds hold. -/
def RelW (W : World) (lo g : Nat) (ls : List (List Int)) (v4 v5 : Value) (wr : World) : Prop :=
  ∃ i : Nat, i ≤ ls.length ∧ v5 = .int .i64 (i : Int) ∧ v4 = .int .i64 ((ls.take i).flatten.length : Int) ∧ Aside0 (HashT lo wr g (ls.take i).flatten) ∧ Aside0 (Below W.heap.size W wr)
set_option maxHeartbeats 1000000 in
set_option maxRecDepth 100000 in
theorem writes_law0 (A : Option Addr) (c : Nat) (ls : List (List Int)) (W : World) (hG : Glob W) (hc : ls.length ≤ c) (hl : ls.length ≤ 9223372036854775807) (hP : PartsAt W A ls) (hf : ls.flatten.length ≤ 1048576) (hB : Bytes ls.flatten) :
    Calls Tryd.prog 4 #[.slice A ls.length c] W fun e w' => e = .returned (.bool true) ∧ Below W.heap.size W w' := by
  have HG := Aside0.mk hG
  have HP := Aside0.mk hP
  have HF := Aside0.mk hf
  have HB := Aside0.mk hB
  have N1 := Aside0.mk (newT_calls W hG)
  clear hG hP hf hB
  go_enter Tryd.func4, Tryd.ntmps4
  go_wp2_with fail
  (with_reducible refine N1.out.mono ?_)
  rintro e W2 ⟨g, hg, rfl, hH, hb⟩
  have H2 := Aside0.mk hH
  have B2 := Aside0.mk hb
  generalize W2.heap.size = lo at *
  clear hH hb
  go_wp2_with fail
  go_loopw [4, 5] (fun v4 v5 wr => RelW W lo g ls v4 v5 wr) (fun _ v5 _ => ls.length - (intOf v5).toNat)
  case atStart => exact ⟨0, by omega, rfl, rfl, H2, B2⟩
  case round =>
    clear H2 B2
    obtain ⟨i, hi, rfl, rfl, H2, B2⟩ := hrel
    have GR : Aside0 (Glob wr) := ⟨Glob.below HG.out B2.out⟩
    have hle := flatten_take_le ls i
    by_cases hlt : i < ls.length
    · by_cases h12 : i < 12
      · have hi1 : (i : Int) < (ls.length : Int) := by omega
        have hi3 : (i : Int) < 12 := by omega
        have hgp : 0 < g := by have := HG.out.pos; omega
        have hlb : Below wr.heap.size wr wr := Below.refl _ _
        have hwr := B2.out.size
        have KS : Aside0 (∀ w', Below wr.heap.size wr w' → Calls Tryd.prog 12 #[.pointer (some ⟨g, 0, none⟩)] w' fun e w'' => e = .returned (.agg (nums .u8 (dig (ls.take i).flatten)).toArray) ∧ Below w'.heap.size w' w'') := ⟨fun w' h => sum_calls lo g _ w' (Glob.below GR.out h) hgp (SumA.HashT.below H2.out h) (by have := HF.out; omega)⟩
        have KL : Aside0 (∀ w', Below wr.heap.size wr w' → Calls Tryd.prog 13 #[.pointer (some ⟨g, 0, none⟩)] w' fun e w'' => e = .returned (.int .i64 ((ls.take i).flatten.length : Int)) ∧ Below w'.heap.size w' w'') := ⟨fun w' h => len_calls lo g _ w' (SumA.HashT.below H2.out h)⟩
        have hti : (ls.take i).length = i := by rw [List.length_take]; omega
        have PT : PartsAt wr A (ls.take i) := fun q hq => by
          have hq2 : q < ls.length := by omega
          have := parts_below HP.out B2.out q hq2
          rw [List.getElem_take]; exact this
        have KM : Aside0 (∀ w', Below wr.heap.size wr w' → Calls Tryd.prog 10 #[.slice A i c] w' fun e w'' => ∃ A' c', e = .returned (.slice A' (ls.take i).flatten.length c') ∧ (ls.take i).flatten.length ≤ c' ∧ (Kd.int .u8).C w'' A' (ls.take i).flatten.length (ls.take i).flatten ∧ (A' = none → c' = 0) ∧ Below w'.heap.size w' w'') := ⟨fun w' h => by
          have := all_calls A c (ls.take i) w' (parts_below PT h) (by omega) (by omega) (by have := HF.out; omega)
          rw [hti] at this; exact this⟩
        have KR : Aside0 (∀ (w' : World) A' c', (Kd.int .u8).C w' A' (ls.take i).flatten.length (ls.take i).flatten → (ls.take i).flatten.length ≤ c' → (A' = none → c' = 0) → Calls Tryd.prog 9 #[.slice A' (ls.take i).flatten.length c'] w' fun e w'' => e = .returned (.agg (nums .u8 (dig (ls.take i).flatten)).toArray) ∧ Below w'.heap.size w' w'') := ⟨fun w' A' c' h1 h2 h3 => ref_calls A' c' _ w' h1 h2 h3 (fun x hx => HB.out x (by
          have e : ls.flatten = (ls.take i).flatten ++ (ls.drop i).flatten := by rw [← List.flatten_append, List.take_append_drop]
          rw [e]; exact List.mem_append_left _ hx)) (by have := HF.out; omega)⟩
        have hdl := dig_length (ls.take i).flatten
        have hdb := dig_bytes (ls.take i).flatten
        have qb := fun w => same hdl hdb w
        have D0 : Aside0 (Below wr.heap.size wr wr.drew) := ⟨(Below.refl _ _).drew⟩
        obtain ⟨i0, hi0, _, hsz, _⟩ := info_parts info28
        have hcut := cut_to (P := Tryd.prog) 22 28 .i64 Tryd.underlying22 hi0 A ls.length c (i : Int) (by omega) (by omega) hc
        rw [Int.toNat_natCast] at hcut
        have hi2 : (0 : Int) ≤ (i : Int) := by omega
        obtain ⟨ad, A0, c0, rfl, hcell, hc0, hC0, hn0, hB0, hm0⟩ := HP.out i hlt
        have hblk : (ad.add i).block < W.heap.size := block_lt_of_cell hcell
        have CI : Aside0 (wr.cell? (ad.add i) = some (.slice A0 ls[i].length c0)) := ⟨by rw [B2.out.cell (p := ad.add i) hblk]; exact hcell⟩
        have HLK : Aside0 ((ad.add i).block < wr.heap.size) := ⟨by omega⟩
        have HLB := Aside0.mk hblk
        have htake : (ls.take (i + 1)).flatten = (ls.take i).flatten ++ ls[i] := by rw [List.take_succ_eq_append_getElem hlt, List.flatten_append]; simp
        have HT := Aside0.mk htake
        have hle1 := flatten_take_le ls (i + 1)
        rw [htake, List.length_append] at hle1
        have HC0 : Aside0 ((Kd.int .u8).C wr A0 ls[i].length ls[i]) := ⟨Kd.C_below hC0 B2.out⟩
        have HN0 := Aside0.mk hn0
        have HBB := Aside0.mk hB0
        have hsum : ([] : List Int).length + ls[i].length ≤ 140737488355328 := by have := HF.out; simp only [List.length_nil]; omega
        have HL1 : Aside0 (ls[i].length ≤ 140737488351232 ∧ (ls.take i).flatten.length + ls[i].length < 4611686018427387904) := ⟨by have := HF.out; omega, by have := HF.out; omega⟩
        have HN1 : Aside0 (((ls.take i).flatten.length : Int) + (ls[i].length : Int) ≤ 1048576) := ⟨by have := HF.out; omega⟩
        generalize dig (ls.take i).flatten = E at *
        generalize ls[i] = b at *
        generalize (ls.take i).flatten = Y at *
        clear hdl hdb PT hcell hC0 htake hB0 hblk hn0
        go_wp2_with fail
        refine wp_region_noPanic ?_
        refine wp_region_held_drew (S := fun _ => True) (by kernel_rfl) ?_ (fun hHeld => ?_)
        · trivial
        refine wpAnyH_take (i := 0) (v := ?_) rfl (by kernel_rfl) (by kernel_rfl) (by kernel_rfl) (fun _ _ _ h => h) (Or.inl ⟨by rfl, ?_⟩) (by trivial) ?_
        rotate_left
        · (intro w hSw; (try dsimp only at hSw); go_simp; try (with_reducible rfl))
        (try simp only [List.getElem_toArray, List.getElem_cons_succ, List.getElem_cons_zero, Act.put, List.setIfInBounds_toArray, List.set_cons_zero, List.set_cons_succ])
        refine wpAnyH_take (i := 2) (v := ?_) rfl (by kernel_rfl) (by kernel_rfl) (by kernel_rfl) (fun _ _ _ h => h) (Or.inl ⟨by rfl, ?_⟩) (by trivial) ?_
        rotate_left
        · (intro w hSw; (try dsimp only at hSw); go_simp; try (with_reducible rfl))
        (try simp only [List.getElem_toArray, List.getElem_cons_succ, List.getElem_cons_zero, Act.put, List.setIfInBounds_toArray, List.set_cons_zero, List.set_cons_succ])
        refine wpAnyH_take (i := 3) (v := ?_) rfl (by kernel_rfl) (by kernel_rfl) (by kernel_rfl) (fun _ _ _ h => h) (Or.inl ⟨by rfl, ?_⟩) (by trivial) ?_
        rotate_left
        · (intro w hSw; (try dsimp only at hSw); go_simp; try (with_reducible rfl))
        (try simp only [List.getElem_toArray, List.getElem_cons_succ, List.getElem_cons_zero, Act.put, List.setIfInBounds_toArray, List.set_cons_zero, List.set_cons_succ])
        refine wpAnyH_take (i := 4) (v := ?_) rfl (by kernel_rfl) (by kernel_rfl) (by kernel_rfl) (fun _ _ _ h => h) (Or.inl ⟨by rfl, ?_⟩) (by trivial) ?_
        rotate_left
        · (intro w hSw; (try dsimp only at hSw); go_simp; try (with_reducible rfl))
        (try simp only [List.getElem_toArray, List.getElem_cons_succ, List.getElem_cons_zero, Act.put, List.setIfInBounds_toArray, List.set_cons_zero, List.set_cons_succ])
        refine wpAnyH_ready (rs := [1]) (by kernel_rfl) (by simp) ?_
        refine AllReadyH.cons rfl (fun K hK => ?_) AllReadyH.nil
        go_simp
        go_at_call 12
        (with_reducible refine (KS.out _ D0.out).mono ?_)
        rintro x v1 ⟨rfl, hb1⟩
        have D1 := Aside0.mk (below_step D0.out hb1)
        clear hb1
        refine hK.out _ _ ?_ (fun hHeld => ?_)
        · trivial
        clear hK K
        (try simp only [List.getElem_toArray, List.getElem_cons_succ, List.getElem_cons_zero, Act.put, List.setIfInBounds_toArray, List.set_cons_zero, List.set_cons_succ])
        refine wpAnyH_ready (rs := [5]) (by kernel_rfl) (by simp) ?_
        refine AllReadyH.cons rfl (fun K hK => ?_) AllReadyH.nil
        go_simp
        go_at_call 10
        (with_reducible refine (KM.out _ D1.out).mono ?_)
        rintro x v2 ⟨A', c', rfl, h1, h2, h3, hb1⟩
        have D2 := Aside0.mk (below_step D1.out hb1)
        have KR' := Aside0.mk (KR.out v2 A' c' h2 h1 h3)
        clear hb1 h1 h2 h3
        refine hK.out _ _ ?_ (fun hHeld => ?_)
        · trivial
        clear hK K
        (try simp only [List.getElem_toArray, List.getElem_cons_succ, List.getElem_cons_zero, Act.put, List.setIfInBounds_toArray, List.set_cons_zero, List.set_cons_succ])
        refine wpAnyH_ready (rs := [6]) (by kernel_rfl) (by simp) ?_
        refine AllReadyH.cons rfl (fun K hK => ?_) AllReadyH.nil
        go_simp
        go_at_call 9
        (with_reducible refine (KR'.out).mono ?_)
        rintro x v3 ⟨rfl, hb1⟩
        have D3 := Aside0.mk (below_step D2.out hb1)
        clear hb1
        refine hK.out _ _ ?_ (fun hHeld => ?_)
        · trivial
        clear hK K
        (try simp only [List.getElem_toArray, List.getElem_cons_succ, List.getElem_cons_zero, Act.put, List.setIfInBounds_toArray, List.set_cons_zero, List.set_cons_succ])
        refine wpAnyH_take (i := 7) (v := ?_) rfl (by kernel_rfl) (by kernel_rfl) (by kernel_rfl) (fun _ _ _ h => h) (Or.inl ⟨by rfl, ?_⟩) (by trivial) ?_
        rotate_left
        · (intro w hSw; (try dsimp only at hSw); go_simp; try (with_reducible rfl))
        (try simp only [List.getElem_toArray, List.getElem_cons_succ, List.getElem_cons_zero, Act.put, List.setIfInBounds_toArray, List.set_cons_zero, List.set_cons_succ])
        refine wpAnyH_take (i := 8) (v := ?_) rfl (by kernel_rfl) (by kernel_rfl) (by kernel_rfl) (fun _ _ _ h => h) (Or.inl ⟨by rfl, ?_⟩) (by trivial) ?_
        rotate_left
        · (intro w hSw; (try dsimp only at hSw); go_simp; try (with_reducible rfl))
        (try simp only [List.getElem_toArray, List.getElem_cons_succ, List.getElem_cons_zero, Act.put, List.setIfInBounds_toArray, List.set_cons_zero, List.set_cons_succ])
        refine wpAnyH_take (i := 9) (v := ?_) rfl (by kernel_rfl) (by kernel_rfl) (by kernel_rfl) (fun _ _ _ h => h) (Or.inl ⟨by rfl, ?_⟩) (by trivial) ?_
        rotate_left
        · (intro w hSw; (try dsimp only at hSw); go_simp; try (with_reducible rfl))
        (try simp only [List.getElem_toArray, List.getElem_cons_succ, List.getElem_cons_zero, Act.put, List.setIfInBounds_toArray, List.set_cons_zero, List.set_cons_succ])
        refine wpAnyH_take (i := 11) (v := ?_) rfl (by kernel_rfl) (by kernel_rfl) (by kernel_rfl) (fun _ _ _ h => h) (Or.inl ⟨by rfl, ?_⟩) (by trivial) ?_
        rotate_left
        · (intro w hSw; (try dsimp only at hSw); go_simp; try (with_reducible rfl))
        (try simp only [List.getElem_toArray, List.getElem_cons_succ, List.getElem_cons_zero, Act.put, List.setIfInBounds_toArray, List.set_cons_zero, List.set_cons_succ])
        refine wpAnyH_ready (rs := [10]) (by kernel_rfl) (by simp) ?_
        refine AllReadyH.cons rfl (fun K hK => ?_) AllReadyH.nil
        go_simp
        go_at_call 13
        (with_reducible refine (KL.out _ D3.out).mono ?_)
        rintro x v4 ⟨rfl, hb1⟩
        have D4 := Aside0.mk (below_step D3.out hb1)
        clear hb1
        refine hK.out _ _ ?_ (fun hHeld => ?_)
        · trivial
        clear hK K
        (try simp only [List.getElem_toArray, List.getElem_cons_succ, List.getElem_cons_zero, Act.put, List.setIfInBounds_toArray, List.set_cons_zero, List.set_cons_succ])
        refine wpAnyH_take (i := 12) (v := ?_) rfl (by kernel_rfl) (by kernel_rfl) (by kernel_rfl) (fun _ _ _ h => h) (Or.inl ⟨by rfl, ?_⟩) (by trivial) ?_
        rotate_left
        · (intro w hSw; (try dsimp only at hSw); go_simp; try (with_reducible rfl))
        (try simp only [List.getElem_toArray, List.getElem_cons_succ, List.getElem_cons_zero, Act.put, List.setIfInBounds_toArray, List.set_cons_zero, List.set_cons_succ])
        refine wpAnyH_take (i := 13) (v := ?_) rfl (by kernel_rfl) (by kernel_rfl) (by kernel_rfl) (fun _ _ _ h => h) (Or.inl ⟨by rfl, ?_⟩) (by trivial) ?_
        rotate_left
        · (intro w hSw; (try dsimp only at hSw); go_simp; try (with_reducible rfl))
        (try simp only [List.getElem_toArray, List.getElem_cons_succ, List.getElem_cons_zero, Act.put, List.setIfInBounds_toArray, List.set_cons_zero, List.set_cons_succ])
        refine wpAnyH_done (by kernel_rfl) ?_ _
        refine NoPanic.normal ?_
        (try simp only [List.getElem_toArray, List.getElem_cons_succ, List.getElem_cons_zero, Act.put, List.setIfInBounds_toArray, List.set_cons_zero, List.set_cons_succ])
        have ci4 : v4.cell? (ad.add i) = some (.slice A0 b.length c0) := by rw [D4.out.cell (p := ad.add i) HLK.out]; exact CI.out
        have HV4 := Aside0.mk D4.out.size
        have ci5 : (v4.alloc (.cells #[] 5)).cell? (ad.add i) = some (.slice A0 b.length c0) := by rw [(below_alloc (Below.refl v4.heap.size v4) (.cells #[] 5)).cell (p := ad.add i) (by have := HLK.out; have := HV4.out; omega)]; exact ci4
        have E4 : Aside0 (OwnB (v4.alloc (.cells #[] 5)) v4.heap.size (.slice (some ⟨v4.heap.size, 0, none⟩) 0 0) []) := ⟨empty_own v4⟩
        have F4 : Aside0 (Below v4.heap.size v4 (v4.alloc (.cells #[] 5))) := ⟨below_alloc (Below.refl _ _) _⟩
        have C4 := Aside0.mk (Kd.C_below HC0.out (D4.out.trans (F4.out.mono HV4.out)))
        go_wp2_with (first
          | (at_builtin; (refine wpList_append_bytes rfl (.tmp 32) (.tmp 36) rfl v4.heap.size _ [] rfl E4.out A0 c0 b rfl C4.out HN0.out hsum F4.out.size ?_); intro v5 w5 ho5 hb5; have O5 : Aside0 (OwnB w5 v4.heap.size v5 b) := ⟨ho5⟩; have B5 : Aside0 (Below v4.heap.size v4 w5) := ⟨hb5 v4 F4.out⟩; clear ho5 hb5))
        have hsep : ∀ ad0 n c1, v5 = .slice (some ad0) n c1 → 0 < b.length → ad0.block ≠ g := fun ad0 n c1 e hp => by
          have h1 := own_apart O5.out e
          obtain ⟨h2, h3, _⟩ := H2.out
          have h4 := HV4.out
          omega
        obtain ⟨A5, c5, rfl, hc5, hC5, hn5⟩ := O5.out.reads (by have := HL1.out; omega)
        have B45 : Aside0 (Below wr.heap.size wr w5) := ⟨D4.out.trans (B5.out.mono HV4.out)⟩
        have GW := Aside0.mk (WriteW.write_calls lo g Y b w5 (Glob.below GR.out B45.out) hgp (SumA.HashT.below H2.out B45.out) A5 c5 hC5 hc5 hn5 HBB.out HL1.out.1 HL1.out.2 (fun ad0 e => hsep ad0 _ _ (by rw [e])))
        clear hsep hC5 hc5 hn5 ci4 ci5
        go_wp2_with fail
        (with_reducible refine GW.out.mono ?_)
        rintro e w6 ⟨rfl, h6, s6⟩
        have H6 := Aside0.mk h6
        have B6 : Aside0 (Below W.heap.size wr w6) := ⟨(B45.out.mono hwr).trans (s6.below hg (by have := B45.out.size; omega))⟩
        clear h6 s6
        have ci6 : w6.cell? (ad.add i) = some (.slice A0 b.length c0) := by rw [B6.out.cell (p := ad.add i) HLB.out]; exact CI.out
        go_wp2_with fail
        go_roundw
        case rel => exact ⟨i + 1, by omega, by go_num, by have hn1 := HN1.out; rw [IntWalk.wrap64_in _ (by omega), HT.out, List.length_append]; go_num, ⟨by rw [HT.out]; exact H6.out⟩, ⟨B2.out.trans B6.out⟩⟩
        case measure => simp [intOf]; omega
      · have hi1 : (i : Int) < (ls.length : Int) := by omega
        have hi3 : ¬ (i : Int) < 12 := by omega
        have KA := Aside0.mk (awake_calls wr GR.out)
        go_wp2_with fail
        (with_reducible refine KA.out.mono ?_)
        rintro e w3 ⟨rfl, b3⟩
        have H3 := Aside0.mk (SumA.HashT.below H2.out b3)
        have B3 : Aside0 (Below W.heap.size W w3) := ⟨below_step B2.out b3⟩
        have KL := Aside0.mk (len_calls lo g _ w3 H3.out)
        clear b3
        go_wp2_with fail
        (with_reducible refine KL.out.mono ?_)
        rintro e w4 ⟨rfl, b4⟩
        have B4 : Aside0 (Below W.heap.size W w4) := ⟨below_step B3.out b4⟩
        go_wp2_with fail
        go_ret
        exact ⟨by rfl, B4.out⟩
    · have hi1 : ¬ (i : Int) < (ls.length : Int) := by omega
      have KA := Aside0.mk (awake_calls wr GR.out)
      go_wp2_with fail
      (with_reducible refine KA.out.mono ?_)
      rintro e w3 ⟨rfl, b3⟩
      have H3 := Aside0.mk (SumA.HashT.below H2.out b3)
      have B3 : Aside0 (Below W.heap.size W w3) := ⟨below_step B2.out b3⟩
      have KL := Aside0.mk (len_calls lo g _ w3 H3.out)
      clear b3
      go_wp2_with fail
      (with_reducible refine KL.out.mono ?_)
      rintro e w4 ⟨rfl, b4⟩
      have B4 : Aside0 (Below W.heap.size W w4) := ⟨below_step B3.out b4⟩
      go_wp2_with fail
      go_ret
      exact ⟨by rfl, B4.out⟩
theorem writes_law (A : Option Addr) (c : Nat) (ls : List (List Int)) (W : World) (hG : Glob W) (ga : ls.length ≤ c) (gb : A = none → c = 0) (gc : ls.length ≤ 9223372036854775807) (gd : Bulk.RowsIn W A ls) (hu : ls.flatten.length + ls.length ≤ 1048576) :
    Calls Tryd.prog 4 #[.slice A ls.length c] W fun e w' => e = .returned (.bool true) ∧ Below W.heap.size W w' :=
  writes_law0 A c ls W hG ga gc (parts_of gd hu) (by omega) (flat_bytes gd)
end Go.Proofs.YtbkocnclaobabaaDoor.WritesW
