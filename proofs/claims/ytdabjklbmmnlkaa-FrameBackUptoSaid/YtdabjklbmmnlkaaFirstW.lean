/- frame.First, walked. No condition. -/
import Derived.Test.YtdabjklbmmnlkaaPutW
namespace Go.Proofs.Ytdabjklbmmnlkaa.FirstW
set_option linter.unusedVariables false
set_option linter.unusedSimpArgs false
open Go.RowKit Go.Proofs.Ytdabjklbmmnlkaa.PAll Go.Proofs.Ytdabjklbmmnlkaa.Nums Go.Proofs.Ytdabjklbmmnlkaa.CrcM Go.Proofs.Ytdabjklbmmnlkaa.SumM Go.Proofs.Ytdabjklbmmnlkaa.PutM Go.Proofs.Ytdabjklbmmnlkaa.Libs Go.Proofs.Ytdabjklbmmnlkaa.Concat Go.Proofs.Ytdabjklbmmnlkaa.PutW Go.Proofs.YtdabjklbmmnlkaaW.PrintWords Go.Proofs.YtdabjklbmmnlkaaW.PrintLast Go.Proofs.YtdabjklbmmnlkaaW.PrintMore
/-- What lies in a frame that may be there. -/
def body (l : List Int) : List Int := (l.take (8 + num (l.take 4))).drop 8
/-- What frame.First answers. -/
def firstR (l : List Int) : List Int × Nat × Nat :=
  if l.length < 8 then ([], 0, 3) else if 16384 < num (l.take 4) then ([], 0, 2) else if l.length - 8 < num (l.take 4) then ([], 0, 3)
  else if sumN [body l] = num ((l.take 8).drop 4) then (body l, 8 + num (l.take 4), 0) else ([], 0, 2)
theorem firstR_eq (l : List Int) (h : 8 ≤ l.length) : firstR l = if 16384 < num (l.take 4) then ([], 0, 2) else if l.length - 8 < num (l.take 4) then ([], 0, 3)
    else if sumN [body l] = num ((l.take 8).drop 4) then (body l, 8 + num (l.take 4), 0) else ([], 0, 2) := by
  unfold firstR
  rw [if_neg (by omega)]
theorem own_loc {W : World} {base : Nat} {A : Option Addr} {n c : Nat} {l : List Int} (h : OwnB W base (.slice A n c) l) (ad : Addr) (e : A = some ad) : base ≤ ad.block ∧ ad.block < W.heap.size := by
  subst e
  obtain ⟨g, rfl⟩ : ∃ g, ad = ⟨g, 0, none⟩ := by
    rcases h.2 with ⟨h1, _⟩ | ⟨g, cap, cur, h1, _⟩
    · simp at h1
    · simp at h1
      exact ⟨g, h1.1⟩
  exact h.lt g rfl
theorem get4 {l : List Int} (hb : Bytes l) (h4 : l.length = 4) (A : Option Addr) (c : Nat) (w : World) (hC : (Kd.int .u8).C w A l.length l) (hc : l.length ≤ c) :
    Calls Try.prog 20 #[.slice A 4 c] w fun e w' => e = .returned (.tuple #[.int .u64 (num l : Nat), .int .i64 0]) ∧ Drawn0 w w' := by
  have h := get_eq hb 12 (by omega)
  unfold getR at h
  rw [if_neg (by omega)] at h
  have := bits_Get.calls 12 A c l _ _ w hC hc h
  rw [h4] at this
  exact this
theorem Bytes.sub {l m : List Int} (h : Bytes l) (hs : ∀ x ∈ m, x ∈ l) : Bytes m := fun x hx => h x (hs x hx)
theorem bytes_take {l : List Int} (h : Bytes l) (n : Nat) : Bytes (l.take n) := fun x hx => h x (List.mem_of_mem_take hx)
theorem bytes_drop {l : List Int} (h : Bytes l) (n : Nat) : Bytes (l.drop n) := fun x hx => h x (List.mem_of_mem_drop hx)
theorem fold_lt : ∀ (l : List Int) (v : Nat), Bytes l → l.foldl (fun (v : Nat) (x : Int) => v * 256 + x.toNat) v < (v + 1) * 256 ^ l.length
  | [], v, _ => by simp
  | x :: l, v, hb => by
    have h1 := fold_lt l (v * 256 + x.toNat) (fun y hy => hb y (List.mem_cons_of_mem _ hy))
    have h2 := hb x (by simp)
    rw [List.foldl_cons, List.length_cons, Nat.pow_succ]
    refine Nat.lt_of_lt_of_le h1 ?_
    rw [Nat.mul_comm (256 ^ l.length) 256, ← Nat.mul_assoc]
    exact Nat.mul_le_mul_right _ (by omega)
theorem num_lt (l : List Int) (hb : Bytes l) : num l < 256 ^ l.length := by
  have := fold_lt l 0 hb
  simpa [num] using this
theorem short_calls (A : Option Addr) (c : Nat) (n : Nat) (W : World) (hl : n < 8) :
    Calls Try.prog 10 #[.slice A n c] W fun e w' => e = .returned (.tuple #[.slice none 0 0, .int .i64 0, .int .i64 3]) ∧ Below W.heap.size W w' := by
  have ng : ((n : Int) < 8) := by omega
  go_enter Try.func10, Try.ntmps10
  go_wp2
  go_ret3
  exact ⟨rfl, Below.refl _ _⟩
set_option maxHeartbeats 4000000 in
set_option maxRecDepth 100000 in
theorem first_calls (A : Option Addr) (c : Nat) (l : List Int) (W : World) (hC : (Kd.int .u8).C W A l.length l) (hc : l.length ≤ c) (hB : Bytes l) (h8 : 8 ≤ l.length) (hm : l.length ≤ 140737488355328) :
    Calls Try.prog 10 #[.slice A l.length c] W fun e w' => ∃ A' , e = .returned (.tuple #[.slice A' (firstR l).1.length (firstR l).1.length, .int .i64 (firstR l).2.1, .int .i64 (firstR l).2.2]) ∧ (Kd.int .u8).C w' A' (firstR l).1.length (firstR l).1 ∧ (∀ ad, A' = some ad → W.heap.size ≤ ad.block ∧ ad.block < w'.heap.size) ∧ Below W.heap.size W w' := by
  obtain ⟨i0, hi0, _, hsz, _⟩ := info_parts Libs.info5
  have cut1 : ∀ w : World, (Instr.slice 22 (.slice A l.length c) none (some (.int .i64 4)) none).run Try.prog w = .ok (.slice A 4 c) w := cut_to (P := Try.prog) 22 5 .i64 Try.underlying22 hi0 A l.length c 4 (by omega) (by omega) hc
  have cut2 : ∀ w : World, (Instr.slice 22 (.slice A l.length c) (some (.int .i64 4)) (some (.int .i64 8)) none).run Try.prog w = .ok (.slice (if c = 4 then A else A.map (·.add 4)) 4 (c - 4)) w := cut_mid (P := Try.prog) 22 5 .i64 .i64 Try.underlying22 hi0 1 hsz A l.length c 4 8 (by omega) (by omega) (by omega) hc
  have D2 := Aside0.mk (Kd.C_mid (lo := 4) (hi := 8) hC (by omega) h8 hc)
  have L1 : (l.take 4).length = 4 := by rw [List.length_take]; omega
  have L2 : ((l.take 8).drop 4).length = 4 := by rw [List.length_drop, List.length_take]; omega
  have D1 := Aside0.mk (Kd.C_take (m := 4) hC (by omega))
  rw [show 4 * (Kd.int .u8).sz = 4 from rfl] at D2
  generalize (if c = 4 then A else A.map (·.add 4)) = A2 at D2 cut2
  have G1 := Aside0.mk (fun w h => get4 (bytes_take hB 4) L1 A c w h (by omega))
  have G2 := Aside0.mk (fun w h => get4 (bytes_drop (bytes_take hB 8) 4) L2 A2 (c - 4) w h (by omega))
  have ng : ¬ ((l.length : Int) < 8) := by omega
  have HC := Aside0.mk hC
  have N1 : num (l.take 4) < 4294967296 := by have := num_lt _ (bytes_take hB 4); rw [L1] at this; exact this
  have HF := Aside0.mk (firstR_eq l h8)
  have D2' := Aside0.mk D2.out
  clear hC D1 D2
  generalize hn : num (l.take 4) = n at *
  generalize hq : num ((l.take 8).drop 4) = q at *
  have N2 : q < 4294967296 := by rw [← hq]; have := num_lt _ (bytes_drop (bytes_take hB 8) 4); rw [L2] at this; exact this
  have D1 := Aside0.mk (Kd.C_take (m := 4) HC.out (by omega))
  have HD2 := Aside0.mk D2'.out
  go_enter Try.func10, Try.ntmps10
  go_wp2_with fail
  refine (G1.out W D1.out).mono ?_
  rintro e w1 ⟨rfl, ⟨nd1, hd1⟩⟩
  have B1 : Aside0 (Below W.heap.size W w1) := ⟨by rw [hd1]; exact pw_below_drewN (Below.refl _ _) nd1⟩
  clear hd1
  go_wp2_with fail
  refine (G2.out w1 (Kd.C_below HD2.out B1.out)).mono ?_
  rintro e w2 ⟨rfl, ⟨nd2, hd2⟩⟩
  have B2 : Aside0 (Below W.heap.size W w2) := ⟨by rw [hd2]; exact pw_below_drewN B1.out nd2⟩
  clear hd2 B1
  by_cases hlarge : 16384 < n
  · have hl' : (n : Int) > 16384 := by omega
    go_wp2_with fail
    go_ret3
    have hF := HF.out
    rw [if_pos hlarge] at hF
    rw [hF]
    exact ⟨none, rfl, Kd.C_nil _ _, fun ad e => by simp at e, B2.out⟩
  have nl' : ¬ ((n : Int) > 16384) := by omega
  by_cases hshort : l.length - 8 < n
  · have hs' : (l.length : Int) - 8 < (n : Int) := by omega
    go_wp2_with fail
    go_ret3
    have hF := HF.out
    rw [if_neg hlarge, if_pos hshort] at hF
    rw [hF]
    exact ⟨none, rfl, Kd.C_nil _ _, fun ad e => by simp at e, B2.out⟩
  have ns' : ¬ ((l.length : Int) - 8 < (n : Int)) := by omega
  have cut3 : ∀ w : World, (Instr.slice 22 (.slice A l.length c) (some (.int .i64 8)) (some (.int .i64 (8 + (n : Int)))) none).run Try.prog w = .ok (.slice (if c = 8 then A else A.map (·.add 8)) n (c - 8)) w := by
    have := cut_mid (P := Try.prog) 22 5 .i64 .i64 Try.underlying22 hi0 1 hsz A l.length c 8 (8 + (n : Int)) (by omega) (by omega) (by omega) hc
    rw [show (8 + (n : Int)).toNat - (8 : Int).toNat = n by omega] at this
    exact this
  have hbd : body l = (l.take (8 + n)).drop 8 := by unfold body; rw [hn]
  have hbl : (body l).length = n := by rw [hbd, List.length_drop, List.length_take]; omega
  have D3 := Aside0.mk (Kd.C_mid (lo := 8) (hi := 8 + n) HC.out (by omega) (by omega) hc)
  rw [← hbd, show 8 * (Kd.int .u8).sz = 8 from rfl] at D3
  have hA3 : Aside0 ((if c = 8 then A else A.map (·.add 8)) = none → c - 8 = 0) := ⟨fun e => by
    obtain ⟨ad, ea, _⟩ := HC.out.2.2 (by omega)
    subst ea
    split at e <;> simp at e⟩
  generalize (if c = 8 then A else A.map (·.add 8)) = A3 at D3 cut3 hA3
  have hBb : Bytes (body l) := by rw [hbd]; exact bytes_drop (bytes_take hB _) 8
  have S1 := Aside0.mk (sum_eq (one_parts hBb (by omega)) (n + 30) (by simp; omega))
  have SL := sumN_lt (one_parts hBb (by omega))
  have CL := Aside0.mk (fun (w : World) h => clone_calls A3 (c - 8) (body l) w h hA3.out (by omega))
  have K := Aside0.mk (crc_Sum.calls _ (some ⟨w2.heap.size, 0, none⟩) 1 [body l] _ _ (row1 w2 A3 (c - 8) (body l) (Kd.C_below D3.out B2.out) (by omega)) (by simp) S1.out)
  have HB := Aside0.mk hbl
  rw [hbl] at K CL D3
  generalize hs : sumN [body l] = s at *
  have w64 : IntKind.u64.wrap (s : Int) = (s : Int) := u64_in (by omega) (by omega)
  clear hbd hbl S1 hi0 hsz cut1 cut2 G1 G2 hs
  go_wp2_with fail
  refine K.out.mono ?_
  rintro e w3 ⟨rfl, ⟨nd3, hd3⟩⟩
  have B3 : Aside0 (Below W.heap.size W w3) := ⟨by rw [hd3]; exact pw_below_drewN (below_alloc B2.out _) nd3⟩
  clear hd3 K B2
  by_cases hsum : s = q
  · subst hsum
    go_wp2_with fail
    refine (CL.out w3 (Kd.C_below D3.out B3.out)).mono ?_
    rintro e w4 ⟨v, rfl, ho, hb4⟩
    have B4 : Aside0 (Below W.heap.size W w4) := ⟨below_step B3.out hb4⟩
    obtain ⟨A4, c4, hv, hc4, hC4, hn4⟩ := OwnB.reads ho (by have := HB.out; omega)
    rw [HB.out] at hv
    subst hv
    have D4 := Aside0.mk hC4
    have LC := Aside0.mk (own_loc ho)
    have N4 := Aside0.mk hn4
    rw [HB.out] at hc4 D4
    clear ho hb4 hC4 hn4
    go_wp2_with fail
    refine (clip_calls A4 n c4 w4 hc4 (fun e => by have := N4.out e; omega)).mono ?_
    rintro e w5 ⟨rfl, rfl⟩
    go_wp2_with fail
    go_ret3
    have hF := HF.out
    rw [if_neg hlarge, if_neg hshort, if_pos trivial] at hF
    rw [hF]
    refine ⟨A4, ?_, ?_, fun ad e => ⟨Nat.le_trans B3.out.size (LC.out ad e).1, (LC.out ad e).2⟩, B4.out⟩
    · show _ = Ending.returned (.tuple #[.slice A4 (body l).length (body l).length, .int .i64 ((8 + n : Nat) : Int), .int .i64 ((0 : Nat) : Int)])
      rw [HB.out]
      rfl
    · show (Kd.int .u8).C _ A4 (body l).length (body l)
      rw [HB.out]
      exact D4.out
  · have hs' : ¬ ((s : Int) = (q : Int)) := by omega
    go_wp2_with fail
    go_ret3
    have hF := HF.out
    rw [if_neg hlarge, if_neg hshort, if_neg hsum] at hF
    rw [hF]
    exact ⟨none, rfl, Kd.C_nil _ _, fun ad e => by simp at e, B3.out⟩
end Go.Proofs.Ytdabjklbmmnlkaa.FirstW
