/- FrameScans, walked: all frames that any bytes begin with. Condition: at most 1048576 bytes. -/
import Derived.Test.YtdabjklbmmnlkaaRefLaw
namespace Go.Proofs.Ytdabjklbmmnlkaa.ScansW
set_option linter.unusedVariables false
set_option linter.unusedSimpArgs false
open Go.RowKit Go.Proofs.Ytdabjklbmmnlkaa.PAll Go.Proofs.Ytdabjklbmmnlkaa.PAll.Rf Go.Proofs.Ytdabjklbmmnlkaa.Nums Go.Proofs.Ytdabjklbmmnlkaa.CrcM Go.Proofs.Ytdabjklbmmnlkaa.SumM Go.Proofs.Ytdabjklbmmnlkaa.PutM Go.Proofs.Ytdabjklbmmnlkaa.Libs Go.Proofs.Ytdabjklbmmnlkaa.PutW Go.Proofs.Ytdabjklbmmnlkaa.FirstW Go.Proofs.Ytdabjklbmmnlkaa.ScanW Go.Proofs.Ytdabjklbmmnlkaa.Awake Go.Proofs.Ytdabjklbmmnlkaa.StrW Go.Proofs.Ytdabjklbmmnlkaa.RefLaw Go.Proofs.YtdabjklbmmnlkaaW.PrintWords Go.Proofs.YtdabjklbmmnlkaaW.PrintLast Go.Proofs.YtdabjklbmmnlkaaW.PrintMore
/-- As many frames as bytes, at the most. -/
theorem scanF_count : ∀ (k : Nat) (l : List Int), (scanF k l).1.length ≤ l.length ∧ (scanF k l).2 ≤ l.length
  | 0, l => by simp [scanF]
  | k + 1, l => by
    rw [scanF]
    by_cases h : (firstR l).2.2 = 0
    · have h1 := first_ok h
      have h2 := scanF_count k (l.drop (firstR l).2.1)
      rw [List.length_drop] at h2
      rw [if_pos h]
      simp only [List.length_cons]
      omega
    · rw [if_neg h]; simp
/-- An element of a row of rows. -/
theorem row_at {w : World} {A : Option Addr} {n : Nat} {ls : List (List Int)} (h : (Kd.slice 5 (Kd.int .u8)).C w A n ls) (i : Nat) (hi : i < ls.length) :
    ∃ ad A0 c0, A = some ad ∧ w.cell? (ad.add i) = some (.slice A0 ls[i].length c0) ∧ ls[i].length ≤ c0 ∧ (Kd.int .u8).C w A0 ls[i].length ls[i] := by
  obtain ⟨ad, e, hc⟩ := h.2.2 (by rw [h.1.symm]; omega)
  obtain ⟨cs, h1, ⟨A0, c0, h2, h3, h4⟩, h5⟩ := hc i ls[i] (List.getElem?_eq_getElem hi)
  subst h2
  have := h5 0 _ rfl
  exact ⟨ad, A0, c0, e, by simpa [Kd.slice] using this, h3, h4⟩
theorem text_at {w : World} {A : Option Addr} {n : Nat} {ls : List ByteArray} (h : Kd.string.C w A n ls) (i : Nat) (hi : i < ls.length) :
    ∃ ad, A = some ad ∧ w.cell? (ad.add i) = some (.string ls[i]) := by
  obtain ⟨ad, e, hc⟩ := h.2.2 (by rw [h.1.symm]; omega)
  obtain ⟨cs, h1, h2, h5⟩ := hc i ls[i] (List.getElem?_eq_getElem hi)
  have h2' : cs = [.string ls[i]] := h2
  subst h2'
  have := h5 0 _ rfl
  exact ⟨ad, e, by simpa [Kd.string, Kd.scalar] using this⟩
set_option maxHeartbeats 4000000 in
set_option maxRecDepth 100000 in
theorem scans_calls (A : Option Addr) (c : Nat) (l : List Int) (W : World) (hC : (Kd.int .u8).C W A l.length l) (hc : l.length ≤ c) (hB : Bytes l) (hl : l.length ≤ 1048576) :
    Calls Try.prog 4 #[.slice A l.length c] W fun e w' => e = .returned (.bool true) ∧ Below W.heap.size W w' := by
  have hcount := scanF_count (l.length + 1) l
  have S1 := Aside0.mk (scan_calls A c l W hC hc hB (by omega) (by unfold scanR; omega))
  have HR : chartularyref11_Scan.f (l.length + 1) (strOfNums l) = some ((scanR l).1.map strOfNums, ((scanR l).2 : Int)) := by
    have := scan_law (strOfNums l) (by rw [strN_size]; omega) (l.length + 1) (l.length + 1) 0 [] (by omega) (by rw [strN_size]; omega) (by omega) (by simp; omega)
    rw [nums_str hB, List.drop_zero, List.nil_append, Nat.zero_add] at this
    exact this
  have HR' := Aside0.mk HR
  have HC := Aside0.mk hC
  have HN : (scanR l).1.length ≤ 1048576 := by unfold scanR; omega
  have HN2 : (scanR l).2 ≤ 1048576 := by unfold scanR; omega
  clear HR hC hcount hc hB
  generalize scanR l = r at *
  obtain ⟨ls, n⟩ := r
  go_enter Try.func4, Try.ntmps4
  go_wp2_with fail
  refine S1.out.mono ?_
  rintro e w1 ⟨v, rfl, ⟨A1, rfl, hC1⟩, hb1⟩
  have B1 := Aside0.mk hb1
  have C1 := Aside0.mk hC1
  have cv1 : (convert 22 9 (.slice A l.length c)).run Try.prog w1 = .ok (.string (strOfNums l)) w1 := string_of_reads (P := Try.prog) Try.underlying22 Try.underlying5 Try.underlying9 (c := c) (Kd.reads_of_C (d := (0 : Int)) (h1 := fun _ => rfl) (Kd.C_below HC.out hb1))
  clear hb1 hC1 S1
  go_wp2_with fail
  refine (chartularyref11_Scan.calls _ _ _ _ w1 HR'.out).mono ?_
  rintro e w2 ⟨v2, rfl, hR2, hb2⟩
  have B12 := Aside0.mk hb2
  obtain ⟨A2, c2, hv2, hc2, hC2⟩ := Kd.R_reads hR2
  rw [List.length_map] at hv2 hc2 hC2
  subst hv2
  have C2 := Aside0.mk hC2
  have C12 := Aside0.mk (Kd.C_below C1.out hb2)
  clear hb2 hR2 hC2 cv1
  go_wp2_with fail
  refine (awake_calls w2).mono ?_
  rintro e w3 ⟨rfl, hb3⟩
  have B3 := Aside0.mk (below_step (below_step B1.out B12.out) hb3)
  have L3 := Aside0.mk (Kd.C_below C12.out hb3)
  have M3 := Aside0.mk (Kd.C_below C2.out hb3)
  clear hb3 B12 C1 C12 C2
  go_wp2_with fail
  go_loopw [7] (fun v7 wr => ∃ i n : Nat, i ≤ ls.length ∧ v7 = .int .i64 (i : Int) ∧ wr = w3.drewN n) (fun v7 _ => ls.length - (intOf v7).toNat)
  case atStart => exact ⟨0, 0, by omega, rfl, rfl⟩
  case round =>
    obtain ⟨i, nd, hi, rfl, rfl⟩ := hrel
    by_cases hlt : i < ls.length
    · obtain ⟨ad, A0, c0, rfl, hcell, _, hCx⟩ := row_at L3.out i hlt
      obtain ⟨ad2, rfl, hcell2⟩ := text_at M3.out i (by rw [List.length_map]; exact hlt)
      rw [List.getElem_map] at hcell2
      have cv := fun q => string_of_reads (P := Try.prog) (w := w3.drewN q) Try.underlying22 Try.underlying5 Try.underlying9 (c := c0) (Kd.reads_of_C (d := (0 : Int)) (h1 := fun _ => rfl) (Kd.C_below hCx (pw_below_drewN (Below.refl _ _) q)))
      clear hCx
      go_wp2_with fail
      go_quiet (fail)
      go_wp2_with fail
      go_roundw
      case rel => exact ⟨i + 1, _, by omega, by go_num, rfl⟩
      case measure => simp [intOf]; omega
    · go_wp2_with fail
      go_ret
      exact ⟨by simp, pw_below_drewN B3.out nd⟩
end Go.Proofs.Ytdabjklbmmnlkaa.ScansW
namespace Go.Proofs.Ytdabjklbmmnlkaa.Hand
set_option linter.unusedVariables false
open Go.RowKit Go.Proofs.Ytdabjklbmmnlkaa.Nums Go.Proofs.YtdabjklbmmnlkaaW.PrintWords
theorem FrameScans (A0 : Option Addr) (c0 : Nat) (l0 : List Int) (W : World) (hr0 : Kd.C (Kd.int .u8) W A0 l0.length l0) (hc0 : l0.length ≤ c0) (hz0 : A0 = none → c0 = 0) (hm0 : l0.length ≤ maxLen) (hb0 : ∀ x ∈ l0, (Lit.int .u8 x).wf = true) (u0 : l0.length ≤ 1048576) :
    Calls Try.prog 4 #[.slice A0 l0.length c0] W fun e W' => e = .returned (.bool true) ∧ Below W.heap.size W W' :=
  ScansW.scans_calls A0 c0 l0 W hr0 hc0 (bytes_of_wf hb0) u0
end Go.Proofs.Ytdabjklbmmnlkaa.Hand
