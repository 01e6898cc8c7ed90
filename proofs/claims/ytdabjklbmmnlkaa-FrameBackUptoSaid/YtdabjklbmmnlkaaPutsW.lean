/- FramePuts, walked: any bytes as a frame, and the frame that any bytes begin with. No condition. -/
import Derived.Test.YtdabjklbmmnlkaaRefLaw
namespace Go.Proofs.Ytdabjklbmmnlkaa.PutsW
set_option linter.unusedVariables false
set_option linter.unusedSimpArgs false
open Go.RowKit Go.Proofs.Ytdabjklbmmnlkaa.PAll Go.Proofs.Ytdabjklbmmnlkaa.PAll.Rf Go.Proofs.Ytdabjklbmmnlkaa.Nums Go.Proofs.Ytdabjklbmmnlkaa.CrcM Go.Proofs.Ytdabjklbmmnlkaa.SumM Go.Proofs.Ytdabjklbmmnlkaa.PutM Go.Proofs.Ytdabjklbmmnlkaa.Libs Go.Proofs.Ytdabjklbmmnlkaa.PutW Go.Proofs.Ytdabjklbmmnlkaa.FirstW Go.Proofs.Ytdabjklbmmnlkaa.ScanW Go.Proofs.Ytdabjklbmmnlkaa.Awake Go.Proofs.Ytdabjklbmmnlkaa.StrW Go.Proofs.Ytdabjklbmmnlkaa.RefLaw Go.Proofs.YtdabjklbmmnlkaaW.PrintWords Go.Proofs.YtdabjklbmmnlkaaW.PrintLast Go.Proofs.YtdabjklbmmnlkaaW.PrintMore
/-- What frame.Put answers. -/
def putA (l : List Int) : List Int × Int := if l.length ≤ 16384 then (frameN l, 0) else ([], 17)
theorem put_any (A : Option Addr) (c : Nat) (l : List Int) (W : World) (hC : (Kd.int .u8).C W A l.length l) (hc : l.length ≤ c) (hcap : A = none → c = 0) (hB : Bytes l) :
    Calls Try.prog 8 #[.slice A l.length c] W fun e w' => ∃ v, e = .returned (.tuple #[v, .int .i64 (putA l).2]) ∧ OwnB w' W.heap.size v (putA l).1 ∧ Below W.heap.size W w' := by
  unfold putA
  by_cases hl : l.length ≤ 16384
  · rw [if_pos hl]
    exact put_calls A c l W hC hc hcap hB hl
  · rw [if_neg hl]
    refine (put_large A c l.length W (by omega)).mono ?_
    rintro e w' ⟨rfl, hb⟩
    exact ⟨_, rfl, ⟨rfl, .inl ⟨rfl, rfl⟩⟩, hb⟩
theorem rput_eq {l : List Int} (hB : Bytes l) : chartularyref11_Put.f (strOfNums l) = some (strOfNums (putA l).1, (putA l).2) := by
  unfold chartularyref11_Put.f putA
  rw [strN_size]
  by_cases hl : l.length ≤ 16384
  · rw [if_pos hl, if_pos hl, nums_str hB]
  · rw [if_neg hl, if_neg hl]
set_option maxHeartbeats 4000000 in
set_option maxRecDepth 100000 in
theorem puts_calls (A : Option Addr) (c : Nat) (l : List Int) (A2 : Option Addr) (c2 : Nat) (s : List Int) (W : World) (hC : (Kd.int .u8).C W A l.length l) (hc : l.length ≤ c) (hcap : A = none → c = 0) (hB : Bytes l)
    (hC2 : (Kd.int .u8).C W A2 s.length s) (hc2 : s.length ≤ c2) (hB2 : Bytes s) (hs : s.length ≤ 140737488355328) :
    Calls Try.prog 3 #[.slice A l.length c, .slice A2 s.length c2] W fun e w' => e = .returned (.bool true) ∧ Below W.heap.size W w' := by
  have P := Aside0.mk (put_any A c l W hC hc hcap hB)
  have R1 := Aside0.mk (rput_eq hB)
  have R2 := Aside0.mk (first_law (strOfNums s) (by rw [strN_size]; exact hs))
  rw [nums_str hB2] at R2
  have HC := Aside0.mk hC
  have HC2 := Aside0.mk hC2
  have Hc2 := Aside0.mk hc2
  have HB2 := Aside0.mk hB2
  generalize putA l = p at *
  obtain ⟨L, er⟩ := p
  clear hC hc hcap hB hC2 hc2 hB2
  go_enter Try.func3, Try.ntmps3
  go_wp2_with fail
  refine P.out.mono ?_
  rintro e w1 ⟨v, rfl, ho, hb1⟩
  have B1 := Aside0.mk hb1
  have O1 := Aside0.mk ho
  have cv1 : (convert 22 9 (.slice A l.length c)).run Try.prog w1 = .ok (.string (strOfNums l)) w1 := string_of_reads (P := Try.prog) Try.underlying22 Try.underlying5 Try.underlying9 (c := c) (Kd.reads_of_C (d := (0 : Int)) (h1 := fun _ => rfl) (Kd.C_below HC.out hb1))
  clear hb1 ho P
  go_wp2_with fail
  refine (chartularyref11_Put.calls _ _ _ w1 R1.out).mono ?_
  rintro e w2 ⟨rfl, hb2⟩
  have B12 := Aside0.mk hb2
  have B2 := Aside0.mk (below_step B1.out hb2)
  clear hb2 cv1
  go_wp2_with fail
  refine (first_any A2 c2 s w2 (Kd.C_below HC2.out B2.out) Hc2.out HB2.out hs).mono ?_
  rintro e w3 ⟨A3, rfl, hx3, _, hb3⟩
  have B23 := Aside0.mk hb3
  have B13 := Aside0.mk (below_step B12.out hb3)
  have B3 := Aside0.mk (below_step B2.out hb3)
  have X3 := Aside0.mk hx3
  have cv2 : (convert 22 9 (.slice A2 s.length c2)).run Try.prog w3 = .ok (.string (strOfNums s)) w3 := string_of_reads (P := Try.prog) Try.underlying22 Try.underlying5 Try.underlying9 (c := c2) (Kd.reads_of_C (d := (0 : Int)) (h1 := fun _ => rfl) (Kd.C_below HC2.out B3.out))
  clear hb3 hx3
  generalize firstR s = f at *
  obtain ⟨x, n, er2⟩ := f
  go_wp2_with fail
  refine (chartularyref11_First.calls _ _ _ _ w3 R2.out).mono ?_
  rintro e w4 ⟨rfl, hb4⟩
  have B34 := Aside0.mk hb4
  clear hb4 cv2
  go_wp2_with fail
  refine (awake_calls w4).mono ?_
  rintro e w5 ⟨rfl, hb5⟩
  have B35 := Aside0.mk (below_step B34.out hb5)
  have B15 := Aside0.mk (below_step B13.out B35.out)
  have B5 := Aside0.mk (below_step B1.out B15.out)
  have cv3 : (convert 22 9 v).run Try.prog w5 = .ok (.string (strOfNums L)) w5 := own_string (P := Try.prog) Try.underlying22 Try.underlying5 Try.underlying9 (own_move O1.out fun k hk => B15.out.block k (O1.out.lt k hk).2)
  have cv4 : (convert 22 9 (.slice A3 x.length x.length)).run Try.prog w5 = .ok (.string (strOfNums x)) w5 := string_of_reads (P := Try.prog) Try.underlying22 Try.underlying5 Try.underlying9 (c := x.length) (Kd.reads_of_C (d := (0 : Int)) (h1 := fun _ => rfl) (Kd.C_below X3.out B35.out))
  clear hb5
  go_wp2_with fail
  go_ret
  exact ⟨by simp, B5.out⟩
end Go.Proofs.Ytdabjklbmmnlkaa.PutsW
namespace Go.Proofs.Ytdabjklbmmnlkaa.Hand
set_option linter.unusedVariables false
open Go.RowKit Go.Proofs.Ytdabjklbmmnlkaa.Nums Go.Proofs.YtdabjklbmmnlkaaW.PrintWords
theorem FramePuts (A0 : Option Addr) (c0 : Nat) (l0 : List Int) (A1 : Option Addr) (c1 : Nat) (l1 : List Int) (W : World) (hr0 : Kd.C (Kd.int .u8) W A0 l0.length l0) (hc0 : l0.length ≤ c0) (hz0 : A0 = none → c0 = 0) (hm0 : l0.length ≤ maxLen) (hb0 : ∀ x ∈ l0, (Lit.int .u8 x).wf = true) (y0 : l0.length * 1 ≤ 140737488351232)
    (hr1 : Kd.C (Kd.int .u8) W A1 l1.length l1) (hc1 : l1.length ≤ c1) (hz1 : A1 = none → c1 = 0) (hm1 : l1.length ≤ maxLen) (hb1 : ∀ x ∈ l1, (Lit.int .u8 x).wf = true) (y1 : l1.length * 1 ≤ 140737488351232) :
    Calls Try.prog 3 #[.slice A0 l0.length c0, .slice A1 l1.length c1] W fun e W' => e = .returned (.bool true) ∧ Below W.heap.size W W' :=
  PutsW.puts_calls A0 c0 l0 A1 c1 l1 W hr0 hc0 hz0 (bytes_of_wf hb0) hr1 hc1 (bytes_of_wf hb1) (by omega)
end Go.Proofs.Ytdabjklbmmnlkaa.Hand
