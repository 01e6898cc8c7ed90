/- The reader of fields, walked: flags, numbers that are at most another one, texts, the end. No condition. -/
import Derived.Test.YtnfajlnpmndkdaaReadW
import Derived.Outline
namespace Go.Proofs.Ytnfajlnpmndkdaa.ReadX
set_option linter.unusedVariables false
set_option linter.unusedSimpArgs false
open Go.RowKit Go.Proofs.Ytnfajlnpmndkdaa.PAll Go.Proofs.Ytnfajlnpmndkdaa.Nums Go.Proofs.Ytnfajlnpmndkdaa.PackM Go.Proofs.Ytnfajlnpmndkdaa.TurnM Go.Proofs.Ytnfajlnpmndkdaa.Libs Go.Proofs.Ytnfajlnpmndkdaa.StrW Go.Proofs.Ytnfajlnpmndkdaa.WriteW Go.Proofs.Ytnfajlnpmndkdaa.ReadW Go.Proofs.YtnfajlnpmndkdaaW.PrintWords Go.Proofs.YtnfajlnpmndkdaaW.PrintLast Go.Proofs.YtnfajlnpmndkdaaW.PrintMore
/-- What 'Flag' reads. -/
def flagR (l : List Int) (e : Int) : Bool × List Int × Int :=
  if e = 0 then (match l with | [] => (false, [], 3) | b :: r => if b / 2 = 0 then (decide (b = 1), r, 0) else (false, r, 2)) else (false, l, e)
theorem flag_none (w : World) : Calls Try.prog 17 #[.pointer none] w fun x w' => x = .returned (.bool false) ∧ w' = w := by
  go_enter Try.func17, Try.ntmps17
  go_wp2
  go_ret
  exact ⟨rfl, rfl⟩
theorem first_cell {w : World} {A : Option Addr} {b : Int} {r : List Int} (h : (Kd.int .u8).C w A (b :: r).length (b :: r)) : ∃ ad, A = some ad ∧ w.cell? ad = some (.int .u8 b) := by
  obtain ⟨ad, e, hc⟩ := h.2.2 (by simp)
  refine ⟨ad, e, ?_⟩
  subst e
  have := C_cells h 0 (.int .u8 b) (by simp [nums])
  rwa [Addr.add_zero'] at this
set_option maxHeartbeats 2000000 in
set_option maxRecDepth 100000 in
theorem flag_calls (g : Nat) (l : List Int) (e : Int) (w : World) (hR : Rdr w g l e) (hB : Bytes l) (hl : l.length ≤ 140737488355328) :
    Calls Try.prog 17 #[.pointer (some ⟨g, 0, none⟩)] w fun x w' => x = .returned (.bool (flagR l e).1) ∧ Rdr w' g (flagR l e).2.1 (flagR l e).2.2 ∧ w.grownBy w' (some g) := by
  have T := take_calls g 1 l e w hR (by omega) hl
  rw [show ((1 : Nat) : Int) = 1 from rfl] at T
  replace T := Aside0.mk T
  by_cases he : e = 0
  · subst he
    cases l with
    | nil =>
      have HT := takeR_short (n := 1) (l := []) (by simp)
      rw [HT] at T
      have HF : flagR [] 0 = (false, [], 3) := rfl
      clear hR HT
      go_enter Try.func17, Try.ntmps17
      go_wp2_with fail
      (with_reducible refine T.out.mono ?_)
      rintro x w1 ⟨⟨A1, c1, rfl, _, _, _, _⟩, hR1, hg1⟩
      have c2 := err_cell hR1
      have R1 := Aside0.mk hR1
      have G1 := Aside0.mk hg1
      clear hR1 hg1 T
      go_wp2_with fail
      go_ret
      exact ⟨by simp [HF], R1.out, G1.out⟩
    | cons b r =>
      have HT := takeR_ok (n := 1) (l := b :: r) (by simp)
      rw [HT] at T
      have hb := hB b (by simp)
      have HF : Aside0 (flagR (b :: r) 0 = if b / 2 = 0 then (decide (b = 1), r, 0) else (false, r, 2)) := ⟨rfl⟩
      clear hR HT
      have hsh : ¬ ((1 : Int) < 0) := by omega
      go_enter Try.func17, Try.ntmps17
      go_wp2_with fail
      (with_reducible refine T.out.mono ?_)
      rintro x w1 ⟨⟨A1, c1, rfl, _, hC1, _, hbl⟩, hR1, hg1⟩
      obtain ⟨ad, rfl, hcell⟩ := first_cell (r := []) (by simpa using hC1)
      have c2 := err_cell hR1
      have R1 := Aside0.mk hR1
      have G1 := Aside0.mk hg1
      have BL := Aside0.mk (hbl ad rfl)
      clear hR1 hg1 T hC1 hbl
      by_cases h2 : b / 2 = 0
      · rw [if_pos h2] at HF
        by_cases hb1 : b = 1
        all_goals
          have hbb : (b == 1) = decide (b = 1) := by rw [Bool.eq_iff_iff]; simp
          go_wp2_with fail
          go_ret
          rw [HF.out]
          exact ⟨by simp [hb1], R1.out, G1.out⟩
      · rw [if_neg h2] at HF
        have F := Aside0.mk (fail_calls g r 2 w1 R1.out)
        go_wp2_with fail
        (with_reducible refine F.out.mono ?_)
        rintro x w2 ⟨rfl, hR2, hg2⟩
        have c3 := err_cell hR2
        have R2 := Aside0.mk hR2
        have G2 := Aside0.mk (grown_trans G1.out hg2)
        clear hR2 hg2 F c2 hcell
        go_wp2_with fail
        go_ret
        rw [HF.out]
        exact ⟨by simp, R2.out, G2.out⟩
  · have HT := takeR_bad (n := 1) (l := l) he
    rw [HT] at T
    have HF : Aside0 (flagR l e = (false, l, e)) := ⟨by unfold flagR; rw [if_neg he]⟩
    clear hR HT
    go_enter Try.func17, Try.ntmps17
    go_wp2_with fail
    (with_reducible refine T.out.mono ?_)
    rintro x w1 ⟨⟨A1, c1, rfl, _, _, _, _⟩, hR1, hg1⟩
    have c2 := err_cell hR1
    have R1 := Aside0.mk hR1
    have G1 := Aside0.mk hg1
    clear hR1 hg1 T
    go_wp2_with fail
    go_ret
    rw [HF.out]
    exact ⟨by simp, R1.out, G1.out⟩
/-- What 'Count' reads. -/
def countR (most : Int) (l : List Int) (e : Int) : Int × List Int × Int :=
  if (numR l e).2.2 = 0 then (if most < 0 ∨ (numR l e).1 > most then (0, (numR l e).2.1, 17) else ((numR l e).1, (numR l e).2.1, 0)) else (0, (numR l e).2.1, (numR l e).2.2)
theorem count_none (most : Int) (w : World) : Calls Try.prog 32 #[.pointer none, .int .i64 most] w fun x w' => x = .returned (.int .i64 0) ∧ w' = w := by
  go_enter Try.func32, Try.ntmps32
  go_wp2_with fail
  (with_reducible refine (num_none _).mono ?_)
  rintro x w1 ⟨rfl, rfl⟩
  go_wp2_with fail
  go_ret
  exact ⟨by simp, rfl⟩
set_option maxHeartbeats 2000000 in
set_option maxRecDepth 100000 in
theorem count_calls (g : Nat) (most : Int) (l : List Int) (e : Int) (w : World) (hR : Rdr w g l e) (hB : Bytes l) (hl : l.length ≤ 140737488355328) (m0 : -9223372036854775808 ≤ most) (m1 : most < 9223372036854775808) :
    Calls Try.prog 32 #[.pointer (some ⟨g, 0, none⟩), .int .i64 most] w fun x w' => x = .returned (.int .i64 (countR most l e).1) ∧ Rdr w' g (countR most l e).2.1 (countR most l e).2.2 ∧ w.grownBy w' (some g) := by
  have K := Aside0.mk (num_calls g l e w hR hB hl)
  have hz := numR_range hB e
  have HC : countR most l e = if (numR l e).2.2 = 0 then (if most < 0 ∨ (numR l e).1 > most then (0, (numR l e).2.1, 17) else ((numR l e).1, (numR l e).2.1, 0)) else (0, (numR l e).2.1, (numR l e).2.2) := rfl
  generalize numR l e = s at *
  obtain ⟨n, l', e'⟩ := s
  have HCC := Aside0.mk HC
  clear HC
  clear hR
  by_cases he : e' = 0
  · subst he
    by_cases hm : most < 0
    · have HF : Aside0 (countR most l e = (0, l', 17)) := ⟨by rw [HCC.out]; rw [if_pos rfl, if_pos (.inl hm)]⟩
      go_enter Try.func32, Try.ntmps32
      go_wp2_with fail
      (with_reducible refine K.out.mono ?_)
      rintro x w1 ⟨rfl, hR1, hg1⟩
      have F := Aside0.mk (fail_calls g l' 17 w1 hR1)
      have c2 := err_cell hR1
      have R1 := Aside0.mk hR1
      have G1 := Aside0.mk hg1
      clear hR1 hg1 K
      go_wp2_with fail
      (with_reducible refine F.out.mono ?_)
      rintro x w2 ⟨rfl, hR2, hg2⟩
      have R2 := Aside0.mk hR2
      have G2 := Aside0.mk (grown_trans G1.out hg2)
      clear hR2 hg2 F c2
      go_wp2_with fail
      go_ret
      rw [HF.out]
      exact ⟨by simp, R2.out, G2.out⟩
    · have hu : IntKind.u64.wrap most = most := u64_in (by omega) (by omega)
      by_cases hg : n > most
      · have HF : Aside0 (countR most l e = (0, l', 17)) := ⟨by rw [HCC.out]; rw [if_pos rfl, if_pos (.inr hg)]⟩
        go_enter Try.func32, Try.ntmps32
        go_wp2_with fail
        (with_reducible refine K.out.mono ?_)
        rintro x w1 ⟨rfl, hR1, hg1⟩
        have F := Aside0.mk (fail_calls g l' 17 w1 hR1)
        have c2 := err_cell hR1
        have R1 := Aside0.mk hR1
        have G1 := Aside0.mk hg1
        clear hR1 hg1 K
        go_wp2_with fail
        (with_reducible refine F.out.mono ?_)
        rintro x w2 ⟨rfl, hR2, hg2⟩
        have R2 := Aside0.mk hR2
        have G2 := Aside0.mk (grown_trans G1.out hg2)
        clear hR2 hg2 F c2
        go_wp2_with fail
        go_ret
        rw [HF.out]
        exact ⟨by simp, R2.out, G2.out⟩
      · have HF : Aside0 (countR most l e = (n, l', 0)) := ⟨by rw [HCC.out]; rw [if_pos rfl, if_neg (by omega)]⟩
        have hwn : wrap64 n = n := w64_in (by omega) (by omega)
        go_enter Try.func32, Try.ntmps32
        go_wp2_with fail
        (with_reducible refine K.out.mono ?_)
        rintro x w1 ⟨rfl, hR1, hg1⟩
        have c2 := err_cell hR1
        have R1 := Aside0.mk hR1
        have G1 := Aside0.mk hg1
        clear hR1 hg1 K
        go_wp2_with fail
        go_ret
        rw [HF.out]
        exact ⟨by simp, R1.out, G1.out⟩
  · have HF : Aside0 (countR most l e = (0, l', e')) := ⟨by rw [HCC.out]; rw [if_neg he]⟩
    go_enter Try.func32, Try.ntmps32
    go_wp2_with fail
    (with_reducible refine K.out.mono ?_)
    rintro x w1 ⟨rfl, hR1, hg1⟩
    have c2 := err_cell hR1
    have R1 := Aside0.mk hR1
    have G1 := Aside0.mk hg1
    clear hR1 hg1 K
    go_wp2_with fail
    go_ret
    rw [HF.out]
    exact ⟨by simp, R1.out, G1.out⟩
theorem countR_range {l : List Int} (hb : Bytes l) (e : Int) {most : Int} (h0 : 0 ≤ most) : 0 ≤ (countR most l e).1 ∧ (countR most l e).1 ≤ most := by
  have := numR_range hb e
  unfold countR
  split
  · split
    · exact ⟨Int.le_refl _, h0⟩
    · show 0 ≤ (numR l e).1 ∧ (numR l e).1 ≤ most
      omega
  · exact ⟨Int.le_refl _, h0⟩
theorem countR_len (most : Int) (l : List Int) (e : Int) : (countR most l e).2.1.length ≤ l.length := by
  have := numR_len l e
  unfold countR
  split
  · split <;> exact this
  · exact this
/-- What 'Text' reads. -/
def textR (l : List Int) (e : Int) : List Int × List Int × Int := takeR (countR 16384 l e).1.toNat (countR 16384 l e).2.1 (countR 16384 l e).2.2
theorem text_none (w : World) : Calls Try.prog 16 #[.pointer none] w fun x w' => x = .returned (.string ⟨#[]⟩) ∧ w' = w := by
  go_enter Try.func16, Try.ntmps16
  go_wp2_with fail
  (with_reducible refine (count_none _ _).mono ?_)
  rintro x w1 ⟨rfl, rfl⟩
  go_wp2_with fail
  go_ret
  exact ⟨by simp, rfl⟩
theorem text_calls (g : Nat) (l : List Int) (e : Int) (w : World) (hR : Rdr w g l e) (hB : Bytes l) (hl : l.length ≤ 140737488355328) :
    Calls Try.prog 16 #[.pointer (some ⟨g, 0, none⟩)] w fun x w' => x = .returned (.string (strOfNums (textR l e).1)) ∧ Rdr w' g (textR l e).2.1 (textR l e).2.2 ∧ w.grownBy w' (some g) := by
  have K := Aside0.mk (count_calls g 16384 l e w hR hB hl (by omega) (by omega))
  have hz := countR_range hB e (most := 16384) (by omega)
  have hll := countR_len 16384 l e
  unfold textR
  generalize countR 16384 l e = s at *
  obtain ⟨n, l', e'⟩ := s
  have hz0 : 0 ≤ n := hz.1
  have hz1 : n ≤ 16384 := hz.2
  have hll' : l'.length ≤ l.length := hll
  clear hz hll
  obtain ⟨n, rfl⟩ := Int.eq_ofNat_of_zero_le hz0
  rw [Int.toNat_natCast]
  have TK := fun (w1 : World) (h : Rdr w1 g l' e') => take_calls g n l' e' w1 h (by omega) (by omega)
  generalize takeR n l' e' = t at *
  obtain ⟨m, l2, e2⟩ := t
  have TKK := Aside0.mk TK
  clear hR TK
  go_enter Try.func16, Try.ntmps16
  go_wp2_with fail
  (with_reducible refine K.out.mono ?_)
  rintro x w1 ⟨rfl, hR1, hg1⟩
  have T := Aside0.mk (TKK.out w1 hR1)
  have R1 := Aside0.mk hR1
  have G1 := Aside0.mk hg1
  clear hR1 hg1 K
  go_wp2_with fail
  (with_reducible refine T.out.mono ?_)
  rintro x w2 ⟨⟨A2, c2', rfl, _, hC2, _, _⟩, hR2, hg2⟩
  have cv : (convert 24 9 (.slice A2 m.length c2')).run Try.prog w2 = .ok (.string (strOfNums m)) w2 := string_of_reads (P := Try.prog) Try.underlying24 Try.underlying5 Try.underlying9 (c := c2') (Kd.reads_of_C (d := (0 : Int)) (h1 := fun _ => rfl) hC2)
  have R2 := Aside0.mk hR2
  have G2 := Aside0.mk (grown_trans G1.out hg2)
  clear hR2 hg2 T hC2
  go_wp2_with fail
  go_ret
  exact ⟨by simp, R2.out, G2.out⟩
theorem error_none (w : World) : Calls Try.prog 34 #[.pointer none] w fun x w' => x = .returned (.int .i64 1) ∧ w' = w := by
  go_enter Try.func34, Try.ntmps34
  go_wp2
  go_ret
  exact ⟨rfl, rfl⟩
theorem error_calls (g : Nat) (l : List Int) (e : Int) (w : World) (hR : Rdr w g l e) : Calls Try.prog 34 #[.pointer (some ⟨g, 0, none⟩)] w fun x w' => x = .returned (.int .i64 e) ∧ w' = w := by
  have c2 := err_cell hR
  clear hR
  go_enter Try.func34, Try.ntmps34
  go_wp2
  go_ret
  exact ⟨rfl, rfl⟩
theorem end_none (w : World) : Calls Try.prog 18 #[.pointer none] w fun x w' => x = .returned (.int .i64 1) ∧ w' = w := by
  go_enter Try.func18, Try.ntmps18
  go_wp2_with fail
  (with_reducible refine (error_none _).mono ?_)
  rintro x w1 ⟨rfl, rfl⟩
  go_wp2_with fail
  go_ret
  exact ⟨by simp, rfl⟩
/-- What 'End' answers. -/
def endR (l : List Int) (e : Int) : Int := if e = 0 then (if l = [] then 0 else 2) else e
theorem end_calls (g : Nat) (l : List Int) (e : Int) (w : World) (hR : Rdr w g l e) (hl : l.length ≤ 140737488355328) :
    Calls Try.prog 18 #[.pointer (some ⟨g, 0, none⟩)] w fun x w' => x = .returned (.int .i64 (endR l e)) ∧ Rdr w' g l (endR l e) ∧ w.grownBy w' (some g) := by
  have HR := Aside0.mk hR
  have c2 := err_cell hR
  by_cases he : e = 0
  · subst he
    obtain ⟨A, c, h1, h2, h3, h4, h5⟩ := hR
    have c1 : w.cell? ⟨g, 0, none⟩ = some (.slice A l.length c) := by simpa using blk_cell h1 0
    clear h1 h2 h3 h4 h5
    by_cases hn : l = []
    · have HF : Aside0 (endR l 0 = 0) := ⟨by unfold endR; rw [if_pos rfl, if_pos hn]⟩
      have hlen : ¬ ((l.length : Int) > 0) := by rw [hn]; simp
      have E := Aside0.mk (error_calls g l 0 w HR.out)
      clear hn
      go_enter Try.func18, Try.ntmps18
      go_wp2_with fail
      (with_reducible refine E.out.mono ?_)
      rintro x w1 ⟨rfl, rfl⟩
      go_wp2_with fail
      go_ret
      rw [HF.out]
      exact ⟨by simp, HR.out, World.grownBy.refl _ _⟩
    · have HF : Aside0 (endR l 0 = 2) := ⟨by unfold endR; rw [if_pos rfl, if_neg hn]⟩
      have hlen : ((l.length : Int) > 0) := by have := List.length_pos_iff.2 hn; omega
      have F := Aside0.mk (fail_calls g l 2 w HR.out)
      clear hn
      go_enter Try.func18, Try.ntmps18
      go_wp2_with fail
      (with_reducible refine F.out.mono ?_)
      rintro x w1 ⟨rfl, hR1, hg1⟩
      have E := Aside0.mk (error_calls g l 2 w1 hR1)
      have R1 := Aside0.mk hR1
      have G1 := Aside0.mk hg1
      clear hR1 hg1 F c1 c2
      go_wp2_with fail
      (with_reducible refine E.out.mono ?_)
      rintro x w2 ⟨rfl, rfl⟩
      go_wp2_with fail
      go_ret
      rw [HF.out]
      exact ⟨by simp, R1.out, G1.out⟩
  · have HF : Aside0 (endR l e = e) := ⟨by unfold endR; rw [if_neg he]⟩
    have E := Aside0.mk (error_calls g l e w HR.out)
    clear hR
    go_enter Try.func18, Try.ntmps18
    go_wp2_with fail
    (with_reducible refine E.out.mono ?_)
    rintro x w1 ⟨rfl, rfl⟩
    go_wp2_with fail
    go_ret
    rw [HF.out]
    exact ⟨by simp, HR.out, World.grownBy.refl _ _⟩
end Go.Proofs.Ytnfajlnpmndkdaa.ReadX
