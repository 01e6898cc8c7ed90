/- The reference's reader, walked: flags, numbers that are at most another one, texts, digests. No condition. -/
import Derived.Test.YtnfajlnpmndkdaaRefW
import Derived.Outline
namespace Go.Proofs.Ytnfajlnpmndkdaa.RefX
set_option linter.unusedVariables false
set_option linter.unusedSimpArgs false
open Go.RowKit Go.Proofs.Ytnfajlnpmndkdaa.Nums Go.Proofs.Ytnfajlnpmndkdaa.PackM Go.Proofs.Ytnfajlnpmndkdaa.TurnM Go.Proofs.Ytnfajlnpmndkdaa.Libs Go.Proofs.Ytnfajlnpmndkdaa.StrW Go.Proofs.Ytnfajlnpmndkdaa.WriteW Go.Proofs.Ytnfajlnpmndkdaa.ReadW Go.Proofs.Ytnfajlnpmndkdaa.ReadX Go.Proofs.Ytnfajlnpmndkdaa.DigW Go.Proofs.Ytnfajlnpmndkdaa.RefW Go.Proofs.YtnfajlnpmndkdaaW.PrintWords Go.Proofs.YtnfajlnpmndkdaaW.PrintLast Go.Proofs.YtnfajlnpmndkdaaW.PrintMore
theorem str_empty {l : List Int} : ((strOfNums l).toList == (strOfNums []).toList) = decide (l = []) := by
  cases l with
  | nil => simp
  | cons x r =>
    rw [decide_eq_false (by simp), beq_eq_false_iff_ne]
    intro h
    rw [str_toList, str_toList] at h
    simp at h
theorem bt_rd (s : ByteArray) (i : Nat) : bt s (i : Int) = rd (numsOf s) (i : Int) := by
  unfold bt rd numsOf
  by_cases h : i < s.size
  · rw [dif_pos (by simpa using h)]
    simp [List.getD_eq_getElem?_getD, h]
    rfl
  · rw [dif_neg (by simpa using h)]
    simp [List.getD_eq_getElem?_getD, Nat.le_of_not_lt h]
theorem idx_str {l : List Int} (hB : Bytes l) (i : Nat) (hi : i < l.length) (w : World) : (Instr.index 9 (.string (strOfNums l)) (.int .i64 (i : Int))).run Try.prog w = .ok (.int .u8 (rd l (i : Int))) w := by
  have hs := strN_size l
  rw [run_index_string (P := Try.prog) w 9 (strOfNums l) .i64 (i : Int) Try.underlying9, dif_pos (by omega), bt_at, bt_rd, nums_str hB]
set_option maxHeartbeats 2000000 in
set_option maxRecDepth 100000 in
theorem rflagR_calls (g : Nat) (l : List Int) (e : Int) (w : World) (hR : RRd w g l e) (hB : Bytes l) (hl : l.length ≤ 140737488355328) :
    Calls Try.prog 28 #[.pointer (some ⟨g, 0, none⟩)] w fun x w' => x = .returned (.bool (flagR l e).1) ∧ RRd w' g (flagR l e).2.1 (flagR l e).2.2 ∧ w.grownBy w' (some g) := by
  have c1 := rrd_s hR
  have c2 := rrd_e hR
  have hfr0 := blk_frozen hR 0
  have hfr1 := blk_frozen hR 1
  have HR := Aside0.mk hR
  clear hR
  by_cases he : e = 0
  · subst he
    cases l with
    | nil =>
      have hq : (strOfNums []).toList = [] := by decide +kernel
      have HF : flagR [] 0 = (false, [], 3) := rfl
      go_enter Try.func28, Try.ntmps28
      go_wp2_with fail
      go_ret
      rw [HF]
      exact ⟨by simp, rrd_setE HR.out 3, grown_set _ _ _ _⟩
    | cons b r =>
      have hb := hB b (by simp)
      have HF : Aside0 (flagR (b :: r) 0 = if b / 2 = 0 then (decide (b = 1), r, 0) else (false, r, 2)) := ⟨rfl⟩
      have hq : (strOfNums (b :: r)).toList ≠ [] := by rw [str_toList]; simp
      have hq2 : (strOfNums (b :: r)).toList.isEmpty = false := by rw [str_toList]; simp
      have hsz := strN_size (b :: r)
      have hcut := cut_str (b :: r) 1 (by simp)
      rw [show ((1 : Nat) : Int) = 1 from rfl] at hcut
      have hi : ∀ w : World, (Instr.index 9 (.string (strOfNums (b :: r))) (.int .i64 0)).run Try.prog w = .ok (.int .u8 b) w := fun w => idx_str hB 0 (by simp) w
      by_cases h2 : b / 2 = 0
      · have hb1 : ¬ (b > 1) := by omega
        have hbb : (b == 1) = decide (b = 1) := by rw [Bool.eq_iff_iff]; simp
        rw [if_pos h2] at HF
        clear h2
        go_enter Try.func28, Try.ntmps28
        go_wp2_with fail
        go_ret
        rw [HF.out]
        exact ⟨by simp, rrd_setS HR.out r, grown_set _ _ _ _⟩
      · have hb1 : b > 1 := by omega
        have hbb : (b == 1) = false := by rw [beq_eq_false_iff_ne]; omega
        rw [if_neg h2] at HF
        clear h2
        go_enter Try.func28, Try.ntmps28
        go_wp2_with fail
        go_ret
        rw [HF.out]
        exact ⟨by simp, rrd_setE (rrd_setS HR.out r) 2, grown_trans (grown_set _ _ _ _) (grown_set _ _ _ _)⟩
  · have HF : Aside0 (flagR l e = (false, l, e)) := ⟨by unfold flagR; rw [if_neg he]⟩
    go_enter Try.func28, Try.ntmps28
    go_wp2_with fail
    go_ret
    rw [HF.out]
    exact ⟨by simp, HR.out, World.grownBy.refl _ _⟩
set_option maxHeartbeats 2000000 in
set_option maxRecDepth 100000 in
theorem rcount_calls (g : Nat) (most : Int) (l : List Int) (e : Int) (w : World) (hR : RRd w g l e) (hB : Bytes l) (hl : l.length ≤ 140737488355328) (m0 : -9223372036854775808 ≤ most) (m1 : most < 9223372036854775808) :
    Calls Try.prog 33 #[.pointer (some ⟨g, 0, none⟩), .int .i64 most] w fun x w' => x = .returned (.int .i64 (countR most l e).1) ∧ RRd w' g (countR most l e).2.1 (countR most l e).2.2 ∧ w.grownBy w' (some g) := by
  have K := Aside0.mk (rnumR_calls g l e w hR hB hl)
  have hz := numR_range hB e
  have HC : countR most l e = if (numR l e).2.2 = 0 then (if most < 0 ∨ (numR l e).1 > most then (0, (numR l e).2.1, 17) else ((numR l e).1, (numR l e).2.1, 0)) else (0, (numR l e).2.1, (numR l e).2.2) := rfl
  have hnb : (numR l e).2.2 ≠ 0 → (numR l e).1 = 0 := by
    intro h
    unfold numR at *
    split
    · rename_i he
      rw [if_pos he] at h
      split
      · rename_i h2
        rw [if_pos h2] at h
        exact absurd rfl h
      · rfl
    · rfl
  generalize numR l e = s at *
  obtain ⟨n, l', e'⟩ := s
  have HCC := Aside0.mk HC
  clear HC hR
  by_cases he : e' = 0
  · subst he
    by_cases hm : most < 0
    · have HF : Aside0 (countR most l e = (0, l', 17)) := ⟨by rw [HCC.out]; rw [if_pos rfl, if_pos (.inl hm)]⟩
      clear hnb
      go_enter Try.func33, Try.ntmps33
      go_wp2_with fail
      (with_reducible refine K.out.mono ?_)
      rintro x w1 ⟨rfl, hR1, hg1⟩
      have c2 := rrd_e hR1
      have hfr1 := blk_frozen hR1 1
      have R1 := Aside0.mk hR1
      have G1 := Aside0.mk hg1
      clear hR1 hg1 K
      go_wp2_with fail
      go_ret
      rw [HF.out]
      exact ⟨by simp, rrd_setE R1.out 17, grown_trans G1.out (grown_set _ _ _ _)⟩
    · have hu : IntKind.u64.wrap most = most := u64_in (by omega) (by omega)
      by_cases hg : n > most
      · have HF : Aside0 (countR most l e = (0, l', 17)) := ⟨by rw [HCC.out]; rw [if_pos rfl, if_pos (.inr hg)]⟩
        clear hnb
        go_enter Try.func33, Try.ntmps33
        go_wp2_with fail
        (with_reducible refine K.out.mono ?_)
        rintro x w1 ⟨rfl, hR1, hg1⟩
        have c2 := rrd_e hR1
        have hfr1 := blk_frozen hR1 1
        have R1 := Aside0.mk hR1
        have G1 := Aside0.mk hg1
        clear hR1 hg1 K
        go_wp2_with fail
        go_ret
        rw [HF.out]
        exact ⟨by simp, rrd_setE R1.out 17, grown_trans G1.out (grown_set _ _ _ _)⟩
      · have HF : Aside0 (countR most l e = (n, l', 0)) := ⟨by rw [HCC.out]; rw [if_pos rfl, if_neg (by omega)]⟩
        have hwn : wrap64 n = n := w64_in (by omega) (by omega)
        clear hnb
        go_enter Try.func33, Try.ntmps33
        go_wp2_with fail
        (with_reducible refine K.out.mono ?_)
        rintro x w1 ⟨rfl, hR1, hg1⟩
        have c2 := rrd_e hR1
        have R1 := Aside0.mk hR1
        have G1 := Aside0.mk hg1
        clear hR1 hg1 K
        go_wp2_with fail
        go_ret
        rw [HF.out]
        exact ⟨by simp, R1.out, G1.out⟩
  · have hn0 : n = 0 := hnb he
    subst hn0
    have HF : Aside0 (countR most l e = (0, l', e')) := ⟨by rw [HCC.out]; rw [if_neg he]⟩
    clear hnb
    go_enter Try.func33, Try.ntmps33
    go_wp2_with fail
    (with_reducible refine K.out.mono ?_)
    rintro x w1 ⟨rfl, hR1, hg1⟩
    have c2 := rrd_e hR1
    have R1 := Aside0.mk hR1
    have G1 := Aside0.mk hg1
    clear hR1 hg1 K
    go_wp2_with fail
    go_ret
    rw [HF.out]
    exact ⟨by simp, R1.out, G1.out⟩
set_option maxHeartbeats 2000000 in
set_option maxRecDepth 100000 in
theorem rtextR_calls (g : Nat) (l : List Int) (e : Int) (w : World) (hR : RRd w g l e) (hB : Bytes l) (hl : l.length ≤ 140737488355328) :
    Calls Try.prog 29 #[.pointer (some ⟨g, 0, none⟩)] w fun x w' => x = .returned (.string (strOfNums (textR l e).1)) ∧ RRd w' g (textR l e).2.1 (textR l e).2.2 ∧ w.grownBy w' (some g) := by
  have K := Aside0.mk (rcount_calls g 16384 l e w hR hB hl (by omega) (by omega))
  have hz := countR_range hB e (most := 16384) (by omega)
  have hll := countR_len 16384 l e
  have HT : textR l e = takeR (countR 16384 l e).1.toNat (countR 16384 l e).2.1 (countR 16384 l e).2.2 := rfl
  generalize countR 16384 l e = s at *
  obtain ⟨n, l', e'⟩ := s
  have hz0 : 0 ≤ n := hz.1
  have hz1 : n ≤ 16384 := hz.2
  have hll' : l'.length ≤ l.length := hll
  clear hz hll
  obtain ⟨n, rfl⟩ := Int.eq_ofNat_of_zero_le hz0
  rw [Int.toNat_natCast] at HT
  have HTT := Aside0.mk HT
  have hsz := strN_size l'
  clear hR HT
  by_cases he : e' = 0
  · subst he
    by_cases hn : n ≤ l'.length
    · have HF := Aside0.mk (HTT.out.trans (takeR_ok hn))
      have hn' : ¬ ((n : Int) > (l'.length : Int)) := by omega
      have k1 := cut_str l' n hn
      have k2 := cut_str_to l' n hn
      go_enter Try.func29, Try.ntmps29
      go_wp2_with fail
      (with_reducible refine K.out.mono ?_)
      rintro x w1 ⟨rfl, hR1, hg1⟩
      have c1 := rrd_s hR1
      have c2 := rrd_e hR1
      have hfr0 := blk_frozen hR1 0
      have R1 := Aside0.mk hR1
      have G1 := Aside0.mk hg1
      clear hR1 hg1 K
      go_wp2_with fail
      go_ret
      rw [HF.out]
      exact ⟨by simp, rrd_setS R1.out _, grown_trans G1.out (grown_set _ _ _ _)⟩
    · have HF := Aside0.mk (HTT.out.trans (takeR_short hn))
      have hn' : ((n : Int) > (l'.length : Int)) := by omega
      go_enter Try.func29, Try.ntmps29
      go_wp2_with fail
      (with_reducible refine K.out.mono ?_)
      rintro x w1 ⟨rfl, hR1, hg1⟩
      have c1 := rrd_s hR1
      have c2 := rrd_e hR1
      have hfr1 := blk_frozen hR1 1
      have R1 := Aside0.mk hR1
      have G1 := Aside0.mk hg1
      clear hR1 hg1 K
      go_wp2_with fail
      go_ret
      rw [HF.out]
      exact ⟨rfl, rrd_setE R1.out 3, grown_trans G1.out (grown_set _ _ _ _)⟩
  · have HF := Aside0.mk (HTT.out.trans (takeR_bad he))
    go_enter Try.func29, Try.ntmps29
    go_wp2_with fail
    (with_reducible refine K.out.mono ?_)
    rintro x w1 ⟨rfl, hR1, hg1⟩
    have c1 := rrd_s hR1
    have c2 := rrd_e hR1
    have R1 := Aside0.mk hR1
    have G1 := Aside0.mk hg1
    clear hR1 hg1 K
    go_wp2_with fail
    go_ret
    rw [HF.out]
    exact ⟨rfl, R1.out, G1.out⟩
end Go.Proofs.Ytnfajlnpmndkdaa.RefX
