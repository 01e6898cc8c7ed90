/- The reference's fields as texts, and its reader, walked. No condition. -/
import Derived.Test.YtnfajlnpmndkdaaShortW
namespace Go.Proofs.Ytnfajlnpmndkdaa.RefW
set_option linter.unusedVariables false
set_option linter.unusedSimpArgs false
open Go.RowKit Go.Proofs.Ytnfajlnpmndkdaa.PAll Go.Proofs.Ytnfajlnpmndkdaa.Nums Go.Proofs.Ytnfajlnpmndkdaa.PackM Go.Proofs.Ytnfajlnpmndkdaa.TurnM Go.Proofs.Ytnfajlnpmndkdaa.Libs Go.Proofs.Ytnfajlnpmndkdaa.StrW Go.Proofs.Ytnfajlnpmndkdaa.WriteW Go.Proofs.Ytnfajlnpmndkdaa.ReadW Go.Proofs.Ytnfajlnpmndkdaa.ReadX Go.Proofs.Ytnfajlnpmndkdaa.DigW Go.Proofs.YtnfajlnpmndkdaaW.PrintWords Go.Proofs.YtnfajlnpmndkdaaW.PrintLast Go.Proofs.YtnfajlnpmndkdaaW.PrintMore
theorem rnum_calls (n : Nat) (w : World) (hn : n < 18446744073709551616) : Calls Try.prog 19 #[.int .u64 n] w fun e w' => e = .returned (.string (strOfNums (packN n))) ∧ Below w.heap.size w w' := by
  have P := Aside0.mk (rpack_eq 12 n hn (by omega))
  go_enter Try.func19, Try.ntmps19
  go_wp2_with fail
  (with_reducible refine (chartularyref01_Pack.calls 12 n _ w P.out).mono ?_)
  rintro e w1 ⟨v, rfl, hR, hb1⟩
  obtain ⟨A, c, rfl, hc, hC⟩ := Kd.R_reads hR
  have cv : (convert 24 9 (.slice A (packN n).length c)).run Try.prog w1 = .ok (.string (strOfNums (packN n))) w1 := string_of_reads (P := Try.prog) Try.underlying24 Try.underlying5 Try.underlying9 (c := c) (Kd.reads_of_C (d := (0 : Int)) (h1 := fun _ => rfl) hC)
  have B1 := Aside0.mk hb1
  clear hR hb1 hC
  go_wp2_with fail
  go_ret
  exact ⟨by simp, B1.out⟩
theorem rint_calls (a : Int) (w : World) (a0 : -9223372036854775808 ≤ a) (a1 : a < 9223372036854775808) : Calls Try.prog 21 #[.int .i64 a] w fun e w' => e = .returned (.string (strOfNums (packN (zig a).toNat))) ∧ Below w.heap.size w w' := by
  have hz := zig_range a0 a1
  have K := fun w => rnum_calls (zig a).toNat w (by omega)
  rw [show ((zig a).toNat : Int) = zig a by omega] at K
  have HK := Aside0.mk K
  have Z := Aside0.mk (rzig_eq a0 a1)
  clear K hz
  go_enter Try.func21, Try.ntmps21
  go_wp2_with fail
  (with_reducible refine (chartularyref01_Zig.calls a (zig a) w Z.out).mono ?_)
  rintro e w1 ⟨rfl, ⟨nd, rfl⟩⟩
  go_wp2_with fail
  (with_reducible refine (HK.out _).mono ?_)
  rintro e w2 ⟨rfl, hb2⟩
  have B2 := Aside0.mk (below_step (pw_below_drewN (Below.refl _ _) nd) hb2)
  clear hb2
  go_wp2_with fail
  go_ret
  exact ⟨by simp, B2.out⟩
theorem rflag_calls (b : Bool) (w : World) : Calls Try.prog 22 #[.bool b] w fun e w' => e = .returned (.string (strOfNums (flagN b))) ∧ w' = w := by
  cases b
  all_goals
    go_enter Try.func22, Try.ntmps22
    go_wp2
    go_ret
    exact ⟨rfl, rfl⟩
theorem rtext_calls (s : ByteArray) (w : World) (hs : s.size ≤ 140737488355328) : Calls Try.prog 23 #[.string s] w fun e w' => e = .returned (.string (strOfNums (textN s))) ∧ Below w.heap.size w w' := by
  have w1 : IntKind.u64.wrap (s.size : Int) = (s.size : Int) := u64_in (by omega) (by omega)
  have K := Aside0.mk (rnum_calls s.size w (by omega))
  have hl := packN_length (n := s.size) (by omega)
  have hsz : ¬ 9223372036854775807 < (strOfNums (packN s.size)).size + s.size := by rw [strN_size]; omega
  have HE : Aside0 (strOfNums (packN s.size) ++ s = strOfNums (textN s)) := ⟨by
    conv => lhs; rhs; rw [← str_nums s]
    rw [str_append]; rfl⟩
  go_enter Try.func23, Try.ntmps23
  go_wp2_with fail
  (with_reducible refine K.out.mono ?_)
  rintro e w2 ⟨rfl, hb2⟩
  have B2 := Aside0.mk hb2
  clear hb2
  go_wp2_with fail
  go_ret
  exact ⟨by rw [← HE.out]; rfl, B2.out⟩
theorem dig_cell {w : World} {g : Nat} {D : List Int} {t : TypeId} {fr : Nat × Nat} (h : w.heap[g]? = some (.cells (nums .u8 D).toArray t fr)) (i : Nat) (hi : i < D.length) : w.cell? ⟨g, i, none⟩ = some (.int .u8 (rd D (i : Int))) := by
  rw [cell_of_row w g i _ t fr h]
  unfold nums
  simp [hi, rd_get hi]
set_option maxHeartbeats 2000000 in
set_option maxRecDepth 100000 in
theorem rdig_calls (D : List Int) (hD : D.length = 32) (hB : Bytes D) (w : World) : Calls Try.prog 25 #[digV D] w fun e w' => e = .returned (.string (strOfNums D)) ∧ Below w.heap.size w w' := by
  have H0 := blk_new w (.cells (nums .u8 D).toArray 41)
  unfold digV
  have HB := Aside0.mk hB
  go_enter Try.func25, Try.ntmps25
  go_wp2_with fail
  go_loopw [3, 4] (fun v3 v4 wr => ∃ i : Nat, i ≤ 32 ∧ v4 = .int .i64 (i : Int) ∧ v3 = .string (strOfNums (D.take i)) ∧ Below (w.heap.size + 1) (w.alloc (.cells (nums .u8 D).toArray 41)) wr) (fun _ v4 _ => 32 - (intOf v4).toNat)
  case atStart => exact ⟨0, by omega, rfl, rfl, Below.refl _ _⟩
  case round =>
    obtain ⟨i, hi, rfl, rfl, hb⟩ := hrel
    have B := Aside0.mk hb
    have hcellA : wr.heap[w.heap.size]? = some (.cells (nums .u8 D).toArray 41 (0, 0)) := by rw [hb.block _ (Nat.lt_succ_self _)]; exact H0
    by_cases hlt : i < 32
    · have hcell := dig_cell hcellA i (by omega)
      have hzb := rd_byte HB.out i
      have hst : Aside0 (strOfNums (D.take i) ++ strOfNums [rd D (i : Int)] = strOfNums (D.take (i + 1))) := ⟨by rw [str_append, PackM.take_succ (by omega)]⟩
      generalize rd D (i : Int) = z at *
      have cv : (convert 24 9 (.slice (some ⟨wr.heap.size, 0, none⟩) 1 1)).run Try.prog (wr.alloc (.cells #[.int .u8 z] 5)) = .ok (.string (strOfNums [z])) (wr.alloc (.cells #[.int .u8 z] 5)) :=
        string_of_reads (P := Try.prog) Try.underlying24 Try.underlying5 Try.underlying9 (c := 1) (Kd.reads_of_C (d := (0 : Int)) (h1 := fun _ => rfl) (C_lit (l := [z]) (by simp) (blk_new wr _)))
      have hsz : ¬ 9223372036854775807 < (strOfNums (D.take i)).size + (strOfNums [z]).size := by rw [strN_size, strN_size, List.length_take]; simp; omega
      clear hcellA hb
      go_wp2_with fail
      go_roundw
      case rel => exact ⟨i + 1, by omega, by go_num, by rw [hst.out], by exact B.out.alloc (by have := B.out.size; have h2 : (w.alloc (Obj.cells (nums .u8 D).toArray 41)).heap.size = w.heap.size + 1 := (by show (w.heap.push _).size = _; simp); omega) _⟩
      case measure => simp [intOf]; omega
    · obtain rfl : i = 32 := by omega
      have HT : Aside0 (D.take 32 = D) := ⟨List.take_of_length_le (by omega)⟩
      clear hcellA hb
      go_wp2_with fail
      go_ret
      exact ⟨by simp [HT.out], (below_alloc (Below.refl _ _) _).trans (B.out.mono (Nat.le_succ _))⟩
/-! ### the reader -/
theorem specU_bad (b : List Int) : ∀ d, (specU b d).2.2 ≠ 0 → (specU b d).1 = 0 ∧ (specU b d).2.1 = 0
  | 0, h => by
    rw [specU] at *
    by_cases h1 : b.length ≤ 9
    · rw [if_pos h1]; exact ⟨rfl, rfl⟩
    · rw [if_neg h1] at h ⊢
      by_cases h2 : rd b 9 > 1
      · rw [if_pos h2]; exact ⟨rfl, rfl⟩
      · rw [if_neg h2] at h ⊢
        unfold lastU at *
        by_cases h3 : 0 < 9 ∧ rd b ((9 : Nat) : Int) = 0
        · rw [if_pos h3]; exact ⟨rfl, rfl⟩
        · rw [if_neg h3] at h; exact absurd rfl h
  | d + 1, h => by
    have ih := specU_bad b d
    rw [specU] at *
    by_cases h1 : b.length ≤ 8 - d
    · rw [if_pos h1]; exact ⟨rfl, rfl⟩
    · rw [if_neg h1] at h ⊢
      by_cases h2 : rd b ((8 - d : Nat) : Int) ≥ 128
      · rw [if_pos h2] at h ⊢
        exact ih h
      · rw [if_neg h2] at h ⊢
        unfold lastU at *
        by_cases h3 : 0 < 8 - d ∧ rd b ((8 - d : Nat) : Int) = 0
        · rw [if_pos h3]; exact ⟨rfl, rfl⟩
        · rw [if_neg h3] at h; exact absurd rfl h
/-- The reference's reader at a block. -/
def RRd (w : World) (g : Nat) (l : List Int) (e : Int) : Prop := w.heap[g]? = some (.cells #[.string (strOfNums l), .int .i64 e] 55 (0, 0))
theorem rrd_s {w : World} {g : Nat} {l : List Int} {e : Int} (h : RRd w g l e) : w.cell? ⟨g, 0, none⟩ = some (.string (strOfNums l)) := by simpa using blk_cell h 0
theorem rrd_e {w : World} {g : Nat} {l : List Int} {e : Int} (h : RRd w g l e) : w.cell? ⟨g, 1, none⟩ = some (.int .i64 e) := by simpa using blk_cell h 1
theorem rrd_setE {w : World} {g : Nat} {l : List Int} {e : Int} (h : RRd w g l e) (er : Int) : RRd (w.setCell ⟨g, 1, none⟩ (.int .i64 er)) g l er := blk_set h 1 _
theorem rrd_setS {w : World} {g : Nat} {l : List Int} {e : Int} (h : RRd w g l e) (m : List Int) : RRd (w.setCell ⟨g, 0, none⟩ (.string (strOfNums m))) g m e := blk_set h 0 _
theorem RRd.below {w w' : World} {g : Nat} {l : List Int} {e : Int} (h : RRd w g l e) (hb : Below w.heap.size w w') : RRd w' g l e := (hb.block g (heap_lt h)).trans h
theorem rrd_grown {w w' : World} {g : Nat} {l : List Int} {e : Int} {row : Option Nat} (h : RRd w g l e) (hg : w.grownBy w' row) (hn : some g ≠ row) : RRd w' g l e := (hg.block g (heap_lt h) hn).trans h
theorem cut_str (l : List Int) (u : Nat) (hu : u ≤ l.length) (w : World) : (Instr.slice 9 (.string (strOfNums l)) (some (.int .i64 (u : Int))) none none).run Try.prog w = .ok (.string (strOfNums (l.drop u))) w := by
  have h := run_slice_string_l (P := Try.prog) (w := w) 9 (strOfNums l) Try.underlying9 .i64 (u : Int) (by omega) (by rw [strN_size]; omega)
  rw [h, Int.toNat_natCast, str_extract, strN_size, List.take_of_length_le (Nat.le_refl _)]
theorem cut_str_to (l : List Int) (u : Nat) (hu : u ≤ l.length) (w : World) : (Instr.slice 9 (.string (strOfNums l)) none (some (.int .i64 (u : Int))) none).run Try.prog w = .ok (.string (strOfNums (l.take u))) w := by
  have h := run_slice_string_h (P := Try.prog) (w := w) 9 (strOfNums l) Try.underlying9 .i64 (u : Int) (by omega) (by rw [strN_size]; omega)
  rw [h, Int.toNat_natCast, str_extract, List.drop_zero]
set_option maxHeartbeats 2000000 in
set_option maxRecDepth 100000 in
theorem rnumR_calls (g : Nat) (l : List Int) (e : Int) (w : World) (hR : RRd w g l e) (hB : Bytes l) (hl : l.length ≤ 140737488355328) :
    Calls Try.prog 26 #[.pointer (some ⟨g, 0, none⟩)] w fun x w' => x = .returned (.int .u64 (numR l e).1) ∧ RRd w' g (numR l e).2.1 (numR l e).2.2 ∧ w.grownBy w' (some g) := by
  have c1 := rrd_s hR
  have c2 := rrd_e hR
  have hfr0 := blk_frozen hR 0
  have hfr1 := blk_frozen hR 1
  have HR := Aside0.mk hR
  clear hR
  by_cases he : e = 0
  · subst he
    have hsz := strN_size l
    obtain ⟨c, w1, hcv, hc, hC, hb1, hs1⟩ := conv_bytes w (strOfNums l)
    rw [nums_str hB, hsz] at hC
    rw [hsz] at hc hcv
    have U := Aside0.mk (runpack_eq hB (by omega) 30 (by omega))
    have HN : Aside0 (numR l 0 = if (specU l 9).2.2 = 0 then ((specU l 9).1, l.drop (specU l 9).2.1.toNat, 0) else (0, l, (specU l 9).2.2)) := ⟨by unfold numR; rw [if_pos rfl]⟩
    have hok := fun h => specU_ok hB 9 (by omega) h
    have hbad := specU_bad l 9
    have C := Aside0.mk (hC (by omega))
    have B1 := Aside0.mk hb1
    clear hC hb1
    generalize specU l 9 = s at *
    obtain ⟨n, u, er⟩ := s
    have hcut : ∃ u' : Nat, u = (u' : Int) ∧ u' ≤ l.length := by
      by_cases h : er = 0
      · obtain ⟨n', u', h1, h2, h3, h4, _⟩ := hok h
        exact ⟨u', h2, h4⟩
      · have := hbad h
        have h2 : u = 0 := this.2
        exact ⟨0, h2, by omega⟩
    obtain ⟨u', rfl, hu'⟩ := hcut
    have hcut1 : ∀ w : World, (Instr.slice 9 (.string (strOfNums l)) (some (.int .i64 (u' : Int))) none none).run Try.prog w = .ok (.string (strOfNums (l.drop u'))) w := cut_str l u' hu'
    have hN2 : numR l 0 = (n, l.drop u', er) := by
      rw [HN.out]
      by_cases h : er = 0
      · subst h; simp
      · obtain ⟨h1, h2⟩ := hbad h
        have h1' : n = 0 := h1
        have h2' : (u' : Int) = 0 := h2
        obtain rfl : u' = 0 := by omega
        rw [if_neg h, h1']
        rfl
    have HN2 := Aside0.mk hN2
    have R1 := Aside0.mk (HR.out.below B1.out)
    have c3 := rrd_s R1.out
    have hfr3 := blk_frozen R1.out 0
    have hfr4 := blk_frozen R1.out 1
    clear hN2 HN hok hbad hfr0 hfr1 hsz
    go_enter Try.func26, Try.ntmps26
    go_wp2_with fail
    with_reducible refine (chartularyref01_Unpack.calls 30 _ c l _ _ _ w1 C.out hc U.out).mono ?_
    rintro x w2 ⟨rfl, ⟨nd, hd⟩⟩
    have hb2 : Below w1.heap.size w1 w2 := by rw [hd]; exact pw_below_drewN (Below.refl _ _) nd
    clear hd
    have R2 := Aside0.mk (R1.out.below hb2)
    have c4 := rrd_s R2.out
    have c5 := rrd_e R2.out
    have hfr5 := blk_frozen R2.out 0
    have hfr6 := blk_frozen R2.out 1
    have G2 := Aside0.mk (ReadW.grown_of_below (below_step B1.out hb2) (some g))
    clear hb2 c3 hfr3 hfr4 hcv
    go_wp2_with fail
    go_ret
    rw [HN2.out]
    exact ⟨by simp, rrd_setS (rrd_setE R2.out er) _, grown_trans (grown_trans G2.out (grown_set _ _ _ _)) (grown_set _ _ _ _)⟩
  · have HN := Aside0.mk (numR_bad (l := l) he)
    go_enter Try.func26, Try.ntmps26
    go_wp2_with fail
    go_ret
    rw [HN.out]
    exact ⟨by simp, HR.out, World.grownBy.refl _ _⟩
end Go.Proofs.Ytnfajlnpmndkdaa.RefW
