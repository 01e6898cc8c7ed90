/- PackReads, walked: any bytes, read by any fields. No condition. -/
import Derived.Test.YtnfajlnpmndkdaaRefD

namespace Go.Proofs.Ytnfajlnpmndkdaa.ReadsW
set_option linter.unusedVariables false
set_option linter.unusedSimpArgs false
open Go.RowKit Go.Proofs.Ytnfajlnpmndkdaa.Nums Go.Proofs.Ytnfajlnpmndkdaa.PackM Go.Proofs.Ytnfajlnpmndkdaa.TurnM Go.Proofs.Ytnfajlnpmndkdaa.Libs Go.Proofs.Ytnfajlnpmndkdaa.StrW Go.Proofs.Ytnfajlnpmndkdaa.WriteW Go.Proofs.Ytnfajlnpmndkdaa.ReadW Go.Proofs.Ytnfajlnpmndkdaa.ReadX Go.Proofs.Ytnfajlnpmndkdaa.DigW Go.Proofs.Ytnfajlnpmndkdaa.RefW Go.Proofs.Ytnfajlnpmndkdaa.RefX Go.Proofs.Ytnfajlnpmndkdaa.RefD Go.Proofs.Ytnfajlnpmndkdaa.Awake Go.Proofs.Ytnfajlnpmndkdaa.ShortW Go.Proofs.YtnfajlnpmndkdaaW.PrintWords Go.Proofs.YtnfajlnpmndkdaaW.PrintLast Go.Proofs.YtnfajlnpmndkdaaW.PrintMore
theorem C_empty (w : World) (A : Option Addr) : (Kd.int .u8).C w A ([] : List Int).length [] := ⟨rfl, by simp, fun h => by simp at h⟩
/-- What the reference's reader writes does not touch the program's. -/
theorem rdr_beside {w w' : World} {gr gw : Nat} {l l2 : List Int} {e e2 : Int} (h : Rdr w gr l e) (h2 : RRd w gw l2 e2) (hne : gr ≠ gw) (hg : w.grownBy w' (some gw)) : Rdr w' gr l e := by
  obtain ⟨A, c, h1, hc, hC, hz, hb⟩ := h
  refine ⟨A, c, (hg.block gr (heap_lt h1) (fun x => hne (by injection x))).trans h1, hc, ?_, hz, fun ad ha => ⟨(hb ad ha).1, Nat.lt_of_lt_of_le (hb ad ha).2 hg.size⟩⟩
  cases l with
  | nil => exact C_empty w' A
  | cons b r =>
    refine C_moved hC fun ad ha => hg.block _ (hb ad ha).2 (fun x => ?_)
    injection x with x
    obtain ⟨ad', ha', hcell⟩ := first_cell hC
    rw [ha] at ha'
    injection ha' with ha'
    subst ha'
    have h2' : w.heap[gw]? = some (.cells #[.string (strOfNums l2), .int .i64 e2] 55 (0, 0)) := h2
    unfold World.cell? at hcell
    rw [x, h2'] at hcell
    simp only at hcell
    split at hcell
    · simp at hcell
    · match hq : ad.off with
      | 0 => rw [hq] at hcell; simp at hcell
      | 1 => rw [hq] at hcell; simp at hcell
      | n + 2 => rw [hq] at hcell; simp at hcell
theorem zig_zag {u : Int} (h : 0 ≤ u) : zig (zag u) = u := by
  unfold zig zag
  by_cases h2 : u % 2 = 0
  · rw [if_pos h2, if_pos (by omega)]; omega
  · rw [if_neg h2, if_neg (by omega)]; omega
theorem zag_range {u : Int} (h : 0 ≤ u) (h2 : u < 18446744073709551616) : -9223372036854775808 ≤ zag u ∧ zag u < 9223372036854775808 := by
  unfold zag
  split <;> omega
theorem count_bytes {most : Int} {l : List Int} (h : Bytes l) (e : Int) : Bytes (countR most l e).2.1 := by
  have := numR_bytes h e
  unfold countR
  split
  · split <;> exact this
  · exact this
theorem take_bytes {n : Nat} {l : List Int} (h : Bytes l) (e : Int) : Bytes (takeR n l e).2.1 ∧ Bytes (takeR n l e).1 := by
  unfold takeR
  split
  · split
    · exact ⟨fun x hx => h x (List.mem_of_mem_drop hx), fun x hx => h x (List.mem_of_mem_take hx)⟩
    · exact ⟨h, by intro x hx; simp at hx⟩
  · exact ⟨h, by intro x hx; simp at hx⟩
theorem take_len {n : Nat} (l : List Int) (e : Int) : (takeR n l e).2.1.length ≤ l.length := by
  unfold takeR
  split
  · split
    · simp
    · exact Nat.le_refl _
  · exact Nat.le_refl _
theorem dig_bytes {l : List Int} (h : Bytes l) (e : Int) : Bytes (digR l e) := by
  unfold digR
  split
  · exact DigEq.zero_bytes
  · exact (take_bytes h e).2
theorem flag_err (l : List Int) (e : Int) : ((flagR l e).1 == ((flagR l e).1 && decide ((flagR l e).2.2 = 0))) = true := by
  unfold flagR
  split
  · cases l with
    | nil => rfl
    | cons b r => simp only; split <;> simp
  · simp
theorem i64_at {w : World} {A : Option Addr} {zs : List Int} (h : (Kd.int .i64).C w A zs.length zs) (i : Nat) (hi : i < zs.length) : ∃ ad, A = some ad ∧ w.cell? (ad.add i) = some (.int .i64 zs[i]) := by
  obtain ⟨ad, e, hc⟩ := h.2.2 (by omega)
  obtain ⟨cs, h1, h2, h5⟩ := hc i zs[i] (List.getElem?_eq_getElem hi)
  have h2' : cs = [.int .i64 zs[i]] := h2
  subst h2'
  have := h5 0 _ rfl
  exact ⟨ad, e, by simpa [Kd.int, Kd.scalar] using this⟩
theorem dig_same {D : List Int} (hD : D.length = 32) (bD : Bytes D) (w : World) : (Op.equalIn 10000 41 (.agg (nums .u8 D).toArray) (.agg (nums .u8 D).toArray)).run Try.prog w = .ok true w := by
  have := DigEq.dig_eq hD hD bD bD w
  rw [decide_eq_true rfl] at this
  exact this
theorem flag_cases (l : List Int) (e : Int) : (∃ m, flagR l e = (true, m, 0)) ∨ (∃ m e', flagR l e = (false, m, e')) := by
  have h := flag_err l e
  generalize flagR l e = s at *
  obtain ⟨fb, m, e'⟩ := s
  cases fb with
  | false => exact .inr ⟨m, e', rfl⟩
  | true =>
    by_cases he : e' = 0
    · subst he; exact .inl ⟨m, rfl⟩
    · simp [he] at h
/-- What the loop holds. -/
def RelP (W : World) (N n gr gw : Nat) (v9 : Value) (wr : World) : Prop :=
  ∃ (i : Nat) (l : List Int) (e : Int), i ≤ n ∧ i ≤ 60 ∧ v9 = .int .i64 (i : Int) ∧ Aside0 (Bytes l) ∧ l.length ≤ N ∧ Aside0 (Rdr wr gr l e) ∧ Aside0 (RRd wr gw l e) ∧ Aside0 (Below W.heap.size W wr)
set_option maxHeartbeats 4000000 in
set_option maxRecDepth 100000 in
theorem reads_calls (A : Option Addr) (c : Nat) (b : List Int) (A1 : Option Addr) (c1 : Nat) (zs : List Int) (most : Int) (W : World) (hC : (Kd.int .u8).C W A b.length b) (hc : b.length ≤ c) (hz : A = none → c = 0) (hB : Bytes b) (hb : b.length ≤ 140737488351232)
    (hC1 : (Kd.int .i64).C W A1 zs.length zs) (hc1 : zs.length ≤ c1) (hl1 : zs.length ≤ 9223372036854775807) (m0 : -9223372036854775808 ≤ most) (m1 : most < 9223372036854775808) :
    Calls Try.prog 5 #[.slice A b.length c, .slice A1 zs.length c1, .int .i64 most] W fun e w' => e = .returned (.bool true) ∧ Below W.heap.size W w' := by
  have HC := Aside0.mk hC
  have HZ := Aside0.mk hz
  have HB := Aside0.mk hB
  have HC1 := Aside0.mk hC1
  have Hc1 := Aside0.mk hc1
  have OM := Aside0.mk (World.ownsRow_made (base := W.heap.size) (size := 1) (e := 5) W #[] 0 (Nat.le_refl _) (Nat.zero_le _) rfl)
  have C0 := Aside0.mk (Kd.C_below hC (below_alloc (Below.refl W.heap.size W) (.cells #[] 5)))
  have S0 := Aside0.mk (show ([] : List Int).length + b.length ≤ 140737488355328 by simp; omega)
  have B0 := Aside0.mk (below_alloc (Below.refl W.heap.size W) (.cells #[] 5))
  clear hC hz hB hC1 hc1
  go_enter Try.func5, Try.ntmps5
  go_wp2_with (at_builtin; refine wpList_append_bytes rfl (.tmp 12) (.tmp 13) rfl W.heap.size _ [] rfl OM.out A c b rfl C0.out HZ.out S0.out B0.out.size ?_)
  intro v1 w1 ho1 hb1
  have B1 := Aside0.mk (hb1 W B0.out)
  obtain ⟨A5, c5, hv5, hcc5, hC5, hz5⟩ := OwnB.reads ho1 (by omega)
  subst hv5
  have K := Aside0.mk (ReadW.read_calls A5 c5 b w1 hC5 hz5 (by omega))
  clear ho1 hb1 hC5 hz5 hcc5 OM C0 B0
  go_wp2_with fail
  (with_reducible refine K.out.mono ?_)
  rintro e w2 ⟨gr, rfl, hgr, hR2, hb2⟩
  have B2 := Aside0.mk (below_step B1.out hb2)
  have HGR := Aside0.mk (Nat.le_trans B1.out.size hgr)
  have R2 := Aside0.mk hR2
  have cv : (convert 24 9 (.slice A b.length c)).run Try.prog w2 = .ok (.string (strOfNums b)) w2 := string_of_reads (P := Try.prog) Try.underlying24 Try.underlying5 Try.underlying9 (c := c) (Kd.reads_of_C (d := (0 : Int)) (h1 := fun _ => rfl) (Kd.C_below HC.out B2.out))
  have RR2 := Aside0.mk (show RRd (w2.alloc (.cells #[.string (strOfNums b), .int .i64 0] 55)) w2.heap.size b 0 from blk_new w2 _)
  have R3 := Aside0.mk (hR2.below (below_alloc (Below.refl _ _) (.cells #[.string (strOfNums b), .int .i64 0] 55)))
  have B3 := Aside0.mk (below_alloc B2.out (.cells #[.string (strOfNums b), .int .i64 0] 55))
  have HNE := Aside0.mk (show gr ≠ w2.heap.size by have := hR2.lt; omega)
  have HGW := Aside0.mk B2.out.size
  clear hgr hR2 hb2 K
  go_wp2_with fail
  generalize w2.alloc (.cells #[.string (strOfNums b), .int .i64 0] 55) = w3 at *
  generalize w2.heap.size = gw at *
  go_loopw [9] (fun v9 wr => RelP W b.length zs.length gr gw v9 wr) (fun v9 _ => 60 - (intOf v9).toNat)
  case atStart => exact ⟨0, b, 0, by omega, by omega, rfl, HB, Nat.le_refl _, R3, RR2, B3⟩
  case round =>
    obtain ⟨i, l, e, hi, hi60, rfl, HBl, hll, HR, HRR, HBe⟩ := hrel
    by_cases hgo : i < zs.length ∧ i < 60
    · obtain ⟨hlt, h60⟩ := hgo
      have hlb : l.length ≤ 140737488355328 := by omega
      obtain ⟨adk, rfl, hck⟩ := i64_at HC1.out i hlt
      have hcell : wr.cell? (adk.add i) = some (.int .i64 zs[i]) := (HBe.out.cell (World.block_lt_of_cell? W _ hck)).trans hck
      have hne := HNE.out
      have HGWR : Aside0 (some gw ≠ some gr) := ⟨fun x => hne (by injection x with x; exact x.symm)⟩
      have hlw := HRR.out
      generalize zs[i] = k at *
      clear hck hlw
      by_cases hk0 : k = 0
      · subst hk0
        have hlt' := Nat.le_trans (numR_len l e) hll
        have hbt' := Aside0.mk (numR_bytes HBl.out e)
        have KK := Aside0.mk (fun w1 h => rnumR_calls gw l e w1 h HBl.out hlb)
        have K0 := Aside0.mk (fun w1 h => ReadW.num_calls gr l e w1 h HBl.out hlb)
        generalize numR l e = s at *
        have K1 := Aside0.mk (K0.out wr HR.out)
        go_wp2_with fail
        (with_reducible refine K1.out.mono ?_)
        rintro x w1 ⟨rfl, hR1, hg1⟩
        have R1 := Aside0.mk hR1
        have B1 := Aside0.mk (HBe.out.grown hg1 HBe.out.size (fun k hk => by injection hk with hk; subst hk; exact HGR.out))
        have RR1 := Aside0.mk (rrd_grown HRR.out hg1 HGWR.out)
        clear hR1 hg1 K1 hcell
        have K2 := Aside0.mk (KK.out w1 RR1.out)
        go_wp2_with fail
        (with_reducible refine K2.out.mono ?_)
        rintro x w2 ⟨rfl, hRR2, hg2⟩
        have R2 := Aside0.mk (rdr_beside R1.out RR1.out HNE.out hg2)
        have B2 := Aside0.mk (B1.out.grown hg2 B1.out.size (fun k hk => by injection hk with hk; subst hk; exact HGW.out))
        have RR2 := Aside0.mk hRR2
        clear hRR2 hg2 K2
        have hE := Aside0.mk (fun q => error_calls gr s.2.1 s.2.2 (w2.drewN q) (R2.out.below (pw_below_drewN (Below.refl _ _) q)))
        have ce := rrd_e RR2.out
        go_wp2_with fail
        go_quiet ((go_at_call 34; exact Calls.quiet_of_same (hE.out _)))
        go_wp2_with fail
        go_roundw
        case rel => exact ⟨i + 1, s.2.1, s.2.2, by omega, by omega, by go_num, ⟨hbt'.out⟩, hlt', ⟨R2.out.below (pw_below_drewN (Below.refl _ _) _)⟩, ⟨RR2.out.below (pw_below_drewN (Below.refl _ _) _)⟩, ⟨pw_below_drewN B2.out _⟩⟩
        case measure => simp [intOf]; omega
      by_cases hk1 : k = 1
      · subst hk1
        have hlt' := Nat.le_trans (numR_len l e) hll
        have hbt' := Aside0.mk (numR_bytes HBl.out e)
        have hrg := numR_range HBl.out e
        have KK := Aside0.mk (fun w1 h => rnumR_calls gw l e w1 h HBl.out hlb)
        have K0 := Aside0.mk (fun w1 h => ReadW.int_calls gr l e w1 h HBl.out hlb)
        generalize numR l e = s at *
        obtain ⟨n, hn⟩ := Int.eq_ofNat_of_zero_le hrg.1
        have hzr := zag_range hrg.1 hrg.2
        have hzz := zig_zag hrg.1
        have HI := Aside0.mk (fun w => rint_calls (zag s.1) w hzr.1 hzr.2)
        rw [hzz] at HI
        have HNN := Aside0.mk (fun w => rnum_calls s.1.toNat w (by omega))
        have hsn : ((s.1.toNat : Nat) : Int) = s.1 := by omega
        rw [hsn] at HNN
        clear hrg hn hzr hzz hsn
        have K1 := Aside0.mk (K0.out wr HR.out)
        go_wp2_with fail
        (with_reducible refine K1.out.mono ?_)
        rintro x w1 ⟨rfl, hR1, hg1⟩
        have R1 := Aside0.mk hR1
        have B1 := Aside0.mk (HBe.out.grown hg1 HBe.out.size (fun k hk => by injection hk with hk; subst hk; exact HGR.out))
        have RR1 := Aside0.mk (rrd_grown HRR.out hg1 HGWR.out)
        clear hR1 hg1 K1 hcell
        go_wp2_with fail
        (with_reducible refine (HI.out _).mono ?_)
        rintro x w1' ⟨rfl, hbi⟩
        have R1' := Aside0.mk (R1.out.below hbi)
        have RR1' := Aside0.mk (RR1.out.below hbi)
        have B1' := Aside0.mk (below_step B1.out hbi)
        clear hbi
        have K2 := Aside0.mk (KK.out w1' RR1'.out)
        go_wp2_with fail
        (with_reducible refine K2.out.mono ?_)
        rintro x w2' ⟨rfl, hRR2, hg2⟩
        have R2 := Aside0.mk (rdr_beside R1'.out RR1'.out HNE.out hg2)
        have B2 := Aside0.mk (B1'.out.grown hg2 B1'.out.size (fun k hk => by injection hk with hk; subst hk; exact HGW.out))
        have RR2 := Aside0.mk hRR2
        clear hRR2 hg2 K2
        have R2' := R2
        have RR2' := RR2
        have B2' := B2
        clear R2 RR2 B2
        go_wp2_with fail
        (with_reducible refine (HNN.out _).mono ?_)
        rintro x w2 ⟨rfl, hbi⟩
        have R2 := Aside0.mk (R2'.out.below hbi)
        have RR2 := Aside0.mk (RR2'.out.below hbi)
        have B2 := Aside0.mk (below_step B2'.out hbi)
        clear hbi
        have hE := Aside0.mk (fun q => error_calls gr s.2.1 s.2.2 (w2.drewN q) (R2.out.below (pw_below_drewN (Below.refl _ _) q)))
        have ce := rrd_e RR2.out
        go_wp2_with fail
        go_quiet ((go_at_call 34; exact Calls.quiet_of_same (hE.out _)))
        go_wp2_with fail
        go_roundw
        case rel => exact ⟨i + 1, s.2.1, s.2.2, by omega, by omega, by go_num, ⟨hbt'.out⟩, hlt', ⟨R2.out.below (pw_below_drewN (Below.refl _ _) _)⟩, ⟨RR2.out.below (pw_below_drewN (Below.refl _ _) _)⟩, ⟨pw_below_drewN B2.out _⟩⟩
        case measure => simp [intOf]; omega
      by_cases hk2 : k = 2
      · subst hk2
        have hlt' := Nat.le_trans (flag_len l e) hll
        have hbt' := Aside0.mk (flag_bytes HBl.out e)
        have KK := (fun w1 h => rflagR_calls gw l e w1 h HBl.out hlb)
        have K0 := (fun w1 h => ReadX.flag_calls gr l e w1 h HBl.out hlb)
        have hfc := flag_cases l e
        rcases hfc with ⟨m, hm⟩ | ⟨m, e', hm⟩
        · rw [hm] at KK K0 hlt' hbt'
          clear hm
          replace K0 := Aside0.mk K0
          replace KK := Aside0.mk KK
          have K1 := Aside0.mk (K0.out wr HR.out)
          go_wp2_with fail
          (with_reducible refine K1.out.mono ?_)
          rintro x w1 ⟨rfl, hR1, hg1⟩
          have R1 := Aside0.mk hR1
          have B1 := Aside0.mk (HBe.out.grown hg1 HBe.out.size (fun k hk => by injection hk with hk; subst hk; exact HGR.out))
          have RR1 := Aside0.mk (rrd_grown HRR.out hg1 HGWR.out)
          clear hR1 hg1 K1 hcell
          have K2 := Aside0.mk (KK.out w1 RR1.out)
          go_wp2_with fail
          (with_reducible refine K2.out.mono ?_)
          rintro x w2 ⟨rfl, hRR2, hg2⟩
          have R2 := Aside0.mk (rdr_beside R1.out RR1.out HNE.out hg2)
          have B2 := Aside0.mk (B1.out.grown hg2 B1.out.size (fun k hk => by injection hk with hk; subst hk; exact HGW.out))
          have RR2 := Aside0.mk hRR2
          clear hRR2 hg2 K2
          have ce := rrd_e RR2.out
          have hE := Aside0.mk (fun q => error_calls gr m 0 (w2.drewN q) (R2.out.below (pw_below_drewN (Below.refl _ _) q)))
          have ce := rrd_e RR2.out
          go_wp2_with fail
          go_quiet ((go_at_call 34; exact Calls.quiet_of_same (hE.out _)))
          go_wp2_with fail
          go_roundw
          case rel => exact ⟨i + 1, m, 0, by omega, by omega, by go_num, ⟨hbt'.out⟩, hlt', ⟨R2.out.below (pw_below_drewN (Below.refl _ _) _)⟩, ⟨RR2.out.below (pw_below_drewN (Below.refl _ _) _)⟩, ⟨pw_below_drewN B2.out _⟩⟩
          case measure => simp [intOf]; omega
        · rw [hm] at KK K0 hlt' hbt'
          clear hm
          replace K0 := Aside0.mk K0
          replace KK := Aside0.mk KK
          have K1 := Aside0.mk (K0.out wr HR.out)
          go_wp2_with fail
          (with_reducible refine K1.out.mono ?_)
          rintro x w1 ⟨rfl, hR1, hg1⟩
          have R1 := Aside0.mk hR1
          have B1 := Aside0.mk (HBe.out.grown hg1 HBe.out.size (fun k hk => by injection hk with hk; subst hk; exact HGR.out))
          have RR1 := Aside0.mk (rrd_grown HRR.out hg1 HGWR.out)
          clear hR1 hg1 K1 hcell
          have K2 := Aside0.mk (KK.out w1 RR1.out)
          go_wp2_with fail
          (with_reducible refine K2.out.mono ?_)
          rintro x w2 ⟨rfl, hRR2, hg2⟩
          have R2 := Aside0.mk (rdr_beside R1.out RR1.out HNE.out hg2)
          have B2 := Aside0.mk (B1.out.grown hg2 B1.out.size (fun k hk => by injection hk with hk; subst hk; exact HGW.out))
          have RR2 := Aside0.mk hRR2
          clear hRR2 hg2 K2
          have ce := rrd_e RR2.out
          have hE := Aside0.mk (fun q => error_calls gr m e' (w2.drewN q) (R2.out.below (pw_below_drewN (Below.refl _ _) q)))
          have ce := rrd_e RR2.out
          go_wp2_with fail
          go_quiet ((go_at_call 34; exact Calls.quiet_of_same (hE.out _)))
          go_wp2_with fail
          go_roundw
          case rel => exact ⟨i + 1, m, e', by omega, by omega, by go_num, ⟨hbt'.out⟩, hlt', ⟨R2.out.below (pw_below_drewN (Below.refl _ _) _)⟩, ⟨RR2.out.below (pw_below_drewN (Below.refl _ _) _)⟩, ⟨pw_below_drewN B2.out _⟩⟩
          case measure => simp [intOf]; omega
      by_cases hk3 : k = 3
      · subst hk3
        have hlt' := Nat.le_trans (text_len l e) hll
        have hbt' := Aside0.mk (text_bytes HBl.out e)
        have KK := Aside0.mk (fun w1 h => rtextR_calls gw l e w1 h HBl.out hlb)
        have K0 := Aside0.mk (fun w1 h => ReadX.text_calls gr l e w1 h HBl.out hlb)
        generalize textR l e = s at *
        have K1 := Aside0.mk (K0.out wr HR.out)
        go_wp2_with fail
        (with_reducible refine K1.out.mono ?_)
        rintro x w1 ⟨rfl, hR1, hg1⟩
        have R1 := Aside0.mk hR1
        have B1 := Aside0.mk (HBe.out.grown hg1 HBe.out.size (fun k hk => by injection hk with hk; subst hk; exact HGR.out))
        have RR1 := Aside0.mk (rrd_grown HRR.out hg1 HGWR.out)
        clear hR1 hg1 K1 hcell
        have K2 := Aside0.mk (KK.out w1 RR1.out)
        go_wp2_with fail
        (with_reducible refine K2.out.mono ?_)
        rintro x w2 ⟨rfl, hRR2, hg2⟩
        have R2 := Aside0.mk (rdr_beside R1.out RR1.out HNE.out hg2)
        have B2 := Aside0.mk (B1.out.grown hg2 B1.out.size (fun k hk => by injection hk with hk; subst hk; exact HGW.out))
        have RR2 := Aside0.mk hRR2
        clear hRR2 hg2 K2
        have hE := Aside0.mk (fun q => error_calls gr s.2.1 s.2.2 (w2.drewN q) (R2.out.below (pw_below_drewN (Below.refl _ _) q)))
        have ce := rrd_e RR2.out
        go_wp2_with fail
        go_quiet ((go_at_call 34; exact Calls.quiet_of_same (hE.out _)))
        go_wp2_with fail
        go_roundw
        case rel => exact ⟨i + 1, s.2.1, s.2.2, by omega, by omega, by go_num, ⟨hbt'.out⟩, hlt', ⟨R2.out.below (pw_below_drewN (Below.refl _ _) _)⟩, ⟨RR2.out.below (pw_below_drewN (Below.refl _ _) _)⟩, ⟨pw_below_drewN B2.out _⟩⟩
        case measure => simp [intOf]; omega
      by_cases hk4 : k = 4
      · subst hk4
        have hlt' := Nat.le_trans (take_len (n := 32) l e) hll
        have hbt' := Aside0.mk (take_bytes (n := 32) HBl.out e).1
        have KK := Aside0.mk (fun w1 h => rdigR_calls gw l e w1 h HBl.out hlb)
        have K0 := Aside0.mk (fun w1 h => dig_calls gr l e w1 h hlb)
        have qe := fun w => dig_same (digR_len l e) (dig_bytes HBl.out e) w
        generalize digR l e = D at *
        unfold digV at K0 KK
        generalize takeR 32 l e = s at *
        have K1 := Aside0.mk (K0.out wr HR.out)
        go_wp2_with fail
        (with_reducible refine K1.out.mono ?_)
        rintro x w1 ⟨rfl, hR1, hg1⟩
        have R1 := Aside0.mk hR1
        have B1 := Aside0.mk (HBe.out.grown hg1 HBe.out.size (fun k hk => by injection hk with hk; subst hk; exact HGR.out))
        have RR1 := Aside0.mk (rrd_grown HRR.out hg1 HGWR.out)
        clear hR1 hg1 K1 hcell
        have K2 := Aside0.mk (KK.out w1 RR1.out)
        go_wp2_with fail
        (with_reducible refine K2.out.mono ?_)
        rintro x w2 ⟨rfl, hRR2, hg2⟩
        have R2 := Aside0.mk (rdr_beside R1.out RR1.out HNE.out hg2)
        have B2 := Aside0.mk (B1.out.grown hg2 B1.out.size (fun k hk => by injection hk with hk; subst hk; exact HGW.out))
        have RR2 := Aside0.mk hRR2
        clear hRR2 hg2 K2
        have hE := Aside0.mk (fun q => error_calls gr s.2.1 s.2.2 (w2.drewN q) (R2.out.below (pw_below_drewN (Below.refl _ _) q)))
        have ce := rrd_e RR2.out
        go_wp2_with fail
        go_quiet ((go_at_call 34; exact Calls.quiet_of_same (hE.out _)))
        go_wp2_with fail
        go_roundw
        case rel => exact ⟨i + 1, s.2.1, s.2.2, by omega, by omega, by go_num, ⟨hbt'.out⟩, hlt', ⟨R2.out.below (pw_below_drewN (Below.refl _ _) _)⟩, ⟨RR2.out.below (pw_below_drewN (Below.refl _ _) _)⟩, ⟨pw_below_drewN B2.out _⟩⟩
        case measure => simp [intOf]; omega
      by_cases hk5 : k = 5
      · subst hk5
        have hlt' := Nat.le_trans (countR_len most l e) hll
        have hbt' := Aside0.mk (count_bytes (most := most) HBl.out e)
        have KK := Aside0.mk (fun w1 h => rcount_calls gw most l e w1 h HBl.out hlb m0 m1)
        have K0 := Aside0.mk (fun w1 h => ReadX.count_calls gr most l e w1 h HBl.out hlb m0 m1)
        generalize countR most l e = s at *
        have K1 := Aside0.mk (K0.out wr HR.out)
        go_wp2_with fail
        (with_reducible refine K1.out.mono ?_)
        rintro x w1 ⟨rfl, hR1, hg1⟩
        have R1 := Aside0.mk hR1
        have B1 := Aside0.mk (HBe.out.grown hg1 HBe.out.size (fun k hk => by injection hk with hk; subst hk; exact HGR.out))
        have RR1 := Aside0.mk (rrd_grown HRR.out hg1 HGWR.out)
        clear hR1 hg1 K1 hcell
        have K2 := Aside0.mk (KK.out w1 RR1.out)
        go_wp2_with fail
        (with_reducible refine K2.out.mono ?_)
        rintro x w2 ⟨rfl, hRR2, hg2⟩
        have R2 := Aside0.mk (rdr_beside R1.out RR1.out HNE.out hg2)
        have B2 := Aside0.mk (B1.out.grown hg2 B1.out.size (fun k hk => by injection hk with hk; subst hk; exact HGW.out))
        have RR2 := Aside0.mk hRR2
        clear hRR2 hg2 K2
        have hE := Aside0.mk (fun q => error_calls gr s.2.1 s.2.2 (w2.drewN q) (R2.out.below (pw_below_drewN (Below.refl _ _) q)))
        have ce := rrd_e RR2.out
        go_wp2_with fail
        go_quiet ((go_at_call 34; exact Calls.quiet_of_same (hE.out _)))
        go_wp2_with fail
        go_roundw
        case rel => exact ⟨i + 1, s.2.1, s.2.2, by omega, by omega, by go_num, ⟨hbt'.out⟩, hlt', ⟨R2.out.below (pw_below_drewN (Below.refl _ _) _)⟩, ⟨RR2.out.below (pw_below_drewN (Below.refl _ _) _)⟩, ⟨pw_below_drewN B2.out _⟩⟩
        case measure => simp [intOf]; omega
      have R2 := HR
      have RR2 := HRR
      have B2 := HBe
      obtain ⟨w2, hw2⟩ : ∃ w2 : World, w2 = wr := ⟨_, rfl⟩
      subst hw2
      have hE := Aside0.mk (fun q => error_calls gr l e (w2.drewN q) (R2.out.below (pw_below_drewN (Below.refl _ _) q)))
      have ce := rrd_e RR2.out
      go_wp2_with fail
      go_quiet ((go_at_call 34; exact Calls.quiet_of_same (hE.out _)))
      go_wp2_with fail
      go_roundw
      case rel => exact ⟨i + 1, l, e, by omega, by omega, by go_num, ⟨HBl.out⟩, hll, ⟨R2.out.below (pw_below_drewN (Below.refl _ _) _)⟩, ⟨RR2.out.below (pw_below_drewN (Below.refl _ _) _)⟩, ⟨pw_below_drewN B2.out _⟩⟩
      case measure => simp [intOf]; omega
    · have hlb : l.length ≤ 140737488355328 := by omega
      have hsplit : ¬ (i < zs.length) ∨ (i < zs.length ∧ ¬ (i < 60)) := by omega
      have ce := rrd_e HRR.out
      have cs := rrd_s HRR.out
      clear hgo
      have fin3 : (e = 0 ∧ l = []) ∨ (e = 0 ∧ l ≠ []) ∨ e ≠ 0 := by
        by_cases h : e = 0
        · by_cases h2 : l = []
          · exact .inl ⟨h, h2⟩
          · exact .inr (.inl ⟨h, h2⟩)
        · exact .inr (.inr h)
      rcases hsplit with hge | ⟨hlt, hge⟩
      all_goals
        rcases fin3 with ⟨rfl, rfl⟩ | ⟨rfl, hne⟩ | he
        · have hq : (strOfNums []).toList = [] := by decide +kernel
          have KE := Aside0.mk (fun w h => ReadX.end_calls gr [] 0 w h hlb)
          rw [show endR [] 0 = 0 from rfl] at KE
          have KK := Aside0.mk (fun w h => error_calls gr [] 0 w h)
          clear hlb
          go_wp2_with fail
          (with_reducible refine (awake_calls _).mono ?_)
          rintro x w1 ⟨rfl, hb1⟩
          have B1 := Aside0.mk (below_step HBe.out hb1)
          have R1 := Aside0.mk (HR.out.below hb1)
          clear hb1
          go_wp2_with fail
          (with_reducible refine (KE.out _ R1.out).mono ?_)
          rintro x w2 ⟨rfl, hR2, hg2⟩
          have B2 := Aside0.mk (B1.out.grown hg2 B1.out.size (fun k hk => by injection hk with hk; subst hk; exact HGR.out))
          have R2 := Aside0.mk hR2
          clear hR2 hg2
          go_wp2_with fail
          (with_reducible refine (KK.out _ R2.out).mono ?_)
          rintro x w3 ⟨rfl, rfl⟩
          go_wp2_with fail
          go_ret
          exact ⟨by simp, B2.out⟩
        · have hq2 : (strOfNums l).toList.isEmpty = false := by cases l with
            | nil => exact absurd rfl hne
            | cons b r => rw [str_toList]; simp
          have hq1 : (strOfNums l).toList ≠ [] := fun h => by rw [h] at hq2; simp at hq2
          have KE := Aside0.mk (fun w h => ReadX.end_calls gr l 0 w h hlb)
          rw [show endR l 0 = 2 from by unfold endR; rw [if_pos rfl, if_neg hne]] at KE
          have KK := Aside0.mk (fun w h => error_calls gr l 2 w h)
          clear hlb hne
          go_wp2_with fail
          (with_reducible refine (awake_calls _).mono ?_)
          rintro x w1 ⟨rfl, hb1⟩
          have B1 := Aside0.mk (below_step HBe.out hb1)
          have R1 := Aside0.mk (HR.out.below hb1)
          clear hb1
          go_wp2_with fail
          (with_reducible refine (KE.out _ R1.out).mono ?_)
          rintro x w2 ⟨rfl, hR2, hg2⟩
          have B2 := Aside0.mk (B1.out.grown hg2 B1.out.size (fun k hk => by injection hk with hk; subst hk; exact HGR.out))
          have R2 := Aside0.mk hR2
          clear hR2 hg2
          go_wp2_with fail
          (with_reducible refine (KK.out _ R2.out).mono ?_)
          rintro x w3 ⟨rfl, rfl⟩
          go_wp2_with fail
          go_ret
          exact ⟨by simp, B2.out⟩
        · have KE := Aside0.mk (fun w h => ReadX.end_calls gr l e w h hlb)
          rw [show endR l e = e from by unfold endR; rw [if_neg he]] at KE
          have KK := Aside0.mk (fun w h => error_calls gr l e w h)
          clear hlb
          go_wp2_with fail
          (with_reducible refine (awake_calls _).mono ?_)
          rintro x w1 ⟨rfl, hb1⟩
          have B1 := Aside0.mk (below_step HBe.out hb1)
          have R1 := Aside0.mk (HR.out.below hb1)
          clear hb1
          go_wp2_with fail
          (with_reducible refine (KE.out _ R1.out).mono ?_)
          rintro x w2 ⟨rfl, hR2, hg2⟩
          have B2 := Aside0.mk (B1.out.grown hg2 B1.out.size (fun k hk => by injection hk with hk; subst hk; exact HGR.out))
          have R2 := Aside0.mk hR2
          clear hR2 hg2
          go_wp2_with fail
          (with_reducible refine (KK.out _ R2.out).mono ?_)
          rintro x w3 ⟨rfl, rfl⟩
          go_wp2_with fail
          go_ret
          exact ⟨by simp, B2.out⟩
end Go.Proofs.Ytnfajlnpmndkdaa.ReadsW
namespace Go.Proofs.Ytnfajlnpmndkdaa.Hand
set_option linter.unusedVariables false
open Go.RowKit Go.Proofs.Ytnfajlnpmndkdaa.Nums Go.Proofs.YtnfajlnpmndkdaaW.PrintWords
theorem PackReads (A0 : Option Addr) (c0 : Nat) (l0 : List Int) (A1 : Option Addr) (c1 : Nat) (l1 : List Int) (a2 : Int) (W : World) (hr0 : Kd.C (Kd.int .u8) W A0 l0.length l0) (hc0 : l0.length ≤ c0) (hz0 : A0 = none → c0 = 0) (hm0 : l0.length ≤ maxLen) (hb0 : ∀ x ∈ l0, (Lit.int .u8 x).wf = true) (y0 : l0.length * 1 ≤ 140737488351232)
    (hr1 : Kd.C (Kd.int .i64) W A1 l1.length l1) (hc1 : l1.length ≤ c1) (hz1 : A1 = none → c1 = 0) (hm1 : l1.length ≤ maxLen) (hb1 : ∀ x ∈ l1, (Lit.int .i64 x).wf = true) (y1 : l1.length * 8 ≤ 140737488351232) (w2 : (Lit.int .i64 a2).wf = true) :
    Calls Try.prog 5 #[.slice A0 l0.length c0, .slice A1 l1.length c1, .int .i64 a2] W fun e W' => e = .returned (.bool true) ∧ Below W.heap.size W W' :=
  ReadsW.reads_calls A0 c0 l0 A1 c1 l1 a2 W hr0 hc0 hz0 (bytes_of_wf hb0) (by omega) hr1 hc1 (by omega) (wf_i64 w2).1 (wf_i64 w2).2
end Go.Proofs.Ytnfajlnpmndkdaa.Hand
