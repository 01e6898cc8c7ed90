/- FrameTurned, walked. No condition. -/
import Derived.Test.YtdabjklbmmnlkaaTurnedLaw
import Derived.Test.YtdabjklbmmnlkaaTornW
namespace Go.Proofs.Ytdabjklbmmnlkaa.TurnedW
set_option linter.unusedVariables false
set_option linter.unusedSimpArgs false
open Go.RowKit Go.Proofs.Ytdabjklbmmnlkaa.Nums Go.Proofs.Ytdabjklbmmnlkaa.CrcM Go.Proofs.Ytdabjklbmmnlkaa.SumM Go.Proofs.Ytdabjklbmmnlkaa.PutM Go.Proofs.Ytdabjklbmmnlkaa.Libs Go.Proofs.Ytdabjklbmmnlkaa.PutW Go.Proofs.Ytdabjklbmmnlkaa.FirstW Go.Proofs.Ytdabjklbmmnlkaa.ScanW Go.Proofs.Ytdabjklbmmnlkaa.Awake Go.Proofs.Ytdabjklbmmnlkaa.TurnedLaw Go.Proofs.YtdabjklbmmnlkaaW.PrintWords Go.Proofs.YtdabjklbmmnlkaaW.PrintLast Go.Proofs.YtdabjklbmmnlkaaW.PrintMore
set_option maxHeartbeats 4000000 in
set_option maxRecDepth 100000 in
theorem turned_large (A : Option Addr) (c n : Nat) (at_ burst : Int) (W : World) (hl : 16384 < n) :
    Calls Try.prog 7 #[.slice A n c, .int .u16 at_, .int .u32 burst] W fun e w' => e = .returned (.bool true) ∧ Below W.heap.size W w' := by
  go_enter Try.func7, Try.ntmps7
  go_wp2_with fail
  refine (put_large A c n W hl).mono ?_
  rintro e w1 ⟨rfl, hb1⟩
  have B1 := Aside0.mk hb1
  clear hb1
  go_wp2_with fail
  refine (awake_calls w1).mono ?_
  rintro e w2 ⟨rfl, hb2⟩
  have B2 := Aside0.mk (below_step B1.out hb2)
  clear hb2
  go_wp2_with fail
  refine (awake_calls w2).mono ?_
  rintro e w3 ⟨rfl, hb3⟩
  have B3 := Aside0.mk (below_step B2.out hb3)
  clear hb3
  go_wp2_with fail
  go_ret
  exact ⟨by simp, B3.out⟩
set_option maxHeartbeats 4000000 in
set_option maxRecDepth 100000 in
theorem turned_zero (A : Option Addr) (c : Nat) (l : List Int) (at_ : Int) (W : World) (hC : (Kd.int .u8).C W A l.length l) (hc : l.length ≤ c) (hcap : A = none → c = 0) (hB : Bytes l) (hl : l.length ≤ 16384) :
    Calls Try.prog 7 #[.slice A l.length c, .int .u16 at_, .int .u32 0] W fun e w' => e = .returned (.bool true) ∧ Below W.heap.size W w' := by
  have P := Aside0.mk (put_calls A c l W hC hc hcap hB hl)
  clear hC hc hcap
  go_enter Try.func7, Try.ntmps7
  go_wp2_with fail
  refine P.out.mono ?_
  rintro e w1 ⟨v, rfl, _, hb1⟩
  have B1 := Aside0.mk hb1
  clear hb1
  go_wp2_with fail
  refine (awake_calls w1).mono ?_
  rintro e w2 ⟨rfl, hb2⟩
  have B2 := Aside0.mk (below_step B1.out hb2)
  clear hb2
  go_wp2_with fail
  refine (awake_calls w2).mono ?_
  rintro e w3 ⟨rfl, hb3⟩
  have B3 := Aside0.mk (below_step B2.out hb3)
  clear hb3
  go_wp2_with fail
  go_ret
  exact ⟨by simp, B3.out⟩
theorem cell_own {w : World} {base g n cap : Nat} {L : List Int} (h : OwnB w base (.slice (some ⟨g, 0, none⟩) n cap) L) (j : Nat) (hj : j < L.length) :
    w.cell? ⟨g, j, none⟩ = some (.int .u8 (rd L (j : Int))) ∧ w.frozen? ⟨g, j, none⟩ = false := by
  have hnz : (nums .u8 L)[j]? = some (.int .u8 (rd L (j : Int))) := by
    unfold nums
    rw [List.getElem?_map, List.getElem?_eq_getElem hj, rd_get hj]
    rfl
  refine ⟨?_, ?_⟩
  · have := World.ownsRow.cells h rfl _ _ hnz
    rwa [add_plain] at this
  · rcases h.2 with ⟨h0, _⟩ | ⟨g', cap', cur, h0, hg', hh, _⟩
    · simp at h0
    · simp at h0
      obtain ⟨rfl, _⟩ := h0
      exact blk_frozen hh _
theorem frameN_bytes {l : List Int} (hB : Bytes l) : Bytes (frameN l) := by
  unfold frameN
  exact bytes_app (bytes_app (T_bytes _ _) (T_bytes _ _)) hB
theorem flip_step {w W : World} {g cap : Nat} {L : List Int} (h : OwnB w W.heap.size (.slice (some ⟨g, 0, none⟩) L.length cap) L) (hL : Bytes L) (hb : Below W.heap.size W w) (j : Nat) (hj : j / 8 < L.length) :
    OwnB (w.setCell ⟨g, j / 8, none⟩ (.int .u8 (Go.bits .xor .u8 (rd L ((j / 8 : Nat) : Int)) (2 ^ (j % 8) % 256)))) W.heap.size (.slice (some ⟨g, 0, none⟩) L.length cap) (turned L j) ∧
    Below W.heap.size W (w.setCell ⟨g, j / 8, none⟩ (.int .u8 (Go.bits .xor .u8 (rd L ((j / 8 : Nat) : Int)) (2 ^ (j % 8) % 256)))) := by
  have hz := rd_byte hL (j / 8)
  have hx : Go.bits .xor .u8 (rd L ((j / 8 : Nat) : Int)) (2 ^ (j % 8) % 256) = (((rd L ((j / 8 : Nat) : Int)).toNat ^^^ 2 ^ (j % 8) : Nat) : Int) := by
    have hq : (2 : Nat) ^ (j % 8) < 256 := by
      have : (2 : Nat) ^ (j % 8) < 2 ^ 8 := Nat.pow_lt_pow_right (by decide) (by omega)
      exact this
    obtain ⟨y, hy⟩ := Int.eq_ofNat_of_zero_le hz.1
    have e : (2 : Int) ^ (j % 8) = ((2 ^ (j % 8) : Nat) : Int) := by rw [Int.natCast_pow]; rfl
    have e2 : (((2 ^ (j % 8) : Nat) : Int)) % 256 = ((2 ^ (j % 8) : Nat) : Int) := by generalize 2 ^ (j % 8) = q at hq; omega
    rw [hy, e, e2]
    exact xorN .u8 rfl y (2 ^ (j % 8)) (by show _ < 2 ^ 8; omega) hq
  have ST := World.ownsRow.stored h (j / 8) (.int .u8 (Go.bits .xor .u8 (rd L ((j / 8 : Nat) : Int)) (2 ^ (j % 8) % 256)))
  refine ⟨?_, hb.grown ST.2 hb.size fun k hk => by injection hk with hk; subst hk; exact (h.lt _ rfl).1⟩
  unfold OwnB turned
  rw [List.length_set, ← hx]
  have := ST.1
  unfold nums at *
  rw [List.map_set]
  exact this
def RelT (L : List Int) (burst k : Nat) (W : World) (base g cap : Nat) (v10 : Value) (wr : World) : Prop :=
  ∃ i : Nat, i ≤ 32 ∧ v10 = .int .i64 (i : Int) ∧ Aside0 (OwnB wr base (.slice (some ⟨g, 0, none⟩) L.length cap) (flips L burst k i)) ∧ Aside0 (Below W.heap.size W wr)
set_option maxHeartbeats 4000000 in
set_option maxRecDepth 100000 in
theorem turned_even (A : Option Addr) (c : Nat) (l : List Int) (at_ burst : Nat) (W : World) (hC : (Kd.int .u8).C W A l.length l) (hc : l.length ≤ c) (hcap : A = none → c = 0) (hB : Bytes l) (hl : l.length ≤ 16384)
    (ha : at_ < 65536) (hb0 : burst ≠ 0) (h32 : burst < 4294967296) (he : ¬ (4 ≤ l.length ∧ at_ % 2 = 1)) :
    Calls Try.prog 7 #[.slice A l.length c, .int .u16 at_, .int .u32 burst] W fun e w' => e = .returned (.bool true) ∧ Below W.heap.size W w' := by
  have FL := frameN_length l
  have P := Aside0.mk (put_calls A c l W hC hc hcap hB hl)
  clear hC hc hcap
  have hb1 : ¬ ((burst : Int) = 0) := by omega
  go_enter Try.func7, Try.ntmps7
  go_wp2_with fail
  refine P.out.mono ?_
  rintro e w1 ⟨v, rfl, ho, hb1'⟩
  obtain ⟨g, cap, hv⟩ := own_some ho (by omega)
  rw [FL] at hv
  subst hv
  have B1 := Aside0.mk hb1'
  have O1 := Aside0.mk ho
  clear hb1' ho P
  go_wp2_with fail
  refine (awake_calls w1).mono ?_
  rintro e w2 ⟨rfl, hb2⟩
  have B2 := Aside0.mk (below_step B1.out hb2)
  have O2 : Aside0 (OwnB w2 W.heap.size (.slice (some ⟨g, 0, none⟩) (l.length + 8) cap) (frameN l)) := ⟨own_move O1.out fun k hk => hb2.block k (O1.out.lt k hk).2⟩
  clear hb2 O1 B1
  go_wp2_with fail
  all_goals
    go_loopw [10] (fun v10 wr => RelT (frameN l) burst (32) W W.heap.size g cap v10 wr) (fun v10 _ => 32 - (intOf v10).toNat)
    case atStart => exact ⟨0, by omega, rfl, ⟨by rw [FL]; exact O2.out⟩, B2⟩
    case round =>
      obtain ⟨i, hi, rfl, HO, HB⟩ := hrel
      rw [FL] at HO
      by_cases hlt : i < 32
      · have hq : ((burst : Int) / 2 ^ i).tmod 2 = ((burst / 2 ^ i % 2 : Nat) : Int) := by
          rw [show (burst : Int) / 2 ^ i = ((burst / 2 ^ i : Nat) : Int) by simp]
          generalize burst / 2 ^ i = z
          rw [Int.tmod_eq_emod_of_nonneg (by omega)]; simp
        by_cases hbit : burst / 2 ^ i % 2 = 1
        · have hbb : (((burst : Int) / 2 ^ i).tmod 2 == 1) = true := by rw [hq, beq_iff_eq]; omega
          have HBit := Aside0.mk hbit
          have hfl := flips_length (frameN l) burst 32 i
          obtain ⟨hcell, hfr⟩ := cell_own HO.out ((32 + i) / 8) (by omega)
          have hfB := flips_bytes (frameN_bytes hB) burst 32 i
          have hzb := rd_byte hfB ((32 + i) / 8)
          have FS := Aside0.mk (flip_step (by rw [hfl, FL]; exact HO.out) hfB HB.out (32 + i) (by rw [hfl]; omega))
          rw [hfl, FL] at FS
          generalize hz : rd (flips (frameN l) burst 32 i) (((32 + i) / 8 : Nat) : Int) = z at *
          clear hq hbit hfl hfB
          go_wp2
          go_roundw
          case rel =>
            exact ⟨i + 1, by omega, by go_num, ⟨by rw [flips, if_pos HBit.out, FL]; exact FS.out.1⟩, ⟨FS.out.2⟩⟩
          case measure => simp [intOf]; omega
        · have hbb : (((burst : Int) / 2 ^ i).tmod 2 == 1) = false := by rw [hq, beq_eq_false_iff_ne]; omega
          have HBit := Aside0.mk hbit
          clear hq hbit
          go_wp2
          go_roundw
          case rel => exact ⟨i + 1, by omega, by go_num, ⟨by rw [flips, if_neg HBit.out, FL]; exact HO.out⟩, HB⟩
          case measure => simp [intOf]; omega
      · obtain rfl : i = 32 := by omega
        have HFL := flips_length (frameN l) burst 32 32
        have HFB := flips_bytes (frameN_bytes hB) burst 32 32
        have LAW := turned_sum l hB hl hb0 h32
        have hO := HO.out
        clear HO
        generalize flips (frameN l) burst 32 32 = fl at *
        rw [FL] at HFL
        obtain ⟨A6, c6, hv6, hcc6, hC6, _⟩ := OwnB.reads hO (by omega)
        rw [HFL] at hv6
        injection hv6 with e1 e2 e3
        subst e1 e3
        have Y6 := Aside0.mk (first_any (some ⟨g, 0, none⟩) cap fl _ hC6 hcc6 HFB (by omega))
        rw [LAW, HFL] at Y6
        have FL' := Aside0.mk FL
        clear hO hC6 hcc6 HFL HFB LAW FL e2
        go_wp2_with fail
        refine Y6.out.mono ?_
        rintro e w7 ⟨A7, rfl, _, _, hb7⟩
        have B7 := Aside0.mk (below_step HB.out hb7)
        clear hb7
        go_wp2_with fail
        go_ret
        exact ⟨by simp, B7.out⟩
set_option maxHeartbeats 4000000 in
set_option maxRecDepth 100000 in
theorem turned_odd (A : Option Addr) (c : Nat) (l : List Int) (at_ burst : Nat) (W : World) (hC : (Kd.int .u8).C W A l.length l) (hc : l.length ≤ c) (hcap : A = none → c = 0) (hB : Bytes l) (hl : l.length ≤ 16384)
    (ha : at_ < 65536) (hb0 : burst ≠ 0) (h32 : burst < 4294967296) (he : 4 ≤ l.length) (ho2 : at_ % 2 = 1) :
    Calls Try.prog 7 #[.slice A l.length c, .int .u16 at_, .int .u32 burst] W fun e w' => e = .returned (.bool true) ∧ Below W.heap.size W w' := by
  have FL := frameN_length l
  have P := Aside0.mk (put_calls A c l W hC hc hcap hB hl)
  clear hC hc hcap
  have hb1 : ¬ ((burst : Int) = 0) := by omega
  obtain ⟨q, hq0⟩ : ∃ q : Nat, at_ % (l.length * 8 - 31) = q := ⟨_, rfl⟩
  have hql : q < l.length * 8 - 31 := by rw [← hq0]; exact Nat.mod_lt _ (by omega)
  have hqi : (at_ : Int) % ((l.length : Int) * 8 - 31) = (q : Int) := by rw [← hq0, show (l.length : Int) * 8 - 31 = ((l.length * 8 - 31 : Nat) : Int) by omega, Int.natCast_emod]
  clear hq0
  have he1 : 4 ≤ (l.length : Int) := by omega
  have he2 : ((at_ : Int) % 2 == 1) = true := by rw [beq_iff_eq]; omega
  go_enter Try.func7, Try.ntmps7
  go_wp2_with fail
  refine P.out.mono ?_
  rintro e w1 ⟨v, rfl, ho, hb1'⟩
  obtain ⟨g, cap, hv⟩ := own_some ho (by omega)
  rw [FL] at hv
  subst hv
  have B1 := Aside0.mk hb1'
  have O1 := Aside0.mk ho
  clear hb1' ho P
  go_wp2_with fail
  refine (awake_calls w1).mono ?_
  rintro e w2 ⟨rfl, hb2⟩
  have B2 := Aside0.mk (below_step B1.out hb2)
  have O2 : Aside0 (OwnB w2 W.heap.size (.slice (some ⟨g, 0, none⟩) (l.length + 8) cap) (frameN l)) := ⟨own_move O1.out fun k hk => hb2.block k (O1.out.lt k hk).2⟩
  clear hb2 O1 B1
  go_wp2_with fail
  all_goals
    go_loopw [10] (fun v10 wr => RelT (frameN l) burst (64 + q) W W.heap.size g cap v10 wr) (fun v10 _ => 32 - (intOf v10).toNat)
    case atStart => exact ⟨0, by omega, rfl, ⟨by rw [FL]; exact O2.out⟩, B2⟩
    case round =>
      obtain ⟨i, hi, rfl, HO, HB⟩ := hrel
      rw [FL] at HO
      by_cases hlt : i < 32
      · have hq : ((burst : Int) / 2 ^ i).tmod 2 = ((burst / 2 ^ i % 2 : Nat) : Int) := by
          rw [show (burst : Int) / 2 ^ i = ((burst / 2 ^ i : Nat) : Int) by simp]
          generalize burst / 2 ^ i = z
          rw [Int.tmod_eq_emod_of_nonneg (by omega)]; simp
        by_cases hbit : burst / 2 ^ i % 2 = 1
        · have hbb : (((burst : Int) / 2 ^ i).tmod 2 == 1) = true := by rw [hq, beq_iff_eq]; omega
          have HBit := Aside0.mk hbit
          have hfl := flips_length (frameN l) burst (64 + q) i
          obtain ⟨hcell, hfr⟩ := cell_own HO.out ((64 + q + i) / 8) (by omega)
          have hfB := flips_bytes (frameN_bytes hB) burst (64 + q) i
          have hzb := rd_byte hfB ((64 + q + i) / 8)
          have FS := Aside0.mk (flip_step (by rw [hfl, FL]; exact HO.out) hfB HB.out (64 + q + i) (by rw [hfl]; omega))
          rw [hfl, FL] at FS
          generalize hz : rd (flips (frameN l) burst (64 + q) i) (((64 + q + i) / 8 : Nat) : Int) = z at *
          clear hq hbit hfl hfB
          go_wp2
          go_roundw
          case rel =>
            exact ⟨i + 1, by omega, by go_num, ⟨by rw [flips, if_pos HBit.out, FL]; exact FS.out.1⟩, ⟨FS.out.2⟩⟩
          case measure => simp [intOf]; omega
        · have hbb : (((burst : Int) / 2 ^ i).tmod 2 == 1) = false := by rw [hq, beq_eq_false_iff_ne]; omega
          have HBit := Aside0.mk hbit
          clear hq hbit
          go_wp2
          go_roundw
          case rel => exact ⟨i + 1, by omega, by go_num, ⟨by rw [flips, if_neg HBit.out, FL]; exact HO.out⟩, HB⟩
          case measure => simp [intOf]; omega
      · obtain rfl : i = 32 := by omega
        have HFL := flips_length (frameN l) burst (64 + q) 32
        have HFB := flips_bytes (frameN_bytes hB) burst (64 + q) 32
        have LAW := turned_body l hB hl (q := q) hb0 h32 (by omega)
        have hO := HO.out
        clear HO
        generalize flips (frameN l) burst (64 + q) 32 = fl at *
        rw [FL] at HFL
        obtain ⟨A6, c6, hv6, hcc6, hC6, _⟩ := OwnB.reads hO (by omega)
        rw [HFL] at hv6
        injection hv6 with e1 e2 e3
        subst e1 e3
        have Y6 := Aside0.mk (first_any (some ⟨g, 0, none⟩) cap fl _ hC6 hcc6 HFB (by omega))
        rw [LAW, HFL] at Y6
        have FL' := Aside0.mk FL
        clear hO hC6 hcc6 HFL HFB LAW FL e2
        go_wp2_with fail
        refine Y6.out.mono ?_
        rintro e w7 ⟨A7, rfl, _, _, hb7⟩
        have B7 := Aside0.mk (below_step HB.out hb7)
        clear hb7
        go_wp2_with fail
        go_ret
        exact ⟨by simp, B7.out⟩
end Go.Proofs.Ytdabjklbmmnlkaa.TurnedW
namespace Go.Proofs.Ytdabjklbmmnlkaa.Hand
set_option linter.unusedVariables false
open Go.RowKit Go.Proofs.Ytdabjklbmmnlkaa.Nums Go.Proofs.YtdabjklbmmnlkaaW.PrintWords
theorem FrameTurned (A0 : Option Addr) (c0 : Nat) (l0 : List Int) (a1 a2 : Int) (W : World) (hr0 : Kd.C (Kd.int .u8) W A0 l0.length l0) (hc0 : l0.length ≤ c0) (hz0 : A0 = none → c0 = 0) (hm0 : l0.length ≤ maxLen) (hb0 : ∀ x ∈ l0, (Lit.int .u8 x).wf = true)
    (w1 : (Lit.int .u16 a1).wf = true) (w2 : (Lit.int .u32 a2).wf = true) :
    Calls Try.prog 7 #[.slice A0 l0.length c0, .int .u16 a1, .int .u32 a2] W fun e W' => e = .returned (.bool true) ∧ Below W.heap.size W W' := by
  obtain ⟨h1, h1'⟩ := wf_u16 w1
  obtain ⟨h2, h2'⟩ := wf_u32 w2
  obtain ⟨at_, rfl⟩ := Int.eq_ofNat_of_zero_le h1
  obtain ⟨burst, rfl⟩ := Int.eq_ofNat_of_zero_le h2
  by_cases hl : l0.length ≤ 16384
  · by_cases hb : burst = 0
    · subst hb
      exact TurnedW.turned_zero A0 c0 l0 _ W hr0 hc0 hz0 (bytes_of_wf hb0) hl
    by_cases he : 4 ≤ l0.length ∧ at_ % 2 = 1
    · exact TurnedW.turned_odd A0 c0 l0 at_ burst W hr0 hc0 hz0 (bytes_of_wf hb0) hl (by omega) hb (by omega) he.1 he.2
    · exact TurnedW.turned_even A0 c0 l0 at_ burst W hr0 hc0 hz0 (bytes_of_wf hb0) hl (by omega) hb (by omega) he
  · exact TurnedW.turned_large A0 c0 l0.length _ _ W (by omega)
end Go.Proofs.Ytdabjklbmmnlkaa.Hand
