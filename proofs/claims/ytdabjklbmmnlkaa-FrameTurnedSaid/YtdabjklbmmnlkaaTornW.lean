/- FrameTorn, walked. No condition. -/
import Derived.Test.YtdabjklbmmnlkaaTornLaw
namespace Go.Proofs.Ytdabjklbmmnlkaa.TornW
set_option linter.unusedVariables false
set_option linter.unusedSimpArgs false
open Go.RowKit Go.Proofs.Ytdabjklbmmnlkaa.Nums Go.Proofs.Ytdabjklbmmnlkaa.CrcM Go.Proofs.Ytdabjklbmmnlkaa.SumM Go.Proofs.Ytdabjklbmmnlkaa.PutM Go.Proofs.Ytdabjklbmmnlkaa.Libs Go.Proofs.Ytdabjklbmmnlkaa.PutW Go.Proofs.Ytdabjklbmmnlkaa.FirstW Go.Proofs.Ytdabjklbmmnlkaa.ScanW Go.Proofs.Ytdabjklbmmnlkaa.KeepW Go.Proofs.Ytdabjklbmmnlkaa.Awake Go.Proofs.YtdabjklbmmnlkaaW.PrintWords Go.Proofs.YtdabjklbmmnlkaaW.PrintLast Go.Proofs.YtdabjklbmmnlkaaW.PrintMore
/-- A frame that is cut is told as none. -/
theorem scan_cut (l : List Int) (h : l.length ≤ 16384) (k : Nat) (hk : k < l.length + 8) : scanR ((frameN l).take k) = ([], 0) := by
  have hlen : ((frameN l).take k).length = k := by rw [List.length_take, frameN_length]; omega
  have e : (firstR ((frameN l).take k)).2.2 ≠ 0 := by
    by_cases h8 : k < 8
    · rw [first_short (by omega)]; simp
    · rw [firstR_eq _ (by omega), List.take_take, Nat.min_eq_left (by omega), frame_take4 l h, if_neg (by omega), hlen, if_pos (by omega)]
      simp
  unfold scanR
  rw [scanF, if_neg e]
theorem xor_byte {a b : Int} (ha : 0 ≤ a ∧ a < 256) (hb : 0 ≤ b ∧ b < 256) : 0 ≤ Go.bits .xor .u8 a b ∧ Go.bits .xor .u8 a b < 256 := by
  obtain ⟨x, rfl⟩ := Int.eq_ofNat_of_zero_le ha.1
  obtain ⟨y, rfl⟩ := Int.eq_ofNat_of_zero_le hb.1
  rw [xorN .u8 rfl x y (by show _ < 2 ^ 8; omega) (by show _ < 2 ^ 8; omega)]
  have := Nat.xor_lt_two_pow (n := 8) (x := x) (y := y) (by omega) (by omega)
  omega
set_option maxHeartbeats 4000000 in
set_option maxRecDepth 100000 in
theorem torn_large (A : Option Addr) (c n : Nat) (cut turn : Int) (W : World) (hl : 16384 < n) :
    Calls Try.prog 6 #[.slice A n c, .int .u16 cut, .int .u8 turn] W fun e w' => e = .returned (.bool true) ∧ Below W.heap.size W w' := by
  go_enter Try.func6, Try.ntmps6
  go_wp2_with fail
  refine (put_large A c n W hl).mono ?_
  rintro e w1 ⟨rfl, hb1⟩
  have B1 := Aside0.mk hb1
  clear hb1
  go_wp2_with fail
  refine (awake_calls w1).mono ?_
  rintro e w2 ⟨rfl, hb2⟩
  have B2 := Aside0.mk (below_step B1.out hb2)
  clear hb2
  go_wp2_with fail
  refine (awake_calls w2).mono ?_
  rintro e w3 ⟨rfl, hb3⟩
  have B3 := Aside0.mk (below_step B2.out hb3)
  clear hb3
  go_wp2_with fail
  go_ret
  exact ⟨by simp, B3.out⟩
set_option maxHeartbeats 4000000 in
set_option maxRecDepth 100000 in
theorem torn_calls (A : Option Addr) (c : Nat) (l : List Int) (cut turn : Int) (W : World) (hC : (Kd.int .u8).C W A l.length l) (hc : l.length ≤ c) (hcap : A = none → c = 0) (hB : Bytes l) (hl : l.length ≤ 16384)
    (c0 : 0 ≤ cut) (c1 : cut < 65536) (t0 : 0 ≤ turn) (t1 : turn < 256) :
    Calls Try.prog 6 #[.slice A l.length c, .int .u16 cut, .int .u8 turn] W fun e w' => e = .returned (.bool true) ∧ Below W.heap.size W w' := by
  obtain ⟨i0, hi, hz0, hz1, hz2⟩ := info_parts Libs.info5
  have FL := frameN_length l
  have P := Aside0.mk (put_calls A c l W hC hc hcap hB hl)
  clear hC hc hcap
  go_enter Try.func6, Try.ntmps6
  go_wp2_with fail
  refine P.out.mono ?_
  rintro e w1 ⟨v, rfl, ho, hb1⟩
  obtain ⟨g, cap, rfl⟩ := own_some ho (by omega)
  have B1 := Aside0.mk hb1
  have O1 := Aside0.mk ho
  clear hb1 ho P
  go_wp2_with fail
  refine (awake_calls w1).mono ?_
  rintro e w2 ⟨rfl, hb2⟩
  have B2 := Aside0.mk (below_step B1.out hb2)
  have hcap : l.length + 8 ≤ cap := by
    obtain ⟨A', c', hv, h1, _⟩ := OwnB.reads O1.out (by omega)
    injection hv with hv1 hv2 hv3
    omega
  have C2 : Aside0 ((Kd.int .u8).C w2 (some ⟨g, 0, none⟩) (frameN l).length (frameN l)) := ⟨by
    obtain ⟨A', c', hv, _, hC, _⟩ := OwnB.reads O1.out (by omega)
    injection hv with hv1
    subst hv1
    exact Kd.C_below hC hb2⟩
  clear hb2 O1 B1
  obtain ⟨k, hk⟩ : ∃ k : Nat, cut % ((l.length : Int) + 8) = (k : Int) := ⟨(cut % ((l.length : Int) + 8)).toNat, by have := Int.emod_nonneg cut (show (l.length : Int) + 8 ≠ 0 by omega); omega⟩
  have hkl : k < l.length + 8 := by have := Int.emod_lt_of_pos cut (show 0 < (l.length : Int) + 8 by omega); omega
  have hlk : ((frameN l).take k).length = k := by rw [List.length_take]; omega
  have OM := Aside0.mk (World.ownsRow_made (base := w2.heap.size) (size := 1) (e := 5) w2 #[] 0 (Nat.le_refl _) (Nat.zero_le _) rfl)
  have CK := Aside0.mk (Kd.C_take (m := k) C2.out (by omega))
  have SK := scan_cut l hl k hkl
  have HK := Aside0.mk hlk
  have HS := Aside0.mk SK
  have hBk : Aside0 (Bytes (frameN l)) := ⟨by
    unfold frameN
    exact bytes_app (bytes_app (T_bytes _ _) (T_bytes _ _)) hB⟩
  clear SK hlk
  go_wp2_with (at_builtin; refine wpList_append_bytes rfl (.tmp 34) (.tmp 37) rfl w2.heap.size _ [] rfl OM.out (some ⟨g, 0, none⟩) cap ((frameN l).take k) (by rw [HK.out]; rfl) (Kd.C_below CK.out (below_alloc (Below.refl _ _) _)) (by simp) (by rw [HK.out]; simp; omega) (below_alloc (Below.refl _ _) _).size ?_)
  intro v3 w3 ho3 hb3
  have B3 := Aside0.mk (hb3 w2 (below_alloc (Below.refl _ _) _))
  obtain ⟨A3, c3, hv3, hcc3, hC3, _⟩ := OwnB.reads ho3 (by simp; omega)
  have Y := Aside0.mk (scan_calls A3 c3 ((frameN l).take k) w3 hC3 hcc3 (bytes_take hBk.out k) (by rw [HK.out]; omega) (by rw [HS.out]; simp))
  rw [HK.out] at hv3
  subst hv3
  rw [HS.out, HK.out] at Y
  have C3 := Aside0.mk (Kd.C_below C2.out B3.out)
  clear ho3 hb3 hC3 OM
  go_wp2_with fail
  refine Y.out.mono ?_
  rintro e w4 ⟨v4, rfl, ⟨A4, rfl, _⟩, hb4⟩
  have B24 := Aside0.mk (below_step B3.out hb4)
  have B4 : Aside0 (Below W.heap.size W w4) := ⟨below_step B2.out B24.out⟩
  have C4 := Aside0.mk (Kd.C_below C2.out B24.out)
  clear hb4 Y B3 C3
  by_cases ht : turn = 0
  · subst ht
    go_wp2_with fail
    go_ret
    exact ⟨by simp, B4.out⟩
  have OM := Aside0.mk (World.ownsRow_made (base := w4.heap.size) (size := 1) (e := 5) w4 #[] 0 (Nat.le_refl _) (Nat.zero_le _) rfl)
  go_wp2_with (at_builtin; refine wpList_append_bytes rfl (.tmp 53) (.tmp 54) rfl w4.heap.size _ [] rfl OM.out (some ⟨g, 0, none⟩) cap (frameN l) (by rw [FL]; rfl) (Kd.C_below C4.out (below_alloc (Below.refl _ _) _)) (by simp) (by simp; omega) (below_alloc (Below.refl _ _) _).size ?_)
  intro v5 w5 ho5 hb5
  have B5 := Aside0.mk (hb5 w4 (below_alloc (Below.refl _ _) _))
  have ho5' : OwnB w5 w4.heap.size v5 (frameN l) := ho5
  obtain ⟨g5, cap5, hv5⟩ := own_some ho5' (by omega)
  rw [FL] at hv5
  subst hv5
  have O5 := Aside0.mk ho5'
  clear ho5'
  clear ho5 hb5 OM
  have LAW := Aside0.mk (torn_law l hB hl turn t0 t1 ht)
  have hzb := hBk.out ((frameN l).getD (l.length + 7) 0) (by rw [List.getD_eq_getElem?_getD, List.getElem?_eq_getElem (by omega)]; exact List.getElem_mem _)
  have hzx := xor_byte hzb ⟨t0, t1⟩
  have hnz : (nums .u8 (frameN l))[l.length + 7]? = some (.int .u8 ((frameN l).getD (l.length + 7) 0)) := by
    unfold nums
    rw [List.getElem?_map, List.getD_eq_getElem?_getD, List.getElem?_eq_getElem (by omega)]
    rfl
  have hcell : w5.cell? ⟨g5, l.length + 7, none⟩ = some (.int .u8 ((frameN l).getD (l.length + 7) 0)) := by
    have := World.ownsRow.cells O5.out rfl _ _ hnz
    rwa [add_plain] at this
  have hfr : w5.frozen? ⟨g5, l.length + 7, none⟩ = false := by
    rcases O5.out.2 with ⟨h0, _⟩ | ⟨g', cap', cur, h0, hg', hh, _⟩
    · simp at h0
    · simp at h0
      obtain ⟨rfl, _⟩ := h0
      exact blk_frozen hh _
  generalize hz : (frameN l).getD (l.length + 7) 0 = z at *
  have ST := World.ownsRow.stored O5.out (l.length + 7) (.int .u8 (Go.bits .xor .u8 z turn))
  have S6 : OwnB (w5.setCell ⟨g5, l.length + 7, none⟩ (.int .u8 (Go.bits .xor .u8 z turn))) w4.heap.size (.slice (some ⟨g5, 0, none⟩) (l.length + 8) cap5) ((frameN l).set (l.length + 7) (Go.bits .xor .u8 z turn)) := by
    unfold OwnB
    rw [List.length_set]
    have := ST.1
    unfold nums at *
    rw [List.map_set]
    exact this
  obtain ⟨A6, c6, hv6, hcc6, hC6, _⟩ := OwnB.reads S6 (by rw [List.length_set]; omega)
  rw [List.length_set, FL] at hv6
  injection hv6 with e1 e2 e3
  subst e1 e3
  have B6 : Aside0 (Below W.heap.size W (w5.setCell ⟨g5, l.length + 7, none⟩ (.int .u8 (Go.bits .xor .u8 z turn)))) := ⟨(below_step B4.out B5.out).grown ST.2 (below_step B4.out B5.out).size fun k hk => by injection hk with hk; subst hk; exact Nat.le_trans B4.out.size (O5.out.lt _ rfl).1⟩
  have Y6 := Aside0.mk (first_any (some ⟨g5, 0, none⟩) cap5 _ _ hC6 hcc6 (fun x hx => by
    rcases List.mem_or_eq_of_mem_set hx with h | h
    · exact hBk.out x h
    · rw [h]; exact hzx) (by rw [List.length_set]; omega))
  rw [LAW.out, List.length_set, FL] at Y6
  clear ST S6 hC6 hcc6 hnz hzb hzx
  go_wp2_with fail
  refine Y6.out.mono ?_
  rintro e w7 ⟨A7, rfl, _, _, hb7⟩
  have B7 := Aside0.mk (below_step B6.out hb7)
  clear hb7
  go_wp2_with fail
  go_ret
  exact ⟨by simp, B7.out⟩
end Go.Proofs.Ytdabjklbmmnlkaa.TornW
namespace Go.Proofs.Ytdabjklbmmnlkaa.Hand
set_option linter.unusedVariables false
open Go.RowKit Go.Proofs.Ytdabjklbmmnlkaa.Nums Go.Proofs.YtdabjklbmmnlkaaW.PrintWords
theorem FrameTorn (A0 : Option Addr) (c0 : Nat) (l0 : List Int) (a1 a2 : Int) (W : World) (hr0 : Kd.C (Kd.int .u8) W A0 l0.length l0) (hc0 : l0.length ≤ c0) (hz0 : A0 = none → c0 = 0) (hm0 : l0.length ≤ maxLen) (hb0 : ∀ x ∈ l0, (Lit.int .u8 x).wf = true)
    (w1 : (Lit.int .u16 a1).wf = true) (w2 : (Lit.int .u8 a2).wf = true) :
    Calls Try.prog 6 #[.slice A0 l0.length c0, .int .u16 a1, .int .u8 a2] W fun e W' => e = .returned (.bool true) ∧ Below W.heap.size W W' := by
  by_cases hl : l0.length ≤ 16384
  · exact TornW.torn_calls A0 c0 l0 a1 a2 W hr0 hc0 hz0 (bytes_of_wf hb0) hl (wf_u16 w1).1 (wf_u16 w1).2 (wf_u8 w2).1 (wf_u8 w2).2
  · exact TornW.torn_large A0 c0 l0.length a1 a2 W (by omega)
end Go.Proofs.Ytdabjklbmmnlkaa.Hand
