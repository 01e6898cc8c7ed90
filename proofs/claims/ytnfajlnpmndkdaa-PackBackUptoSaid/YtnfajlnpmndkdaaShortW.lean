/- PackShort and PackNone, walked. No condition. -/
import Derived.Test.YtnfajlnpmndkdaaAwake
import Derived.Test.YtnfajlnpmndkdaaDigEq
namespace Go.Proofs.Ytnfajlnpmndkdaa.ShortW
set_option linter.unusedVariables false
set_option linter.unusedSimpArgs false
open Go.RowKit Go.Proofs.Ytnfajlnpmndkdaa.Nums Go.Proofs.Ytnfajlnpmndkdaa.PackM Go.Proofs.Ytnfajlnpmndkdaa.TurnM Go.Proofs.Ytnfajlnpmndkdaa.Libs Go.Proofs.Ytnfajlnpmndkdaa.StrW Go.Proofs.Ytnfajlnpmndkdaa.WriteW Go.Proofs.Ytnfajlnpmndkdaa.ReadW Go.Proofs.Ytnfajlnpmndkdaa.ReadX Go.Proofs.Ytnfajlnpmndkdaa.DigW Go.Proofs.Ytnfajlnpmndkdaa.Awake Go.Proofs.YtnfajlnpmndkdaaW.PrintWords Go.Proofs.YtnfajlnpmndkdaaW.PrintLast Go.Proofs.YtnfajlnpmndkdaaW.PrintMore
/-! ### the plain law -/
theorem specU_short {b : List Int} (hb : ∀ x ∈ b, 128 ≤ x) (hl : b.length ≤ 9) : ∀ d, d ≤ 9 → specU b d = (0, 0, 3)
  | 0, _ => by rw [specU, if_pos hl]
  | d + 1, h => by
    rw [specU]
    by_cases h1 : b.length ≤ 8 - d
    · rw [if_pos h1]
    · rw [if_neg h1, if_pos]
      · exact specU_short hb hl d (by omega)
      · rw [rd_get (by omega)]
        exact hb _ (List.getElem_mem _)
/-- A number that is cut is not read. -/
theorem num_short {n k : Nat} (hn : n < 18446744073709551616) (rest : List Int) (hk : k < (packN n).length) : (numR ((packN n ++ rest).take k) 0).2.2 ≠ 0 := by
  obtain ⟨pre, x, h1, h2, _⟩ := packN_form n
  have hl := packN_length hn
  rw [h1] at hk hl ⊢
  rw [List.length_append] at hk hl
  simp only [List.length_cons, List.length_nil] at hk hl
  have e : (pre ++ [x] ++ rest).take k = pre.take k := by
    rw [List.append_assoc, List.take_append_of_le_length (by omega)]
  rw [e]
  have := specU_short (b := pre.take k) (fun y hy => (h2 y (List.mem_of_mem_take hy)).1) (by rw [List.length_take]; omega) 9 (by omega)
  unfold numR
  rw [if_pos rfl, this]
  simp
theorem num_pack {n : Nat} (hn : n < 18446744073709551616) (rest : List Int) : numR (packN n ++ rest) 0 = ((n : Int), rest, 0) := by
  unfold numR
  rw [if_pos rfl, specU_pack hn, if_pos rfl]
  simp
theorem num_cut {n k : Nat} (hn : n < 18446744073709551616) (rest : List Int) (hk : (packN n).length ≤ k) : numR ((packN n ++ rest).take k) 0 = ((n : Int), rest.take (k - (packN n).length), 0) := by
  rw [List.take_append, List.take_of_length_le hk, num_pack hn]
theorem text_bad {l : List Int} {e : Int} (h : e ≠ 0) : textR l e = ([], l, e) := by
  unfold textR countR
  rw [numR_bad h]
  simp only [if_neg h]
  exact takeR_bad h
theorem flag_bad {l : List Int} {e : Int} (h : e ≠ 0) : flagR l e = (false, l, e) := by unfold flagR; rw [if_neg h]
theorem end_bad {l : List Int} {e : Int} (h : e ≠ 0) : endR l e ≠ 0 := by unfold endR; rw [if_neg h]; exact h
def P (n : Nat) (s : ByteArray) : List Int := packN n ++ textN s ++ flagN true
theorem short_law (n : Nat) (hn : n < 18446744073709551616) (s : ByteArray) (hs : s.size < 18446744073709551616) (k : Nat) (hk : k < (P n s).length) :
    endR (flagR (textR (numR ((P n s).take k) 0).2.1 (numR ((P n s).take k) 0).2.2).2.1 (textR (numR ((P n s).take k) 0).2.1 (numR ((P n s).take k) 0).2.2).2.2).2.1
      (flagR (textR (numR ((P n s).take k) 0).2.1 (numR ((P n s).take k) 0).2.2).2.1 (textR (numR ((P n s).take k) 0).2.1 (numR ((P n s).take k) 0).2.2).2.2).2.2 ≠ 0 := by
  have hP : P n s = packN n ++ (textN s ++ flagN true) := by unfold P; rw [List.append_assoc]
  rw [hP] at hk ⊢
  by_cases h1 : k < (packN n).length
  · have h := num_short hn (textN s ++ flagN true) h1
    generalize numR ((packN n ++ (textN s ++ flagN true)).take k) 0 = a at h
    rw [text_bad h]
    simp only
    rw [flag_bad h]
    exact end_bad h
  rw [num_cut hn _ (by omega)]
  have ht : textN s ++ flagN true = packN s.size ++ (numsOf s ++ flagN true) := by unfold textN; rw [List.append_assoc]
  rw [ht] at hk ⊢
  rw [List.length_append, List.length_append, List.length_append, numsOf_length] at hk
  have hf : (flagN true).length = 1 := rfl
  rw [hf] at hk
  obtain ⟨k2, hk2⟩ : ∃ k2, k - (packN n).length = k2 := ⟨_, rfl⟩
  have hk2' : k2 < (packN s.size).length + (s.size + 1) := by omega
  simp only [hk2]
  clear hk hk2 h1
  have fin_ : ∀ (l : List Int) (h : (textR l 0).2.2 ≠ 0), endR (flagR (textR l 0).2.1 (textR l 0).2.2).2.1 (flagR (textR l 0).2.1 (textR l 0).2.2).2.2 ≠ 0 := by
    intro l h
    rw [flag_bad h]
    exact end_bad h
  by_cases h2 : k2 < (packN s.size).length
  · refine fin_ _ ?_
    have h := num_short hs (numsOf s ++ flagN true) h2
    unfold textR countR
    rw [if_neg h]
    simp only
    rw [takeR_bad h]
    exact h
  have hN := num_cut hs (numsOf s ++ flagN true) (k := k2) (by omega)
  obtain ⟨k3, hk3⟩ : ∃ k3, k2 - (packN s.size).length = k3 := ⟨_, rfl⟩
  rw [hk3] at hN
  have hk3' : k3 ≤ s.size := by omega
  by_cases h3 : s.size > 16384
  · refine fin_ _ ?_
    unfold textR countR
    rw [hN, if_pos rfl, if_pos (by right; show (s.size : Int) > 16384; omega)]
    simp only
    rw [takeR_bad (by decide)]
    show (17 : Int) ≠ 0
    decide
  have hrl : ((numsOf s ++ flagN true).take k3).length = k3 := by rw [List.length_take, List.length_append, numsOf_length, hf]; omega
  have hC : countR 16384 ((packN s.size ++ (numsOf s ++ flagN true)).take k2) 0 = ((s.size : Int), (numsOf s ++ flagN true).take k3, 0) := by
    unfold countR
    rw [hN, if_pos rfl, if_neg (by show ¬ ((16384 : Int) < 0 ∨ (s.size : Int) > 16384); omega)]
  by_cases h4 : s.size ≤ k3
  · have hT : textR ((packN s.size ++ (numsOf s ++ flagN true)).take k2) 0 = (((numsOf s ++ flagN true).take k3).take s.size, [], 0) := by
      unfold textR
      rw [hC]
      simp only [Int.toNat_natCast]
      rw [takeR_ok (by rw [hrl]; exact h4), List.drop_eq_nil_of_le (by rw [hrl]; exact hk3')]
    rw [hT]
    show endR [] 3 ≠ 0
    decide
  · refine fin_ _ ?_
    unfold textR
    rw [hC]
    simp only [Int.toNat_natCast]
    rw [takeR_short (by rw [hrl]; exact h4)]
    show (3 : Int) ≠ 0
    decide
/-! ### the walks -/
set_option maxHeartbeats 4000000 in
set_option maxRecDepth 100000 in
theorem none_calls (n : Nat) (s : ByteArray) (w : World) (hn : n < 18446744073709551616) (hs : s.size ≤ 140737488355328) :
    Calls Try.prog 7 #[.int .u64 n, .string s] w fun e w' => e = .returned (.bool true) ∧ Below w.heap.size w w' := by
  go_enter Try.func7, Try.ntmps7
  go_wp2_with fail
  (with_reducible refine (WriteW.num_nil n w hn).mono ?_)
  rintro e w1 ⟨rfl, hb1⟩
  have B1 := Aside0.mk hb1
  clear hb1
  go_wp2_with fail
  (with_reducible refine (WriteW.int_nil 5 w1 (by omega) (by omega)).mono ?_)
  rintro e w2 ⟨rfl, hb2⟩
  have B2 := Aside0.mk (below_step B1.out hb2)
  clear hb2
  go_wp2_with fail
  (with_reducible refine (WriteW.text_nil s w2 hs).mono ?_)
  rintro e w3 ⟨rfl, hb3⟩
  have B3 := Aside0.mk (below_step B2.out hb3)
  clear hb3
  go_wp2_with fail
  (with_reducible refine (WriteW.flag_nil true w3).mono ?_)
  rintro e w4 ⟨rfl, hb4⟩
  have B4 := Aside0.mk (below_step B3.out hb4)
  clear hb4
  go_wp2_with fail
  (refine (WriteW.digest_nil (1 :: List.replicate 31 0) w4 rfl).mono ?_)
  rintro e w5 ⟨rfl, hb5⟩
  have B5 := Aside0.mk (below_step B4.out hb5)
  clear hb5
  go_wp2_with fail
  (with_reducible refine (awake_calls w5).mono ?_)
  rintro e w6 ⟨rfl, hb6⟩
  have B6 := Aside0.mk (below_step B5.out hb6)
  clear hb6
  go_wp2_with fail
  (with_reducible refine (WriteW.out_nil w6).mono ?_)
  rintro e w7 ⟨rfl, rfl⟩
  go_wp2_with fail
  (with_reducible refine (ReadW.num_none _).mono ?_)
  rintro e w7 ⟨rfl, rfl⟩
  go_wp2_with fail
  (with_reducible refine (ReadW.int_none _).mono ?_)
  rintro e w8 ⟨rfl, hb8⟩
  have B8 := Aside0.mk (below_step B6.out hb8)
  clear hb8
  go_wp2_with fail
  (with_reducible refine (ReadX.flag_none _).mono ?_)
  rintro e w9 ⟨rfl, rfl⟩
  go_wp2_with fail
  (with_reducible refine (ReadX.text_none _).mono ?_)
  rintro e w9 ⟨rfl, rfl⟩
  go_wp2_with fail
  (with_reducible refine (dig_none _).mono ?_)
  rintro e w10 ⟨rfl, hb10⟩
  have B10 := Aside0.mk (below_step B8.out hb10)
  clear hb10
  have qe : ∀ w, (Op.equalIn 10000 41 (.agg (nums .u8 zero32).toArray) (.agg #[Value.int .u8 0, Value.int .u8 0, Value.int .u8 0, Value.int .u8 0, Value.int .u8 0, Value.int .u8 0, Value.int .u8 0, Value.int .u8 0, Value.int .u8 0, Value.int .u8 0, Value.int .u8 0, Value.int .u8 0, Value.int .u8 0, Value.int .u8 0, Value.int .u8 0, Value.int .u8 0, Value.int .u8 0, Value.int .u8 0, Value.int .u8 0, Value.int .u8 0, Value.int .u8 0, Value.int .u8 0, Value.int .u8 0, Value.int .u8 0, Value.int .u8 0, Value.int .u8 0, Value.int .u8 0, Value.int .u8 0, Value.int .u8 0, Value.int .u8 0, Value.int .u8 0, Value.int .u8 0])).run Try.prog w = .ok true w := fun w => DigEq.dig_eq (D := zero32) (E := zero32) rfl rfl DigEq.zero_bytes DigEq.zero_bytes w
  unfold digV
  go_wp2_with fail
  (with_reducible refine (ReadX.count_none _ _).mono ?_)
  rintro e w11 ⟨rfl, rfl⟩
  clear qe
  go_wp2_with fail
  (with_reducible refine (ReadX.error_none _).mono ?_)
  rintro e w11 ⟨rfl, rfl⟩
  go_wp2_with fail
  (with_reducible refine (ReadX.end_none _).mono ?_)
  rintro e w11 ⟨rfl, rfl⟩
  go_wp2_with fail
  go_ret
  exact ⟨by simp, B10.out⟩
theorem P_length (n : Nat) (s : ByteArray) : (P n s).length = (packN n).length + ((packN s.size).length + s.size) + 1 := by
  unfold P textN
  simp [numsOf_length, flagN]; omega
theorem P_bytes (n : Nat) (s : ByteArray) : Bytes (P n s) := by
  intro x hx
  unfold P textN at hx
  rcases List.mem_append.1 hx with hx | hx
  · rcases List.mem_append.1 hx with hx | hx
    · exact packN_bytes n x hx
    · rcases List.mem_append.1 hx with hx | hx
      · exact packN_bytes _ x hx
      · exact numsOf_bytes s x hx
  · have : x = 1 := by simpa [flagN] using hx
    omega
theorem text_len (l : List Int) (e : Int) : (textR l e).2.1.length ≤ l.length := by
  have := countR_len 16384 l e
  unfold textR takeR
  split
  · split
    · simp only [List.length_drop]; omega
    · exact this
  · exact this
theorem text_bytes {l : List Int} (h : Bytes l) (e : Int) : Bytes (textR l e).2.1 := by
  have h1 : Bytes (countR 16384 l e).2.1 := by
    have := numR_bytes h e
    unfold countR
    split
    · split <;> exact this
    · exact this
  unfold textR takeR
  split
  · split
    · exact fun x hx => h1 x (List.mem_of_mem_drop hx)
    · exact h1
  · exact h1
theorem flag_len (l : List Int) (e : Int) : (flagR l e).2.1.length ≤ l.length := by
  unfold flagR
  split
  · cases l with
    | nil => simp
    | cons b r => simp only; split <;> simp
  · exact Nat.le_refl _
theorem flag_bytes {l : List Int} (h : Bytes l) (e : Int) : Bytes (flagR l e).2.1 := by
  unfold flagR
  split
  · cases l with
    | nil => exact h
    | cons b r => simp only; split <;> exact fun x hx => h x (by simp [hx])
  · exact h
set_option maxHeartbeats 4000000 in
set_option maxRecDepth 100000 in
theorem short_calls (n : Nat) (s : ByteArray) (cut : Nat) (w : World) (hn : n < 18446744073709551616) (hs : s.size ≤ 140737488351232) (hc : cut < 65536) :
    Calls Try.prog 3 #[.int .u64 n, .string s, .int .u16 cut] w fun e w' => e = .returned (.bool true) ∧ Below w.heap.size w w' := by
  have hpl := P_length n s
  have hp1 := packN_length hn
  have hp2 := packN_length (n := s.size) (by omega)
  have hpos : 0 < (P n s).length := by omega
  have hmax : (P n s).length ≤ 140737488351253 := by omega
  have HPB := Aside0.mk (P_bytes n s)
  obtain ⟨k, hk⟩ : ∃ k, cut % (P n s).length = k := ⟨_, rfl⟩
  have hkl : k < (P n s).length := by rw [← hk]; exact Nat.mod_lt _ hpos
  have LAW := Aside0.mk (short_law n hn s (by omega) k hkl)
  have hki : (cut : Int) % ((P n s).length : Int) = (k : Int) := by rw [← hk, Int.natCast_emod]
  have HPP : Aside0 ((([] ++ packN n) ++ textN s) ++ flagN true = P n s) := ⟨rfl⟩
  have HHs := Aside0.mk hs
  have HT : Aside0 ((textN s).length ≤ 10 + s.size) := ⟨by unfold textN; rw [List.length_append, numsOf_length]; omega⟩
  have HP1 := Aside0.mk hp1
  clear hk hpl hp1 hp2
  go_enter Try.func3, Try.ntmps3
  go_wp2_with fail
  (with_reducible refine (new_calls w).mono ?_)
  rintro e w1 ⟨rfl, hW1, hb1⟩
  have B1 := Aside0.mk hb1
  have K2 := Aside0.mk (num_calls w.heap.size [] n w1 hW1 hn (by simp))
  clear hb1 hW1
  go_wp2_with fail
  (with_reducible refine K2.out.mono ?_)
  rintro e w2 ⟨rfl, hW2, hb2⟩
  have B2 := Aside0.mk (B1.out.trans hb2)
  have K3 := Aside0.mk (WriteW.text_calls w.heap.size _ s w2 hW2 (by have := HP1.out; rw [List.length_append]; simp; omega))
  clear hb2 hW2 K2
  go_wp2_with fail
  (with_reducible refine K3.out.mono ?_)
  rintro e w3 ⟨rfl, hW3, hb3⟩
  have B3 := Aside0.mk (B2.out.trans hb3)
  have K4 := Aside0.mk (WriteW.flag_calls w.heap.size _ true w3 hW3 (by have h1 := HP1.out; have h2 := HT.out; rw [List.length_append, List.length_append]; simp; omega))
  clear hb3 hW3 K3
  go_wp2_with fail
  (with_reducible refine K4.out.mono ?_)
  rintro e w4 ⟨rfl, hW4, hb4⟩
  rw [HPP.out] at hW4
  have B4 := Aside0.mk (B3.out.trans hb4)
  generalize P n s = L at *
  have K5 := Aside0.mk (out_calls w.heap.size L w4 hW4 (by omega))
  clear hb4 hW4 K4
  go_wp2_with fail
  (with_reducible refine K5.out.mono ?_)
  rintro e w5 ⟨A, rfl, hC5, hz5, hb5⟩
  have B5 := Aside0.mk (below_step B4.out hb5)
  have C5 := Aside0.mk hC5
  have Z5 := Aside0.mk hz5
  clear hb5 hC5 hz5 K5
  have hlp : ((L.length : Int) == 0) = false := by rw [beq_eq_false_iff_ne]; omega
  go_wp2_with fail
  (with_reducible refine (awake_calls w5).mono ?_)
  rintro e w6 ⟨rfl, hb6⟩
  have B6 := Aside0.mk (below_step B5.out hb6)
  have C6 := Aside0.mk (Kd.C_below C5.out hb6)
  clear hb6
  obtain ⟨i0, hi0, _, hsz0, _⟩ := info_parts Libs.info5
  have cut1 : ∀ w : World, (Instr.slice 24 (.slice A L.length L.length) none (some (.int .i64 (k : Int))) none).run Try.prog w = .ok (.slice A k L.length) w := by
    have := cut_to (P := Try.prog) 24 5 .i64 Try.underlying24 hi0 A L.length L.length (k : Int) (by omega) (by omega) (Nat.le_refl _)
    simpa using this
  have hlk : (L.take k).length = k := by rw [List.length_take]; omega
  have K7 := ReadW.read_calls A L.length (L.take k) w6 (Kd.C_take C6.out (by omega)) (fun e => Z5.out e) (by rw [hlk]; omega)
  rw [hlk] at K7
  replace K7 := Aside0.mk K7
  have HLK := Aside0.mk hlk
  clear hi0 hsz0 hlk
  go_wp2_with fail
  (with_reducible refine K7.out.mono ?_)
  rintro e w7 ⟨g, rfl, hg, hR7, hb7⟩
  have B7 := Aside0.mk (below_step B6.out hb7)
  have HG := Aside0.mk (Nat.le_trans B6.out.size hg)
  have hTB : Bytes (L.take k) := fun x hx => HPB.out x (List.mem_of_mem_take hx)
  have hTL : (L.take k).length ≤ 140737488355328 := by rw [HLK.out]; omega
  have K8 := Aside0.mk (ReadW.num_calls g _ 0 w7 hR7 hTB hTL)
  have b8 := numR_bytes hTB 0
  have l8 := Nat.le_trans (numR_len (L.take k) 0) hTL
  generalize numR (L.take k) 0 = a at *
  have b9 := text_bytes b8 a.2.2
  have l9 := Nat.le_trans (text_len a.2.1 a.2.2) l8
  have HB8 := Aside0.mk b8
  have HL8 := Aside0.mk l8
  clear hb7 hR7 K7 hg hTB hTL cut1 b8 l8
  go_wp2_with fail
  (with_reducible refine K8.out.mono ?_)
  rintro e w8 ⟨rfl, hR8, hg8⟩
  have B8 := Aside0.mk (B7.out.grown hg8 B7.out.size (fun k hk => by injection hk with hk; subst hk; exact HG.out))
  have K9 := Aside0.mk (ReadX.text_calls g _ _ w8 hR8 HB8.out HL8.out)
  generalize textR a.2.1 a.2.2 = b at *
  have HB9 := Aside0.mk b9
  have HL9 := Aside0.mk l9
  have b10 := flag_bytes b9 b.2.2
  have l10 := Nat.le_trans (flag_len b.2.1 b.2.2) l9
  clear hR8 hg8 K8 b9 l9
  go_wp2_with fail
  (with_reducible refine K9.out.mono ?_)
  rintro e w9 ⟨rfl, hR9, hg9⟩
  have B9 := Aside0.mk (B8.out.grown hg9 B8.out.size (fun k hk => by injection hk with hk; subst hk; exact HG.out))
  have K10 := Aside0.mk (ReadX.flag_calls g _ _ w9 hR9 HB9.out HL9.out)
  generalize flagR b.2.1 b.2.2 = c at *
  have HB10 := Aside0.mk b10
  have HL10 := Aside0.mk l10
  clear hR9 hg9 K9 b10 l10
  go_wp2_with fail
  (with_reducible refine K10.out.mono ?_)
  rintro e w10 ⟨rfl, hR10, hg10⟩
  have B10 := Aside0.mk (B9.out.grown hg10 B9.out.size (fun k hk => by injection hk with hk; subst hk; exact HG.out))
  have R10 := Aside0.mk hR10
  clear hR10 hg10 K10
  go_wp2_with fail
  (with_reducible refine (awake_calls w10).mono ?_)
  rintro e w11 ⟨rfl, hb11⟩
  have B11 := Aside0.mk (below_step B10.out hb11)
  have K12 := Aside0.mk (ReadX.end_calls g _ _ w11 (R10.out.below hb11) HL10.out)
  have hne := LAW.out
  generalize endR c.2.1 c.2.2 = ee at *
  have hne' : (ee == 0) = false := by rw [beq_eq_false_iff_ne]; exact hne
  have hne'' : (ee != 0) = true := by rw [bne_iff_ne]; exact hne
  have HN := Aside0.mk hne
  clear hb11 R10 hne
  go_wp2_with fail
  (with_reducible refine K12.out.mono ?_)
  rintro e w12 ⟨rfl, hR12, hg12⟩
  have B12 := Aside0.mk (B11.out.grown hg12 B11.out.size (fun k hk => by injection hk with hk; subst hk; exact HG.out))
  have K13 := ReadW.num_calls g _ _ w12 hR12 HB10.out HL10.out
  rw [numR_bad HN.out] at K13
  replace K13 := Aside0.mk K13
  clear hR12 hg12 K12
  go_wp2_with fail
  (with_reducible refine K13.out.mono ?_)
  rintro e w13 ⟨rfl, hR13, hg13⟩
  have B13 := Aside0.mk (B12.out.grown hg13 B12.out.size (fun k hk => by injection hk with hk; subst hk; exact HG.out))
  have K14 := ReadX.text_calls g _ _ w13 hR13 HB10.out HL10.out
  rw [text_bad HN.out] at K14
  replace K14 := Aside0.mk K14
  clear hR13 hg13 K13
  go_wp2_with fail
  (with_reducible refine K14.out.mono ?_)
  rintro e w14 ⟨rfl, hR14, hg14⟩
  have B14 := Aside0.mk (B13.out.grown hg14 B13.out.size (fun k hk => by injection hk with hk; subst hk; exact HG.out))
  have hs0 : strOfNums [] = { data := #[] } := rfl
  clear hR14 hg14 K14
  go_wp2_with fail
  go_ret
  exact ⟨by simp, B14.out⟩
end Go.Proofs.Ytnfajlnpmndkdaa.ShortW
namespace Go.Proofs.Ytnfajlnpmndkdaa.Hand
set_option linter.unusedVariables false
open Go.RowKit Go.Proofs.Ytnfajlnpmndkdaa.Nums Go.Proofs.YtnfajlnpmndkdaaW.PrintWords
theorem PackNone (a0 : Int) (a1 : ByteArray) (W : World) (w0 : (Lit.int .u64 a0).wf = true) (w1 : a1.size ≤ 140737488351232) :
    Calls Try.prog 7 #[.int .u64 a0, .string a1] W fun e W' => e = .returned (.bool true) ∧ Below W.heap.size W W' := by
  obtain ⟨h1, h1'⟩ := wf_u64 w0
  obtain ⟨n, rfl⟩ := Int.eq_ofNat_of_zero_le h1
  exact ShortW.none_calls n a1 W (by omega) (by omega)
theorem PackShort (a0 : Int) (a1 : ByteArray) (a2 : Int) (W : World) (w0 : (Lit.int .u64 a0).wf = true) (w1 : a1.size ≤ 140737488351232) (w2 : (Lit.int .u16 a2).wf = true) :
    Calls Try.prog 3 #[.int .u64 a0, .string a1, .int .u16 a2] W fun e W' => e = .returned (.bool true) ∧ Below W.heap.size W W' := by
  obtain ⟨h1, h1'⟩ := wf_u64 w0
  obtain ⟨h2, h2'⟩ := wf_u16 w2
  obtain ⟨n, rfl⟩ := Int.eq_ofNat_of_zero_le h1
  obtain ⟨c, rfl⟩ := Int.eq_ofNat_of_zero_le h2
  exact ShortW.short_calls n a1 c W (by omega) w1 (by omega)
end Go.Proofs.Ytnfajlnpmndkdaa.Hand
