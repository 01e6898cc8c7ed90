/- CrcFinds: the law's walk over any text. No condition. -/
import Derived.Test.YthcebfjpgmkjjaaSumM
namespace Go.Proofs.Ythcebfjpgmkjjaa.Hand
set_option linter.unusedVariables false
set_option linter.unusedSimpArgs false
open Go.RowKit Go.Proofs.Ythcebfjpgmkjjaa.PAll Go.Proofs.Ythcebfjpgmkjjaa.Nums Go.Proofs.Ythcebfjpgmkjjaa.CrcM Go.Proofs.Ythcebfjpgmkjjaa.ShiftM Go.Proofs.Ythcebfjpgmkjjaa.SumM Go.Proofs.Ythcebfjpgmkjjaa.Awake Go.Proofs.YthcebfjpgmkjjaaW.PrintWords Go.Proofs.YthcebfjpgmkjjaaW.PrintLast Go.Proofs.YthcebfjpgmkjjaaW.PrintMore
/-- Bit j is turned. -/
def turned (xs : List Int) (j : Nat) : List Int := xs.set (j / 8) (((rd xs ((j / 8 : Nat) : Int)).toNat ^^^ 2 ^ (j % 8) : Nat) : Int)
def flips (b : List Int) (burst k : Nat) : Nat → List Int
  | 0 => b
  | i + 1 => if burst / 2 ^ i % 2 = 1 then turned (flips b burst k i) (k + i) else flips b burst k i
theorem turned_length (xs : List Int) (j : Nat) : (turned xs j).length = xs.length := by simp [turned]
theorem flips_length (b : List Int) (burst k : Nat) : ∀ i, (flips b burst k i).length = b.length
  | 0 => rfl
  | i + 1 => by rw [flips]; split <;> simp [turned_length, flips_length b burst k i]
theorem xor8_lt {x q : Nat} (hx : x < 256) (hq : q < 8) : x ^^^ 2 ^ q < 256 := by
  have h : (2 : Nat) ^ q < 2 ^ 8 := Nat.pow_lt_pow_right (by decide) hq
  exact Nat.xor_lt_two_pow (n := 8) hx h
theorem turned_bytes {xs : List Int} (h : Bytes xs) (j : Nat) : Bytes (turned xs j) := by
  intro y hy
  rcases List.mem_or_eq_of_mem_set hy with hy | rfl
  · exact h y hy
  · have hx := rd_byte h (j / 8)
    have := xor8_lt (x := (rd xs ((j / 8 : Nat) : Int)).toNat) (q := j % 8) (by omega) (by omega)
    omega
theorem flips_bytes {b : List Int} (h : Bytes b) (burst k : Nat) : ∀ i, Bytes (flips b burst k i)
  | 0 => h
  | i + 1 => by rw [flips]; split; exact turned_bytes (flips_bytes h burst k i) _; exact flips_bytes h burst k i
theorem numB_set : ∀ (xs : List Int) (i : Nat), Bytes xs → i < xs.length → ∀ q, q < 8 → numB (xs.set i (((rd xs (i : Int)).toNat ^^^ 2 ^ q : Nat) : Int)) = numB xs ^^^ 2 ^ (8 * i + q)
  | x :: l, 0, h, hi, q, hq => by
    have hx := h x (by simp)
    have e : rd (x :: l) ((0 : Nat) : Int) = x := by simp [rd]
    rw [e, List.set_cons_zero, numB, numB, Int.toNat_natCast]
    have h1 := add_xor (x := x.toNat) (i := 8) (numB l) (by omega)
    have h2 := add_xor (x := x.toNat ^^^ 2 ^ q) (i := 8) (numB l) (xor8_lt (by omega) hq)
    rw [show (2 : Nat) ^ 8 = 256 by decide] at h1 h2
    rw [h1, h2, Nat.xor_assoc, Nat.xor_comm (2 ^ q), ← Nat.xor_assoc, Nat.mul_zero, Nat.zero_add]
  | x :: l, i + 1, h, hi, q, hq => by
    have hx := h x (by simp)
    have e : rd (x :: l) ((i + 1 : Nat) : Int) = rd l (i : Int) := by simp [rd]
    have ih := numB_set l i (fun y hy => h y (by simp [hy])) (by simpa using hi) q hq
    rw [e, List.set_cons_succ, numB, numB, ih]
    have h1 := add_xor (x := x.toNat) (i := 8) (numB l) (by omega)
    have h2 := add_xor (x := x.toNat) (i := 8) (numB l ^^^ 2 ^ (8 * i + q)) (by omega)
    rw [show (2 : Nat) ^ 8 = 256 by decide] at h1 h2
    have h3 : (numB l ^^^ 2 ^ (8 * i + q)) * 256 = (numB l * 256) ^^^ 2 ^ (8 * (i + 1) + q) := by
      rw [show (256 : Nat) = 2 ^ 8 by decide, ← Nat.shiftLeft_eq, Nat.shiftLeft_xor_distrib, Nat.shiftLeft_eq, Nat.shiftLeft_eq, ← Nat.pow_add]
      congr 2
      omega
    rw [h1, h2, h3, Nat.xor_assoc]
theorem flips_num {b : List Int} (h : Bytes b) {burst k : Nat} (hk : k + 32 ≤ 8 * b.length) : ∀ i, i ≤ 32 → numB (flips b burst k i) = numB b ^^^ (burst % 2 ^ i * 2 ^ k)
  | 0, hi => by simp [flips, Nat.mod_one]
  | i + 1, hi => by
    have ih := flips_num h (burst := burst) hk i (by omega)
    have hm : burst % 2 ^ (i + 1) = burst % 2 ^ i + 2 ^ i * (burst / 2 ^ i % 2) := by rw [Nat.pow_succ, Nat.mod_mul]
    have hx := add_xor (x := burst % 2 ^ i) (i := i) (burst / 2 ^ i % 2) (Nat.mod_lt _ (Nat.two_pow_pos i))
    rw [flips]
    by_cases hb : burst / 2 ^ i % 2 = 1
    · rw [if_pos hb, turned, numB_set _ _ (flips_bytes h burst k i) (by rw [flips_length]; omega) _ (by omega), ih, show 8 * ((k + i) / 8) + (k + i) % 8 = k + i by omega, hm, hx, hb, Nat.one_mul, ← Nat.shiftLeft_eq, ← Nat.shiftLeft_eq, Nat.shiftLeft_xor_distrib, Nat.shiftLeft_eq, Nat.shiftLeft_eq, ← Nat.pow_add, Nat.xor_assoc, Nat.add_comm i k]
    · rw [if_neg hb, ih, hm, show burst / 2 ^ i % 2 = 0 by omega, Nat.mul_zero, Nat.add_zero]
theorem finds_law {b : List Int} (h : Bytes b) {burst k : Nat} (h0 : burst ≠ 0) (h32 : burst < 4294967296) (hk : k + 32 ≤ 8 * b.length) : sumN [flips b burst k 32] ≠ sumN [b] := by
  refine finds (flips_bytes h burst k 32) h (flips_length b burst k 32) (k := k) (burst := burst) ?_ h0 h32 (by omega)
  rw [flips_num h hk 32 (by omega), Nat.mod_eq_of_lt (by omega)]
set_option maxHeartbeats 1000000 in
set_option maxRecDepth 100000 in
theorem finds_short (A0 : Option Addr) (c0 : Nat) (l0 : List Int) (at_ burst : Int) (w : World) (hs : l0.length < 5 ∨ burst = 0) (hm0 : l0.length ≤ maxLen) :
    Calls Try.prog 6 #[.slice A0 l0.length c0, .int .u16 at_, .int .u32 burst] w fun e w' => e = .returned (.bool true) ∧ Below w.heap.size w w' := by
  unfold maxLen at hm0
  rcases hs with hs | hs
  · have hb : decide ((l0.length : Int) < 5) = true := by simp; omega
    have hb2 : decide (l0.length < 5) = true := by simp; omega
    go_enter Try.func6, Try.ntmps6
    go_wp2_with fail
    refine (awake_calls w).mono ?_
    rintro e w1 ⟨rfl, hb⟩
    have H1 := Aside0.mk hb
    clear hb
    go_wp2_with fail
    refine (awake_calls _).mono ?_
    rintro e w2 ⟨rfl, hb⟩
    have H2 : Aside0 (Below w.heap.size w w2) := ⟨below_step H1.out hb⟩
    clear hb
    go_wp2_with fail
    go_ret
    exact ⟨rfl, H2.out⟩
  · subst hs
    by_cases hl : l0.length < 5
    · have hb : decide ((l0.length : Int) < 5) = true := by simp; omega
      go_enter Try.func6, Try.ntmps6
      go_wp2_with fail
      refine (awake_calls w).mono ?_
      rintro e w1 ⟨rfl, hb⟩
      have H1 := Aside0.mk hb
      clear hb
      go_wp2_with fail
      refine (awake_calls _).mono ?_
      rintro e w2 ⟨rfl, hb⟩
      have H2 : Aside0 (Below w.heap.size w w2) := ⟨below_step H1.out hb⟩
      clear hb
      go_wp2_with fail
      go_ret
      exact ⟨rfl, H2.out⟩
    · have hb : decide ((l0.length : Int) < 5) = false := by simp; omega
      go_enter Try.func6, Try.ntmps6
      go_wp2_with fail
      refine (awake_calls w).mono ?_
      rintro e w1 ⟨rfl, hb⟩
      have H1 := Aside0.mk hb
      clear hb
      go_wp2_with fail
      refine (awake_calls _).mono ?_
      rintro e w2 ⟨rfl, hb⟩
      have H2 : Aside0 (Below w.heap.size w w2) := ⟨below_step H1.out hb⟩
      clear hb
      go_wp2_with fail
      go_ret
      exact ⟨rfl, H2.out⟩
theorem info5 : (Try.prog.info? 5).map (fun i => (i.zero, i.size, i.bytes)) = some (some (.int .u8 0), 1, 1) := by kernel_rfl
def RelF (l0 : List Int) (burst k : Nat) (W : World) (A : Option Addr) (c : Nat) (v9 : Value) (wr : World) : Prop :=
  ∃ i : Nat, i ≤ 32 ∧ v9 = .int .i64 (i : Int) ∧ Aside0 (Kd.R (Kd.int .u8) 5 wr W.heap.size (fun _ => True) (.slice A l0.length c) (flips l0 burst k i)) ∧ Aside0 (Below W.heap.size W wr)
set_option maxHeartbeats 2000000 in
set_option maxRecDepth 100000 in
theorem finds_long (A0 : Option Addr) (c0 : Nat) (l0 : List Int) (at_ burst : Nat) (w : World) (hs : ¬ l0.length < 5) (hb0 : burst ≠ 0) (h32 : burst < 4294967296) (hat : at_ < 65536)
    (hr0 : Kd.C (Kd.int .u8) w A0 l0.length l0) (hc0 : l0.length ≤ c0) (hm0 : l0.length * 1 ≤ 140737488351232) (hbt : ∀ x ∈ l0, (Lit.int .u8 x).wf = true) :
    Calls Try.prog 6 #[.slice A0 l0.length c0, .int .u16 at_, .int .u32 burst] w fun e w' => e = .returned (.bool true) ∧ Below w.heap.size w w' := by
  have HBy := Aside0.mk (bytes_of_wf hbt)
  have R0 := Aside0.mk hr0
  have C0 := Aside0.mk hc0
  clear hbt hr0 hc0
  have hb : decide ((l0.length : Int) < 5) = false := by simp; omega
  have hb2 : ((burst : Int) == 0) = false := by rw [beq_eq_false_iff_ne]; omega
  have hl5 : 5 ≤ l0.length := by omega
  have HB0 := Aside0.mk hb0
  clear hb0 hs
  go_enter Try.func6, Try.ntmps6
  go_wp2_with fail
  refine (awake_calls w).mono ?_
  rintro e w1 ⟨rfl, hb⟩
  have HB := Aside0.mk hb
  clear hb
  go_wp2_with (first
    | ((with_reducible refine gate_dst (N := 22) rfl ?_); refine Kd.R_lit (Kd.int .u8) _ 5 ?hg (N := 22) ?hd (xs := ([] : List Int)) (inner := []) (ok := fun _ => True) (okp := fun _ => True) ?hr ?hp (fun _ hk => hk) trivial (Below.refl _ _) (Nat.le_refl _) (by simp) ?_; (case hd => rfl); (case hg => rfl); (case hr => first | (go_simp; done) | (go_simp; rfl)); (case hp => exact (Reps.none _ _)); intro v22 w2 ho2 hb hg_ hnew_; clear hg_ hnew_; have HO2 := Aside0.mk (Kd.R_lower ho2 (below_size HB.out)); have HB2 := Aside0.mk (below_step HB.out hb); clear hb ho2)
    | ((with_reducible refine gate_builtin (b := .append) (xs := #[.tmp 22, .tmp 23]) rfl ?_); at_builtin; refine Kd.R_append_row (Value.int .u8) 0 (h1 := fun _ => rfl) (w0 := w) w.heap.size rfl (.tmp 22) (.tmp 23) 23 5 (.int .u8 0) 1 rfl Try.underlying23 info5 rfl (by decide) v22 [] l0 A0 l0.length c0 (fun _ => True) rfl rfl (fun _ _ => trivial) HO2.out (Kd.C_below R0.out HB2.out) HB2.out (below_size HB2.out) (by simp; omega) ?_; intro v24 w3 ho3 hb hg_ hat_; have HO3 := Aside0.mk ho3; have HB3 := Aside0.mk hb; clear hb ho3 hg_ hat_))
  obtain ⟨A, c, rfl⟩ := Kd.R_slice HO3.out
  obtain ⟨k, hk⟩ : ∃ k : Nat, (at_ : Int) % ((l0.length : Int) * 8 - 31) = (k : Int) := ⟨((at_ : Int) % ((l0.length : Int) * 8 - 31)).toNat, by rw [Int.toNat_of_nonneg]; exact Int.emod_nonneg _ (by omega)⟩
  have hk32 : k + 32 ≤ 8 * l0.length := by
    have := Int.emod_lt_of_pos (at_ : Int) (b := (l0.length : Int) * 8 - 31) (by omega)
    omega
  rw [hk]
  clear hk hat hb2
  have HO4 : Aside0 (Kd.R (Kd.int .u8) 5 w3 w.heap.size (fun _ => True) (.slice A l0.length c) l0) := ⟨by have := HO3.out; rw [List.nil_append] at this; exact this⟩
  obtain ⟨g, c', eo, gb, gl, _⟩ := Kd.R_form HO4.out (by omega)
  injection eo with ea _ ec
  subst ea ec
  have GB := Aside0.mk gb
  clear gb gl
  go_loopw [9] (fun v9 wr => RelF l0 burst k w (some ⟨g, 0, none⟩) c v9 wr) (fun v9 _ => 32 - (intOf v9).toNat)
  case atStart => exact ⟨0, by omega, rfl, HO4, HB3⟩
  case round =>
    clear HO4 HO3 HB3 HB HB2 HO2
    obtain ⟨i, hi, rfl, HO, HB⟩ := hrel
    by_cases hlt : i < 32
    · have hq : ((burst : Int) / 2 ^ i).tmod 2 = ((burst / 2 ^ i % 2 : Nat) : Int) := by
        rw [show (burst : Int) / 2 ^ i = ((burst / 2 ^ i : Nat) : Int) by simp]
        generalize burst / 2 ^ i = z
        rw [Int.tmod_eq_emod_of_nonneg (by omega)]; simp
      by_cases hbit : burst / 2 ^ i % 2 = 1
      · have hbb : (((burst : Int) / 2 ^ i).tmod 2 == 1) = true := by rw [hq, hbit]; rfl
        have hj : (k + i) / 8 < l0.length := by omega
        obtain ⟨hcell, hfroz⟩ := Kd.R_celln 0 HO.out (((k + i) / 8 : Nat) : Int) (by omega) (by omega)
        rw [Int.toNat_natCast] at hcell hfroz
        have HBit := Aside0.mk hbit
        clear hq hbit
        have hby := rd_byte (flips_bytes HBy.out burst k i) ((k + i) / 8)
        have hq8 : (2 : Nat) ^ ((k + i) % 8) < 256 := by
          have h : (2 : Nat) ^ ((k + i) % 8) < 2 ^ 8 := Nat.pow_lt_pow_right (by decide) (by omega)
          exact h
        have hval : Go.bits .xor .u8 (rdOf 0 (flips l0 burst k i) (((k : Int) + (i : Int)) / 8)) (2 ^ ((k + i) % 8) % 256) = (((rd (flips l0 burst k i) (((k + i) / 8 : Nat) : Int)).toNat ^^^ 2 ^ ((k + i) % 8) : Nat) : Int) := by
          have e1 : rdOf 0 (flips l0 burst k i) (((k : Int) + (i : Int)) / 8) = (((rd (flips l0 burst k i) (((k + i) / 8 : Nat) : Int)).toNat : Nat) : Int) := by
            rw [Int.toNat_of_nonneg hby.1, show ((k : Int) + (i : Int)) / 8 = (((k + i) / 8 : Nat) : Int) by omega]; rfl
          have e2 : (2 : Int) ^ ((k + i) % 8) % 256 = ((2 ^ ((k + i) % 8) : Nat) : Int) := by
            have : (2 : Int) ^ ((k + i) % 8) = ((2 ^ ((k + i) % 8) : Nat) : Int) := by simp
            rw [this]
            generalize (2 : Nat) ^ ((k + i) % 8) = z at hq8 ⊢
            omega
          rw [e1, e2, xorN .u8 rfl _ _ (by show _ < 256; omega) (by show _ < 256; exact hq8)]
        have HV := Aside0.mk hval
        clear hval hby hq8
        go_wp2
        go_roundw
        case rel =>
          refine ⟨i + 1, by omega, by go_num, ⟨?_⟩, ⟨below_set HB.out GB.out⟩⟩
          rw [flips, if_pos HBit.out, turned, HV.out]
          have := Kd.R_putn HO.out (((k + i) / 8 : Nat) : Int) ((((rd (flips l0 burst k i) (((k + i) / 8 : Nat) : Int)).toNat ^^^ 2 ^ ((k + i) % 8) : Nat) : Int))
          rw [Int.toNat_natCast] at this
          exact this
        case measure => simp [intOf]; omega
      · have hbb : (((burst : Int) / 2 ^ i).tmod 2 == 1) = false := by rw [hq, beq_eq_false_iff_ne]; omega
        have HBit := Aside0.mk hbit
        clear hq hbit
        go_wp2
        go_roundw
        case rel => exact ⟨i + 1, by omega, by go_num, ⟨by rw [flips, if_neg HBit.out]; exact HO.out⟩, HB⟩
        case measure => simp [intOf]; omega
    · obtain rfl : i = 32 := by omega
      have PF : Parts [flips l0 burst k 32] := ⟨by simp, fun l hl => by rw [List.mem_singleton.1 hl]; exact ⟨flips_bytes HBy.out burst k 32, by rw [flips_length]; omega⟩⟩
      have PL : Parts [l0] := ⟨by simp, fun l hl => by rw [List.mem_singleton.1 hl]; exact ⟨HBy.out, by omega⟩⟩
      have S1 := Aside0.mk (sum_eq PF (1 + l0.length + 21) (by simp [flips_length]))
      have S2 := Aside0.mk (sum_eq PL (1 + l0.length + 21) (by simp))
      have hne : (((sumN [flips l0 burst k 32] : Nat) : Int) != ((sumN [l0] : Nat) : Int)) = true := by
        rw [bne_iff_ne]
        intro he
        exact finds_law HBy.out HB0.out h32 hk32 (by omega)
      have HN := Aside0.mk hne
      clear hne PF PL
      have hfl := flips_length l0 burst k 32
      have HFL := Aside0.mk hfl
      clear hfl
      generalize sumN [flips l0 burst k 32] = s1 at S1 HN
      generalize sumN [l0] = s2 at S2 HN
      have hne := HN.out
      clear HN
      obtain ⟨hzz, hcc, hCF⟩ := Kd.R_reads' HO.out
      clear hzz
      have CF := Aside0.mk hCF
      have CC := Aside0.mk hcc
      clear hCF hcc
      go_wp2_with fail
      refine (crc_Sum.calls (1 + l0.length + 21) (some ⟨wr.heap.size, 0, none⟩) 1 [flips l0 burst k 32] s1 _ (C_heaps (by simp) (blk_new wr _) (fun i l hi => ?_)) (by simp) S1.out).mono ?_
      · match i, hi with
        | 0, hi =>
          obtain rfl : flips l0 burst k 32 = l := by simpa using hi
          exact ⟨some ⟨g, 0, none⟩, c, by rw [HFL.out]; rfl, by rw [HFL.out]; exact CC.out, Kd.C_alloc CF.out _⟩
        | i + 1, hi => simp at hi
      rintro e w4 ⟨rfl, ⟨nd, hd⟩⟩
      have H4 : Aside0 (Below w.heap.size w w4) := ⟨by rw [hd]; exact pw_below_drewN (below_alloc HB.out _) nd⟩
      clear hd
      go_wp2_with fail
      refine (crc_Sum.calls (1 + l0.length + 21) (some ⟨w4.heap.size, 0, none⟩) 1 [l0] s2 _ (C_heaps (by simp) (blk_new w4 _) (fun i l hi => ?_)) (by simp) S2.out).mono ?_
      · match i, hi with
        | 0, hi =>
          obtain rfl : l0 = l := by simpa using hi
          exact ⟨_, _, rfl, C0.out, Kd.C_alloc (Kd.C_below R0.out H4.out) _⟩
        | i + 1, hi => simp at hi
      rintro e w5 ⟨rfl, ⟨nd, hd⟩⟩
      have H5 : Aside0 (Below w.heap.size w w5) := ⟨by rw [hd]; exact pw_below_drewN (below_alloc H4.out _) nd⟩
      clear hd
      go_wp2
      go_ret
      exact ⟨by first | rfl | simp_all, H5.out⟩
theorem CrcFinds (A0 : Option Addr) (c0 : Nat) (l0 : List Int) (at_ burst : Int) (w : World)
    (hr0 : Kd.C (Kd.int .u8) w A0 l0.length l0) (hc0 : l0.length ≤ c0) (hm0 : l0.length ≤ maxLen) (hb0 : ∀ x ∈ l0, (Lit.int .u8 x).wf = true) (y0 : l0.length * 1 ≤ 140737488351232) (ha : (Lit.int .u16 at_).wf = true) (hb : (Lit.int .u32 burst).wf = true) :
    Calls Try.prog 6 #[.slice A0 l0.length c0, .int .u16 at_, .int .u32 burst] w fun e w' => e = .returned (.bool true) ∧ Below w.heap.size w w' := by
  by_cases hs : l0.length < 5 ∨ burst = 0
  · exact finds_short A0 c0 l0 at_ burst w hs hm0
  · obtain ⟨a0, a1⟩ := wf_u16 ha
    obtain ⟨b0, b1⟩ := wf_u32 hb
    obtain ⟨a, rfl⟩ := Int.eq_ofNat_of_zero_le a0
    obtain ⟨b, rfl⟩ := Int.eq_ofNat_of_zero_le b0
    exact finds_long A0 c0 l0 a b w (fun h => hs (Or.inl h)) (fun h => hs (Or.inr (by omega))) (by omega) (by omega) hr0 hc0 y0 hb0
end Go.Proofs.Ythcebfjpgmkjjaa.Hand
