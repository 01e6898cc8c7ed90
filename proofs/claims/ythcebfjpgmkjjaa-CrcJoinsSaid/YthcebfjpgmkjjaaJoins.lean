/- CrcJoins: the law's walk over any two texts. No condition. -/
import Derived.Test.YthcebfjpgmkjjaaSumM
namespace Go.Proofs.Ythcebfjpgmkjjaa.Hand
set_option linter.unusedVariables false
set_option linter.unusedSimpArgs false
open Go.RowKit Go.Proofs.Ythcebfjpgmkjjaa.PAll Go.Proofs.Ythcebfjpgmkjjaa.Nums Go.Proofs.Ythcebfjpgmkjjaa.CrcM Go.Proofs.Ythcebfjpgmkjjaa.ShiftM Go.Proofs.Ythcebfjpgmkjjaa.SumM Go.Proofs.Ythcebfjpgmkjjaa.Awake Go.Proofs.YthcebfjpgmkjjaaW.PrintWords Go.Proofs.YthcebfjpgmkjjaaW.PrintLast Go.Proofs.YthcebfjpgmkjjaaW.PrintMore
set_option maxHeartbeats 1000000 in
set_option maxRecDepth 100000 in
theorem CrcJoins (A0 : Option Addr) (c0 : Nat) (l0 : List Int) (A1 : Option Addr) (c1 : Nat) (l1 : List Int) (w : World)
    (hr0 : Kd.C (Kd.int .u8) w A0 l0.length l0) (hc0 : l0.length ≤ c0) (hm0 : l0.length ≤ maxLen) (hb0 : ∀ x ∈ l0, (Lit.int .u8 x).wf = true)
    (hr1 : Kd.C (Kd.int .u8) w A1 l1.length l1) (hc1 : l1.length ≤ c1) (hm1 : l1.length ≤ maxLen) (hb1 : ∀ x ∈ l1, (Lit.int .u8 x).wf = true) :
    Calls Try.prog 7 #[.slice A0 l0.length c0, .slice A1 l1.length c1] w fun e w' => e = .returned (.bool true) ∧ Below w.heap.size w w' := by
  have B0 := Aside0.mk (bytes_of_wf hb0)
  have B1 := Aside0.mk (bytes_of_wf hb1)
  unfold maxLen at hm0 hm1
  have P0 : Parts [l0] := ⟨by simp, fun l hl => by rw [List.mem_singleton.1 hl]; exact ⟨B0.out, hm0⟩⟩
  have P1 : Parts [l1] := ⟨by simp, fun l hl => by rw [List.mem_singleton.1 hl]; exact ⟨B1.out, hm1⟩⟩
  have P2 : Parts [l0, l1] := ⟨by simp, fun l hl => by rcases List.mem_cons.1 hl with rfl | hl; exact ⟨B0.out, hm0⟩; rw [List.mem_singleton.1 hl]; exact ⟨B1.out, hm1⟩⟩
  have S0 := Aside0.mk (sum_eq P0 (1 + l0.length + 21) (by simp))
  have S1 := Aside0.mk (sum_eq P1 (1 + l1.length + 21) (by simp))
  have S2 := Aside0.mk (rsum_eq P2 (2 * 2 + 10 * (l0.length + l1.length) + 1) (by simp))
  have J : Aside0 (crc_Join.f ((sumN [l0] : Nat) : Int) ((sumN [l1] : Nat) : Int) (l1.length : Int) = some ((sumN [l0, l1] : Nat) : Int)) := ⟨by
    have h0 := sumN_lt P0
    have h1 := sumN_lt P1
    unfold crc_Join.f
    rw [shift_eq h0 (by omega), Option.bind_some, xor32 ((step_lin.it _).lt _ h0) h1, join_law]⟩
  generalize sumN [l0] = s0 at S0 J
  generalize sumN [l1] = s1 at S1 J
  generalize sumN [l0, l1] = s2 at S2 J
  have R0 := Aside0.mk hr0
  have R1 := Aside0.mk hr1
  have C0 := Aside0.mk hc0
  have C1 := Aside0.mk hc1
  clear hr0 hr1 hb0 hb1 P0 P1 P2 hc0 hc1
  go_enter Try.func7, Try.ntmps7
  go_wp2_with fail
  refine (awake_calls w).mono ?_
  rintro e w1 ⟨rfl, hb⟩
  have H1 := Aside0.mk hb
  clear hb
  go_wp2_with fail
  refine (crc_Sum.calls (1 + l0.length + 21) (some ⟨w1.heap.size, 0, none⟩) 1 [l0] s0 _ (C_heaps (by simp) (blk_new w1 _) (fun i l hi => ?_)) (by simp) S0.out).mono ?_
  · match i, hi with
    | 0, hi =>
      obtain rfl : l0 = l := by simpa using hi
      exact ⟨_, _, rfl, C0.out, Kd.C_alloc (Kd.C_below R0.out H1.out) _⟩
    | i + 1, hi => simp at hi
  rintro e w2 ⟨rfl, ⟨nd, hd⟩⟩
  have H2 : Aside0 (Below w.heap.size w w2) := ⟨by rw [hd]; exact pw_below_drewN (below_alloc H1.out _) nd⟩
  clear hd
  go_wp2_with fail
  refine (crc_Sum.calls (1 + l1.length + 21) (some ⟨w2.heap.size, 0, none⟩) 1 [l1] s1 _ (C_heaps (by simp) (blk_new w2 _) (fun i l hi => ?_)) (by simp) S1.out).mono ?_
  · match i, hi with
    | 0, hi =>
      obtain rfl : l1 = l := by simpa using hi
      exact ⟨_, _, rfl, C1.out, Kd.C_alloc (Kd.C_below R1.out H2.out) _⟩
    | i + 1, hi => simp at hi
  rintro e w3 ⟨rfl, ⟨nd, hd⟩⟩
  have H3 : Aside0 (Below w.heap.size w w3) := ⟨by rw [hd]; exact pw_below_drewN (below_alloc H2.out _) nd⟩
  clear hd H1 H2
  go_wp2_with fail
  refine (crc_Join.calls _ _ _ s2 _ J.out).mono ?_
  rintro e w4 ⟨rfl, hb⟩
  have H4 : Aside0 (Below w.heap.size w w4) := ⟨below_step H3.out hb⟩
  clear hb H3
  go_wp2_with fail
  refine (chartularyref02_Sum.calls (2 * 2 + 10 * (l0.length + l1.length) + 1) (some ⟨w4.heap.size, 0, none⟩) 2 [l0, l1] s2 _ (C_heaps (by simp) (blk_new w4 _) (fun i l hi => ?_)) (by simp) S2.out).mono ?_
  · match i, hi with
    | 0, hi =>
      obtain rfl : l0 = l := by simpa using hi
      exact ⟨_, _, rfl, C0.out, Kd.C_alloc (Kd.C_below R0.out H4.out) _⟩
    | 1, hi =>
      obtain rfl : l1 = l := by simpa using hi
      exact ⟨_, _, rfl, C1.out, Kd.C_alloc (Kd.C_below R1.out H4.out) _⟩
    | i + 2, hi => simp at hi
  rintro e w5 ⟨rfl, ⟨nd, hd⟩⟩
  have H5 : Aside0 (Below w.heap.size w w5) := ⟨by rw [hd]; exact pw_below_drewN (below_alloc H4.out _) nd⟩
  clear hd H4
  go_wp2
  go_ret
  exact ⟨by simp, H5.out⟩
end Go.Proofs.Ythcebfjpgmkjjaa.Hand
