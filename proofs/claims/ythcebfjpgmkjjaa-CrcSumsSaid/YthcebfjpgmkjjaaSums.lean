/- CrcSums: the law's walk over any parts. No condition. -/
import Derived.Test.YthcebfjpgmkjjaaSumM
import Derived.Laws.AppendOwnNone
namespace Go.Proofs.Ythcebfjpgmkjjaa.Hand
set_option linter.unusedVariables false
set_option linter.unusedSimpArgs false
open Go.RowKit Go.Proofs.Ythcebfjpgmkjjaa.PAll Go.Proofs.Ythcebfjpgmkjjaa.Nums Go.Proofs.Ythcebfjpgmkjjaa.CrcM Go.Proofs.Ythcebfjpgmkjjaa.ShiftM Go.Proofs.Ythcebfjpgmkjjaa.SumM Go.Proofs.Ythcebfjpgmkjjaa.Awake Go.Proofs.YthcebfjpgmkjjaaW.PrintWords Go.Proofs.YthcebfjpgmkjjaaW.PrintLast Go.Proofs.YthcebfjpgmkjjaaW.PrintMore
theorem info23 : (Try.prog.info? 23).map (fun i => (i.zero, i.size, i.bytes)) = some (some (.slice none 0 0), 1, 24) := by kernel_rfl
/-- The cells of a row of rows that is read. -/
theorem cells_of {w : World} {ad : Addr} {ls : List (List Int)} (h : (Kd.slice 5 (Kd.int .u8)).C w (some ad) ls.length ls) :
    ∃ news : List Value, news.length = ls.length ∧ (∀ j u, news[j]? = some u → w.cell? (ad.add j) = some u) ∧ ∀ (i : Nat) (l : List Int), ls[i]? = some l → ∃ (A : Option Addr) (c : Nat), news[i]? = some (Value.slice A l.length c) ∧ l.length ≤ c ∧ (Kd.int .u8).C w A l.length l := by
  have each : ∀ i : Nat, i < ls.length → ∃ (A : Option Addr) (c : Nat), w.cell? (ad.add i) = some (.slice A (ls.getD i []).length c) ∧ (ls.getD i []).length ≤ c ∧ (Kd.int .u8).C w A (ls.getD i []).length (ls.getD i []) := by
    intro i hi
    obtain ⟨ad', e, hc⟩ := h.2.2 (by omega)
    injection e with e
    subst e
    obtain ⟨c, _, ⟨A, cp, rfl, hl, hC⟩, hcell⟩ := hc i ls[i] (List.getElem?_eq_getElem hi)
    have := hcell 0 _ rfl
    have e2 : ls.getD i [] = ls[i] := by simp [hi]
    rw [e2]
    exact ⟨A, cp, by simpa [Kd.slice] using this, hl, hC⟩
  refine ⟨(List.range ls.length).map fun i => (w.cell? (ad.add i)).getD undef, by simp, ?_, ?_⟩
  · intro j u hu
    obtain ⟨hj, rfl⟩ := List.getElem?_eq_some_iff.1 hu
    simp at hj
    obtain ⟨A, c, h1, _⟩ := each j hj
    simp [h1]
  · intro i l hl
    obtain ⟨hi, rfl⟩ := List.getElem?_eq_some_iff.1 hl
    obtain ⟨A, c, h1, h2, h3⟩ := each i hi
    have e2 : ls.getD i [] = ls[i] := by simp [hi]
    rw [e2] at h1 h2 h3
    exact ⟨A, c, by simp [hi, h1], h2, h3⟩
/-- A row of the call's own, whose elements are known. -/
structure Held (p : Prop) : Prop where
  out : p
theorem held_ {p : Prop} (h : Held p) : p := h.out
/-- A row of the call's own, whose elements are known. -/
theorem C_owned {w : World} {base : Nat} {v : Value} {n : Nat} {vs : List Value} {ls : List (List Int)} (h : w.ownsRow base 23 1 v n vs) (hn : n = ls.length) (hl : ls.length ≤ 9223372036854775807)
    (hc : ∀ (i : Nat) (l : List Int), ls[i]? = some l → ∃ (A : Option Addr) (c : Nat), vs[i]? = some (Value.slice A l.length c) ∧ l.length ≤ c ∧ (Kd.int .u8).C w A l.length l) :
    ∃ A c, v = .slice A ls.length c ∧ ls.length ≤ c ∧ (Kd.slice 5 (Kd.int .u8)).C w A ls.length ls := by
  subst hn
  obtain ⟨h1, h2 | ⟨g, cap, cur, rfl, hg, hh, hnc, hcm, hsz, htk⟩⟩ := h
  · obtain ⟨rfl, h0⟩ := h2
    obtain rfl : ls = [] := List.length_eq_zero_iff.1 h0
    exact ⟨none, 0, rfl, by simp, Kd.C_nil _ _⟩
  · refine ⟨_, cap, rfl, hnc, C_heaps hl hh (fun i l hi => ?_)⟩
    obtain ⟨A, c, e1, e2, e3⟩ := hc i l hi
    refine ⟨A, c, ?_, e2, e3⟩
    rw [← htk, Nat.mul_one, List.getElem?_take] at e1
    split at e1
    · rw [← e1, Array.getElem?_toList]
    · simp at e1
set_option maxHeartbeats 2000000 in
set_option maxRecDepth 100000 in
theorem CrcSums (A0 : Option Addr) (c0 : Nat) (ls : List (List Int)) (A1 : Option Addr) (c1 : Nat) (l1 : List Int) (w : World)
    (hr0 : Kd.C (Kd.slice 5 (Kd.int .u8)) w A0 ls.length ls) (hc0 : ls.length ≤ c0) (hz0 : A0 = none → c0 = 0) (y0 : ls.length * 24 ≤ 140737488351232) (hb0 : ∀ l ∈ ls, (∀ x ∈ l, (Lit.int .u8 x).wf = true) ∧ l.length ≤ 9223372036854775807)
    (hr1 : Kd.C (Kd.int .u8) w A1 l1.length l1) (hc1 : l1.length ≤ c1) (hm1 : l1.length ≤ maxLen) (hb1 : ∀ x ∈ l1, (Lit.int .u8 x).wf = true) :
    Calls Try.prog 3 #[.slice A0 ls.length c0, .slice A1 l1.length c1] w fun e w' => e = .returned (.bool true) ∧ Below w.heap.size w w' := by
  unfold maxLen at hm1
  have B1 := bytes_of_wf hb1
  have P0 : Parts ls := ⟨by omega, fun l hl => ⟨bytes_of_wf (hb0 l hl).1, (hb0 l hl).2⟩⟩
  have P1 : Parts (ls ++ [l1]) := ⟨by rw [List.length_append]; simp; omega, fun l hl => by
    rcases List.mem_append.1 hl with hl | hl
    · exact P0.2 l hl
    · rw [List.mem_singleton.1 hl]; exact ⟨B1, hm1⟩⟩
  obtain ⟨k, hk⟩ : ∃ k, k = 20 * (ls.length + ls.flatten.length + l1.length) + 100 := ⟨_, rfl⟩
  have S0 := Aside0.mk (sum_eq P0 k (by omega))
  have T0 := Aside0.mk (rsum_eq P0 k (by omega))
  have hfl : (ls ++ [l1]).flatten.length = ls.flatten.length + l1.length := by rw [List.flatten_append, List.length_append, List.flatten_cons, List.flatten_nil, List.append_nil]
  have T1 := Aside0.mk (rsum_eq P1 k (by rw [hfl, List.length_append, List.length_singleton]; omega))
  have M1 := Aside0.mk (more_eq B1 hm1 (sumN_lt P0) k (by omega))
  have E1 : moreN (sumN ls) l1 = sumN (ls ++ [l1]) := by unfold moreN sumN feeds; rw [M_xor]; simp [feed_append]
  rw [E1] at M1
  generalize sumN ls = r0 at S0 T0 M1
  generalize sumN (ls ++ [l1]) = r1 at T1 M1
  have R0 := Aside0.mk hr0
  have C0 := Aside0.mk hc0
  have R1 := Aside0.mk hr1
  have C1 := Aside0.mk hc1
  have Z0 := Aside0.mk hz0
  have PL := Aside0.mk P1.1
  clear hr0 hc0 hr1 hc1 hb0 hb1 B1 P0 P1 E1 hk hz0 hfl
  go_enter Try.func3, Try.ntmps3
  go_wp2_with fail
  refine (crc_Sum.calls k A0 c0 ls r0 _ R0.out C0.out S0.out).mono ?_
  rintro e w1 ⟨rfl, ⟨nd, hd⟩⟩
  have H1 : Aside0 (Below w.heap.size w w1) := ⟨by rw [hd]; exact pw_below_drewN (Below.refl _ _) nd⟩
  clear hd
  go_wp2_with fail
  refine (awake_calls w1).mono ?_
  rintro e w2 ⟨rfl, hb⟩
  have H2 : Aside0 (Below w.heap.size w w2) := ⟨below_step H1.out hb⟩
  clear hb
  go_wp2_with fail
  refine (chartularyref02_Sum.calls k A0 c0 ls r0 _ (Kd.C_below R0.out H2.out) C0.out T0.out).mono ?_
  rintro e w3 ⟨rfl, ⟨nd, hd⟩⟩
  have H3 : Aside0 (Below w.heap.size w w3) := ⟨by rw [hd]; exact pw_below_drewN H2.out nd⟩
  clear hd
  go_wp2_with fail
  refine (crc_More.calls k r0 A1 c1 l1 r1 _ (Kd.C_below R1.out H3.out) C1.out M1.out).mono ?_
  rintro e w4 ⟨rfl, ⟨nd, hd⟩⟩
  have H4 : Aside0 (Below w.heap.size w w4) := ⟨by rw [hd]; exact pw_below_drewN H3.out nd⟩
  clear hd H1 H2 H3
  obtain ⟨i0, hi, hz0, hz1, hz2⟩ := info_parts info23
  have H5 : Aside0 (Below w.heap.size w (w4.alloc (.cells #[] 23))) := ⟨below_alloc H4.out _⟩
  have O5 : Aside0 ((w4.alloc (.cells #[] 23)).ownsRow w.heap.size 23 1 (.slice (some ⟨w4.heap.size, 0, none⟩) 0 0) 0 []) := ⟨⟨rfl, .inr ⟨w4.heap.size, 0, #[], rfl, H4.out.size, blk_new w4 _, Nat.le_refl _, Nat.zero_le _, rfl, rfl⟩⟩⟩
  -- what is appended first
  have first_ : ∃ news : List Value, news.length = ls.length ∧ (∀ (ad : Addr), A0 = some ad → ∀ j u, news[j]? = some u → w.cell? (ad.add j) = some u) ∧ ∀ (i : Nat) (l : List Int), ls[i]? = some l → ∃ (A : Option Addr) (c : Nat), news[i]? = some (Value.slice A l.length c) ∧ l.length ≤ c ∧ (Kd.int .u8).C w A l.length l := by
    cases hA : A0 with
    | none =>
      have hl0 : ls = [] := by
        apply Classical.byContradiction
        intro hne
        have hpos : 0 < ls.length := List.length_pos_iff.2 hne
        obtain ⟨ad, e, _⟩ := R0.out.2.2 hpos
        rw [hA] at e
        simp at e
      subst hl0
      exact ⟨[], rfl, by simp, by simp⟩
    | some ad =>
      have := R0.out
      rw [hA] at this
      obtain ⟨news, h1, h2, h3⟩ := cells_of this
      exact ⟨news, h1, fun ad' e j u hu => by injection e with e; subst e; exact h2 j u hu, h3⟩
  obtain ⟨news, hn1, hn2, hn3⟩ := first_
  have N1 := Aside0.mk hn1
  have N2 := Aside0.mk hn2
  have N3 := Aside0.mk hn3
  have ONE : Aside0 (∀ u ∈ news, u.oneCell' = true) := ⟨fun u hu => by
    obtain ⟨i, hi, rfl⟩ := List.mem_iff_getElem.1 hu
    obtain ⟨A, c, e, _⟩ := hn3 i ls[i] (List.getElem?_eq_getElem (by omega))
    rw [List.getElem?_eq_getElem hi] at e
    injection e with e
    rw [e]; rfl⟩
  have AP : ∀ (v : Value) (W : World), True := fun _ _ => trivial
  have I0 := Aside0.mk hi
  have I1 := Aside0.mk hz0
  have I2 := Aside0.mk hz1
  have I3 := Aside0.mk hz2
  have Y0 := Aside0.mk y0
  clear hn1 hn2 hn3 hi hz0 hz1 hz2 AP y0
  have last_ : ∀ (v : Value) (W : World), Below w.heap.size w W → W.ownsRow w.heap.size 23 1 v (ls.length + 1) (news ++ [.slice A1 l1.length c1]) → ∃ A c, v = .slice A (ls ++ [l1]).length c ∧ (ls ++ [l1]).length ≤ c ∧ (Kd.slice 5 (Kd.int .u8)).C W A (ls ++ [l1]).length (ls ++ [l1]) := by
    intro v W hW ho
    refine C_owned ho (by simp) PL.out (fun i l hi => ?_)
    by_cases hlt : i < ls.length
    · rw [List.getElem?_append_left hlt] at hi
      obtain ⟨A, c, h1, h2, h3⟩ := N3.out i l hi
      exact ⟨A, c, by rw [List.getElem?_append_left (by rw [N1.out]; exact hlt)]; exact h1, h2, Kd.C_below h3 hW⟩
    · have hil := (List.getElem?_eq_some_iff.1 hi).1
      simp at hil
      obtain rfl : i = ls.length := by omega
      rw [List.getElem?_append_right (Nat.le_refl _), Nat.sub_self] at hi
      obtain rfl : l1 = l := by simpa using hi
      exact ⟨A1, c1, by rw [List.getElem?_append_right (by rw [N1.out]; exact Nat.le_refl _), N1.out, Nat.sub_self]; rfl, C1.out, Kd.C_below R1.out hW⟩
  have LAST := Aside0.mk last_
  clear last_
  cases A0 with
  | none =>
    obtain rfl : c0 = 0 := Z0.out rfl
    obtain rfl : ls = [] := List.length_eq_zero_iff.1 (by have := C0.out; omega)
    obtain rfl : news = [] := List.length_eq_zero_iff.1 N1.out
    go_wp2_with (first
      | ((with_reducible refine gate_builtin (b := .append) (xs := #[.tmp 19, .tmp 20]) rfl ?_); (try (refine gate_guard (by rfl) ?_; dsimp only)); at_builtin; refine wpList_append_own_none rfl (.tmp 19) (.tmp 20) 22 rfl w.heap.size 23 i0 1 Try.underlying22 I0.out _ 0 [] rfl O5.out rfl ?_)
      | ((with_reducible refine gate_builtin (b := .append) (xs := #[.tmp 21, .tmp 23]) rfl ?_); (try (refine gate_guard (by rfl) ?_; dsimp only)); at_builtin; refine held_ ?_))
    refine ⟨?_⟩
    refine wpList_append_own _ rfl (.tmp 21) (.tmp 23) 22 rfl w.heap.size 23 i0 (.slice none 0 0) 1 24 Try.underlying22 I0.out I1.out I2.out I3.out rfl (by decide) _ 0 [] rfl (O5.out.alloc _) ⟨w4.heap.size + 1, 0, none⟩ 1 1 [.slice A1 l1.length c1] rfl rfl ?_ ?_ (by decide) (by decide) ?_ ?_
    · intro j u hu
      cases j with
      | zero =>
        simp at hu
        subst hu
        have := blk_cell (blk_new (w4.alloc (.cells #[] 23)) (.cells #[.slice A1 l1.length c1] 23)) 0
        rw [alloc_size] at this
        exact this
      | succ j => simp at hu
    · intro u hu
      rw [List.mem_singleton.1 hu]; rfl
    · exact (below_alloc H5.out _).size
    · intro v24 w7 ho7 hg7 _
      have O7 := Aside0.mk ho7
      have H7 : Aside0 (Below w.heap.size w w7) := ⟨(below_alloc H5.out _).grown hg7 (below_alloc H5.out _).size (by intro k hk; injection hk with hk; subst hk; exact H4.out.size)⟩
      clear ho7 hg7
      obtain ⟨A, c, rfl, hc, hC⟩ := LAST.out v24 w7 H7.out (by simpa using O7.out)
      have CC := Aside0.mk hc
      have RC := Aside0.mk hC
      clear hc hC
      go_wp2_with fail
      refine (chartularyref02_Sum.calls k A c _ r1 _ RC.out CC.out T1.out).mono ?_
      rintro e w8 ⟨rfl, ⟨nd8, hd8⟩⟩
      have H8 : Aside0 (Below w.heap.size w w8) := ⟨by rw [hd8]; exact pw_below_drewN H7.out nd8⟩
      clear hd8
      go_wp2_with fail
      go_ret
      exact ⟨by simp, H8.out⟩
  | some ad =>
    go_wp2_with (first
      | ((with_reducible refine gate_builtin (b := .append) (xs := #[.tmp 19, .tmp 20]) rfl ?_); (try (refine gate_guard (by rfl) ?_; dsimp only)); at_builtin; refine wpList_append_own _ rfl (.tmp 19) (.tmp 20) 22 rfl w.heap.size 23 i0 (.slice none 0 0) 1 24 Try.underlying22 I0.out I1.out I2.out I3.out rfl (by decide) _ 0 [] rfl O5.out ad ls.length c0 news rfl (by rw [N1.out, Nat.mul_one]) (fun j u hu => pw_cell_below H5.out (N2.out ad rfl j u hu)) ONE.out ?q1 ?q2 H5.out.size ?_; (case q1 => have := PL.out; simp at this; unfold maxLen; omega); (case q2 => have := Y0.out; omega); intro v21 w6 ho6 hg6 _; have O6 := Aside0.mk ho6; have H6 : Aside0 (Below w.heap.size w w6) := ⟨H5.out.grown hg6 H5.out.size (by intro k hk; injection hk with hk; subst hk; exact H4.out.size)⟩; clear ho6 hg6)
      | ((with_reducible refine gate_builtin (b := .append) (xs := #[.tmp 21, .tmp 23]) rfl ?_); (try (refine gate_guard (by rfl) ?_; dsimp only)); at_builtin; refine held_ ?_))
    refine ⟨?_⟩
    refine wpList_append_own _ rfl (.tmp 21) (.tmp 23) 22 rfl w.heap.size 23 i0 (.slice none 0 0) 1 24 Try.underlying22 I0.out I1.out I2.out I3.out rfl (by decide) _ (0 + ls.length) ([] ++ news) rfl (O6.out.alloc _) ⟨w6.heap.size, 0, none⟩ 1 1 [.slice A1 l1.length c1] rfl rfl ?_ ?_ ?_ ?_ ?_ ?_
    · intro j u hu
      cases j with
      | zero =>
        simp at hu
        subst hu
        exact blk_cell (blk_new w6 (.cells #[.slice A1 l1.length c1] 23)) 0
      | succ j => simp at hu
    · intro u hu
      rw [List.mem_singleton.1 hu]; rfl
    · have := PL.out
      simp at this
      unfold maxLen; omega
    · have := Y0.out; omega
    · exact (below_alloc H6.out _).size
    · intro v24 w7 ho7 hg7 _
      have O7 := Aside0.mk ho7
      have H7 : Aside0 (Below w.heap.size w w7) := ⟨(below_alloc H6.out _).grown hg7 (below_alloc H6.out _).size (by intro k hk; exact (O6.out.lt k hk).1)⟩
      clear ho7 hg7
      obtain ⟨A, c, hv, hc, hC⟩ := LAST.out v24 w7 H7.out (by simpa using O7.out)
      rw [List.length_append, List.length_singleton] at hv
      subst hv
      have CC := Aside0.mk hc
      have RC := Aside0.mk hC
      have K := Aside0.mk (chartularyref02_Sum.calls k A c (ls ++ [l1]) r1 w7 RC.out CC.out T1.out)
      rw [List.length_append, List.length_singleton] at K
      clear hc hC CC RC
      go_wp2_with fail
      refine K.out.mono ?_
      rintro e w8 ⟨rfl, ⟨nd8, hd8⟩⟩
      have H8 : Aside0 (Below w.heap.size w w8) := ⟨by rw [hd8]; exact pw_below_drewN H7.out nd8⟩
      clear hd8
      go_wp2_with fail
      go_ret
      exact ⟨by simp, H8.out⟩
end Go.Proofs.Ythcebfjpgmkjjaa.Hand
