/- The law ShaTwo, walked. No condition. -/
import Derived.Test.YtbkocnclaobabaaDoorAwakeW
namespace Go.Proofs.YtbkocnclaobabaaDoor.TwoW
set_option linter.unusedVariables false
set_option linter.unusedSimpArgs false
open Go.RowKit Go.Proofs.YtbkocnclaobabaaDoor.PAll Go.Proofs.YtbkocnclaobabaaDoor.Nums Go.Proofs.YtbkocnclaobabaaDoor.PutM Go.Proofs.YtbkocnclaobabaaDoor.Libs Go.Proofs.YtbkocnclaobabaaDoor.ShaM Go.Proofs.YtbkocnclaobabaaDoor.WriteM Go.Proofs.YtbkocnclaobabaaDoor.Arr Go.Proofs.YtbkocnclaobabaaDoor.SchedW Go.Proofs.YtbkocnclaobabaaDoor.NewW Go.Proofs.YtbkocnclaobabaaDoor.MixW Go.Proofs.YtbkocnclaobabaaDoor.App Go.Proofs.YtbkocnclaobabaaDoor.HashW Go.Proofs.YtbkocnclaobabaaDoorW.PrintWords Go.Proofs.YtbkocnclaobabaaDoorW.PrintLast Go.Proofs.YtbkocnclaobabaaDoorW.PrintMore
open Go.Proofs.YtbkocnclaobabaaDoor.WriteW Go.Proofs.YtbkocnclaobabaaDoor.SumW Go.Proofs.YtbkocnclaobabaaDoor.PartsW Go.Proofs.YtbkocnclaobabaaDoor.DigEq Go.Proofs.YtbkocnclaobabaaDoor.AwakeW
/-- A row of bytes that came in. -/
structure InB (W : World) (A : Option Addr) (c : Nat) (l : List Int) : Prop where
  C : (Kd.int .u8).C W A l.length l
  cap : l.length ≤ c
  nil : A = none → c = 0
  bytes : Bytes l
  len : l.length ≤ 140737488351232
theorem InB.below {W w : World} {A : Option Addr} {c : Nat} {l : List Int} (h : InB W A c l) (hb : Below W.heap.size W w) : InB w A c l := ⟨Kd.C_below h.C hb, h.cap, h.nil, h.bytes, h.len⟩
theorem InB.sep {W : World} {A : Option Addr} {c : Nat} {l : List Int} (h : InB W A c l) {g : Nat} (hg : W.heap.size ≤ g) : ∀ ad, A = some ad → 0 < l.length → ad.block ≠ g := fun ad e hp => by
  have hC := h.C
  subst e
  have := Kd.C_lt hC hp (by decide)
  omega
theorem mkHashT {w : World} {g lo : Nat} (h : HashAt w g H0 (.slice none 0 0) 0) (h1 : g < lo) (h2 : lo ≤ w.heap.size) : HashT lo w g [] :=
  ⟨h1, h2, (fun x hx => by cases hx), none, 0, h, Kd.C_nil _ _, Nat.le_refl _, fun _ => rfl, fun ad e => by cases e⟩
theorem HashT.sav {lo g g' : Nat} {w w' : World} {l : List Int} (h : HashT lo w g l) (hs : Sav g' w w') (hne : g' ≠ g) (hlo : g' < lo) : HashT lo w' g l := by
  obtain ⟨h1, h2, h3, A, c, h4, h5, h6, h7, h8⟩ := h
  exact ⟨h1, Nat.le_trans h2 hs.size, h3, A, c, HashAt.move h4 (hs.block g (by omega) (fun e => hne e.symm)), Kd.C_keep 0 h5 (keep_of_sav hs) (fun ad e _ => by have := (h8 ad e).1; omega), h6, h7, fun ad e => ⟨(h8 ad e).1, Nat.lt_of_lt_of_le (h8 ad e).2 hs.size⟩⟩
/-- The digest of one row, and of two, each behind a row of rows that was just made. -/
theorem one_calls {W w : World} {A : Option Addr} {c : Nat} {l : List Int} (hG : Glob W) (h : InB W A c l) (hb : Below W.heap.size W w) :
    Calls Tryd.prog 8 #[.slice (some ⟨w.heap.size, 0, none⟩) 1 1] (w.alloc (.cells #[.slice A l.length c] 28)) fun e w' => e = .returned (.agg (nums .u8 (dig l)).toArray) ∧ Below w.heap.size w w' := by
  have hba := below_alloc (Below.refl w.heap.size w) (.cells #[.slice A l.length c] 28)
  have h2 := (h.below hb).below hba
  have hfl : [l].flatten = l := by simp
  refine (parts_calls (some ⟨w.heap.size, 0, none⟩) 1 [l] _ (Glob.below (Glob.below hG hb) hba) (parts_heap (blk_new w _) fun i l' hi => ?_) (by simp) (by simp) (by rw [hfl]; have := h.len; omega)).mono ?_
  · match i, hi with
    | 0, hi =>
      obtain rfl : l = l' := by simpa using hi
      exact ⟨A, c, rfl, h2.cap, h2.C, h2.nil, h2.bytes, h2.len⟩
    | i + 1, hi => simp at hi
  · rw [hfl]
    rintro e w' ⟨rfl, hb'⟩
    exact ⟨rfl, below_step hba hb'⟩
theorem two_calls {W w : World} {A A' : Option Addr} {c c' q : Nat} {l l' : List Int} (hG : Glob W) (h : InB W A c l) (h' : InB W A' c' l') (hq : w.heap[q]? = some (.cells #[.slice A l.length c, .slice A' l'.length c'] 28 (0, 0))) (hb : Below W.heap.size W w) :
    Calls Tryd.prog 8 #[.slice (some ⟨q, 0, none⟩) 2 2] w fun e w' => e = .returned (.agg (nums .u8 (dig (l ++ l'))).toArray) ∧ Below w.heap.size w w' := by
  have h2 := h.below hb
  have h2' := h'.below hb
  have hfl : [l, l'].flatten = l ++ l' := by simp
  refine (parts_calls (some ⟨q, 0, none⟩) 2 [l, l'] _ (Glob.below hG hb) (parts_heap hq fun i l1 hi => ?_) (by simp) (by simp) (by rw [hfl, List.length_append]; have := h.len; have := h'.len; omega)).mono ?_
  · match i, hi with
    | 0, hi =>
      obtain rfl : l = l1 := by simpa using hi
      exact ⟨A, c, rfl, h2.cap, h2.C, h2.nil, h2.bytes, h2.len⟩
    | 1, hi =>
      obtain rfl : l' = l1 := by simpa using hi
      exact ⟨A', c', rfl, h2'.cap, h2'.C, h2'.nil, h2'.bytes, h2'.len⟩
    | i + 2, hi => simp at hi
  · rw [hfl]
    rintro e w' ⟨rfl, hb'⟩
    exact ⟨rfl, hb'⟩
set_option maxHeartbeats 2000000 in
set_option maxRecDepth 100000 in
theorem two_law (A B C : Option Addr) (ca cb cc : Nat) (a b c : List Int) (W : World) (hG : Glob W) (ha : InB W A ca a) (hb : InB W B cb b) (hc : InB W C cc c) :
    Calls Tryd.prog 5 #[.slice A a.length ca, .slice B b.length cb, .slice C c.length cc] W fun e w' => e = .returned (.bool true) ∧ Below W.heap.size W w' := by
  have HG := Aside0.mk hG
  have IA := Aside0.mk ha
  have IB := Aside0.mk hb
  have IC := Aside0.mk hc
  obtain ⟨N, hN⟩ : ∃ N, W.heap.size = N := ⟨_, rfl⟩
  have hpos := hG.pos
  clear hG ha hb hc
  go_enter Tryd.func5, Tryd.ntmps5
  go_wp2_with fail
  (with_reducible refine (new_calls _).mono ?_)
  rintro e W1 ⟨g1, hg1, rfl, hA1, hb1⟩
  go_wp2_with fail
  (with_reducible refine (new_calls _).mono ?_)
  rintro e W2 ⟨g2, hg2, rfl, hA2, hb2⟩
  have l1 : g1 < W1.heap.size := HashAt.lt hA1
  have l2 : g2 < W2.heap.size := HashAt.lt hA2
  have hA1' := HashAt.move hA1 (hb2.block g1 l1)
  have X1 := Aside0.mk (mkHashT hA1' (by have := hb2.size; omega) (Nat.le_refl _))
  have Y1 := Aside0.mk (mkHashT hA2 l2 (Nat.le_refl _))
  have B2 : Aside0 (Below W.heap.size W W2) := ⟨below_step hb1 hb2⟩
  have hz2 := B2.out.size
  have hne : g1 ≠ g2 := by omega
  have hp1 : 0 < g1 := by omega
  have hp2 : 0 < g2 := by omega
  have hw1 : W.heap.size ≤ g1 := hg1
  have hw2 : W.heap.size ≤ g2 := by have := hb1.size; omega
  have hlo1 : g1 < W2.heap.size := by have := hb2.size; omega
  generalize hlo : W2.heap.size = lo at *
  clear hA1 hA2 hb1 hb2 hA1' hg1 hg2
  have IA2 := IA.out.below B2.out
  have K := Aside0.mk (write_calls lo g1 [] a W2 (Glob.below HG.out B2.out) hp1 X1.out A ca IA2.C IA2.cap IA2.nil IA2.bytes IA2.len (by have := IA2.len; simp; omega) (IA.out.sep hw1))
  clear IA2
  go_wp2_with fail
  (with_reducible refine K.out.mono ?_)
  rintro e W3 ⟨rfl, hx, hs⟩
  rw [List.nil_append] at hx
  have X3 := Aside0.mk hx
  have Y3 := Aside0.mk (HashT.sav Y1.out hs hne hlo1)
  have B3 : Aside0 (Below W.heap.size W W3) := ⟨B2.out.trans (hs.below hw1 (by omega))⟩
  clear hx hs K X1 Y1
  have IB3 := IB.out.below B3.out
  have K := Aside0.mk (write_calls lo g2 [] b W3 (Glob.below HG.out B3.out) hp2 Y3.out B cb IB3.C IB3.cap IB3.nil IB3.bytes IB3.len (by have := IB3.len; simp; omega) (IB.out.sep hw2))
  clear IB3
  go_wp2_with fail
  (with_reducible refine K.out.mono ?_)
  rintro e W4 ⟨rfl, hy, hs⟩
  rw [List.nil_append] at hy
  have Y4 := Aside0.mk hy
  have X4 := Aside0.mk (HashT.sav X3.out hs (fun e => hne e.symm) l2)
  have B4 : Aside0 (Below W.heap.size W W4) := ⟨B3.out.trans (hs.below hw2 B3.out.size)⟩
  clear hy hs K X3 Y3
  have K := Aside0.mk (sum_calls lo g2 b W4 (Glob.below HG.out B4.out) hp2 Y4.out (by have := IB.out.len; omega))
  go_wp2_with fail
  (with_reducible refine K.out.mono ?_)
  rintro e W5 ⟨rfl, hb5⟩
  have X5 := Aside0.mk (SumA.HashT.below X4.out hb5)
  have Y5 := Aside0.mk (SumA.HashT.below Y4.out hb5)
  have B5 : Aside0 (Below W.heap.size W W5) := ⟨below_step B4.out hb5⟩
  clear hb5 K X4 Y4
  have hdl := dig_length b
  have hdb := dig_bytes b
  have hi25 : (Tryd.prog.info? 25).map (·.size) = some (nums .u8 (dig b)).toArray.size := by rw [List.size_toArray, nums_length, hdl]; exact info25
  have hz32 : (nums .u8 (List.replicate 32 0)).toArray.size = (nums .u8 (dig b)).toArray.size := Ops.size_eq (by rw [hdl]; rfl)
  have hone : (nums .u8 (dig b)).toArray.all (·.oneCell') = true := by
    rw [Array.all_eq_true_iff_forall_mem]; intro u hu; exact nums_one (dig b) u (by simpa using hu)
  obtain ⟨M, hM⟩ : ∃ M, W5.heap.size = M := ⟨_, rfl⟩
  go_wp2_with (first
    | ((with_reducible refine Ops.wpList_allocRow rfl 25 rfl _ Ops.zero25 M hM fun W6 k6 b6 z6 => ?_); have K6 := Aside0.mk k6; have B6 := Aside0.mk b6; clear k6 b6)
    | ((with_reducible refine Ops.wpList_setRow rfl 25 (.tmp 9) (.tmp 20) rfl rfl M rfl (nums .u8 (dig b)).toArray rfl 25 _ K6.out hi25 hz32 hone fun W7 k7 o7 => ?_); have K7 : Aside0 (W7.heap[M]? = some (.cells (nums .u8 (dig b)).toArray 25 (0, 0))) := Aside0.mk k7; have b57 : Below W5.heap.size W5 W7 := (by rw [hM]; exact o7.below B6.out (Nat.le_refl _)); have X7 := Aside0.mk (SumA.HashT.below X5.out b57); have Y7 := Aside0.mk (SumA.HashT.below Y5.out b57); have B7 : Aside0 (Below W.heap.size W W7) := ⟨below_step B5.out b57⟩; have IC7 := IC.out.below B7.out; have KX := Aside0.mk (write_calls lo g1 a c W7 (Glob.below HG.out B7.out) hp1 X7.out C cc IC7.C IC7.cap IC7.nil IC7.bytes IC7.len (by have := IC7.len; have := IA.out.len; omega) (IC.out.sep hw1)); clear k7 o7 b57 IC7))
  (with_reducible refine KX.out.mono ?_)
  rintro e W8 ⟨rfl, hx, hs⟩
  have hMl : lo ≤ M := by rw [← hM]; exact Y5.out.le
  have hM7 : M < W7.heap.size := (Array.getElem?_eq_some_iff.1 K7.out).1
  have X8 := Aside0.mk hx
  have Y8 := Aside0.mk (HashT.sav Y7.out hs hne hlo1)
  have K8 : Aside0 (W8.heap[M]? = some (.cells (nums .u8 (dig b)).toArray 25 (0, 0))) := ⟨(hs.block M hM7 (by omega)).trans K7.out⟩
  have B8 : Aside0 (Below W.heap.size W W8) := ⟨B7.out.trans (hs.below hw1 B7.out.size)⟩
  clear hx hs KX X7 Y7 K7 B7 K6 B6 X5 Y5 B5
  go_wp2_with fail
  (with_reducible refine (write_nil _ _).mono ?_)
  rintro e W9 ⟨rfl, hb9⟩
  have X9 := Aside0.mk (SumA.HashT.below X8.out hb9)
  have Y9 := Aside0.mk (SumA.HashT.below Y8.out hb9)
  have hM9 : M < W9.heap.size := Nat.lt_of_lt_of_le (Array.getElem?_eq_some_iff.1 K8.out).1 hb9.size
  have K9 : Aside0 (W9.heap[M]? = some (.cells (nums .u8 (dig b)).toArray 25 (0, 0))) := ⟨(hb9.block M (Array.getElem?_eq_some_iff.1 K8.out).1).trans K8.out⟩
  have B9 : Aside0 (Below W.heap.size W W9) := ⟨below_step B8.out hb9⟩
  clear hb9 X8 Y8 K8 B8
  have KA := Aside0.mk (fun w' (h : Below W9.heap.size W9 w') => awake_calls w' (Glob.below (Glob.below HG.out B9.out) h))
  have KY := Aside0.mk (fun w' (h : Below W9.heap.size W9 w') => sum_calls lo g2 b w' (Glob.below (Glob.below HG.out B9.out) h) hp2 (SumA.HashT.below Y9.out h) (by have := IB.out.len; omega))
  have KX := Aside0.mk (fun w' (h : Below W9.heap.size W9 w') => sum_calls lo g1 (a ++ c) w' (Glob.below (Glob.below HG.out B9.out) h) hp1 (SumA.HashT.below X9.out h) (by rw [List.length_append]; have := IA.out.len; have := IC.out.len; omega))
  have K1 := Aside0.mk (fun w' (h : Below W9.heap.size W9 w') => one_calls HG.out IB.out (below_step B9.out h))
  have K2 : Aside0 (∀ (w' : World) (q : Nat), w'.heap[q]? = some (.cells #[.slice A a.length ca, .slice C c.length cc] 28 (0, 0)) → Below W9.heap.size W9 w' → Calls Tryd.prog 8 #[.slice (some ⟨q, 0, none⟩) 2 2] w' fun e w'' => e = .returned (.agg (nums .u8 (dig (a ++ c))).toArray) ∧ Below w'.heap.size w' w'') := ⟨fun w' q hq h => two_calls HG.out IA.out IC.out hq (below_step B9.out h)⟩
  have SK : Aside0 (∀ w' : World, Below W9.heap.size W9 w' → w'.cell? ⟨M, 0, none⟩ = some (.int .u8 ((dig b).getD 0 0)) ∧ w'.rangeAt M 0 (nums .u8 (dig b))) := ⟨fun w' hb => by
    have hK : w'.heap[M]? = some (.cells (nums .u8 (dig b)).toArray 25 (0, 0)) := (hb.block M hM9).trans K9.out
    refine ⟨getD_cons (dig b) hdl 0 (by omega) w' M 25 hK, fun j v hv => ?_⟩
    rw [cell_of_row w' M _ _ 25 (0, 0) hK, List.getElem?_toArray, Nat.zero_add]; exact hv⟩
  have hal := dig_length (a ++ c)
  have hab := dig_bytes (a ++ c)
  have D0 : Aside0 (Below W9.heap.size W9 W9.drew) := ⟨(Below.refl _ _).drew⟩
  have u25 := Tryd.underlying25
  have i25 : (Tryd.prog.info? 25).map (·.size) = some (nums .u8 (dig b)).length := by rw [nums_length, hdl]; exact info25
  have qb := fun w => same hdl hdb w
  have qa := fun w => same hal hab w
  have qz : ∀ w : World, (Op.equalIn 10000 25 (.agg (nums .u8 Z32).toArray) (.agg #[.int .u8 0, .int .u8 0, .int .u8 0, .int .u8 0, .int .u8 0, .int .u8 0, .int .u8 0, .int .u8 0, .int .u8 0, .int .u8 0, .int .u8 0, .int .u8 0, .int .u8 0, .int .u8 0, .int .u8 0, .int .u8 0, .int .u8 0, .int .u8 0, .int .u8 0, .int .u8 0, .int .u8 0, .int .u8 0, .int .u8 0, .int .u8 0, .int .u8 0, .int .u8 0, .int .u8 0, .int .u8 0, .int .u8 0, .int .u8 0, .int .u8 0, .int .u8 0])).run Tryd.prog w = .ok true w := fun w => same (D := Z32) rfl z32_bytes w
  generalize dig b = E at *
  generalize E.getD 0 0 = e0 at *
  generalize dig (a ++ c) = F at *
  clear hi25 hz32 hone hdl hdb hal hab
  go_wp2_with fail
  refine wp_region_noPanic ?_
  refine wp_region_held_drew (S := fun w' => w'.cell? ⟨M, 0, none⟩ = some (.int .u8 e0) ∧ w'.rangeAt M 0 (nums .u8 E)) (by kernel_rfl) ?_ (fun hHeld => ?_)
  · exact SK.out _ D0.out
  refine wpAnyH_ready (rs := [0]) (by kernel_rfl) (by simp) ?_
  refine AllReadyH.cons rfl (fun K hK => ?_) AllReadyH.nil
  go_simp
  (go_at_call 7; (with_reducible refine (KA.out _ D0.out).mono ?_); rintro x v1 ⟨rfl, hb1⟩; have D1 := Aside0.mk (below_step D0.out hb1); clear hb1)
  refine hK.out _ _ ?_ (fun hHeld => ?_)
  · exact SK.out _ D1.out
  clear hK K
  (try simp only [List.getElem_toArray, List.getElem_cons_succ, List.getElem_cons_zero, Act.put, List.setIfInBounds_toArray, List.set_cons_zero, List.set_cons_succ])
  refine wpAnyH_take (i := 1) (v := ?_) rfl (by kernel_rfl) (by kernel_rfl) (by kernel_rfl) (fun _ _ _ h => h) (Or.inl ⟨by rfl, ?_⟩) (by assumption) ?_
  rotate_left
  · (intro w hSw; (try dsimp only at hSw); go_simp; try (with_reducible rfl))
  (try simp only [List.getElem_toArray, List.getElem_cons_succ, List.getElem_cons_zero, Act.put, List.setIfInBounds_toArray, List.set_cons_zero, List.set_cons_succ])
  refine wpAnyH_take (i := 2) (v := ?_) rfl (by kernel_rfl) (by kernel_rfl) (by kernel_rfl) (fun _ _ _ h => h) (Or.inl ⟨by rfl, ?_⟩) (by assumption) ?_
  rotate_left
  · (intro w hSw; (try dsimp only at hSw); go_simp; try (with_reducible rfl))
  (try simp only [List.getElem_toArray, List.getElem_cons_succ, List.getElem_cons_zero, Act.put, List.setIfInBounds_toArray, List.set_cons_zero, List.set_cons_succ])
  refine wpAnyH_take (i := 4) (v := _) rfl (by kernel_rfl) (by kernel_rfl) (by kernel_rfl) (fun _ _ _ h => h) (yieldsIf_load_mid (by rfl) _ _ rfl M 0 rfl (nums .u8 E) _ (fun w hSw => hSw.2) u25 rfl i25) (by assumption) ?_
  (try simp only [List.getElem_toArray, List.getElem_cons_succ, List.getElem_cons_zero, Act.put, List.setIfInBounds_toArray, List.set_cons_zero, List.set_cons_succ])
  refine wpAnyH_ready (rs := [3]) (by kernel_rfl) (by simp) ?_
  refine AllReadyH.cons rfl (fun K hK => ?_) AllReadyH.nil
  go_simp
  (go_at_call 12; (with_reducible refine (KY.out _ D1.out).mono ?_); rintro x v2 ⟨rfl, hb1⟩; have D2 := Aside0.mk (below_step D1.out hb1); clear hb1)
  refine hK.out _ _ ?_ (fun hHeld => ?_)
  · exact SK.out _ D2.out
  clear hK K
  (try simp only [List.getElem_toArray, List.getElem_cons_succ, List.getElem_cons_zero, Act.put, List.setIfInBounds_toArray, List.set_cons_zero, List.set_cons_succ])
  refine wpAnyH_take (i := 5) (v := ?_) rfl (by kernel_rfl) (by kernel_rfl) (by kernel_rfl) (fun _ _ _ h => h) (Or.inl ⟨by rfl, ?_⟩) (by assumption) ?_
  rotate_left
  · (intro w hSw; (try dsimp only at hSw); go_simp; try (with_reducible rfl))
  (try simp only [List.getElem_toArray, List.getElem_cons_succ, List.getElem_cons_zero, Act.put, List.setIfInBounds_toArray, List.set_cons_zero, List.set_cons_succ])
  refine wpAnyH_take (i := 6) (v := ?_) rfl (by kernel_rfl) (by kernel_rfl) (by kernel_rfl) (fun _ _ _ h => h) (Or.inl ⟨by rfl, ?_⟩) (by assumption) ?_
  rotate_left
  · (intro w hSw; (try dsimp only at hSw); go_simp; try (with_reducible rfl))
  (try simp only [List.getElem_toArray, List.getElem_cons_succ, List.getElem_cons_zero, Act.put, List.setIfInBounds_toArray, List.set_cons_zero, List.set_cons_succ])
  refine wpAnyH_take (i := 7) (v := ?_) rfl (by kernel_rfl) (by kernel_rfl) (by kernel_rfl) (fun _ _ _ h => h) (Or.inl ⟨by rfl, ?_⟩) (by assumption) ?_
  rotate_left
  · (intro w hSw; (try dsimp only at hSw); go_simp; try (with_reducible rfl))
  (try simp only [List.getElem_toArray, List.getElem_cons_succ, List.getElem_cons_zero, Act.put, List.setIfInBounds_toArray, List.set_cons_zero, List.set_cons_succ])
  refine wpAnyH_take (i := 8) (v := _) rfl (by kernel_rfl) (by kernel_rfl) (by kernel_rfl) (fun _ _ _ h => h) (yieldsIf_load_mid (by rfl) _ _ rfl M 0 rfl (nums .u8 E) _ (fun w hSw => hSw.2) u25 rfl i25) (by assumption) ?_
  (try simp only [List.getElem_toArray, List.getElem_cons_succ, List.getElem_cons_zero, Act.put, List.setIfInBounds_toArray, List.set_cons_zero, List.set_cons_succ])
  refine wpAnyH_take (i := 9) (v := ?_) rfl (by kernel_rfl) (by kernel_rfl) (by kernel_rfl) (fun _ _ _ h => h) (Or.inl ⟨by rfl, ?_⟩) (by assumption) ?_
  rotate_left
  · (intro w hSw; (try dsimp only at hSw); go_simp; try (with_reducible rfl))
  (try simp only [List.getElem_toArray, List.getElem_cons_succ, List.getElem_cons_zero, Act.put, List.setIfInBounds_toArray, List.set_cons_zero, List.set_cons_succ])
  refine wpAnyH_ready (rs := [10]) (by kernel_rfl) (by simp) ?_
  refine AllReadyH.cons rfl (fun K hK => ?_) AllReadyH.nil
  go_simp
  refine hK.out _ _ ?_ (fun hHeld => ?_)
  · exact SK.out _ (below_alloc D2.out _)
  clear hK K
  (try simp only [List.getElem_toArray, List.getElem_cons_succ, List.getElem_cons_zero, Act.put, List.setIfInBounds_toArray, List.set_cons_zero, List.set_cons_succ])
  refine wpAnyH_ready (rs := [11]) (by kernel_rfl) (by simp) ?_
  refine AllReadyH.cons rfl (fun K hK => ?_) AllReadyH.nil
  go_simp
  (go_at_call 8; (with_reducible refine (K1.out _ D2.out).mono ?_); rintro x v3 ⟨rfl, hb1⟩; have D3 := Aside0.mk (below_step D2.out hb1); clear hb1)
  refine hK.out _ _ ?_ (fun hHeld => ?_)
  · exact SK.out _ D3.out
  clear hK K
  (try simp only [List.getElem_toArray, List.getElem_cons_succ, List.getElem_cons_zero, Act.put, List.setIfInBounds_toArray, List.set_cons_zero, List.set_cons_succ])
  refine wpAnyH_take (i := 12) (v := ?_) rfl (by kernel_rfl) (by kernel_rfl) (by kernel_rfl) (fun _ _ _ h => h) (Or.inl ⟨by rfl, ?_⟩) (by assumption) ?_
  rotate_left
  · (intro w hSw; (try dsimp only at hSw); go_simp; try (with_reducible rfl))
  (try simp only [List.getElem_toArray, List.getElem_cons_succ, List.getElem_cons_zero, Act.put, List.setIfInBounds_toArray, List.set_cons_zero, List.set_cons_succ])
  refine wpAnyH_take (i := 13) (v := ?_) rfl (by kernel_rfl) (by kernel_rfl) (by kernel_rfl) (fun _ _ _ h => h) (Or.inl ⟨by rfl, ?_⟩) (by assumption) ?_
  rotate_left
  · (intro w hSw; (try dsimp only at hSw); go_simp; try (with_reducible rfl))
  (try simp only [List.getElem_toArray, List.getElem_cons_succ, List.getElem_cons_zero, Act.put, List.setIfInBounds_toArray, List.set_cons_zero, List.set_cons_succ])
  refine wpAnyH_take (i := 14) (v := ?_) rfl (by kernel_rfl) (by kernel_rfl) (by kernel_rfl) (fun _ _ _ h => h) (Or.inl ⟨by rfl, ?_⟩) (by assumption) ?_
  rotate_left
  · (intro w hSw; (try dsimp only at hSw); go_simp; try (with_reducible rfl))
  (try simp only [List.getElem_toArray, List.getElem_cons_succ, List.getElem_cons_zero, Act.put, List.setIfInBounds_toArray, List.set_cons_zero, List.set_cons_succ])
  refine wpAnyH_take (i := 15) (v := ?_) rfl (by kernel_rfl) (by kernel_rfl) (by kernel_rfl) (fun _ _ _ h => h) (Or.inl ⟨by rfl, ?_⟩) (by assumption) ?_
  rotate_left
  · (intro w hSw; (try dsimp only at hSw); go_simp; try (with_reducible rfl))
  (try simp only [List.getElem_toArray, List.getElem_cons_succ, List.getElem_cons_zero, Act.put, List.setIfInBounds_toArray, List.set_cons_zero, List.set_cons_succ])
  refine wpAnyH_take (i := 17) (v := ?_) rfl (by kernel_rfl) (by kernel_rfl) (by kernel_rfl) (fun _ _ _ h => h) (Or.inl ⟨by rfl, ?_⟩) (by assumption) ?_
  rotate_left
  · (intro w hSw; (try dsimp only at hSw); go_simp; try (with_reducible rfl))
  (try simp only [List.getElem_toArray, List.getElem_cons_succ, List.getElem_cons_zero, Act.put, List.setIfInBounds_toArray, List.set_cons_zero, List.set_cons_succ])
  refine wpAnyH_take (i := 18) (v := ?_) rfl (by kernel_rfl) (by kernel_rfl) (by kernel_rfl) (fun _ _ _ h => h) (Or.inl ⟨by rfl, ?_⟩) (by assumption) ?_
  rotate_left
  · (intro w hSw; (try dsimp only at hSw); go_simp; try (with_reducible rfl))
  (try simp only [List.getElem_toArray, List.getElem_cons_succ, List.getElem_cons_zero, Act.put, List.setIfInBounds_toArray, List.set_cons_zero, List.set_cons_succ])
  refine wpAnyH_ready (rs := [16, 19]) (by kernel_rfl) (by simp) ?_
  refine AllReadyH.cons rfl (fun K hK => ?_) (AllReadyH.cons rfl (fun K hK => ?_) AllReadyH.nil)
  · skip
    go_simp
    (go_at_call 12; (with_reducible refine (KX.out _ D3.out).mono ?_); rintro x v4 ⟨rfl, hb1⟩; have D4 := Aside0.mk (below_step D3.out hb1); clear hb1)
    refine hK.out _ _ ?_ (fun hHeld => ?_)
    · exact SK.out _ D4.out
    clear hK K
    (try simp only [List.getElem_toArray, List.getElem_cons_succ, List.getElem_cons_zero, Act.put, List.setIfInBounds_toArray, List.set_cons_zero, List.set_cons_succ])
    refine wpAnyH_ready (rs := [19]) (by kernel_rfl) (by simp) ?_
    refine AllReadyH.cons rfl (fun K hK => ?_) AllReadyH.nil
    go_simp
    refine hK.out _ _ ?_ (fun hHeld => ?_)
    · exact SK.out _ (below_alloc D4.out _)
    clear hK K
    (try simp only [List.getElem_toArray, List.getElem_cons_succ, List.getElem_cons_zero, Act.put, List.setIfInBounds_toArray, List.set_cons_zero, List.set_cons_succ])
    have D4' := Aside0.mk (below_alloc D4.out (.cells #[.slice A a.length ca, .slice C c.length cc] 28))
    refine wpAnyH_ready (rs := [20]) (by kernel_rfl) (by simp) ?_
    refine AllReadyH.cons rfl (fun K hK => ?_) AllReadyH.nil
    go_simp
    (go_at_call 8; (with_reducible refine (K2.out _ _ (blk_new v4 _) D4'.out).mono ?_); rintro x v5 ⟨rfl, hb1⟩; have D5 := Aside0.mk (below_step D4'.out hb1); clear hb1)
    refine hK.out _ _ ?_ (fun hHeld => ?_)
    · exact SK.out _ D5.out
    clear hK K
    (try simp only [List.getElem_toArray, List.getElem_cons_succ, List.getElem_cons_zero, Act.put, List.setIfInBounds_toArray, List.set_cons_zero, List.set_cons_succ])
    refine wpAnyH_take (i := 21) (v := ?_) rfl (by kernel_rfl) (by kernel_rfl) (by kernel_rfl) (fun _ _ _ h => h) (Or.inl ⟨by rfl, ?_⟩) (by assumption) ?_
    rotate_left
    · (intro w hSw; (try dsimp only at hSw); go_simp; try (with_reducible rfl))
    (try simp only [List.getElem_toArray, List.getElem_cons_succ, List.getElem_cons_zero, Act.put, List.setIfInBounds_toArray, List.set_cons_zero, List.set_cons_succ])
    refine wpAnyH_take (i := 22) (v := ?_) rfl (by kernel_rfl) (by kernel_rfl) (by kernel_rfl) (fun _ _ _ h => h) (Or.inl ⟨by rfl, ?_⟩) (by assumption) ?_
    rotate_left
    · (intro w hSw; (try dsimp only at hSw); go_simp; try (with_reducible rfl))
    (try simp only [List.getElem_toArray, List.getElem_cons_succ, List.getElem_cons_zero, Act.put, List.setIfInBounds_toArray, List.set_cons_zero, List.set_cons_succ])
    refine wpAnyH_take (i := 23) (v := ?_) rfl (by kernel_rfl) (by kernel_rfl) (by kernel_rfl) (fun _ _ _ h => h) (Or.inl ⟨by rfl, ?_⟩) (by assumption) ?_
    rotate_left
    · (intro w hSw; (try dsimp only at hSw); go_simp; try (with_reducible rfl))
    (try simp only [List.getElem_toArray, List.getElem_cons_succ, List.getElem_cons_zero, Act.put, List.setIfInBounds_toArray, List.set_cons_zero, List.set_cons_succ])
    refine wpAnyH_take (i := 24) (v := ?_) rfl (by kernel_rfl) (by kernel_rfl) (by kernel_rfl) (fun _ _ _ h => h) (Or.inl ⟨by rfl, ?_⟩) (by assumption) ?_
    rotate_left
    · (intro w hSw; (try dsimp only at hSw); go_simp; try (with_reducible rfl))
    (try simp only [List.getElem_toArray, List.getElem_cons_succ, List.getElem_cons_zero, Act.put, List.setIfInBounds_toArray, List.set_cons_zero, List.set_cons_succ])
    refine wpAnyH_take (i := 26) (v := ?_) rfl (by kernel_rfl) (by kernel_rfl) (by kernel_rfl) (fun _ _ _ h => h) (Or.inl ⟨by rfl, ?_⟩) (by assumption) ?_
    rotate_left
    · (intro w hSw; (try dsimp only at hSw); go_simp; try (with_reducible rfl))
    (try simp only [List.getElem_toArray, List.getElem_cons_succ, List.getElem_cons_zero, Act.put, List.setIfInBounds_toArray, List.set_cons_zero, List.set_cons_succ])
    refine wpAnyH_ready (rs := [25]) (by kernel_rfl) (by simp) ?_
    refine AllReadyH.cons rfl (fun K hK => ?_) AllReadyH.nil
    go_simp
    (go_at_call 12; (with_reducible refine (sum_nil _).mono ?_); rintro x v6 ⟨rfl, hb1⟩; have D6 := Aside0.mk (below_step D5.out hb1); clear hb1)
    refine hK.out _ _ ?_ (fun hHeld => ?_)
    · exact SK.out _ D6.out
    clear hK K
    (try simp only [List.getElem_toArray, List.getElem_cons_succ, List.getElem_cons_zero, Act.put, List.setIfInBounds_toArray, List.set_cons_zero, List.set_cons_succ])
    refine wpAnyH_take (i := 27) (v := ?_) rfl (by kernel_rfl) (by kernel_rfl) (by kernel_rfl) (fun _ _ _ h => h) (Or.inl ⟨by rfl, ?_⟩) (by assumption) ?_
    rotate_left
    · (intro w hSw; (try dsimp only at hSw); go_simp; try (with_reducible rfl))
    (try simp only [List.getElem_toArray, List.getElem_cons_succ, List.getElem_cons_zero, Act.put, List.setIfInBounds_toArray, List.set_cons_zero, List.set_cons_succ])
    refine wpAnyH_take (i := 28) (v := ?_) rfl (by kernel_rfl) (by kernel_rfl) (by kernel_rfl) (fun _ _ _ h => h) (Or.inl ⟨by rfl, ?_⟩) (by assumption) ?_
    rotate_left
    · (intro w hSw; (try dsimp only at hSw); go_simp; try (with_reducible rfl))
    (try simp only [List.getElem_toArray, List.getElem_cons_succ, List.getElem_cons_zero, Act.put, List.setIfInBounds_toArray, List.set_cons_zero, List.set_cons_succ])
    refine wpAnyH_take (i := 29) (v := ?_) rfl (by kernel_rfl) (by kernel_rfl) (by kernel_rfl) (fun _ _ _ h => h) (Or.inl ⟨by rfl, ?_⟩) (by assumption) ?_
    rotate_left
    · (intro w hSw; (try dsimp only at hSw); go_simp; try (with_reducible rfl))
    (try simp only [List.getElem_toArray, List.getElem_cons_succ, List.getElem_cons_zero, Act.put, List.setIfInBounds_toArray, List.set_cons_zero, List.set_cons_succ])
    refine wpAnyH_take (i := 30) (v := ?_) rfl (by kernel_rfl) (by kernel_rfl) (by kernel_rfl) (fun _ _ _ h => h) (Or.inl ⟨by rfl, ?_⟩) (by assumption) ?_
    rotate_left
    · (intro w hSw; (try dsimp only at hSw); go_simp; try (with_reducible rfl))
    (try simp only [List.getElem_toArray, List.getElem_cons_succ, List.getElem_cons_zero, Act.put, List.setIfInBounds_toArray, List.set_cons_zero, List.set_cons_succ])
    refine wpAnyH_ready (rs := [31]) (by kernel_rfl) (by simp) ?_
    refine AllReadyH.cons rfl (fun K hK => ?_) AllReadyH.nil
    go_simp
    (go_at_call 13; (with_reducible refine (len_nil _).mono ?_); rintro x v7 ⟨rfl, hb1⟩; have D7 := Aside0.mk (below_step D6.out hb1); clear hb1)
    refine hK.out _ _ ?_ (fun hHeld => ?_)
    · exact SK.out _ D7.out
    clear hK K
    (try simp only [List.getElem_toArray, List.getElem_cons_succ, List.getElem_cons_zero, Act.put, List.setIfInBounds_toArray, List.set_cons_zero, List.set_cons_succ])
    refine wpAnyH_take (i := 32) (v := ?_) rfl (by kernel_rfl) (by kernel_rfl) (by kernel_rfl) (fun _ _ _ h => h) (Or.inl ⟨by rfl, ?_⟩) (by assumption) ?_
    rotate_left
    · (intro w hSw; (try dsimp only at hSw); go_simp; try (with_reducible rfl))
    (try simp only [List.getElem_toArray, List.getElem_cons_succ, List.getElem_cons_zero, Act.put, List.setIfInBounds_toArray, List.set_cons_zero, List.set_cons_succ])
    refine wpAnyH_take (i := 33) (v := ?_) rfl (by kernel_rfl) (by kernel_rfl) (by kernel_rfl) (fun _ _ _ h => h) (Or.inl ⟨by rfl, ?_⟩) (by assumption) ?_
    rotate_left
    · (intro w hSw; (try dsimp only at hSw); go_simp; try (with_reducible rfl))
    (try simp only [List.getElem_toArray, List.getElem_cons_succ, List.getElem_cons_zero, Act.put, List.setIfInBounds_toArray, List.set_cons_zero, List.set_cons_succ])
    refine wpAnyH_take (i := 34) (v := ?_) rfl (by kernel_rfl) (by kernel_rfl) (by kernel_rfl) (fun _ _ _ h => h) (Or.inl ⟨by rfl, ?_⟩) (by assumption) ?_
    rotate_left
    · (intro w hSw; (try dsimp only at hSw); go_simp; try (with_reducible rfl))
    (try simp only [List.getElem_toArray, List.getElem_cons_succ, List.getElem_cons_zero, Act.put, List.setIfInBounds_toArray, List.set_cons_zero, List.set_cons_succ])
    refine wpAnyH_done (by kernel_rfl) ?_ _
    refine NoPanic.normal ?_
    (try simp only [List.getElem_toArray, List.getElem_cons_succ, List.getElem_cons_zero, Act.put, List.setIfInBounds_toArray, List.set_cons_zero, List.set_cons_succ])
    go_wp2_with fail
    go_ret
    exact ⟨by rfl, below_step B9.out D7.out⟩
  · skip
    go_simp
    refine hK.out _ _ ?_ (fun hHeld => ?_)
    · exact SK.out _ (below_alloc D3.out _)
    clear hK K
    (try simp only [List.getElem_toArray, List.getElem_cons_succ, List.getElem_cons_zero, Act.put, List.setIfInBounds_toArray, List.set_cons_zero, List.set_cons_succ])
    have D3' := Aside0.mk (below_alloc D3.out (.cells #[.slice A a.length ca, .slice C c.length cc] 28))
    have R3 := blk_new v3 (.cells #[.slice A a.length ca, .slice C c.length cc] 28)
    have R3' := Aside0.mk R3
    clear R3
    refine wpAnyH_ready (rs := [16]) (by kernel_rfl) (by simp) ?_
    refine AllReadyH.cons rfl (fun K hK => ?_) AllReadyH.nil
    go_simp
    (go_at_call 12; (with_reducible refine (KX.out _ D3'.out).mono ?_); rintro x v4 ⟨rfl, hb1⟩; have D4 := Aside0.mk (below_step D3'.out hb1); have R4 := Aside0.mk ((hb1.block v3.heap.size (Array.getElem?_eq_some_iff.1 R3'.out).1).trans R3'.out); clear hb1)
    refine hK.out _ _ ?_ (fun hHeld => ?_)
    · exact SK.out _ D4.out
    clear hK K
    (try simp only [List.getElem_toArray, List.getElem_cons_succ, List.getElem_cons_zero, Act.put, List.setIfInBounds_toArray, List.set_cons_zero, List.set_cons_succ])
    refine wpAnyH_ready (rs := [20]) (by kernel_rfl) (by simp) ?_
    refine AllReadyH.cons rfl (fun K hK => ?_) AllReadyH.nil
    go_simp
    (go_at_call 8; (with_reducible refine (K2.out _ _ R4.out D4.out).mono ?_); rintro x v5 ⟨rfl, hb1⟩; have D5 := Aside0.mk (below_step D4.out hb1); clear hb1)
    refine hK.out _ _ ?_ (fun hHeld => ?_)
    · exact SK.out _ D5.out
    clear hK K
    (try simp only [List.getElem_toArray, List.getElem_cons_succ, List.getElem_cons_zero, Act.put, List.setIfInBounds_toArray, List.set_cons_zero, List.set_cons_succ])
    refine wpAnyH_take (i := 21) (v := ?_) rfl (by kernel_rfl) (by kernel_rfl) (by kernel_rfl) (fun _ _ _ h => h) (Or.inl ⟨by rfl, ?_⟩) (by assumption) ?_
    rotate_left
    · (intro w hSw; (try dsimp only at hSw); go_simp; try (with_reducible rfl))
    (try simp only [List.getElem_toArray, List.getElem_cons_succ, List.getElem_cons_zero, Act.put, List.setIfInBounds_toArray, List.set_cons_zero, List.set_cons_succ])
    refine wpAnyH_take (i := 22) (v := ?_) rfl (by kernel_rfl) (by kernel_rfl) (by kernel_rfl) (fun _ _ _ h => h) (Or.inl ⟨by rfl, ?_⟩) (by assumption) ?_
    rotate_left
    · (intro w hSw; (try dsimp only at hSw); go_simp; try (with_reducible rfl))
    (try simp only [List.getElem_toArray, List.getElem_cons_succ, List.getElem_cons_zero, Act.put, List.setIfInBounds_toArray, List.set_cons_zero, List.set_cons_succ])
    refine wpAnyH_take (i := 23) (v := ?_) rfl (by kernel_rfl) (by kernel_rfl) (by kernel_rfl) (fun _ _ _ h => h) (Or.inl ⟨by rfl, ?_⟩) (by assumption) ?_
    rotate_left
    · (intro w hSw; (try dsimp only at hSw); go_simp; try (with_reducible rfl))
    (try simp only [List.getElem_toArray, List.getElem_cons_succ, List.getElem_cons_zero, Act.put, List.setIfInBounds_toArray, List.set_cons_zero, List.set_cons_succ])
    refine wpAnyH_take (i := 24) (v := ?_) rfl (by kernel_rfl) (by kernel_rfl) (by kernel_rfl) (fun _ _ _ h => h) (Or.inl ⟨by rfl, ?_⟩) (by assumption) ?_
    rotate_left
    · (intro w hSw; (try dsimp only at hSw); go_simp; try (with_reducible rfl))
    (try simp only [List.getElem_toArray, List.getElem_cons_succ, List.getElem_cons_zero, Act.put, List.setIfInBounds_toArray, List.set_cons_zero, List.set_cons_succ])
    refine wpAnyH_take (i := 26) (v := ?_) rfl (by kernel_rfl) (by kernel_rfl) (by kernel_rfl) (fun _ _ _ h => h) (Or.inl ⟨by rfl, ?_⟩) (by assumption) ?_
    rotate_left
    · (intro w hSw; (try dsimp only at hSw); go_simp; try (with_reducible rfl))
    (try simp only [List.getElem_toArray, List.getElem_cons_succ, List.getElem_cons_zero, Act.put, List.setIfInBounds_toArray, List.set_cons_zero, List.set_cons_succ])
    refine wpAnyH_ready (rs := [25]) (by kernel_rfl) (by simp) ?_
    refine AllReadyH.cons rfl (fun K hK => ?_) AllReadyH.nil
    go_simp
    (go_at_call 12; (with_reducible refine (sum_nil _).mono ?_); rintro x v6 ⟨rfl, hb1⟩; have D6 := Aside0.mk (below_step D5.out hb1); clear hb1)
    refine hK.out _ _ ?_ (fun hHeld => ?_)
    · exact SK.out _ D6.out
    clear hK K
    (try simp only [List.getElem_toArray, List.getElem_cons_succ, List.getElem_cons_zero, Act.put, List.setIfInBounds_toArray, List.set_cons_zero, List.set_cons_succ])
    refine wpAnyH_take (i := 27) (v := ?_) rfl (by kernel_rfl) (by kernel_rfl) (by kernel_rfl) (fun _ _ _ h => h) (Or.inl ⟨by rfl, ?_⟩) (by assumption) ?_
    rotate_left
    · (intro w hSw; (try dsimp only at hSw); go_simp; try (with_reducible rfl))
    (try simp only [List.getElem_toArray, List.getElem_cons_succ, List.getElem_cons_zero, Act.put, List.setIfInBounds_toArray, List.set_cons_zero, List.set_cons_succ])
    refine wpAnyH_take (i := 28) (v := ?_) rfl (by kernel_rfl) (by kernel_rfl) (by kernel_rfl) (fun _ _ _ h => h) (Or.inl ⟨by rfl, ?_⟩) (by assumption) ?_
    rotate_left
    · (intro w hSw; (try dsimp only at hSw); go_simp; try (with_reducible rfl))
    (try simp only [List.getElem_toArray, List.getElem_cons_succ, List.getElem_cons_zero, Act.put, List.setIfInBounds_toArray, List.set_cons_zero, List.set_cons_succ])
    refine wpAnyH_take (i := 29) (v := ?_) rfl (by kernel_rfl) (by kernel_rfl) (by kernel_rfl) (fun _ _ _ h => h) (Or.inl ⟨by rfl, ?_⟩) (by assumption) ?_
    rotate_left
    · (intro w hSw; (try dsimp only at hSw); go_simp; try (with_reducible rfl))
    (try simp only [List.getElem_toArray, List.getElem_cons_succ, List.getElem_cons_zero, Act.put, List.setIfInBounds_toArray, List.set_cons_zero, List.set_cons_succ])
    refine wpAnyH_take (i := 30) (v := ?_) rfl (by kernel_rfl) (by kernel_rfl) (by kernel_rfl) (fun _ _ _ h => h) (Or.inl ⟨by rfl, ?_⟩) (by assumption) ?_
    rotate_left
    · (intro w hSw; (try dsimp only at hSw); go_simp; try (with_reducible rfl))
    (try simp only [List.getElem_toArray, List.getElem_cons_succ, List.getElem_cons_zero, Act.put, List.setIfInBounds_toArray, List.set_cons_zero, List.set_cons_succ])
    refine wpAnyH_ready (rs := [31]) (by kernel_rfl) (by simp) ?_
    refine AllReadyH.cons rfl (fun K hK => ?_) AllReadyH.nil
    go_simp
    (go_at_call 13; (with_reducible refine (len_nil _).mono ?_); rintro x v7 ⟨rfl, hb1⟩; have D7 := Aside0.mk (below_step D6.out hb1); clear hb1)
    refine hK.out _ _ ?_ (fun hHeld => ?_)
    · exact SK.out _ D7.out
    clear hK K
    (try simp only [List.getElem_toArray, List.getElem_cons_succ, List.getElem_cons_zero, Act.put, List.setIfInBounds_toArray, List.set_cons_zero, List.set_cons_succ])
    refine wpAnyH_take (i := 32) (v := ?_) rfl (by kernel_rfl) (by kernel_rfl) (by kernel_rfl) (fun _ _ _ h => h) (Or.inl ⟨by rfl, ?_⟩) (by assumption) ?_
    rotate_left
    · (intro w hSw; (try dsimp only at hSw); go_simp; try (with_reducible rfl))
    (try simp only [List.getElem_toArray, List.getElem_cons_succ, List.getElem_cons_zero, Act.put, List.setIfInBounds_toArray, List.set_cons_zero, List.set_cons_succ])
    refine wpAnyH_take (i := 33) (v := ?_) rfl (by kernel_rfl) (by kernel_rfl) (by kernel_rfl) (fun _ _ _ h => h) (Or.inl ⟨by rfl, ?_⟩) (by assumption) ?_
    rotate_left
    · (intro w hSw; (try dsimp only at hSw); go_simp; try (with_reducible rfl))
    (try simp only [List.getElem_toArray, List.getElem_cons_succ, List.getElem_cons_zero, Act.put, List.setIfInBounds_toArray, List.set_cons_zero, List.set_cons_succ])
    refine wpAnyH_take (i := 34) (v := ?_) rfl (by kernel_rfl) (by kernel_rfl) (by kernel_rfl) (fun _ _ _ h => h) (Or.inl ⟨by rfl, ?_⟩) (by assumption) ?_
    rotate_left
    · (intro w hSw; (try dsimp only at hSw); go_simp; try (with_reducible rfl))
    (try simp only [List.getElem_toArray, List.getElem_cons_succ, List.getElem_cons_zero, Act.put, List.setIfInBounds_toArray, List.set_cons_zero, List.set_cons_succ])
    refine wpAnyH_done (by kernel_rfl) ?_ _
    refine NoPanic.normal ?_
    (try simp only [List.getElem_toArray, List.getElem_cons_succ, List.getElem_cons_zero, Act.put, List.setIfInBounds_toArray, List.set_cons_zero, List.set_cons_succ])
    go_wp2_with fail
    go_ret
    exact ⟨by rfl, below_step B9.out D7.out⟩
end Go.Proofs.YtbkocnclaobabaaDoor.TwoW
