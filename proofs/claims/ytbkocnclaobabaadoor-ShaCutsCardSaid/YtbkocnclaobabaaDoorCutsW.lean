/- The law ShaCuts, walked. No condition. -/
import Derived.Test.YtbkocnclaobabaaDoorTwoW
namespace Go.Proofs.YtbkocnclaobabaaDoor.CutsW
set_option linter.unusedVariables false
set_option linter.unusedSimpArgs false
open Go.RowKit Go.Proofs.YtbkocnclaobabaaDoor.PAll Go.Proofs.YtbkocnclaobabaaDoor.Nums Go.Proofs.YtbkocnclaobabaaDoor.PutM Go.Proofs.YtbkocnclaobabaaDoor.Libs Go.Proofs.YtbkocnclaobabaaDoor.ShaM Go.Proofs.YtbkocnclaobabaaDoor.WriteM Go.Proofs.YtbkocnclaobabaaDoor.Arr Go.Proofs.YtbkocnclaobabaaDoor.SchedW Go.Proofs.YtbkocnclaobabaaDoor.NewW Go.Proofs.YtbkocnclaobabaaDoor.MixW Go.Proofs.YtbkocnclaobabaaDoor.App Go.Proofs.YtbkocnclaobabaaDoor.HashW Go.Proofs.YtbkocnclaobabaaDoorW.PrintWords Go.Proofs.YtbkocnclaobabaaDoorW.PrintLast Go.Proofs.YtbkocnclaobabaaDoorW.PrintMore
open Go.Proofs.YtbkocnclaobabaaDoor.WriteW Go.Proofs.YtbkocnclaobabaaDoor.SumW Go.Proofs.YtbkocnclaobabaaDoor.PartsW Go.Proofs.YtbkocnclaobabaaDoor.DigEq Go.Proofs.YtbkocnclaobabaaDoor.AwakeW Go.Proofs.YtbkocnclaobabaaDoor.TwoW
/-- The digest of rows that a row's cells tell. -/
theorem rows_calls {w : World} {q n : Nat} {cs : Array Value} {ls : List (List Int)} {b : List Int} (hG : Glob w) (hq : w.heap[q]? = some (.cells cs 28 (0, 0))) (hn : ls.length = n) (hb : ls.flatten = b) (hl : b.length ≤ 140737488351232) (hn2 : n ≤ 4)
    (h : ∀ (i : Nat) (l : List Int), ls[i]? = some l → ∃ (A : Option Addr) (c : Nat), cs[i]? = some (Value.slice A l.length c) ∧ InB w A c l) :
    Calls Tryd.prog 8 #[.slice (some ⟨q, 0, none⟩) n n] w fun e w' => e = .returned (.agg (nums .u8 (dig b)).toArray) ∧ Below w.heap.size w w' := by
  subst hn hb
  refine parts_calls (some ⟨q, 0, none⟩) ls.length ls w hG (parts_heap hq fun i l hi => ?_) (Nat.le_refl _) (by omega) (by omega)
  obtain ⟨A, c, h1, h2⟩ := h i l hi
  exact ⟨A, c, h1, h2.cap, h2.C, h2.nil, h2.bytes, h2.len⟩
theorem InB.empty (W : World) (A : Option Addr) (c : Nat) (h : A = none → c = 0) : InB W A c [] := ⟨⟨rfl, by simp, fun h => absurd h (by simp)⟩, by simp, h, (fun x hx => by cases hx), by simp⟩
set_option maxHeartbeats 8000000 in
set_option maxRecDepth 100000 in
theorem cuts_law (A : Option Addr) (ca : Nat) (b : List Int) (at_ : Int) (W : World) (hG : Glob W) (hb : InB W A ca b) (h0 : 0 ≤ at_) (h1 : at_ < 65536) :
    Calls Tryd.prog 6 #[.slice A b.length ca, .int .u16 at_] W fun e w' => e = .returned (.bool true) ∧ Below W.heap.size W w' := by
  have HG := Aside0.mk hG
  have IB := Aside0.mk hb
  have hbl := hb.len
  have hbc := hb.cap
  clear hG hb
  have hw : IntKind.i64.wrap at_ = at_ := by rw [IntKind.wrap_i64]; omega
  go_enter Tryd.func6, Tryd.ntmps6
  by_cases hlen : 0 < b.length
  · have hl1 : (0 : Int) < (b.length : Int) := by omega
    have hl0 : ¬ ((b.length : Int) = 0) := by omega
    obtain ⟨kn, hkn, hk⟩ : ∃ kn : Nat, at_ % (b.length : Int) = (kn : Int) ∧ kn ≤ b.length := by
      have h2 := Int.emod_nonneg at_ hl0
      have h3 := Int.emod_lt_of_pos at_ hl1
      exact ⟨(at_ % (b.length : Int)).toNat, by omega, by omega⟩
    go_wp2_with fail
    clear hl1 hl0
    obtain ⟨i0, hi0, _, hsz, _⟩ := info_parts Libs.info5
    have hc1 := cut_to (P := Tryd.prog) 28 5 .i64 Tryd.underlying28 hi0 A b.length ca (kn : Int) (by omega) (by omega) hbc
    have hc2 := cut_from (P := Tryd.prog) 28 5 .i64 Tryd.underlying28 hi0 1 hsz A b.length ca (kn : Int) (by omega) (by omega)
    rw [Int.toNat_natCast] at hc1 hc2
    have I1 : InB W A ca (b.take kn) := ⟨Kd.C_take IB.out.C hk, by rw [List.length_take]; omega, IB.out.nil, bytes_take IB.out.bytes kn, by rw [List.length_take]; omega⟩
    have hcd := Kd.C_drop (m := kn) (c := ca) IB.out.C hk hbc
    have hnd : (if ca = kn then A else A.map (·.add (kn * 1))) = none → ca - kn = 0 := fun e => by
      split at e
      · rw [IB.out.nil e]; omega
      · cases hA : A with
        | none => rw [IB.out.nil hA]; omega
        | some a => rw [hA] at e; simp at e
    rw [show kn * (Kd.int .u8).sz = kn * 1 from rfl] at hcd
    generalize (if ca = kn then A else A.map (·.add (kn * 1))) = A2 at *
    have I2 : InB W A2 (ca - kn) (b.drop kn) := ⟨hcd, by rw [List.length_drop]; omega, hnd, bytes_drop IB.out.bytes kn, by rw [List.length_drop]; omega⟩
    have hl1 : (b.take kn).length = kn := by rw [List.length_take]; omega
    have hl2 : (b.drop kn).length = b.length - kn := List.length_drop
    have htd := List.take_append_drop kn b
    generalize b.take kn = b1 at *
    generalize b.drop kn = b2 at *
    generalize b.length - kn = n2 at *
    generalize ca - kn = c2 at *
    have KA := Aside0.mk (fun w' (h : Below W.heap.size W w') => awake_calls w' (Glob.below HG.out h))
    have K1 : Aside0 (∀ (w' : World) (q : Nat), w'.heap[q]? = some (.cells #[.slice A b.length ca] 28 (0, 0)) → Below W.heap.size W w' → Calls Tryd.prog 8 #[.slice (some ⟨q, 0, none⟩) 1 1] w' fun e w'' => e = .returned (.agg (nums .u8 (dig b)).toArray) ∧ Below w'.heap.size w' w'') := ⟨fun w' q hq h => rows_calls (ls := [b]) (Glob.below HG.out h) hq rfl (by simp) hbl (by omega) fun i l hi => by
      match i, hi with
      | 0, hi => obtain rfl : b = l := by simpa using hi
                 exact ⟨A, ca, rfl, IB.out.below h⟩
      | i + 1, hi => simp at hi⟩
    have K2 : Aside0 (∀ (w' : World) (q : Nat), w'.heap[q]? = some (.cells #[.slice A kn ca, .slice A2 n2 c2] 28 (0, 0)) → Below W.heap.size W w' → Calls Tryd.prog 8 #[.slice (some ⟨q, 0, none⟩) 2 2] w' fun e w'' => e = .returned (.agg (nums .u8 (dig b)).toArray) ∧ Below w'.heap.size w' w'') := ⟨fun w' q hq h => rows_calls (ls := [b1, b2]) (Glob.below HG.out h) hq rfl (by simpa using htd) hbl (by omega) fun i l hi => by
      match i, hi with
      | 0, hi => obtain rfl : b1 = l := by simpa using hi
                 exact ⟨A, ca, by rw [hl1]; rfl, I1.below h⟩
      | 1, hi => obtain rfl : b2 = l := by simpa using hi
                 exact ⟨A2, c2, by rw [hl2]; rfl, I2.below h⟩
      | i + 2, hi => simp at hi⟩
    have K4 : Aside0 (∀ (w' : World) (q z : Nat), w'.heap[q]? = some (.cells #[.slice A kn ca, .slice none 0 0, .slice A2 n2 c2, .slice (some ⟨z, 0, none⟩) 0 0] 28 (0, 0)) → Below W.heap.size W w' → Calls Tryd.prog 8 #[.slice (some ⟨q, 0, none⟩) 4 4] w' fun e w'' => e = .returned (.agg (nums .u8 (dig b)).toArray) ∧ Below w'.heap.size w' w'') := ⟨fun w' q z hq h => rows_calls (ls := [b1, [], b2, []]) (Glob.below HG.out h) hq rfl (by simpa using htd) hbl (by omega) fun i l hi => by
      match i, hi with
      | 0, hi => obtain rfl : b1 = l := by simpa using hi
                 exact ⟨A, ca, by rw [hl1]; rfl, I1.below h⟩
      | 1, hi => obtain rfl : [] = l := by simpa using hi
                 exact ⟨none, 0, rfl, InB.empty _ _ _ fun _ => rfl⟩
      | 2, hi => obtain rfl : b2 = l := by simpa using hi
                 exact ⟨A2, c2, by rw [hl2]; rfl, I2.below h⟩
      | 3, hi => obtain rfl : [] = l := by simpa using hi
                 exact ⟨some ⟨z, 0, none⟩, 0, rfl, InB.empty _ _ _ fun e => by cases e⟩
      | i + 4, hi => simp at hi⟩
    have hdl := dig_length b
    have hdb := dig_bytes b
    have qb := fun w => same hdl hdb w
    generalize dig b = E at *
    have D0 : Aside0 (Below W.heap.size W W.drew) := ⟨(Below.refl _ _).drew⟩
    clear hdl hdb hcd hnd I1 I2 hl1 hl2 htd
    refine wp_region_noPanic ?_
    refine wp_region_held_drew (S := fun _ => True) (by kernel_rfl) ?_ (fun hHeld => ?_)
    · trivial
    refine wpAnyH_ready (rs := [0]) (by kernel_rfl) (by simp) ?_
    refine AllReadyH.cons rfl (fun K hK => ?_) AllReadyH.nil
    go_simp
    go_at_call 7
    (with_reducible refine (KA.out _ D0.out).mono ?_)
    rintro x v1 ⟨rfl, hb1⟩
    have D2 := Aside0.mk (below_step D0.out hb1)
    clear hb1
    refine hK.out _ _ ?_ (fun hHeld => ?_)
    · trivial
    clear hK K
    (try simp only [List.getElem_toArray, List.getElem_cons_succ, List.getElem_cons_zero, Act.put, List.setIfInBounds_toArray, List.set_cons_zero, List.set_cons_succ])
    refine wpAnyH_take (i := 1) (v := ?_) rfl (by kernel_rfl) (by kernel_rfl) (by kernel_rfl) (fun _ _ _ h => h) (Or.inl ⟨by rfl, ?_⟩) (by trivial) ?_
    rotate_left
    · (intro w hSw; (try dsimp only at hSw); go_simp; try (with_reducible rfl))
    (try simp only [List.getElem_toArray, List.getElem_cons_succ, List.getElem_cons_zero, Act.put, List.setIfInBounds_toArray, List.set_cons_zero, List.set_cons_succ])
    refine wpAnyH_take (i := 2) (v := ?_) rfl (by kernel_rfl) (by kernel_rfl) (by kernel_rfl) (fun _ _ _ h => h) (Or.inl ⟨by rfl, ?_⟩) (by trivial) ?_
    rotate_left
    · (intro w hSw; (try dsimp only at hSw); go_simp; try (with_reducible rfl))
    (try simp only [List.getElem_toArray, List.getElem_cons_succ, List.getElem_cons_zero, Act.put, List.setIfInBounds_toArray, List.set_cons_zero, List.set_cons_succ])
    refine wpAnyH_take (i := 3) (v := ?_) rfl (by kernel_rfl) (by kernel_rfl) (by kernel_rfl) (fun _ _ _ h => h) (Or.inl ⟨by rfl, ?_⟩) (by trivial) ?_
    rotate_left
    · (intro w hSw; (try dsimp only at hSw); go_simp; try (with_reducible rfl))
    (try simp only [List.getElem_toArray, List.getElem_cons_succ, List.getElem_cons_zero, Act.put, List.setIfInBounds_toArray, List.set_cons_zero, List.set_cons_succ])
    refine wpAnyH_take (i := 4) (v := ?_) rfl (by kernel_rfl) (by kernel_rfl) (by kernel_rfl) (fun _ _ _ h => h) (Or.inl ⟨by rfl, ?_⟩) (by trivial) ?_
    rotate_left
    · (intro w hSw; (try dsimp only at hSw); go_simp; try (with_reducible rfl))
    (try simp only [List.getElem_toArray, List.getElem_cons_succ, List.getElem_cons_zero, Act.put, List.setIfInBounds_toArray, List.set_cons_zero, List.set_cons_succ])
    refine wpAnyH_take (i := 5) (v := ?_) rfl (by kernel_rfl) (by kernel_rfl) (by kernel_rfl) (fun _ _ _ h => h) (Or.inl ⟨by rfl, ?_⟩) (by trivial) ?_
    rotate_left
    · (intro w hSw; (try dsimp only at hSw); go_simp; try (with_reducible rfl))
    (try simp only [List.getElem_toArray, List.getElem_cons_succ, List.getElem_cons_zero, Act.put, List.setIfInBounds_toArray, List.set_cons_zero, List.set_cons_succ])
    refine wpAnyH_take (i := 6) (v := ?_) rfl (by kernel_rfl) (by kernel_rfl) (by kernel_rfl) (fun _ _ _ h => h) (Or.inl ⟨by rfl, ?_⟩) (by trivial) ?_
    rotate_left
    · (intro w hSw; (try dsimp only at hSw); go_simp; try (with_reducible rfl))
    (try simp only [List.getElem_toArray, List.getElem_cons_succ, List.getElem_cons_zero, Act.put, List.setIfInBounds_toArray, List.set_cons_zero, List.set_cons_succ])
    refine wpAnyH_take (i := 7) (v := ?_) rfl (by kernel_rfl) (by kernel_rfl) (by kernel_rfl) (fun _ _ _ h => h) (Or.inl ⟨by rfl, ?_⟩) (by trivial) ?_
    rotate_left
    · (intro w hSw; (try dsimp only at hSw); go_simp; try (with_reducible rfl))
    (try simp only [List.getElem_toArray, List.getElem_cons_succ, List.getElem_cons_zero, Act.put, List.setIfInBounds_toArray, List.set_cons_zero, List.set_cons_succ])
    refine wpAnyH_take (i := 10) (v := ?_) rfl (by kernel_rfl) (by kernel_rfl) (by kernel_rfl) (fun _ _ _ h => h) (Or.inl ⟨by rfl, ?_⟩) (by trivial) ?_
    rotate_left
    · (intro w hSw; (try dsimp only at hSw); go_simp; try (with_reducible rfl))
    (try simp only [List.getElem_toArray, List.getElem_cons_succ, List.getElem_cons_zero, Act.put, List.setIfInBounds_toArray, List.set_cons_zero, List.set_cons_succ])
    refine wpAnyH_ready (rs := [8, 11]) (by kernel_rfl) (by simp) ?_
    refine AllReadyH.cons rfl (fun K hK => ?_) (AllReadyH.cons rfl (fun K hK => ?_) AllReadyH.nil)
    · skip
      go_simp
      have D3 := Aside0.mk (below_alloc D2.out (.cells #[.slice A kn ca, .slice A2 n2 c2] 28))
      have R4 : Aside0 (((v1).alloc (.cells #[.slice A kn ca, .slice A2 n2 c2] 28)).heap[v1.heap.size]? = some (.cells #[.slice A kn ca, .slice A2 n2 c2] 28 (0, 0))) := ⟨by have := blk_new (v1) (.cells #[.slice A kn ca, .slice A2 n2 c2] 28); exact this⟩
      refine hK.out _ _ ?_ (fun hHeld => ?_)
      · trivial
      clear hK K
      (try simp only [List.getElem_toArray, List.getElem_cons_succ, List.getElem_cons_zero, Act.put, List.setIfInBounds_toArray, List.set_cons_zero, List.set_cons_succ])
      refine wpAnyH_ready (rs := [9, 11]) (by kernel_rfl) (by simp) ?_
      refine AllReadyH.cons rfl (fun K hK => ?_) (AllReadyH.cons rfl (fun K hK => ?_) AllReadyH.nil)
      · skip
        go_simp
        go_at_call 8
        (with_reducible refine (K2.out _ _ R4.out D3.out).mono ?_)
        rintro x v5 ⟨rfl, hb1⟩
        have D6 := Aside0.mk (below_step D3.out hb1)
        clear hb1
        refine hK.out _ _ ?_ (fun hHeld => ?_)
        · trivial
        clear hK K
        (try simp only [List.getElem_toArray, List.getElem_cons_succ, List.getElem_cons_zero, Act.put, List.setIfInBounds_toArray, List.set_cons_zero, List.set_cons_succ])
        refine wpAnyH_ready (rs := [11]) (by kernel_rfl) (by simp) ?_
        refine AllReadyH.cons rfl (fun K hK => ?_) AllReadyH.nil
        go_simp
        have D7 := Aside0.mk (below_alloc D6.out (.cells #[.slice A b.length ca] 28))
        have R8 : Aside0 (((v5).alloc (.cells #[.slice A b.length ca] 28)).heap[v5.heap.size]? = some (.cells #[.slice A b.length ca] 28 (0, 0))) := ⟨by have := blk_new (v5) (.cells #[.slice A b.length ca] 28); exact this⟩
        refine hK.out _ _ ?_ (fun hHeld => ?_)
        · trivial
        clear hK K
        (try simp only [List.getElem_toArray, List.getElem_cons_succ, List.getElem_cons_zero, Act.put, List.setIfInBounds_toArray, List.set_cons_zero, List.set_cons_succ])
        refine wpAnyH_ready (rs := [12]) (by kernel_rfl) (by simp) ?_
        refine AllReadyH.cons rfl (fun K hK => ?_) AllReadyH.nil
        go_simp
        go_at_call 8
        (with_reducible refine (K1.out _ _ R8.out D7.out).mono ?_)
        rintro x v9 ⟨rfl, hb1⟩
        have D10 := Aside0.mk (below_step D7.out hb1)
        clear hb1
        refine hK.out _ _ ?_ (fun hHeld => ?_)
        · trivial
        clear hK K
        (try simp only [List.getElem_toArray, List.getElem_cons_succ, List.getElem_cons_zero, Act.put, List.setIfInBounds_toArray, List.set_cons_zero, List.set_cons_succ])
        refine wpAnyH_take (i := 13) (v := ?_) rfl (by kernel_rfl) (by kernel_rfl) (by kernel_rfl) (fun _ _ _ h => h) (Or.inl ⟨by rfl, ?_⟩) (by trivial) ?_
        rotate_left
        · (intro w hSw; (try dsimp only at hSw); go_simp; try (with_reducible rfl))
        (try simp only [List.getElem_toArray, List.getElem_cons_succ, List.getElem_cons_zero, Act.put, List.setIfInBounds_toArray, List.set_cons_zero, List.set_cons_succ])
        refine wpAnyH_take (i := 14) (v := ?_) rfl (by kernel_rfl) (by kernel_rfl) (by kernel_rfl) (fun _ _ _ h => h) (Or.inl ⟨by rfl, ?_⟩) (by trivial) ?_
        rotate_left
        · (intro w hSw; (try dsimp only at hSw); go_simp; try (with_reducible rfl))
        (try simp only [List.getElem_toArray, List.getElem_cons_succ, List.getElem_cons_zero, Act.put, List.setIfInBounds_toArray, List.set_cons_zero, List.set_cons_succ])
        refine wpAnyH_take (i := 15) (v := ?_) rfl (by kernel_rfl) (by kernel_rfl) (by kernel_rfl) (fun _ _ _ h => h) (Or.inl ⟨by rfl, ?_⟩) (by trivial) ?_
        rotate_left
        · (intro w hSw; (try dsimp only at hSw); go_simp; try (with_reducible rfl))
        (try simp only [List.getElem_toArray, List.getElem_cons_succ, List.getElem_cons_zero, Act.put, List.setIfInBounds_toArray, List.set_cons_zero, List.set_cons_succ])
        refine wpAnyH_take (i := 16) (v := ?_) rfl (by kernel_rfl) (by kernel_rfl) (by kernel_rfl) (fun _ _ _ h => h) (Or.inl ⟨by rfl, ?_⟩) (by trivial) ?_
        rotate_left
        · (intro w hSw; (try dsimp only at hSw); go_simp; try (with_reducible rfl))
        (try simp only [List.getElem_toArray, List.getElem_cons_succ, List.getElem_cons_zero, Act.put, List.setIfInBounds_toArray, List.set_cons_zero, List.set_cons_succ])
        refine wpAnyH_take (i := 17) (v := ?_) rfl (by kernel_rfl) (by kernel_rfl) (by kernel_rfl) (fun _ _ _ h => h) (Or.inl ⟨by rfl, ?_⟩) (by trivial) ?_
        rotate_left
        · (intro w hSw; (try dsimp only at hSw); go_simp; try (with_reducible rfl))
        (try simp only [List.getElem_toArray, List.getElem_cons_succ, List.getElem_cons_zero, Act.put, List.setIfInBounds_toArray, List.set_cons_zero, List.set_cons_succ])
        refine wpAnyH_take (i := 18) (v := ?_) rfl (by kernel_rfl) (by kernel_rfl) (by kernel_rfl) (fun _ _ _ h => h) (Or.inl ⟨by rfl, ?_⟩) (by trivial) ?_
        rotate_left
        · (intro w hSw; (try dsimp only at hSw); go_simp; try (with_reducible rfl))
        (try simp only [List.getElem_toArray, List.getElem_cons_succ, List.getElem_cons_zero, Act.put, List.setIfInBounds_toArray, List.set_cons_zero, List.set_cons_succ])
        refine wpAnyH_take (i := 19) (v := ?_) rfl (by kernel_rfl) (by kernel_rfl) (by kernel_rfl) (fun _ _ _ h => h) (Or.inl ⟨by rfl, ?_⟩) (by trivial) ?_
        rotate_left
        · (intro w hSw; (try dsimp only at hSw); go_simp; try (with_reducible rfl))
        (try simp only [List.getElem_toArray, List.getElem_cons_succ, List.getElem_cons_zero, Act.put, List.setIfInBounds_toArray, List.set_cons_zero, List.set_cons_succ])
        refine wpAnyH_take (i := 20) (v := ?_) rfl (by kernel_rfl) (by kernel_rfl) (by kernel_rfl) (fun _ _ _ h => h) (Or.inl ⟨by rfl, ?_⟩) (by trivial) ?_
        rotate_left
        · (intro w hSw; (try dsimp only at hSw); go_simp; try (with_reducible rfl))
        (try simp only [List.getElem_toArray, List.getElem_cons_succ, List.getElem_cons_zero, Act.put, List.setIfInBounds_toArray, List.set_cons_zero, List.set_cons_succ])
        refine wpAnyH_take (i := 21) (v := ?_) rfl (by kernel_rfl) (by kernel_rfl) (by kernel_rfl) (fun _ _ _ h => h) (Or.inl ⟨by rfl, ?_⟩) (by trivial) ?_
        rotate_left
        · (intro w hSw; (try dsimp only at hSw); go_simp; try (with_reducible rfl))
        (try simp only [List.getElem_toArray, List.getElem_cons_succ, List.getElem_cons_zero, Act.put, List.setIfInBounds_toArray, List.set_cons_zero, List.set_cons_succ])
        refine wpAnyH_take (i := 25) (v := ?_) rfl (by kernel_rfl) (by kernel_rfl) (by kernel_rfl) (fun _ _ _ h => h) (Or.inl ⟨by rfl, ?_⟩) (by trivial) ?_
        rotate_left
        · (intro w hSw; (try dsimp only at hSw); go_simp; try (with_reducible rfl))
        (try simp only [List.getElem_toArray, List.getElem_cons_succ, List.getElem_cons_zero, Act.put, List.setIfInBounds_toArray, List.set_cons_zero, List.set_cons_succ])
        refine wpAnyH_ready (rs := [22, 26]) (by kernel_rfl) (by simp) ?_
        refine AllReadyH.cons rfl (fun K hK => ?_) (AllReadyH.cons rfl (fun K hK => ?_) AllReadyH.nil)
        · skip
          go_simp
          have D11 := Aside0.mk (below_alloc D10.out (.cells #[] 5))
          refine hK.out _ _ ?_ (fun hHeld => ?_)
          · trivial
          clear hK K
          (try simp only [List.getElem_toArray, List.getElem_cons_succ, List.getElem_cons_zero, Act.put, List.setIfInBounds_toArray, List.set_cons_zero, List.set_cons_succ])
          refine wpAnyH_ready (rs := [23, 26]) (by kernel_rfl) (by simp) ?_
          refine AllReadyH.cons rfl (fun K hK => ?_) (AllReadyH.cons rfl (fun K hK => ?_) AllReadyH.nil)
          · skip
            go_simp
            have D12 := Aside0.mk (below_alloc D11.out (.cells #[.slice A kn ca, .slice none 0 0, .slice A2 n2 c2, .slice (some ⟨v9.heap.size, 0, none⟩) 0 0] 28))
            have R13 : Aside0 ((((v9).alloc (.cells #[] 5)).alloc (.cells #[.slice A kn ca, .slice none 0 0, .slice A2 n2 c2, .slice (some ⟨v9.heap.size, 0, none⟩) 0 0] 28)).heap[v9.heap.size + 1]? = some (.cells #[.slice A kn ca, .slice none 0 0, .slice A2 n2 c2, .slice (some ⟨v9.heap.size, 0, none⟩) 0 0] 28 (0, 0))) := ⟨by have := blk_new ((v9).alloc (.cells #[] 5)) (.cells #[.slice A kn ca, .slice none 0 0, .slice A2 n2 c2, .slice (some ⟨v9.heap.size, 0, none⟩) 0 0] 28); rw [alloc_size] at this; exact this⟩
            refine hK.out _ _ ?_ (fun hHeld => ?_)
            · trivial
            clear hK K
            (try simp only [List.getElem_toArray, List.getElem_cons_succ, List.getElem_cons_zero, Act.put, List.setIfInBounds_toArray, List.set_cons_zero, List.set_cons_succ])
            refine wpAnyH_ready (rs := [24, 26]) (by kernel_rfl) (by simp) ?_
            refine AllReadyH.cons rfl (fun K hK => ?_) (AllReadyH.cons rfl (fun K hK => ?_) AllReadyH.nil)
            · skip
              go_simp
              go_at_call 8
              (with_reducible refine (K4.out _ _ _ R13.out D12.out).mono ?_)
              rintro x v14 ⟨rfl, hb1⟩
              have D15 := Aside0.mk (below_step D12.out hb1)
              clear hb1
              refine hK.out _ _ ?_ (fun hHeld => ?_)
              · trivial
              clear hK K
              (try simp only [List.getElem_toArray, List.getElem_cons_succ, List.getElem_cons_zero, Act.put, List.setIfInBounds_toArray, List.set_cons_zero, List.set_cons_succ])
              refine wpAnyH_ready (rs := [26]) (by kernel_rfl) (by simp) ?_
              refine AllReadyH.cons rfl (fun K hK => ?_) AllReadyH.nil
              go_simp
              have D16 := Aside0.mk (below_alloc D15.out (.cells #[.slice A b.length ca] 28))
              have R17 : Aside0 (((v14).alloc (.cells #[.slice A b.length ca] 28)).heap[v14.heap.size]? = some (.cells #[.slice A b.length ca] 28 (0, 0))) := ⟨by have := blk_new (v14) (.cells #[.slice A b.length ca] 28); exact this⟩
              refine hK.out _ _ ?_ (fun hHeld => ?_)
              · trivial
              clear hK K
              (try simp only [List.getElem_toArray, List.getElem_cons_succ, List.getElem_cons_zero, Act.put, List.setIfInBounds_toArray, List.set_cons_zero, List.set_cons_succ])
              refine wpAnyH_ready (rs := [27]) (by kernel_rfl) (by simp) ?_
              refine AllReadyH.cons rfl (fun K hK => ?_) AllReadyH.nil
              go_simp
              go_at_call 8
              (with_reducible refine (K1.out _ _ R17.out D16.out).mono ?_)
              rintro x v18 ⟨rfl, hb1⟩
              have D19 := Aside0.mk (below_step D16.out hb1)
              clear hb1
              refine hK.out _ _ ?_ (fun hHeld => ?_)
              · trivial
              clear hK K
              (try simp only [List.getElem_toArray, List.getElem_cons_succ, List.getElem_cons_zero, Act.put, List.setIfInBounds_toArray, List.set_cons_zero, List.set_cons_succ])
              refine wpAnyH_take (i := 28) (v := ?_) rfl (by kernel_rfl) (by kernel_rfl) (by kernel_rfl) (fun _ _ _ h => h) (Or.inl ⟨by rfl, ?_⟩) (by trivial) ?_
              rotate_left
              · (intro w hSw; (try dsimp only at hSw); go_simp; try (with_reducible rfl))
              (try simp only [List.getElem_toArray, List.getElem_cons_succ, List.getElem_cons_zero, Act.put, List.setIfInBounds_toArray, List.set_cons_zero, List.set_cons_succ])
              refine wpAnyH_take (i := 29) (v := ?_) rfl (by kernel_rfl) (by kernel_rfl) (by kernel_rfl) (fun _ _ _ h => h) (Or.inl ⟨by rfl, ?_⟩) (by trivial) ?_
              rotate_left
              · (intro w hSw; (try dsimp only at hSw); go_simp; try (with_reducible rfl))
              (try simp only [List.getElem_toArray, List.getElem_cons_succ, List.getElem_cons_zero, Act.put, List.setIfInBounds_toArray, List.set_cons_zero, List.set_cons_succ])
              refine wpAnyH_take (i := 30) (v := ?_) rfl (by kernel_rfl) (by kernel_rfl) (by kernel_rfl) (fun _ _ _ h => h) (Or.inl ⟨by rfl, ?_⟩) (by trivial) ?_
              rotate_left
              · (intro w hSw; (try dsimp only at hSw); go_simp; try (with_reducible rfl))
              (try simp only [List.getElem_toArray, List.getElem_cons_succ, List.getElem_cons_zero, Act.put, List.setIfInBounds_toArray, List.set_cons_zero, List.set_cons_succ])
              refine wpAnyH_done (by kernel_rfl) ?_ _
              refine NoPanic.normal ?_
              (try simp only [List.getElem_toArray, List.getElem_cons_succ, List.getElem_cons_zero, Act.put, List.setIfInBounds_toArray, List.set_cons_zero, List.set_cons_succ])
              go_wp2_with fail
              go_ret
              exact ⟨by rfl, D19.out⟩
            · skip
              go_simp
              have D20 := Aside0.mk (below_alloc D12.out (.cells #[.slice A b.length ca] 28))
              have R21 := Aside0.mk (blk_alloc R13.out (.cells #[.slice A b.length ca] 28))
              have R22 : Aside0 (((((v9).alloc (.cells #[] 5)).alloc (.cells #[.slice A kn ca, .slice none 0 0, .slice A2 n2 c2, .slice (some ⟨v9.heap.size, 0, none⟩) 0 0] 28)).alloc (.cells #[.slice A b.length ca] 28)).heap[v9.heap.size + 1 + 1]? = some (.cells #[.slice A b.length ca] 28 (0, 0))) := ⟨by have := blk_new (((v9).alloc (.cells #[] 5)).alloc (.cells #[.slice A kn ca, .slice none 0 0, .slice A2 n2 c2, .slice (some ⟨v9.heap.size, 0, none⟩) 0 0] 28)) (.cells #[.slice A b.length ca] 28); rw [alloc_size, alloc_size] at this; exact this⟩
              refine hK.out _ _ ?_ (fun hHeld => ?_)
              · trivial
              clear hK K
              (try simp only [List.getElem_toArray, List.getElem_cons_succ, List.getElem_cons_zero, Act.put, List.setIfInBounds_toArray, List.set_cons_zero, List.set_cons_succ])
              refine wpAnyH_ready (rs := [24]) (by kernel_rfl) (by simp) ?_
              refine AllReadyH.cons rfl (fun K hK => ?_) AllReadyH.nil
              go_simp
              go_at_call 8
              (with_reducible refine (K4.out _ _ _ R21.out D20.out).mono ?_)
              rintro x v23 ⟨rfl, hb1⟩
              have D24 := Aside0.mk (below_step D20.out hb1)
              have R25 := Aside0.mk ((hb1.block _ (Array.getElem?_eq_some_iff.1 R22.out).1).trans R22.out)
              clear hb1
              refine hK.out _ _ ?_ (fun hHeld => ?_)
              · trivial
              clear hK K
              (try simp only [List.getElem_toArray, List.getElem_cons_succ, List.getElem_cons_zero, Act.put, List.setIfInBounds_toArray, List.set_cons_zero, List.set_cons_succ])
              refine wpAnyH_ready (rs := [27]) (by kernel_rfl) (by simp) ?_
              refine AllReadyH.cons rfl (fun K hK => ?_) AllReadyH.nil
              go_simp
              go_at_call 8
              (with_reducible refine (K1.out _ _ R25.out D24.out).mono ?_)
              rintro x v26 ⟨rfl, hb1⟩
              have D27 := Aside0.mk (below_step D24.out hb1)
              clear hb1
              refine hK.out _ _ ?_ (fun hHeld => ?_)
              · trivial
              clear hK K
              (try simp only [List.getElem_toArray, List.getElem_cons_succ, List.getElem_cons_zero, Act.put, List.setIfInBounds_toArray, List.set_cons_zero, List.set_cons_succ])
              refine wpAnyH_take (i := 28) (v := ?_) rfl (by kernel_rfl) (by kernel_rfl) (by kernel_rfl) (fun _ _ _ h => h) (Or.inl ⟨by rfl, ?_⟩) (by trivial) ?_
              rotate_left
              · (intro w hSw; (try dsimp only at hSw); go_simp; try (with_reducible rfl))
              (try simp only [List.getElem_toArray, List.getElem_cons_succ, List.getElem_cons_zero, Act.put, List.setIfInBounds_toArray, List.set_cons_zero, List.set_cons_succ])
              refine wpAnyH_take (i := 29) (v := ?_) rfl (by kernel_rfl) (by kernel_rfl) (by kernel_rfl) (fun _ _ _ h => h) (Or.inl ⟨by rfl, ?_⟩) (by trivial) ?_
              rotate_left
              · (intro w hSw; (try dsimp only at hSw); go_simp; try (with_reducible rfl))
              (try simp only [List.getElem_toArray, List.getElem_cons_succ, List.getElem_cons_zero, Act.put, List.setIfInBounds_toArray, List.set_cons_zero, List.set_cons_succ])
              refine wpAnyH_take (i := 30) (v := ?_) rfl (by kernel_rfl) (by kernel_rfl) (by kernel_rfl) (fun _ _ _ h => h) (Or.inl ⟨by rfl, ?_⟩) (by trivial) ?_
              rotate_left
              · (intro w hSw; (try dsimp only at hSw); go_simp; try (with_reducible rfl))
              (try simp only [List.getElem_toArray, List.getElem_cons_succ, List.getElem_cons_zero, Act.put, List.setIfInBounds_toArray, List.set_cons_zero, List.set_cons_succ])
              refine wpAnyH_done (by kernel_rfl) ?_ _
              refine NoPanic.normal ?_
              (try simp only [List.getElem_toArray, List.getElem_cons_succ, List.getElem_cons_zero, Act.put, List.setIfInBounds_toArray, List.set_cons_zero, List.set_cons_succ])
              go_wp2_with fail
              go_ret
              exact ⟨by rfl, D27.out⟩
          · skip
            go_simp
            have D28 := Aside0.mk (below_alloc D11.out (.cells #[.slice A b.length ca] 28))
            have R29 : Aside0 ((((v9).alloc (.cells #[] 5)).alloc (.cells #[.slice A b.length ca] 28)).heap[v9.heap.size + 1]? = some (.cells #[.slice A b.length ca] 28 (0, 0))) := ⟨by have := blk_new ((v9).alloc (.cells #[] 5)) (.cells #[.slice A b.length ca] 28); rw [alloc_size] at this; exact this⟩
            refine hK.out _ _ ?_ (fun hHeld => ?_)
            · trivial
            clear hK K
            (try simp only [List.getElem_toArray, List.getElem_cons_succ, List.getElem_cons_zero, Act.put, List.setIfInBounds_toArray, List.set_cons_zero, List.set_cons_succ])
            refine wpAnyH_ready (rs := [23]) (by kernel_rfl) (by simp) ?_
            refine AllReadyH.cons rfl (fun K hK => ?_) AllReadyH.nil
            go_simp
            have D30 := Aside0.mk (below_alloc D28.out (.cells #[.slice A kn ca, .slice none 0 0, .slice A2 n2 c2, .slice (some ⟨v9.heap.size, 0, none⟩) 0 0] 28))
            have R31 := Aside0.mk (blk_alloc R29.out (.cells #[.slice A kn ca, .slice none 0 0, .slice A2 n2 c2, .slice (some ⟨v9.heap.size, 0, none⟩) 0 0] 28))
            have R32 : Aside0 (((((v9).alloc (.cells #[] 5)).alloc (.cells #[.slice A b.length ca] 28)).alloc (.cells #[.slice A kn ca, .slice none 0 0, .slice A2 n2 c2, .slice (some ⟨v9.heap.size, 0, none⟩) 0 0] 28)).heap[v9.heap.size + 1 + 1]? = some (.cells #[.slice A kn ca, .slice none 0 0, .slice A2 n2 c2, .slice (some ⟨v9.heap.size, 0, none⟩) 0 0] 28 (0, 0))) := ⟨by have := blk_new (((v9).alloc (.cells #[] 5)).alloc (.cells #[.slice A b.length ca] 28)) (.cells #[.slice A kn ca, .slice none 0 0, .slice A2 n2 c2, .slice (some ⟨v9.heap.size, 0, none⟩) 0 0] 28); rw [alloc_size, alloc_size] at this; exact this⟩
            refine hK.out _ _ ?_ (fun hHeld => ?_)
            · trivial
            clear hK K
            (try simp only [List.getElem_toArray, List.getElem_cons_succ, List.getElem_cons_zero, Act.put, List.setIfInBounds_toArray, List.set_cons_zero, List.set_cons_succ])
            refine wpAnyH_ready (rs := [24]) (by kernel_rfl) (by simp) ?_
            refine AllReadyH.cons rfl (fun K hK => ?_) AllReadyH.nil
            go_simp
            go_at_call 8
            (with_reducible refine (K4.out _ _ _ R32.out D30.out).mono ?_)
            rintro x v33 ⟨rfl, hb1⟩
            have D34 := Aside0.mk (below_step D30.out hb1)
            have R35 := Aside0.mk ((hb1.block _ (Array.getElem?_eq_some_iff.1 R31.out).1).trans R31.out)
            clear hb1
            refine hK.out _ _ ?_ (fun hHeld => ?_)
            · trivial
            clear hK K
            (try simp only [List.getElem_toArray, List.getElem_cons_succ, List.getElem_cons_zero, Act.put, List.setIfInBounds_toArray, List.set_cons_zero, List.set_cons_succ])
            refine wpAnyH_ready (rs := [27]) (by kernel_rfl) (by simp) ?_
            refine AllReadyH.cons rfl (fun K hK => ?_) AllReadyH.nil
            go_simp
            go_at_call 8
            (with_reducible refine (K1.out _ _ R35.out D34.out).mono ?_)
            rintro x v36 ⟨rfl, hb1⟩
            have D37 := Aside0.mk (below_step D34.out hb1)
            clear hb1
            refine hK.out _ _ ?_ (fun hHeld => ?_)
            · trivial
            clear hK K
            (try simp only [List.getElem_toArray, List.getElem_cons_succ, List.getElem_cons_zero, Act.put, List.setIfInBounds_toArray, List.set_cons_zero, List.set_cons_succ])
            refine wpAnyH_take (i := 28) (v := ?_) rfl (by kernel_rfl) (by kernel_rfl) (by kernel_rfl) (fun _ _ _ h => h) (Or.inl ⟨by rfl, ?_⟩) (by trivial) ?_
            rotate_left
            · (intro w hSw; (try dsimp only at hSw); go_simp; try (with_reducible rfl))
            (try simp only [List.getElem_toArray, List.getElem_cons_succ, List.getElem_cons_zero, Act.put, List.setIfInBounds_toArray, List.set_cons_zero, List.set_cons_succ])
            refine wpAnyH_take (i := 29) (v := ?_) rfl (by kernel_rfl) (by kernel_rfl) (by kernel_rfl) (fun _ _ _ h => h) (Or.inl ⟨by rfl, ?_⟩) (by trivial) ?_
            rotate_left
            · (intro w hSw; (try dsimp only at hSw); go_simp; try (with_reducible rfl))
            (try simp only [List.getElem_toArray, List.getElem_cons_succ, List.getElem_cons_zero, Act.put, List.setIfInBounds_toArray, List.set_cons_zero, List.set_cons_succ])
            refine wpAnyH_take (i := 30) (v := ?_) rfl (by kernel_rfl) (by kernel_rfl) (by kernel_rfl) (fun _ _ _ h => h) (Or.inl ⟨by rfl, ?_⟩) (by trivial) ?_
            rotate_left
            · (intro w hSw; (try dsimp only at hSw); go_simp; try (with_reducible rfl))
            (try simp only [List.getElem_toArray, List.getElem_cons_succ, List.getElem_cons_zero, Act.put, List.setIfInBounds_toArray, List.set_cons_zero, List.set_cons_succ])
            refine wpAnyH_done (by kernel_rfl) ?_ _
            refine NoPanic.normal ?_
            (try simp only [List.getElem_toArray, List.getElem_cons_succ, List.getElem_cons_zero, Act.put, List.setIfInBounds_toArray, List.set_cons_zero, List.set_cons_succ])
            go_wp2_with fail
            go_ret
            exact ⟨by rfl, D37.out⟩
        · skip
          go_simp
          have D38 := Aside0.mk (below_alloc D10.out (.cells #[.slice A b.length ca] 28))
          have R39 : Aside0 (((v9).alloc (.cells #[.slice A b.length ca] 28)).heap[v9.heap.size]? = some (.cells #[.slice A b.length ca] 28 (0, 0))) := ⟨by have := blk_new (v9) (.cells #[.slice A b.length ca] 28); exact this⟩
          refine hK.out _ _ ?_ (fun hHeld => ?_)
          · trivial
          clear hK K
          (try simp only [List.getElem_toArray, List.getElem_cons_succ, List.getElem_cons_zero, Act.put, List.setIfInBounds_toArray, List.set_cons_zero, List.set_cons_succ])
          refine wpAnyH_ready (rs := [22]) (by kernel_rfl) (by simp) ?_
          refine AllReadyH.cons rfl (fun K hK => ?_) AllReadyH.nil
          go_simp
          have D40 := Aside0.mk (below_alloc D38.out (.cells #[] 5))
          have R41 := Aside0.mk (blk_alloc R39.out (.cells #[] 5))
          refine hK.out _ _ ?_ (fun hHeld => ?_)
          · trivial
          clear hK K
          (try simp only [List.getElem_toArray, List.getElem_cons_succ, List.getElem_cons_zero, Act.put, List.setIfInBounds_toArray, List.set_cons_zero, List.set_cons_succ])
          refine wpAnyH_ready (rs := [23]) (by kernel_rfl) (by simp) ?_
          refine AllReadyH.cons rfl (fun K hK => ?_) AllReadyH.nil
          go_simp
          have D42 := Aside0.mk (below_alloc D40.out (.cells #[.slice A kn ca, .slice none 0 0, .slice A2 n2 c2, .slice (some ⟨v9.heap.size + 1, 0, none⟩) 0 0] 28))
          have R43 := Aside0.mk (blk_alloc R41.out (.cells #[.slice A kn ca, .slice none 0 0, .slice A2 n2 c2, .slice (some ⟨v9.heap.size + 1, 0, none⟩) 0 0] 28))
          have R44 : Aside0 (((((v9).alloc (.cells #[.slice A b.length ca] 28)).alloc (.cells #[] 5)).alloc (.cells #[.slice A kn ca, .slice none 0 0, .slice A2 n2 c2, .slice (some ⟨v9.heap.size + 1, 0, none⟩) 0 0] 28)).heap[v9.heap.size + 1 + 1]? = some (.cells #[.slice A kn ca, .slice none 0 0, .slice A2 n2 c2, .slice (some ⟨v9.heap.size + 1, 0, none⟩) 0 0] 28 (0, 0))) := ⟨by have := blk_new (((v9).alloc (.cells #[.slice A b.length ca] 28)).alloc (.cells #[] 5)) (.cells #[.slice A kn ca, .slice none 0 0, .slice A2 n2 c2, .slice (some ⟨v9.heap.size + 1, 0, none⟩) 0 0] 28); rw [alloc_size, alloc_size] at this; exact this⟩
          refine hK.out _ _ ?_ (fun hHeld => ?_)
          · trivial
          clear hK K
          (try simp only [List.getElem_toArray, List.getElem_cons_succ, List.getElem_cons_zero, Act.put, List.setIfInBounds_toArray, List.set_cons_zero, List.set_cons_succ])
          refine wpAnyH_ready (rs := [24]) (by kernel_rfl) (by simp) ?_
          refine AllReadyH.cons rfl (fun K hK => ?_) AllReadyH.nil
          go_simp
          go_at_call 8
          (with_reducible refine (K4.out _ _ _ R44.out D42.out).mono ?_)
          rintro x v45 ⟨rfl, hb1⟩
          have D46 := Aside0.mk (below_step D42.out hb1)
          have R47 := Aside0.mk ((hb1.block _ (Array.getElem?_eq_some_iff.1 R43.out).1).trans R43.out)
          clear hb1
          refine hK.out _ _ ?_ (fun hHeld => ?_)
          · trivial
          clear hK K
          (try simp only [List.getElem_toArray, List.getElem_cons_succ, List.getElem_cons_zero, Act.put, List.setIfInBounds_toArray, List.set_cons_zero, List.set_cons_succ])
          refine wpAnyH_ready (rs := [27]) (by kernel_rfl) (by simp) ?_
          refine AllReadyH.cons rfl (fun K hK => ?_) AllReadyH.nil
          go_simp
          go_at_call 8
          (with_reducible refine (K1.out _ _ R47.out D46.out).mono ?_)
          rintro x v48 ⟨rfl, hb1⟩
          have D49 := Aside0.mk (below_step D46.out hb1)
          clear hb1
          refine hK.out _ _ ?_ (fun hHeld => ?_)
          · trivial
          clear hK K
          (try simp only [List.getElem_toArray, List.getElem_cons_succ, List.getElem_cons_zero, Act.put, List.setIfInBounds_toArray, List.set_cons_zero, List.set_cons_succ])
          refine wpAnyH_take (i := 28) (v := ?_) rfl (by kernel_rfl) (by kernel_rfl) (by kernel_rfl) (fun _ _ _ h => h) (Or.inl ⟨by rfl, ?_⟩) (by trivial) ?_
          rotate_left
          · (intro w hSw; (try dsimp only at hSw); go_simp; try (with_reducible rfl))
          (try simp only [List.getElem_toArray, List.getElem_cons_succ, List.getElem_cons_zero, Act.put, List.setIfInBounds_toArray, List.set_cons_zero, List.set_cons_succ])
          refine wpAnyH_take (i := 29) (v := ?_) rfl (by kernel_rfl) (by kernel_rfl) (by kernel_rfl) (fun _ _ _ h => h) (Or.inl ⟨by rfl, ?_⟩) (by trivial) ?_
          rotate_left
          · (intro w hSw; (try dsimp only at hSw); go_simp; try (with_reducible rfl))
          (try simp only [List.getElem_toArray, List.getElem_cons_succ, List.getElem_cons_zero, Act.put, List.setIfInBounds_toArray, List.set_cons_zero, List.set_cons_succ])
          refine wpAnyH_take (i := 30) (v := ?_) rfl (by kernel_rfl) (by kernel_rfl) (by kernel_rfl) (fun _ _ _ h => h) (Or.inl ⟨by rfl, ?_⟩) (by trivial) ?_
          rotate_left
          · (intro w hSw; (try dsimp only at hSw); go_simp; try (with_reducible rfl))
          (try simp only [List.getElem_toArray, List.getElem_cons_succ, List.getElem_cons_zero, Act.put, List.setIfInBounds_toArray, List.set_cons_zero, List.set_cons_succ])
          refine wpAnyH_done (by kernel_rfl) ?_ _
          refine NoPanic.normal ?_
          (try simp only [List.getElem_toArray, List.getElem_cons_succ, List.getElem_cons_zero, Act.put, List.setIfInBounds_toArray, List.set_cons_zero, List.set_cons_succ])
          go_wp2_with fail
          go_ret
          exact ⟨by rfl, D49.out⟩
      · skip
        go_simp
        have D50 := Aside0.mk (below_alloc D3.out (.cells #[.slice A b.length ca] 28))
        have R51 := Aside0.mk (blk_alloc R4.out (.cells #[.slice A b.length ca] 28))
        have R52 : Aside0 ((((v1).alloc (.cells #[.slice A kn ca, .slice A2 n2 c2] 28)).alloc (.cells #[.slice A b.length ca] 28)).heap[v1.heap.size + 1]? = some (.cells #[.slice A b.length ca] 28 (0, 0))) := ⟨by have := blk_new ((v1).alloc (.cells #[.slice A kn ca, .slice A2 n2 c2] 28)) (.cells #[.slice A b.length ca] 28); rw [alloc_size] at this; exact this⟩
        refine hK.out _ _ ?_ (fun hHeld => ?_)
        · trivial
        clear hK K
        (try simp only [List.getElem_toArray, List.getElem_cons_succ, List.getElem_cons_zero, Act.put, List.setIfInBounds_toArray, List.set_cons_zero, List.set_cons_succ])
        refine wpAnyH_ready (rs := [9]) (by kernel_rfl) (by simp) ?_
        refine AllReadyH.cons rfl (fun K hK => ?_) AllReadyH.nil
        go_simp
        go_at_call 8
        (with_reducible refine (K2.out _ _ R51.out D50.out).mono ?_)
        rintro x v53 ⟨rfl, hb1⟩
        have D54 := Aside0.mk (below_step D50.out hb1)
        have R55 := Aside0.mk ((hb1.block _ (Array.getElem?_eq_some_iff.1 R52.out).1).trans R52.out)
        clear hb1
        refine hK.out _ _ ?_ (fun hHeld => ?_)
        · trivial
        clear hK K
        (try simp only [List.getElem_toArray, List.getElem_cons_succ, List.getElem_cons_zero, Act.put, List.setIfInBounds_toArray, List.set_cons_zero, List.set_cons_succ])
        refine wpAnyH_ready (rs := [12]) (by kernel_rfl) (by simp) ?_
        refine AllReadyH.cons rfl (fun K hK => ?_) AllReadyH.nil
        go_simp
        go_at_call 8
        (with_reducible refine (K1.out _ _ R55.out D54.out).mono ?_)
        rintro x v56 ⟨rfl, hb1⟩
        have D57 := Aside0.mk (below_step D54.out hb1)
        clear hb1
        refine hK.out _ _ ?_ (fun hHeld => ?_)
        · trivial
        clear hK K
        (try simp only [List.getElem_toArray, List.getElem_cons_succ, List.getElem_cons_zero, Act.put, List.setIfInBounds_toArray, List.set_cons_zero, List.set_cons_succ])
        refine wpAnyH_take (i := 13) (v := ?_) rfl (by kernel_rfl) (by kernel_rfl) (by kernel_rfl) (fun _ _ _ h => h) (Or.inl ⟨by rfl, ?_⟩) (by trivial) ?_
        rotate_left
        · (intro w hSw; (try dsimp only at hSw); go_simp; try (with_reducible rfl))
        (try simp only [List.getElem_toArray, List.getElem_cons_succ, List.getElem_cons_zero, Act.put, List.setIfInBounds_toArray, List.set_cons_zero, List.set_cons_succ])
        refine wpAnyH_take (i := 14) (v := ?_) rfl (by kernel_rfl) (by kernel_rfl) (by kernel_rfl) (fun _ _ _ h => h) (Or.inl ⟨by rfl, ?_⟩) (by trivial) ?_
        rotate_left
        · (intro w hSw; (try dsimp only at hSw); go_simp; try (with_reducible rfl))
        (try simp only [List.getElem_toArray, List.getElem_cons_succ, List.getElem_cons_zero, Act.put, List.setIfInBounds_toArray, List.set_cons_zero, List.set_cons_succ])
        refine wpAnyH_take (i := 15) (v := ?_) rfl (by kernel_rfl) (by kernel_rfl) (by kernel_rfl) (fun _ _ _ h => h) (Or.inl ⟨by rfl, ?_⟩) (by trivial) ?_
        rotate_left
        · (intro w hSw; (try dsimp only at hSw); go_simp; try (with_reducible rfl))
        (try simp only [List.getElem_toArray, List.getElem_cons_succ, List.getElem_cons_zero, Act.put, List.setIfInBounds_toArray, List.set_cons_zero, List.set_cons_succ])
        refine wpAnyH_take (i := 16) (v := ?_) rfl (by kernel_rfl) (by kernel_rfl) (by kernel_rfl) (fun _ _ _ h => h) (Or.inl ⟨by rfl, ?_⟩) (by trivial) ?_
        rotate_left
        · (intro w hSw; (try dsimp only at hSw); go_simp; try (with_reducible rfl))
        (try simp only [List.getElem_toArray, List.getElem_cons_succ, List.getElem_cons_zero, Act.put, List.setIfInBounds_toArray, List.set_cons_zero, List.set_cons_succ])
        refine wpAnyH_take (i := 17) (v := ?_) rfl (by kernel_rfl) (by kernel_rfl) (by kernel_rfl) (fun _ _ _ h => h) (Or.inl ⟨by rfl, ?_⟩) (by trivial) ?_
        rotate_left
        · (intro w hSw; (try dsimp only at hSw); go_simp; try (with_reducible rfl))
        (try simp only [List.getElem_toArray, List.getElem_cons_succ, List.getElem_cons_zero, Act.put, List.setIfInBounds_toArray, List.set_cons_zero, List.set_cons_succ])
        refine wpAnyH_take (i := 18) (v := ?_) rfl (by kernel_rfl) (by kernel_rfl) (by kernel_rfl) (fun _ _ _ h => h) (Or.inl ⟨by rfl, ?_⟩) (by trivial) ?_
        rotate_left
        · (intro w hSw; (try dsimp only at hSw); go_simp; try (with_reducible rfl))
        (try simp only [List.getElem_toArray, List.getElem_cons_succ, List.getElem_cons_zero, Act.put, List.setIfInBounds_toArray, List.set_cons_zero, List.set_cons_succ])
        refine wpAnyH_take (i := 19) (v := ?_) rfl (by kernel_rfl) (by kernel_rfl) (by kernel_rfl) (fun _ _ _ h => h) (Or.inl ⟨by rfl, ?_⟩) (by trivial) ?_
        rotate_left
        · (intro w hSw; (try dsimp only at hSw); go_simp; try (with_reducible rfl))
        (try simp only [List.getElem_toArray, List.getElem_cons_succ, List.getElem_cons_zero, Act.put, List.setIfInBounds_toArray, List.set_cons_zero, List.set_cons_succ])
        refine wpAnyH_take (i := 20) (v := ?_) rfl (by kernel_rfl) (by kernel_rfl) (by kernel_rfl) (fun _ _ _ h => h) (Or.inl ⟨by rfl, ?_⟩) (by trivial) ?_
        rotate_left
        · (intro w hSw; (try dsimp only at hSw); go_simp; try (with_reducible rfl))
        (try simp only [List.getElem_toArray, List.getElem_cons_succ, List.getElem_cons_zero, Act.put, List.setIfInBounds_toArray, List.set_cons_zero, List.set_cons_succ])
        refine wpAnyH_take (i := 21) (v := ?_) rfl (by kernel_rfl) (by kernel_rfl) (by kernel_rfl) (fun _ _ _ h => h) (Or.inl ⟨by rfl, ?_⟩) (by trivial) ?_
        rotate_left
        · (intro w hSw; (try dsimp only at hSw); go_simp; try (with_reducible rfl))
        (try simp only [List.getElem_toArray, List.getElem_cons_succ, List.getElem_cons_zero, Act.put, List.setIfInBounds_toArray, List.set_cons_zero, List.set_cons_succ])
        refine wpAnyH_take (i := 25) (v := ?_) rfl (by kernel_rfl) (by kernel_rfl) (by kernel_rfl) (fun _ _ _ h => h) (Or.inl ⟨by rfl, ?_⟩) (by trivial) ?_
        rotate_left
        · (intro w hSw; (try dsimp only at hSw); go_simp; try (with_reducible rfl))
        (try simp only [List.getElem_toArray, List.getElem_cons_succ, List.getElem_cons_zero, Act.put, List.setIfInBounds_toArray, List.set_cons_zero, List.set_cons_succ])
        refine wpAnyH_ready (rs := [22, 26]) (by kernel_rfl) (by simp) ?_
        refine AllReadyH.cons rfl (fun K hK => ?_) (AllReadyH.cons rfl (fun K hK => ?_) AllReadyH.nil)
        · skip
          go_simp
          have D58 := Aside0.mk (below_alloc D57.out (.cells #[] 5))
          refine hK.out _ _ ?_ (fun hHeld => ?_)
          · trivial
          clear hK K
          (try simp only [List.getElem_toArray, List.getElem_cons_succ, List.getElem_cons_zero, Act.put, List.setIfInBounds_toArray, List.set_cons_zero, List.set_cons_succ])
          refine wpAnyH_ready (rs := [23, 26]) (by kernel_rfl) (by simp) ?_
          refine AllReadyH.cons rfl (fun K hK => ?_) (AllReadyH.cons rfl (fun K hK => ?_) AllReadyH.nil)
          · skip
            go_simp
            have D59 := Aside0.mk (below_alloc D58.out (.cells #[.slice A kn ca, .slice none 0 0, .slice A2 n2 c2, .slice (some ⟨v56.heap.size, 0, none⟩) 0 0] 28))
            have R60 : Aside0 ((((v56).alloc (.cells #[] 5)).alloc (.cells #[.slice A kn ca, .slice none 0 0, .slice A2 n2 c2, .slice (some ⟨v56.heap.size, 0, none⟩) 0 0] 28)).heap[v56.heap.size + 1]? = some (.cells #[.slice A kn ca, .slice none 0 0, .slice A2 n2 c2, .slice (some ⟨v56.heap.size, 0, none⟩) 0 0] 28 (0, 0))) := ⟨by have := blk_new ((v56).alloc (.cells #[] 5)) (.cells #[.slice A kn ca, .slice none 0 0, .slice A2 n2 c2, .slice (some ⟨v56.heap.size, 0, none⟩) 0 0] 28); rw [alloc_size] at this; exact this⟩
            refine hK.out _ _ ?_ (fun hHeld => ?_)
            · trivial
            clear hK K
            (try simp only [List.getElem_toArray, List.getElem_cons_succ, List.getElem_cons_zero, Act.put, List.setIfInBounds_toArray, List.set_cons_zero, List.set_cons_succ])
            refine wpAnyH_ready (rs := [24, 26]) (by kernel_rfl) (by simp) ?_
            refine AllReadyH.cons rfl (fun K hK => ?_) (AllReadyH.cons rfl (fun K hK => ?_) AllReadyH.nil)
            · skip
              go_simp
              go_at_call 8
              (with_reducible refine (K4.out _ _ _ R60.out D59.out).mono ?_)
              rintro x v61 ⟨rfl, hb1⟩
              have D62 := Aside0.mk (below_step D59.out hb1)
              clear hb1
              refine hK.out _ _ ?_ (fun hHeld => ?_)
              · trivial
              clear hK K
              (try simp only [List.getElem_toArray, List.getElem_cons_succ, List.getElem_cons_zero, Act.put, List.setIfInBounds_toArray, List.set_cons_zero, List.set_cons_succ])
              refine wpAnyH_ready (rs := [26]) (by kernel_rfl) (by simp) ?_
              refine AllReadyH.cons rfl (fun K hK => ?_) AllReadyH.nil
              go_simp
              have D63 := Aside0.mk (below_alloc D62.out (.cells #[.slice A b.length ca] 28))
              have R64 : Aside0 (((v61).alloc (.cells #[.slice A b.length ca] 28)).heap[v61.heap.size]? = some (.cells #[.slice A b.length ca] 28 (0, 0))) := ⟨by have := blk_new (v61) (.cells #[.slice A b.length ca] 28); exact this⟩
              refine hK.out _ _ ?_ (fun hHeld => ?_)
              · trivial
              clear hK K
              (try simp only [List.getElem_toArray, List.getElem_cons_succ, List.getElem_cons_zero, Act.put, List.setIfInBounds_toArray, List.set_cons_zero, List.set_cons_succ])
              refine wpAnyH_ready (rs := [27]) (by kernel_rfl) (by simp) ?_
              refine AllReadyH.cons rfl (fun K hK => ?_) AllReadyH.nil
              go_simp
              go_at_call 8
              (with_reducible refine (K1.out _ _ R64.out D63.out).mono ?_)
              rintro x v65 ⟨rfl, hb1⟩
              have D66 := Aside0.mk (below_step D63.out hb1)
              clear hb1
              refine hK.out _ _ ?_ (fun hHeld => ?_)
              · trivial
              clear hK K
              (try simp only [List.getElem_toArray, List.getElem_cons_succ, List.getElem_cons_zero, Act.put, List.setIfInBounds_toArray, List.set_cons_zero, List.set_cons_succ])
              refine wpAnyH_take (i := 28) (v := ?_) rfl (by kernel_rfl) (by kernel_rfl) (by kernel_rfl) (fun _ _ _ h => h) (Or.inl ⟨by rfl, ?_⟩) (by trivial) ?_
              rotate_left
              · (intro w hSw; (try dsimp only at hSw); go_simp; try (with_reducible rfl))
              (try simp only [List.getElem_toArray, List.getElem_cons_succ, List.getElem_cons_zero, Act.put, List.setIfInBounds_toArray, List.set_cons_zero, List.set_cons_succ])
              refine wpAnyH_take (i := 29) (v := ?_) rfl (by kernel_rfl) (by kernel_rfl) (by kernel_rfl) (fun _ _ _ h => h) (Or.inl ⟨by rfl, ?_⟩) (by trivial) ?_
              rotate_left
              · (intro w hSw; (try dsimp only at hSw); go_simp; try (with_reducible rfl))
              (try simp only [List.getElem_toArray, List.getElem_cons_succ, List.getElem_cons_zero, Act.put, List.setIfInBounds_toArray, List.set_cons_zero, List.set_cons_succ])
              refine wpAnyH_take (i := 30) (v := ?_) rfl (by kernel_rfl) (by kernel_rfl) (by kernel_rfl) (fun _ _ _ h => h) (Or.inl ⟨by rfl, ?_⟩) (by trivial) ?_
              rotate_left
              · (intro w hSw; (try dsimp only at hSw); go_simp; try (with_reducible rfl))
              (try simp only [List.getElem_toArray, List.getElem_cons_succ, List.getElem_cons_zero, Act.put, List.setIfInBounds_toArray, List.set_cons_zero, List.set_cons_succ])
              refine wpAnyH_done (by kernel_rfl) ?_ _
              refine NoPanic.normal ?_
              (try simp only [List.getElem_toArray, List.getElem_cons_succ, List.getElem_cons_zero, Act.put, List.setIfInBounds_toArray, List.set_cons_zero, List.set_cons_succ])
              go_wp2_with fail
              go_ret
              exact ⟨by rfl, D66.out⟩
            · skip
              go_simp
              have D67 := Aside0.mk (below_alloc D59.out (.cells #[.slice A b.length ca] 28))
              have R68 := Aside0.mk (blk_alloc R60.out (.cells #[.slice A b.length ca] 28))
              have R69 : Aside0 (((((v56).alloc (.cells #[] 5)).alloc (.cells #[.slice A kn ca, .slice none 0 0, .slice A2 n2 c2, .slice (some ⟨v56.heap.size, 0, none⟩) 0 0] 28)).alloc (.cells #[.slice A b.length ca] 28)).heap[v56.heap.size + 1 + 1]? = some (.cells #[.slice A b.length ca] 28 (0, 0))) := ⟨by have := blk_new (((v56).alloc (.cells #[] 5)).alloc (.cells #[.slice A kn ca, .slice none 0 0, .slice A2 n2 c2, .slice (some ⟨v56.heap.size, 0, none⟩) 0 0] 28)) (.cells #[.slice A b.length ca] 28); rw [alloc_size, alloc_size] at this; exact this⟩
              refine hK.out _ _ ?_ (fun hHeld => ?_)
              · trivial
              clear hK K
              (try simp only [List.getElem_toArray, List.getElem_cons_succ, List.getElem_cons_zero, Act.put, List.setIfInBounds_toArray, List.set_cons_zero, List.set_cons_succ])
              refine wpAnyH_ready (rs := [24]) (by kernel_rfl) (by simp) ?_
              refine AllReadyH.cons rfl (fun K hK => ?_) AllReadyH.nil
              go_simp
              go_at_call 8
              (with_reducible refine (K4.out _ _ _ R68.out D67.out).mono ?_)
              rintro x v70 ⟨rfl, hb1⟩
              have D71 := Aside0.mk (below_step D67.out hb1)
              have R72 := Aside0.mk ((hb1.block _ (Array.getElem?_eq_some_iff.1 R69.out).1).trans R69.out)
              clear hb1
              refine hK.out _ _ ?_ (fun hHeld => ?_)
              · trivial
              clear hK K
              (try simp only [List.getElem_toArray, List.getElem_cons_succ, List.getElem_cons_zero, Act.put, List.setIfInBounds_toArray, List.set_cons_zero, List.set_cons_succ])
              refine wpAnyH_ready (rs := [27]) (by kernel_rfl) (by simp) ?_
              refine AllReadyH.cons rfl (fun K hK => ?_) AllReadyH.nil
              go_simp
              go_at_call 8
              (with_reducible refine (K1.out _ _ R72.out D71.out).mono ?_)
              rintro x v73 ⟨rfl, hb1⟩
              have D74 := Aside0.mk (below_step D71.out hb1)
              clear hb1
              refine hK.out _ _ ?_ (fun hHeld => ?_)
              · trivial
              clear hK K
              (try simp only [List.getElem_toArray, List.getElem_cons_succ, List.getElem_cons_zero, Act.put, List.setIfInBounds_toArray, List.set_cons_zero, List.set_cons_succ])
              refine wpAnyH_take (i := 28) (v := ?_) rfl (by kernel_rfl) (by kernel_rfl) (by kernel_rfl) (fun _ _ _ h => h) (Or.inl ⟨by rfl, ?_⟩) (by trivial) ?_
              rotate_left
              · (intro w hSw; (try dsimp only at hSw); go_simp; try (with_reducible rfl))
              (try simp only [List.getElem_toArray, List.getElem_cons_succ, List.getElem_cons_zero, Act.put, List.setIfInBounds_toArray, List.set_cons_zero, List.set_cons_succ])
              refine wpAnyH_take (i := 29) (v := ?_) rfl (by kernel_rfl) (by kernel_rfl) (by kernel_rfl) (fun _ _ _ h => h) (Or.inl ⟨by rfl, ?_⟩) (by trivial) ?_
              rotate_left
              · (intro w hSw; (try dsimp only at hSw); go_simp; try (with_reducible rfl))
              (try simp only [List.getElem_toArray, List.getElem_cons_succ, List.getElem_cons_zero, Act.put, List.setIfInBounds_toArray, List.set_cons_zero, List.set_cons_succ])
              refine wpAnyH_take (i := 30) (v := ?_) rfl (by kernel_rfl) (by kernel_rfl) (by kernel_rfl) (fun _ _ _ h => h) (Or.inl ⟨by rfl, ?_⟩) (by trivial) ?_
              rotate_left
              · (intro w hSw; (try dsimp only at hSw); go_simp; try (with_reducible rfl))
              (try simp only [List.getElem_toArray, List.getElem_cons_succ, List.getElem_cons_zero, Act.put, List.setIfInBounds_toArray, List.set_cons_zero, List.set_cons_succ])
              refine wpAnyH_done (by kernel_rfl) ?_ _
              refine NoPanic.normal ?_
              (try simp only [List.getElem_toArray, List.getElem_cons_succ, List.getElem_cons_zero, Act.put, List.setIfInBounds_toArray, List.set_cons_zero, List.set_cons_succ])
              go_wp2_with fail
              go_ret
              exact ⟨by rfl, D74.out⟩
          · skip
            go_simp
            have D75 := Aside0.mk (below_alloc D58.out (.cells #[.slice A b.length ca] 28))
            have R76 : Aside0 ((((v56).alloc (.cells #[] 5)).alloc (.cells #[.slice A b.length ca] 28)).heap[v56.heap.size + 1]? = some (.cells #[.slice A b.length ca] 28 (0, 0))) := ⟨by have := blk_new ((v56).alloc (.cells #[] 5)) (.cells #[.slice A b.length ca] 28); rw [alloc_size] at this; exact this⟩
            refine hK.out _ _ ?_ (fun hHeld => ?_)
            · trivial
            clear hK K
            (try simp only [List.getElem_toArray, List.getElem_cons_succ, List.getElem_cons_zero, Act.put, List.setIfInBounds_toArray, List.set_cons_zero, List.set_cons_succ])
            refine wpAnyH_ready (rs := [23]) (by kernel_rfl) (by simp) ?_
            refine AllReadyH.cons rfl (fun K hK => ?_) AllReadyH.nil
            go_simp
            have D77 := Aside0.mk (below_alloc D75.out (.cells #[.slice A kn ca, .slice none 0 0, .slice A2 n2 c2, .slice (some ⟨v56.heap.size, 0, none⟩) 0 0] 28))
            have R78 := Aside0.mk (blk_alloc R76.out (.cells #[.slice A kn ca, .slice none 0 0, .slice A2 n2 c2, .slice (some ⟨v56.heap.size, 0, none⟩) 0 0] 28))
            have R79 : Aside0 (((((v56).alloc (.cells #[] 5)).alloc (.cells #[.slice A b.length ca] 28)).alloc (.cells #[.slice A kn ca, .slice none 0 0, .slice A2 n2 c2, .slice (some ⟨v56.heap.size, 0, none⟩) 0 0] 28)).heap[v56.heap.size + 1 + 1]? = some (.cells #[.slice A kn ca, .slice none 0 0, .slice A2 n2 c2, .slice (some ⟨v56.heap.size, 0, none⟩) 0 0] 28 (0, 0))) := ⟨by have := blk_new (((v56).alloc (.cells #[] 5)).alloc (.cells #[.slice A b.length ca] 28)) (.cells #[.slice A kn ca, .slice none 0 0, .slice A2 n2 c2, .slice (some ⟨v56.heap.size, 0, none⟩) 0 0] 28); rw [alloc_size, alloc_size] at this; exact this⟩
            refine hK.out _ _ ?_ (fun hHeld => ?_)
            · trivial
            clear hK K
            (try simp only [List.getElem_toArray, List.getElem_cons_succ, List.getElem_cons_zero, Act.put, List.setIfInBounds_toArray, List.set_cons_zero, List.set_cons_succ])
            refine wpAnyH_ready (rs := [24]) (by kernel_rfl) (by simp) ?_
            refine AllReadyH.cons rfl (fun K hK => ?_) AllReadyH.nil
            go_simp
            go_at_call 8
            (with_reducible refine (K4.out _ _ _ R79.out D77.out).mono ?_)
            rintro x v80 ⟨rfl, hb1⟩
            have D81 := Aside0.mk (below_step D77.out hb1)
            have R82 := Aside0.mk ((hb1.block _ (Array.getElem?_eq_some_iff.1 R78.out).1).trans R78.out)
            clear hb1
            refine hK.out _ _ ?_ (fun hHeld => ?_)
            · trivial
            clear hK K
            (try simp only [List.getElem_toArray, List.getElem_cons_succ, List.getElem_cons_zero, Act.put, List.setIfInBounds_toArray, List.set_cons_zero, List.set_cons_succ])
            refine wpAnyH_ready (rs := [27]) (by kernel_rfl) (by simp) ?_
            refine AllReadyH.cons rfl (fun K hK => ?_) AllReadyH.nil
            go_simp
            go_at_call 8
            (with_reducible refine (K1.out _ _ R82.out D81.out).mono ?_)
            rintro x v83 ⟨rfl, hb1⟩
            have D84 := Aside0.mk (below_step D81.out hb1)
            clear hb1
            refine hK.out _ _ ?_ (fun hHeld => ?_)
            · trivial
            clear hK K
            (try simp only [List.getElem_toArray, List.getElem_cons_succ, List.getElem_cons_zero, Act.put, List.setIfInBounds_toArray, List.set_cons_zero, List.set_cons_succ])
            refine wpAnyH_take (i := 28) (v := ?_) rfl (by kernel_rfl) (by kernel_rfl) (by kernel_rfl) (fun _ _ _ h => h) (Or.inl ⟨by rfl, ?_⟩) (by trivial) ?_
            rotate_left
            · (intro w hSw; (try dsimp only at hSw); go_simp; try (with_reducible rfl))
            (try simp only [List.getElem_toArray, List.getElem_cons_succ, List.getElem_cons_zero, Act.put, List.setIfInBounds_toArray, List.set_cons_zero, List.set_cons_succ])
            refine wpAnyH_take (i := 29) (v := ?_) rfl (by kernel_rfl) (by kernel_rfl) (by kernel_rfl) (fun _ _ _ h => h) (Or.inl ⟨by rfl, ?_⟩) (by trivial) ?_
            rotate_left
            · (intro w hSw; (try dsimp only at hSw); go_simp; try (with_reducible rfl))
            (try simp only [List.getElem_toArray, List.getElem_cons_succ, List.getElem_cons_zero, Act.put, List.setIfInBounds_toArray, List.set_cons_zero, List.set_cons_succ])
            refine wpAnyH_take (i := 30) (v := ?_) rfl (by kernel_rfl) (by kernel_rfl) (by kernel_rfl) (fun _ _ _ h => h) (Or.inl ⟨by rfl, ?_⟩) (by trivial) ?_
            rotate_left
            · (intro w hSw; (try dsimp only at hSw); go_simp; try (with_reducible rfl))
            (try simp only [List.getElem_toArray, List.getElem_cons_succ, List.getElem_cons_zero, Act.put, List.setIfInBounds_toArray, List.set_cons_zero, List.set_cons_succ])
            refine wpAnyH_done (by kernel_rfl) ?_ _
            refine NoPanic.normal ?_
            (try simp only [List.getElem_toArray, List.getElem_cons_succ, List.getElem_cons_zero, Act.put, List.setIfInBounds_toArray, List.set_cons_zero, List.set_cons_succ])
            go_wp2_with fail
            go_ret
            exact ⟨by rfl, D84.out⟩
        · skip
          go_simp
          have D85 := Aside0.mk (below_alloc D57.out (.cells #[.slice A b.length ca] 28))
          have R86 : Aside0 (((v56).alloc (.cells #[.slice A b.length ca] 28)).heap[v56.heap.size]? = some (.cells #[.slice A b.length ca] 28 (0, 0))) := ⟨by have := blk_new (v56) (.cells #[.slice A b.length ca] 28); exact this⟩
          refine hK.out _ _ ?_ (fun hHeld => ?_)
          · trivial
          clear hK K
          (try simp only [List.getElem_toArray, List.getElem_cons_succ, List.getElem_cons_zero, Act.put, List.setIfInBounds_toArray, List.set_cons_zero, List.set_cons_succ])
          refine wpAnyH_ready (rs := [22]) (by kernel_rfl) (by simp) ?_
          refine AllReadyH.cons rfl (fun K hK => ?_) AllReadyH.nil
          go_simp
          have D87 := Aside0.mk (below_alloc D85.out (.cells #[] 5))
          have R88 := Aside0.mk (blk_alloc R86.out (.cells #[] 5))
          refine hK.out _ _ ?_ (fun hHeld => ?_)
          · trivial
          clear hK K
          (try simp only [List.getElem_toArray, List.getElem_cons_succ, List.getElem_cons_zero, Act.put, List.setIfInBounds_toArray, List.set_cons_zero, List.set_cons_succ])
          refine wpAnyH_ready (rs := [23]) (by kernel_rfl) (by simp) ?_
          refine AllReadyH.cons rfl (fun K hK => ?_) AllReadyH.nil
          go_simp
          have D89 := Aside0.mk (below_alloc D87.out (.cells #[.slice A kn ca, .slice none 0 0, .slice A2 n2 c2, .slice (some ⟨v56.heap.size + 1, 0, none⟩) 0 0] 28))
          have R90 := Aside0.mk (blk_alloc R88.out (.cells #[.slice A kn ca, .slice none 0 0, .slice A2 n2 c2, .slice (some ⟨v56.heap.size + 1, 0, none⟩) 0 0] 28))
          have R91 : Aside0 (((((v56).alloc (.cells #[.slice A b.length ca] 28)).alloc (.cells #[] 5)).alloc (.cells #[.slice A kn ca, .slice none 0 0, .slice A2 n2 c2, .slice (some ⟨v56.heap.size + 1, 0, none⟩) 0 0] 28)).heap[v56.heap.size + 1 + 1]? = some (.cells #[.slice A kn ca, .slice none 0 0, .slice A2 n2 c2, .slice (some ⟨v56.heap.size + 1, 0, none⟩) 0 0] 28 (0, 0))) := ⟨by have := blk_new (((v56).alloc (.cells #[.slice A b.length ca] 28)).alloc (.cells #[] 5)) (.cells #[.slice A kn ca, .slice none 0 0, .slice A2 n2 c2, .slice (some ⟨v56.heap.size + 1, 0, none⟩) 0 0] 28); rw [alloc_size, alloc_size] at this; exact this⟩
          refine hK.out _ _ ?_ (fun hHeld => ?_)
          · trivial
          clear hK K
          (try simp only [List.getElem_toArray, List.getElem_cons_succ, List.getElem_cons_zero, Act.put, List.setIfInBounds_toArray, List.set_cons_zero, List.set_cons_succ])
          refine wpAnyH_ready (rs := [24]) (by kernel_rfl) (by simp) ?_
          refine AllReadyH.cons rfl (fun K hK => ?_) AllReadyH.nil
          go_simp
          go_at_call 8
          (with_reducible refine (K4.out _ _ _ R91.out D89.out).mono ?_)
          rintro x v92 ⟨rfl, hb1⟩
          have D93 := Aside0.mk (below_step D89.out hb1)
          have R94 := Aside0.mk ((hb1.block _ (Array.getElem?_eq_some_iff.1 R90.out).1).trans R90.out)
          clear hb1
          refine hK.out _ _ ?_ (fun hHeld => ?_)
          · trivial
          clear hK K
          (try simp only [List.getElem_toArray, List.getElem_cons_succ, List.getElem_cons_zero, Act.put, List.setIfInBounds_toArray, List.set_cons_zero, List.set_cons_succ])
          refine wpAnyH_ready (rs := [27]) (by kernel_rfl) (by simp) ?_
          refine AllReadyH.cons rfl (fun K hK => ?_) AllReadyH.nil
          go_simp
          go_at_call 8
          (with_reducible refine (K1.out _ _ R94.out D93.out).mono ?_)
          rintro x v95 ⟨rfl, hb1⟩
          have D96 := Aside0.mk (below_step D93.out hb1)
          clear hb1
          refine hK.out _ _ ?_ (fun hHeld => ?_)
          · trivial
          clear hK K
          (try simp only [List.getElem_toArray, List.getElem_cons_succ, List.getElem_cons_zero, Act.put, List.setIfInBounds_toArray, List.set_cons_zero, List.set_cons_succ])
          refine wpAnyH_take (i := 28) (v := ?_) rfl (by kernel_rfl) (by kernel_rfl) (by kernel_rfl) (fun _ _ _ h => h) (Or.inl ⟨by rfl, ?_⟩) (by trivial) ?_
          rotate_left
          · (intro w hSw; (try dsimp only at hSw); go_simp; try (with_reducible rfl))
          (try simp only [List.getElem_toArray, List.getElem_cons_succ, List.getElem_cons_zero, Act.put, List.setIfInBounds_toArray, List.set_cons_zero, List.set_cons_succ])
          refine wpAnyH_take (i := 29) (v := ?_) rfl (by kernel_rfl) (by kernel_rfl) (by kernel_rfl) (fun _ _ _ h => h) (Or.inl ⟨by rfl, ?_⟩) (by trivial) ?_
          rotate_left
          · (intro w hSw; (try dsimp only at hSw); go_simp; try (with_reducible rfl))
          (try simp only [List.getElem_toArray, List.getElem_cons_succ, List.getElem_cons_zero, Act.put, List.setIfInBounds_toArray, List.set_cons_zero, List.set_cons_succ])
          refine wpAnyH_take (i := 30) (v := ?_) rfl (by kernel_rfl) (by kernel_rfl) (by kernel_rfl) (fun _ _ _ h => h) (Or.inl ⟨by rfl, ?_⟩) (by trivial) ?_
          rotate_left
          · (intro w hSw; (try dsimp only at hSw); go_simp; try (with_reducible rfl))
          (try simp only [List.getElem_toArray, List.getElem_cons_succ, List.getElem_cons_zero, Act.put, List.setIfInBounds_toArray, List.set_cons_zero, List.set_cons_succ])
          refine wpAnyH_done (by kernel_rfl) ?_ _
          refine NoPanic.normal ?_
          (try simp only [List.getElem_toArray, List.getElem_cons_succ, List.getElem_cons_zero, Act.put, List.setIfInBounds_toArray, List.set_cons_zero, List.set_cons_succ])
          go_wp2_with fail
          go_ret
          exact ⟨by rfl, D96.out⟩
    · skip
      go_simp
      have D97 := Aside0.mk (below_alloc D2.out (.cells #[.slice A b.length ca] 28))
      have R98 : Aside0 (((v1).alloc (.cells #[.slice A b.length ca] 28)).heap[v1.heap.size]? = some (.cells #[.slice A b.length ca] 28 (0, 0))) := ⟨by have := blk_new (v1) (.cells #[.slice A b.length ca] 28); exact this⟩
      refine hK.out _ _ ?_ (fun hHeld => ?_)
      · trivial
      clear hK K
      (try simp only [List.getElem_toArray, List.getElem_cons_succ, List.getElem_cons_zero, Act.put, List.setIfInBounds_toArray, List.set_cons_zero, List.set_cons_succ])
      refine wpAnyH_ready (rs := [8]) (by kernel_rfl) (by simp) ?_
      refine AllReadyH.cons rfl (fun K hK => ?_) AllReadyH.nil
      go_simp
      have D99 := Aside0.mk (below_alloc D97.out (.cells #[.slice A kn ca, .slice A2 n2 c2] 28))
      have R100 := Aside0.mk (blk_alloc R98.out (.cells #[.slice A kn ca, .slice A2 n2 c2] 28))
      have R101 : Aside0 ((((v1).alloc (.cells #[.slice A b.length ca] 28)).alloc (.cells #[.slice A kn ca, .slice A2 n2 c2] 28)).heap[v1.heap.size + 1]? = some (.cells #[.slice A kn ca, .slice A2 n2 c2] 28 (0, 0))) := ⟨by have := blk_new ((v1).alloc (.cells #[.slice A b.length ca] 28)) (.cells #[.slice A kn ca, .slice A2 n2 c2] 28); rw [alloc_size] at this; exact this⟩
      refine hK.out _ _ ?_ (fun hHeld => ?_)
      · trivial
      clear hK K
      (try simp only [List.getElem_toArray, List.getElem_cons_succ, List.getElem_cons_zero, Act.put, List.setIfInBounds_toArray, List.set_cons_zero, List.set_cons_succ])
      refine wpAnyH_ready (rs := [9]) (by kernel_rfl) (by simp) ?_
      refine AllReadyH.cons rfl (fun K hK => ?_) AllReadyH.nil
      go_simp
      go_at_call 8
      (with_reducible refine (K2.out _ _ R101.out D99.out).mono ?_)
      rintro x v102 ⟨rfl, hb1⟩
      have D103 := Aside0.mk (below_step D99.out hb1)
      have R104 := Aside0.mk ((hb1.block _ (Array.getElem?_eq_some_iff.1 R100.out).1).trans R100.out)
      clear hb1
      refine hK.out _ _ ?_ (fun hHeld => ?_)
      · trivial
      clear hK K
      (try simp only [List.getElem_toArray, List.getElem_cons_succ, List.getElem_cons_zero, Act.put, List.setIfInBounds_toArray, List.set_cons_zero, List.set_cons_succ])
      refine wpAnyH_ready (rs := [12]) (by kernel_rfl) (by simp) ?_
      refine AllReadyH.cons rfl (fun K hK => ?_) AllReadyH.nil
      go_simp
      go_at_call 8
      (with_reducible refine (K1.out _ _ R104.out D103.out).mono ?_)
      rintro x v105 ⟨rfl, hb1⟩
      have D106 := Aside0.mk (below_step D103.out hb1)
      clear hb1
      refine hK.out _ _ ?_ (fun hHeld => ?_)
      · trivial
      clear hK K
      (try simp only [List.getElem_toArray, List.getElem_cons_succ, List.getElem_cons_zero, Act.put, List.setIfInBounds_toArray, List.set_cons_zero, List.set_cons_succ])
      refine wpAnyH_take (i := 13) (v := ?_) rfl (by kernel_rfl) (by kernel_rfl) (by kernel_rfl) (fun _ _ _ h => h) (Or.inl ⟨by rfl, ?_⟩) (by trivial) ?_
      rotate_left
      · (intro w hSw; (try dsimp only at hSw); go_simp; try (with_reducible rfl))
      (try simp only [List.getElem_toArray, List.getElem_cons_succ, List.getElem_cons_zero, Act.put, List.setIfInBounds_toArray, List.set_cons_zero, List.set_cons_succ])
      refine wpAnyH_take (i := 14) (v := ?_) rfl (by kernel_rfl) (by kernel_rfl) (by kernel_rfl) (fun _ _ _ h => h) (Or.inl ⟨by rfl, ?_⟩) (by trivial) ?_
      rotate_left
      · (intro w hSw; (try dsimp only at hSw); go_simp; try (with_reducible rfl))
      (try simp only [List.getElem_toArray, List.getElem_cons_succ, List.getElem_cons_zero, Act.put, List.setIfInBounds_toArray, List.set_cons_zero, List.set_cons_succ])
      refine wpAnyH_take (i := 15) (v := ?_) rfl (by kernel_rfl) (by kernel_rfl) (by kernel_rfl) (fun _ _ _ h => h) (Or.inl ⟨by rfl, ?_⟩) (by trivial) ?_
      rotate_left
      · (intro w hSw; (try dsimp only at hSw); go_simp; try (with_reducible rfl))
      (try simp only [List.getElem_toArray, List.getElem_cons_succ, List.getElem_cons_zero, Act.put, List.setIfInBounds_toArray, List.set_cons_zero, List.set_cons_succ])
      refine wpAnyH_take (i := 16) (v := ?_) rfl (by kernel_rfl) (by kernel_rfl) (by kernel_rfl) (fun _ _ _ h => h) (Or.inl ⟨by rfl, ?_⟩) (by trivial) ?_
      rotate_left
      · (intro w hSw; (try dsimp only at hSw); go_simp; try (with_reducible rfl))
      (try simp only [List.getElem_toArray, List.getElem_cons_succ, List.getElem_cons_zero, Act.put, List.setIfInBounds_toArray, List.set_cons_zero, List.set_cons_succ])
      refine wpAnyH_take (i := 17) (v := ?_) rfl (by kernel_rfl) (by kernel_rfl) (by kernel_rfl) (fun _ _ _ h => h) (Or.inl ⟨by rfl, ?_⟩) (by trivial) ?_
      rotate_left
      · (intro w hSw; (try dsimp only at hSw); go_simp; try (with_reducible rfl))
      (try simp only [List.getElem_toArray, List.getElem_cons_succ, List.getElem_cons_zero, Act.put, List.setIfInBounds_toArray, List.set_cons_zero, List.set_cons_succ])
      refine wpAnyH_take (i := 18) (v := ?_) rfl (by kernel_rfl) (by kernel_rfl) (by kernel_rfl) (fun _ _ _ h => h) (Or.inl ⟨by rfl, ?_⟩) (by trivial) ?_
      rotate_left
      · (intro w hSw; (try dsimp only at hSw); go_simp; try (with_reducible rfl))
      (try simp only [List.getElem_toArray, List.getElem_cons_succ, List.getElem_cons_zero, Act.put, List.setIfInBounds_toArray, List.set_cons_zero, List.set_cons_succ])
      refine wpAnyH_take (i := 19) (v := ?_) rfl (by kernel_rfl) (by kernel_rfl) (by kernel_rfl) (fun _ _ _ h => h) (Or.inl ⟨by rfl, ?_⟩) (by trivial) ?_
      rotate_left
      · (intro w hSw; (try dsimp only at hSw); go_simp; try (with_reducible rfl))
      (try simp only [List.getElem_toArray, List.getElem_cons_succ, List.getElem_cons_zero, Act.put, List.setIfInBounds_toArray, List.set_cons_zero, List.set_cons_succ])
      refine wpAnyH_take (i := 20) (v := ?_) rfl (by kernel_rfl) (by kernel_rfl) (by kernel_rfl) (fun _ _ _ h => h) (Or.inl ⟨by rfl, ?_⟩) (by trivial) ?_
      rotate_left
      · (intro w hSw; (try dsimp only at hSw); go_simp; try (with_reducible rfl))
      (try simp only [List.getElem_toArray, List.getElem_cons_succ, List.getElem_cons_zero, Act.put, List.setIfInBounds_toArray, List.set_cons_zero, List.set_cons_succ])
      refine wpAnyH_take (i := 21) (v := ?_) rfl (by kernel_rfl) (by kernel_rfl) (by kernel_rfl) (fun _ _ _ h => h) (Or.inl ⟨by rfl, ?_⟩) (by trivial) ?_
      rotate_left
      · (intro w hSw; (try dsimp only at hSw); go_simp; try (with_reducible rfl))
      (try simp only [List.getElem_toArray, List.getElem_cons_succ, List.getElem_cons_zero, Act.put, List.setIfInBounds_toArray, List.set_cons_zero, List.set_cons_succ])
      refine wpAnyH_take (i := 25) (v := ?_) rfl (by kernel_rfl) (by kernel_rfl) (by kernel_rfl) (fun _ _ _ h => h) (Or.inl ⟨by rfl, ?_⟩) (by trivial) ?_
      rotate_left
      · (intro w hSw; (try dsimp only at hSw); go_simp; try (with_reducible rfl))
      (try simp only [List.getElem_toArray, List.getElem_cons_succ, List.getElem_cons_zero, Act.put, List.setIfInBounds_toArray, List.set_cons_zero, List.set_cons_succ])
      refine wpAnyH_ready (rs := [22, 26]) (by kernel_rfl) (by simp) ?_
      refine AllReadyH.cons rfl (fun K hK => ?_) (AllReadyH.cons rfl (fun K hK => ?_) AllReadyH.nil)
      · skip
        go_simp
        have D107 := Aside0.mk (below_alloc D106.out (.cells #[] 5))
        refine hK.out _ _ ?_ (fun hHeld => ?_)
        · trivial
        clear hK K
        (try simp only [List.getElem_toArray, List.getElem_cons_succ, List.getElem_cons_zero, Act.put, List.setIfInBounds_toArray, List.set_cons_zero, List.set_cons_succ])
        refine wpAnyH_ready (rs := [23, 26]) (by kernel_rfl) (by simp) ?_
        refine AllReadyH.cons rfl (fun K hK => ?_) (AllReadyH.cons rfl (fun K hK => ?_) AllReadyH.nil)
        · skip
          go_simp
          have D108 := Aside0.mk (below_alloc D107.out (.cells #[.slice A kn ca, .slice none 0 0, .slice A2 n2 c2, .slice (some ⟨v105.heap.size, 0, none⟩) 0 0] 28))
          have R109 : Aside0 ((((v105).alloc (.cells #[] 5)).alloc (.cells #[.slice A kn ca, .slice none 0 0, .slice A2 n2 c2, .slice (some ⟨v105.heap.size, 0, none⟩) 0 0] 28)).heap[v105.heap.size + 1]? = some (.cells #[.slice A kn ca, .slice none 0 0, .slice A2 n2 c2, .slice (some ⟨v105.heap.size, 0, none⟩) 0 0] 28 (0, 0))) := ⟨by have := blk_new ((v105).alloc (.cells #[] 5)) (.cells #[.slice A kn ca, .slice none 0 0, .slice A2 n2 c2, .slice (some ⟨v105.heap.size, 0, none⟩) 0 0] 28); rw [alloc_size] at this; exact this⟩
          refine hK.out _ _ ?_ (fun hHeld => ?_)
          · trivial
          clear hK K
          (try simp only [List.getElem_toArray, List.getElem_cons_succ, List.getElem_cons_zero, Act.put, List.setIfInBounds_toArray, List.set_cons_zero, List.set_cons_succ])
          refine wpAnyH_ready (rs := [24, 26]) (by kernel_rfl) (by simp) ?_
          refine AllReadyH.cons rfl (fun K hK => ?_) (AllReadyH.cons rfl (fun K hK => ?_) AllReadyH.nil)
          · skip
            go_simp
            go_at_call 8
            (with_reducible refine (K4.out _ _ _ R109.out D108.out).mono ?_)
            rintro x v110 ⟨rfl, hb1⟩
            have D111 := Aside0.mk (below_step D108.out hb1)
            clear hb1
            refine hK.out _ _ ?_ (fun hHeld => ?_)
            · trivial
            clear hK K
            (try simp only [List.getElem_toArray, List.getElem_cons_succ, List.getElem_cons_zero, Act.put, List.setIfInBounds_toArray, List.set_cons_zero, List.set_cons_succ])
            refine wpAnyH_ready (rs := [26]) (by kernel_rfl) (by simp) ?_
            refine AllReadyH.cons rfl (fun K hK => ?_) AllReadyH.nil
            go_simp
            have D112 := Aside0.mk (below_alloc D111.out (.cells #[.slice A b.length ca] 28))
            have R113 : Aside0 (((v110).alloc (.cells #[.slice A b.length ca] 28)).heap[v110.heap.size]? = some (.cells #[.slice A b.length ca] 28 (0, 0))) := ⟨by have := blk_new (v110) (.cells #[.slice A b.length ca] 28); exact this⟩
            refine hK.out _ _ ?_ (fun hHeld => ?_)
            · trivial
            clear hK K
            (try simp only [List.getElem_toArray, List.getElem_cons_succ, List.getElem_cons_zero, Act.put, List.setIfInBounds_toArray, List.set_cons_zero, List.set_cons_succ])
            refine wpAnyH_ready (rs := [27]) (by kernel_rfl) (by simp) ?_
            refine AllReadyH.cons rfl (fun K hK => ?_) AllReadyH.nil
            go_simp
            go_at_call 8
            (with_reducible refine (K1.out _ _ R113.out D112.out).mono ?_)
            rintro x v114 ⟨rfl, hb1⟩
            have D115 := Aside0.mk (below_step D112.out hb1)
            clear hb1
            refine hK.out _ _ ?_ (fun hHeld => ?_)
            · trivial
            clear hK K
            (try simp only [List.getElem_toArray, List.getElem_cons_succ, List.getElem_cons_zero, Act.put, List.setIfInBounds_toArray, List.set_cons_zero, List.set_cons_succ])
            refine wpAnyH_take (i := 28) (v := ?_) rfl (by kernel_rfl) (by kernel_rfl) (by kernel_rfl) (fun _ _ _ h => h) (Or.inl ⟨by rfl, ?_⟩) (by trivial) ?_
            rotate_left
            · (intro w hSw; (try dsimp only at hSw); go_simp; try (with_reducible rfl))
            (try simp only [List.getElem_toArray, List.getElem_cons_succ, List.getElem_cons_zero, Act.put, List.setIfInBounds_toArray, List.set_cons_zero, List.set_cons_succ])
            refine wpAnyH_take (i := 29) (v := ?_) rfl (by kernel_rfl) (by kernel_rfl) (by kernel_rfl) (fun _ _ _ h => h) (Or.inl ⟨by rfl, ?_⟩) (by trivial) ?_
            rotate_left
            · (intro w hSw; (try dsimp only at hSw); go_simp; try (with_reducible rfl))
            (try simp only [List.getElem_toArray, List.getElem_cons_succ, List.getElem_cons_zero, Act.put, List.setIfInBounds_toArray, List.set_cons_zero, List.set_cons_succ])
            refine wpAnyH_take (i := 30) (v := ?_) rfl (by kernel_rfl) (by kernel_rfl) (by kernel_rfl) (fun _ _ _ h => h) (Or.inl ⟨by rfl, ?_⟩) (by trivial) ?_
            rotate_left
            · (intro w hSw; (try dsimp only at hSw); go_simp; try (with_reducible rfl))
            (try simp only [List.getElem_toArray, List.getElem_cons_succ, List.getElem_cons_zero, Act.put, List.setIfInBounds_toArray, List.set_cons_zero, List.set_cons_succ])
            refine wpAnyH_done (by kernel_rfl) ?_ _
            refine NoPanic.normal ?_
            (try simp only [List.getElem_toArray, List.getElem_cons_succ, List.getElem_cons_zero, Act.put, List.setIfInBounds_toArray, List.set_cons_zero, List.set_cons_succ])
            go_wp2_with fail
            go_ret
            exact ⟨by rfl, D115.out⟩
          · skip
            go_simp
            have D116 := Aside0.mk (below_alloc D108.out (.cells #[.slice A b.length ca] 28))
            have R117 := Aside0.mk (blk_alloc R109.out (.cells #[.slice A b.length ca] 28))
            have R118 : Aside0 (((((v105).alloc (.cells #[] 5)).alloc (.cells #[.slice A kn ca, .slice none 0 0, .slice A2 n2 c2, .slice (some ⟨v105.heap.size, 0, none⟩) 0 0] 28)).alloc (.cells #[.slice A b.length ca] 28)).heap[v105.heap.size + 1 + 1]? = some (.cells #[.slice A b.length ca] 28 (0, 0))) := ⟨by have := blk_new (((v105).alloc (.cells #[] 5)).alloc (.cells #[.slice A kn ca, .slice none 0 0, .slice A2 n2 c2, .slice (some ⟨v105.heap.size, 0, none⟩) 0 0] 28)) (.cells #[.slice A b.length ca] 28); rw [alloc_size, alloc_size] at this; exact this⟩
            refine hK.out _ _ ?_ (fun hHeld => ?_)
            · trivial
            clear hK K
            (try simp only [List.getElem_toArray, List.getElem_cons_succ, List.getElem_cons_zero, Act.put, List.setIfInBounds_toArray, List.set_cons_zero, List.set_cons_succ])
            refine wpAnyH_ready (rs := [24]) (by kernel_rfl) (by simp) ?_
            refine AllReadyH.cons rfl (fun K hK => ?_) AllReadyH.nil
            go_simp
            go_at_call 8
            (with_reducible refine (K4.out _ _ _ R117.out D116.out).mono ?_)
            rintro x v119 ⟨rfl, hb1⟩
            have D120 := Aside0.mk (below_step D116.out hb1)
            have R121 := Aside0.mk ((hb1.block _ (Array.getElem?_eq_some_iff.1 R118.out).1).trans R118.out)
            clear hb1
            refine hK.out _ _ ?_ (fun hHeld => ?_)
            · trivial
            clear hK K
            (try simp only [List.getElem_toArray, List.getElem_cons_succ, List.getElem_cons_zero, Act.put, List.setIfInBounds_toArray, List.set_cons_zero, List.set_cons_succ])
            refine wpAnyH_ready (rs := [27]) (by kernel_rfl) (by simp) ?_
            refine AllReadyH.cons rfl (fun K hK => ?_) AllReadyH.nil
            go_simp
            go_at_call 8
            (with_reducible refine (K1.out _ _ R121.out D120.out).mono ?_)
            rintro x v122 ⟨rfl, hb1⟩
            have D123 := Aside0.mk (below_step D120.out hb1)
            clear hb1
            refine hK.out _ _ ?_ (fun hHeld => ?_)
            · trivial
            clear hK K
            (try simp only [List.getElem_toArray, List.getElem_cons_succ, List.getElem_cons_zero, Act.put, List.setIfInBounds_toArray, List.set_cons_zero, List.set_cons_succ])
            refine wpAnyH_take (i := 28) (v := ?_) rfl (by kernel_rfl) (by kernel_rfl) (by kernel_rfl) (fun _ _ _ h => h) (Or.inl ⟨by rfl, ?_⟩) (by trivial) ?_
            rotate_left
            · (intro w hSw; (try dsimp only at hSw); go_simp; try (with_reducible rfl))
            (try simp only [List.getElem_toArray, List.getElem_cons_succ, List.getElem_cons_zero, Act.put, List.setIfInBounds_toArray, List.set_cons_zero, List.set_cons_succ])
            refine wpAnyH_take (i := 29) (v := ?_) rfl (by kernel_rfl) (by kernel_rfl) (by kernel_rfl) (fun _ _ _ h => h) (Or.inl ⟨by rfl, ?_⟩) (by trivial) ?_
            rotate_left
            · (intro w hSw; (try dsimp only at hSw); go_simp; try (with_reducible rfl))
            (try simp only [List.getElem_toArray, List.getElem_cons_succ, List.getElem_cons_zero, Act.put, List.setIfInBounds_toArray, List.set_cons_zero, List.set_cons_succ])
            refine wpAnyH_take (i := 30) (v := ?_) rfl (by kernel_rfl) (by kernel_rfl) (by kernel_rfl) (fun _ _ _ h => h) (Or.inl ⟨by rfl, ?_⟩) (by trivial) ?_
            rotate_left
            · (intro w hSw; (try dsimp only at hSw); go_simp; try (with_reducible rfl))
            (try simp only [List.getElem_toArray, List.getElem_cons_succ, List.getElem_cons_zero, Act.put, List.setIfInBounds_toArray, List.set_cons_zero, List.set_cons_succ])
            refine wpAnyH_done (by kernel_rfl) ?_ _
            refine NoPanic.normal ?_
            (try simp only [List.getElem_toArray, List.getElem_cons_succ, List.getElem_cons_zero, Act.put, List.setIfInBounds_toArray, List.set_cons_zero, List.set_cons_succ])
            go_wp2_with fail
            go_ret
            exact ⟨by rfl, D123.out⟩
        · skip
          go_simp
          have D124 := Aside0.mk (below_alloc D107.out (.cells #[.slice A b.length ca] 28))
          have R125 : Aside0 ((((v105).alloc (.cells #[] 5)).alloc (.cells #[.slice A b.length ca] 28)).heap[v105.heap.size + 1]? = some (.cells #[.slice A b.length ca] 28 (0, 0))) := ⟨by have := blk_new ((v105).alloc (.cells #[] 5)) (.cells #[.slice A b.length ca] 28); rw [alloc_size] at this; exact this⟩
          refine hK.out _ _ ?_ (fun hHeld => ?_)
          · trivial
          clear hK K
          (try simp only [List.getElem_toArray, List.getElem_cons_succ, List.getElem_cons_zero, Act.put, List.setIfInBounds_toArray, List.set_cons_zero, List.set_cons_succ])
          refine wpAnyH_ready (rs := [23]) (by kernel_rfl) (by simp) ?_
          refine AllReadyH.cons rfl (fun K hK => ?_) AllReadyH.nil
          go_simp
          have D126 := Aside0.mk (below_alloc D124.out (.cells #[.slice A kn ca, .slice none 0 0, .slice A2 n2 c2, .slice (some ⟨v105.heap.size, 0, none⟩) 0 0] 28))
          have R127 := Aside0.mk (blk_alloc R125.out (.cells #[.slice A kn ca, .slice none 0 0, .slice A2 n2 c2, .slice (some ⟨v105.heap.size, 0, none⟩) 0 0] 28))
          have R128 : Aside0 (((((v105).alloc (.cells #[] 5)).alloc (.cells #[.slice A b.length ca] 28)).alloc (.cells #[.slice A kn ca, .slice none 0 0, .slice A2 n2 c2, .slice (some ⟨v105.heap.size, 0, none⟩) 0 0] 28)).heap[v105.heap.size + 1 + 1]? = some (.cells #[.slice A kn ca, .slice none 0 0, .slice A2 n2 c2, .slice (some ⟨v105.heap.size, 0, none⟩) 0 0] 28 (0, 0))) := ⟨by have := blk_new (((v105).alloc (.cells #[] 5)).alloc (.cells #[.slice A b.length ca] 28)) (.cells #[.slice A kn ca, .slice none 0 0, .slice A2 n2 c2, .slice (some ⟨v105.heap.size, 0, none⟩) 0 0] 28); rw [alloc_size, alloc_size] at this; exact this⟩
          refine hK.out _ _ ?_ (fun hHeld => ?_)
          · trivial
          clear hK K
          (try simp only [List.getElem_toArray, List.getElem_cons_succ, List.getElem_cons_zero, Act.put, List.setIfInBounds_toArray, List.set_cons_zero, List.set_cons_succ])
          refine wpAnyH_ready (rs := [24]) (by kernel_rfl) (by simp) ?_
          refine AllReadyH.cons rfl (fun K hK => ?_) AllReadyH.nil
          go_simp
          go_at_call 8
          (with_reducible refine (K4.out _ _ _ R128.out D126.out).mono ?_)
          rintro x v129 ⟨rfl, hb1⟩
          have D130 := Aside0.mk (below_step D126.out hb1)
          have R131 := Aside0.mk ((hb1.block _ (Array.getElem?_eq_some_iff.1 R127.out).1).trans R127.out)
          clear hb1
          refine hK.out _ _ ?_ (fun hHeld => ?_)
          · trivial
          clear hK K
          (try simp only [List.getElem_toArray, List.getElem_cons_succ, List.getElem_cons_zero, Act.put, List.setIfInBounds_toArray, List.set_cons_zero, List.set_cons_succ])
          refine wpAnyH_ready (rs := [27]) (by kernel_rfl) (by simp) ?_
          refine AllReadyH.cons rfl (fun K hK => ?_) AllReadyH.nil
          go_simp
          go_at_call 8
          (with_reducible refine (K1.out _ _ R131.out D130.out).mono ?_)
          rintro x v132 ⟨rfl, hb1⟩
          have D133 := Aside0.mk (below_step D130.out hb1)
          clear hb1
          refine hK.out _ _ ?_ (fun hHeld => ?_)
          · trivial
          clear hK K
          (try simp only [List.getElem_toArray, List.getElem_cons_succ, List.getElem_cons_zero, Act.put, List.setIfInBounds_toArray, List.set_cons_zero, List.set_cons_succ])
          refine wpAnyH_take (i := 28) (v := ?_) rfl (by kernel_rfl) (by kernel_rfl) (by kernel_rfl) (fun _ _ _ h => h) (Or.inl ⟨by rfl, ?_⟩) (by trivial) ?_
          rotate_left
          · (intro w hSw; (try dsimp only at hSw); go_simp; try (with_reducible rfl))
          (try simp only [List.getElem_toArray, List.getElem_cons_succ, List.getElem_cons_zero, Act.put, List.setIfInBounds_toArray, List.set_cons_zero, List.set_cons_succ])
          refine wpAnyH_take (i := 29) (v := ?_) rfl (by kernel_rfl) (by kernel_rfl) (by kernel_rfl) (fun _ _ _ h => h) (Or.inl ⟨by rfl, ?_⟩) (by trivial) ?_
          rotate_left
          · (intro w hSw; (try dsimp only at hSw); go_simp; try (with_reducible rfl))
          (try simp only [List.getElem_toArray, List.getElem_cons_succ, List.getElem_cons_zero, Act.put, List.setIfInBounds_toArray, List.set_cons_zero, List.set_cons_succ])
          refine wpAnyH_take (i := 30) (v := ?_) rfl (by kernel_rfl) (by kernel_rfl) (by kernel_rfl) (fun _ _ _ h => h) (Or.inl ⟨by rfl, ?_⟩) (by trivial) ?_
          rotate_left
          · (intro w hSw; (try dsimp only at hSw); go_simp; try (with_reducible rfl))
          (try simp only [List.getElem_toArray, List.getElem_cons_succ, List.getElem_cons_zero, Act.put, List.setIfInBounds_toArray, List.set_cons_zero, List.set_cons_succ])
          refine wpAnyH_done (by kernel_rfl) ?_ _
          refine NoPanic.normal ?_
          (try simp only [List.getElem_toArray, List.getElem_cons_succ, List.getElem_cons_zero, Act.put, List.setIfInBounds_toArray, List.set_cons_zero, List.set_cons_succ])
          go_wp2_with fail
          go_ret
          exact ⟨by rfl, D133.out⟩
      · skip
        go_simp
        have D134 := Aside0.mk (below_alloc D106.out (.cells #[.slice A b.length ca] 28))
        have R135 : Aside0 (((v105).alloc (.cells #[.slice A b.length ca] 28)).heap[v105.heap.size]? = some (.cells #[.slice A b.length ca] 28 (0, 0))) := ⟨by have := blk_new (v105) (.cells #[.slice A b.length ca] 28); exact this⟩
        refine hK.out _ _ ?_ (fun hHeld => ?_)
        · trivial
        clear hK K
        (try simp only [List.getElem_toArray, List.getElem_cons_succ, List.getElem_cons_zero, Act.put, List.setIfInBounds_toArray, List.set_cons_zero, List.set_cons_succ])
        refine wpAnyH_ready (rs := [22]) (by kernel_rfl) (by simp) ?_
        refine AllReadyH.cons rfl (fun K hK => ?_) AllReadyH.nil
        go_simp
        have D136 := Aside0.mk (below_alloc D134.out (.cells #[] 5))
        have R137 := Aside0.mk (blk_alloc R135.out (.cells #[] 5))
        refine hK.out _ _ ?_ (fun hHeld => ?_)
        · trivial
        clear hK K
        (try simp only [List.getElem_toArray, List.getElem_cons_succ, List.getElem_cons_zero, Act.put, List.setIfInBounds_toArray, List.set_cons_zero, List.set_cons_succ])
        refine wpAnyH_ready (rs := [23]) (by kernel_rfl) (by simp) ?_
        refine AllReadyH.cons rfl (fun K hK => ?_) AllReadyH.nil
        go_simp
        have D138 := Aside0.mk (below_alloc D136.out (.cells #[.slice A kn ca, .slice none 0 0, .slice A2 n2 c2, .slice (some ⟨v105.heap.size + 1, 0, none⟩) 0 0] 28))
        have R139 := Aside0.mk (blk_alloc R137.out (.cells #[.slice A kn ca, .slice none 0 0, .slice A2 n2 c2, .slice (some ⟨v105.heap.size + 1, 0, none⟩) 0 0] 28))
        have R140 : Aside0 (((((v105).alloc (.cells #[.slice A b.length ca] 28)).alloc (.cells #[] 5)).alloc (.cells #[.slice A kn ca, .slice none 0 0, .slice A2 n2 c2, .slice (some ⟨v105.heap.size + 1, 0, none⟩) 0 0] 28)).heap[v105.heap.size + 1 + 1]? = some (.cells #[.slice A kn ca, .slice none 0 0, .slice A2 n2 c2, .slice (some ⟨v105.heap.size + 1, 0, none⟩) 0 0] 28 (0, 0))) := ⟨by have := blk_new (((v105).alloc (.cells #[.slice A b.length ca] 28)).alloc (.cells #[] 5)) (.cells #[.slice A kn ca, .slice none 0 0, .slice A2 n2 c2, .slice (some ⟨v105.heap.size + 1, 0, none⟩) 0 0] 28); rw [alloc_size, alloc_size] at this; exact this⟩
        refine hK.out _ _ ?_ (fun hHeld => ?_)
        · trivial
        clear hK K
        (try simp only [List.getElem_toArray, List.getElem_cons_succ, List.getElem_cons_zero, Act.put, List.setIfInBounds_toArray, List.set_cons_zero, List.set_cons_succ])
        refine wpAnyH_ready (rs := [24]) (by kernel_rfl) (by simp) ?_
        refine AllReadyH.cons rfl (fun K hK => ?_) AllReadyH.nil
        go_simp
        go_at_call 8
        (with_reducible refine (K4.out _ _ _ R140.out D138.out).mono ?_)
        rintro x v141 ⟨rfl, hb1⟩
        have D142 := Aside0.mk (below_step D138.out hb1)
        have R143 := Aside0.mk ((hb1.block _ (Array.getElem?_eq_some_iff.1 R139.out).1).trans R139.out)
        clear hb1
        refine hK.out _ _ ?_ (fun hHeld => ?_)
        · trivial
        clear hK K
        (try simp only [List.getElem_toArray, List.getElem_cons_succ, List.getElem_cons_zero, Act.put, List.setIfInBounds_toArray, List.set_cons_zero, List.set_cons_succ])
        refine wpAnyH_ready (rs := [27]) (by kernel_rfl) (by simp) ?_
        refine AllReadyH.cons rfl (fun K hK => ?_) AllReadyH.nil
        go_simp
        go_at_call 8
        (with_reducible refine (K1.out _ _ R143.out D142.out).mono ?_)
        rintro x v144 ⟨rfl, hb1⟩
        have D145 := Aside0.mk (below_step D142.out hb1)
        clear hb1
        refine hK.out _ _ ?_ (fun hHeld => ?_)
        · trivial
        clear hK K
        (try simp only [List.getElem_toArray, List.getElem_cons_succ, List.getElem_cons_zero, Act.put, List.setIfInBounds_toArray, List.set_cons_zero, List.set_cons_succ])
        refine wpAnyH_take (i := 28) (v := ?_) rfl (by kernel_rfl) (by kernel_rfl) (by kernel_rfl) (fun _ _ _ h => h) (Or.inl ⟨by rfl, ?_⟩) (by trivial) ?_
        rotate_left
        · (intro w hSw; (try dsimp only at hSw); go_simp; try (with_reducible rfl))
        (try simp only [List.getElem_toArray, List.getElem_cons_succ, List.getElem_cons_zero, Act.put, List.setIfInBounds_toArray, List.set_cons_zero, List.set_cons_succ])
        refine wpAnyH_take (i := 29) (v := ?_) rfl (by kernel_rfl) (by kernel_rfl) (by kernel_rfl) (fun _ _ _ h => h) (Or.inl ⟨by rfl, ?_⟩) (by trivial) ?_
        rotate_left
        · (intro w hSw; (try dsimp only at hSw); go_simp; try (with_reducible rfl))
        (try simp only [List.getElem_toArray, List.getElem_cons_succ, List.getElem_cons_zero, Act.put, List.setIfInBounds_toArray, List.set_cons_zero, List.set_cons_succ])
        refine wpAnyH_take (i := 30) (v := ?_) rfl (by kernel_rfl) (by kernel_rfl) (by kernel_rfl) (fun _ _ _ h => h) (Or.inl ⟨by rfl, ?_⟩) (by trivial) ?_
        rotate_left
        · (intro w hSw; (try dsimp only at hSw); go_simp; try (with_reducible rfl))
        (try simp only [List.getElem_toArray, List.getElem_cons_succ, List.getElem_cons_zero, Act.put, List.setIfInBounds_toArray, List.set_cons_zero, List.set_cons_succ])
        refine wpAnyH_done (by kernel_rfl) ?_ _
        refine NoPanic.normal ?_
        (try simp only [List.getElem_toArray, List.getElem_cons_succ, List.getElem_cons_zero, Act.put, List.setIfInBounds_toArray, List.set_cons_zero, List.set_cons_succ])
        go_wp2_with fail
        go_ret
        exact ⟨by rfl, D145.out⟩
  · have hl1 : ¬ (0 : Int) < (b.length : Int) := by omega
    obtain ⟨kn, hkn, hk⟩ : ∃ kn : Nat, (0 : Int) = (kn : Int) ∧ kn ≤ b.length := ⟨0, rfl, by omega⟩
    go_wp2_with fail
    clear hl1 hkn
    obtain ⟨i0, hi0, _, hsz, _⟩ := info_parts Libs.info5
    have hc1 := cut_to (P := Tryd.prog) 28 5 .i64 Tryd.underlying28 hi0 A b.length ca (kn : Int) (by omega) (by omega) hbc
    have hc2 := cut_from (P := Tryd.prog) 28 5 .i64 Tryd.underlying28 hi0 1 hsz A b.length ca (kn : Int) (by omega) (by omega)
    rw [Int.toNat_natCast] at hc1 hc2
    have I1 : InB W A ca (b.take kn) := ⟨Kd.C_take IB.out.C hk, by rw [List.length_take]; omega, IB.out.nil, bytes_take IB.out.bytes kn, by rw [List.length_take]; omega⟩
    have hcd := Kd.C_drop (m := kn) (c := ca) IB.out.C hk hbc
    have hnd : (if ca = kn then A else A.map (·.add (kn * 1))) = none → ca - kn = 0 := fun e => by
      split at e
      · rw [IB.out.nil e]; omega
      · cases hA : A with
        | none => rw [IB.out.nil hA]; omega
        | some a => rw [hA] at e; simp at e
    rw [show kn * (Kd.int .u8).sz = kn * 1 from rfl] at hcd
    generalize (if ca = kn then A else A.map (·.add (kn * 1))) = A2 at *
    have I2 : InB W A2 (ca - kn) (b.drop kn) := ⟨hcd, by rw [List.length_drop]; omega, hnd, bytes_drop IB.out.bytes kn, by rw [List.length_drop]; omega⟩
    have hl1 : (b.take kn).length = kn := by rw [List.length_take]; omega
    have hl2 : (b.drop kn).length = b.length - kn := List.length_drop
    have htd := List.take_append_drop kn b
    generalize b.take kn = b1 at *
    generalize b.drop kn = b2 at *
    generalize b.length - kn = n2 at *
    generalize ca - kn = c2 at *
    have KA := Aside0.mk (fun w' (h : Below W.heap.size W w') => awake_calls w' (Glob.below HG.out h))
    have K1 : Aside0 (∀ (w' : World) (q : Nat), w'.heap[q]? = some (.cells #[.slice A b.length ca] 28 (0, 0)) → Below W.heap.size W w' → Calls Tryd.prog 8 #[.slice (some ⟨q, 0, none⟩) 1 1] w' fun e w'' => e = .returned (.agg (nums .u8 (dig b)).toArray) ∧ Below w'.heap.size w' w'') := ⟨fun w' q hq h => rows_calls (ls := [b]) (Glob.below HG.out h) hq rfl (by simp) hbl (by omega) fun i l hi => by
      match i, hi with
      | 0, hi => obtain rfl : b = l := by simpa using hi
                 exact ⟨A, ca, rfl, IB.out.below h⟩
      | i + 1, hi => simp at hi⟩
    have K2 : Aside0 (∀ (w' : World) (q : Nat), w'.heap[q]? = some (.cells #[.slice A kn ca, .slice A2 n2 c2] 28 (0, 0)) → Below W.heap.size W w' → Calls Tryd.prog 8 #[.slice (some ⟨q, 0, none⟩) 2 2] w' fun e w'' => e = .returned (.agg (nums .u8 (dig b)).toArray) ∧ Below w'.heap.size w' w'') := ⟨fun w' q hq h => rows_calls (ls := [b1, b2]) (Glob.below HG.out h) hq rfl (by simpa using htd) hbl (by omega) fun i l hi => by
      match i, hi with
      | 0, hi => obtain rfl : b1 = l := by simpa using hi
                 exact ⟨A, ca, by rw [hl1]; rfl, I1.below h⟩
      | 1, hi => obtain rfl : b2 = l := by simpa using hi
                 exact ⟨A2, c2, by rw [hl2]; rfl, I2.below h⟩
      | i + 2, hi => simp at hi⟩
    have K4 : Aside0 (∀ (w' : World) (q z : Nat), w'.heap[q]? = some (.cells #[.slice A kn ca, .slice none 0 0, .slice A2 n2 c2, .slice (some ⟨z, 0, none⟩) 0 0] 28 (0, 0)) → Below W.heap.size W w' → Calls Tryd.prog 8 #[.slice (some ⟨q, 0, none⟩) 4 4] w' fun e w'' => e = .returned (.agg (nums .u8 (dig b)).toArray) ∧ Below w'.heap.size w' w'') := ⟨fun w' q z hq h => rows_calls (ls := [b1, [], b2, []]) (Glob.below HG.out h) hq rfl (by simpa using htd) hbl (by omega) fun i l hi => by
      match i, hi with
      | 0, hi => obtain rfl : b1 = l := by simpa using hi
                 exact ⟨A, ca, by rw [hl1]; rfl, I1.below h⟩
      | 1, hi => obtain rfl : [] = l := by simpa using hi
                 exact ⟨none, 0, rfl, InB.empty _ _ _ fun _ => rfl⟩
      | 2, hi => obtain rfl : b2 = l := by simpa using hi
                 exact ⟨A2, c2, by rw [hl2]; rfl, I2.below h⟩
      | 3, hi => obtain rfl : [] = l := by simpa using hi
                 exact ⟨some ⟨z, 0, none⟩, 0, rfl, InB.empty _ _ _ fun e => by cases e⟩
      | i + 4, hi => simp at hi⟩
    have hdl := dig_length b
    have hdb := dig_bytes b
    have qb := fun w => same hdl hdb w
    generalize dig b = E at *
    have D0 : Aside0 (Below W.heap.size W W.drew) := ⟨(Below.refl _ _).drew⟩
    clear hdl hdb hcd hnd I1 I2 hl1 hl2 htd
    refine wp_region_noPanic ?_
    refine wp_region_held_drew (S := fun _ => True) (by kernel_rfl) ?_ (fun hHeld => ?_)
    · trivial
    refine wpAnyH_ready (rs := [0]) (by kernel_rfl) (by simp) ?_
    refine AllReadyH.cons rfl (fun K hK => ?_) AllReadyH.nil
    go_simp
    go_at_call 7
    (with_reducible refine (KA.out _ D0.out).mono ?_)
    rintro x v1 ⟨rfl, hb1⟩
    have D2 := Aside0.mk (below_step D0.out hb1)
    clear hb1
    refine hK.out _ _ ?_ (fun hHeld => ?_)
    · trivial
    clear hK K
    (try simp only [List.getElem_toArray, List.getElem_cons_succ, List.getElem_cons_zero, Act.put, List.setIfInBounds_toArray, List.set_cons_zero, List.set_cons_succ])
    refine wpAnyH_take (i := 1) (v := ?_) rfl (by kernel_rfl) (by kernel_rfl) (by kernel_rfl) (fun _ _ _ h => h) (Or.inl ⟨by rfl, ?_⟩) (by trivial) ?_
    rotate_left
    · (intro w hSw; (try dsimp only at hSw); go_simp; try (with_reducible rfl))
    (try simp only [List.getElem_toArray, List.getElem_cons_succ, List.getElem_cons_zero, Act.put, List.setIfInBounds_toArray, List.set_cons_zero, List.set_cons_succ])
    refine wpAnyH_take (i := 2) (v := ?_) rfl (by kernel_rfl) (by kernel_rfl) (by kernel_rfl) (fun _ _ _ h => h) (Or.inl ⟨by rfl, ?_⟩) (by trivial) ?_
    rotate_left
    · (intro w hSw; (try dsimp only at hSw); go_simp; try (with_reducible rfl))
    (try simp only [List.getElem_toArray, List.getElem_cons_succ, List.getElem_cons_zero, Act.put, List.setIfInBounds_toArray, List.set_cons_zero, List.set_cons_succ])
    refine wpAnyH_take (i := 3) (v := ?_) rfl (by kernel_rfl) (by kernel_rfl) (by kernel_rfl) (fun _ _ _ h => h) (Or.inl ⟨by rfl, ?_⟩) (by trivial) ?_
    rotate_left
    · (intro w hSw; (try dsimp only at hSw); go_simp; try (with_reducible rfl))
    (try simp only [List.getElem_toArray, List.getElem_cons_succ, List.getElem_cons_zero, Act.put, List.setIfInBounds_toArray, List.set_cons_zero, List.set_cons_succ])
    refine wpAnyH_take (i := 4) (v := ?_) rfl (by kernel_rfl) (by kernel_rfl) (by kernel_rfl) (fun _ _ _ h => h) (Or.inl ⟨by rfl, ?_⟩) (by trivial) ?_
    rotate_left
    · (intro w hSw; (try dsimp only at hSw); go_simp; try (with_reducible rfl))
    (try simp only [List.getElem_toArray, List.getElem_cons_succ, List.getElem_cons_zero, Act.put, List.setIfInBounds_toArray, List.set_cons_zero, List.set_cons_succ])
    refine wpAnyH_take (i := 5) (v := ?_) rfl (by kernel_rfl) (by kernel_rfl) (by kernel_rfl) (fun _ _ _ h => h) (Or.inl ⟨by rfl, ?_⟩) (by trivial) ?_
    rotate_left
    · (intro w hSw; (try dsimp only at hSw); go_simp; try (with_reducible rfl))
    (try simp only [List.getElem_toArray, List.getElem_cons_succ, List.getElem_cons_zero, Act.put, List.setIfInBounds_toArray, List.set_cons_zero, List.set_cons_succ])
    refine wpAnyH_take (i := 6) (v := ?_) rfl (by kernel_rfl) (by kernel_rfl) (by kernel_rfl) (fun _ _ _ h => h) (Or.inl ⟨by rfl, ?_⟩) (by trivial) ?_
    rotate_left
    · (intro w hSw; (try dsimp only at hSw); go_simp; try (with_reducible rfl))
    (try simp only [List.getElem_toArray, List.getElem_cons_succ, List.getElem_cons_zero, Act.put, List.setIfInBounds_toArray, List.set_cons_zero, List.set_cons_succ])
    refine wpAnyH_take (i := 7) (v := ?_) rfl (by kernel_rfl) (by kernel_rfl) (by kernel_rfl) (fun _ _ _ h => h) (Or.inl ⟨by rfl, ?_⟩) (by trivial) ?_
    rotate_left
    · (intro w hSw; (try dsimp only at hSw); go_simp; try (with_reducible rfl))
    (try simp only [List.getElem_toArray, List.getElem_cons_succ, List.getElem_cons_zero, Act.put, List.setIfInBounds_toArray, List.set_cons_zero, List.set_cons_succ])
    refine wpAnyH_take (i := 10) (v := ?_) rfl (by kernel_rfl) (by kernel_rfl) (by kernel_rfl) (fun _ _ _ h => h) (Or.inl ⟨by rfl, ?_⟩) (by trivial) ?_
    rotate_left
    · (intro w hSw; (try dsimp only at hSw); go_simp; try (with_reducible rfl))
    (try simp only [List.getElem_toArray, List.getElem_cons_succ, List.getElem_cons_zero, Act.put, List.setIfInBounds_toArray, List.set_cons_zero, List.set_cons_succ])
    refine wpAnyH_ready (rs := [8, 11]) (by kernel_rfl) (by simp) ?_
    refine AllReadyH.cons rfl (fun K hK => ?_) (AllReadyH.cons rfl (fun K hK => ?_) AllReadyH.nil)
    · skip
      go_simp
      have D3 := Aside0.mk (below_alloc D2.out (.cells #[.slice A kn ca, .slice A2 n2 c2] 28))
      have R4 : Aside0 (((v1).alloc (.cells #[.slice A kn ca, .slice A2 n2 c2] 28)).heap[v1.heap.size]? = some (.cells #[.slice A kn ca, .slice A2 n2 c2] 28 (0, 0))) := ⟨by have := blk_new (v1) (.cells #[.slice A kn ca, .slice A2 n2 c2] 28); exact this⟩
      refine hK.out _ _ ?_ (fun hHeld => ?_)
      · trivial
      clear hK K
      (try simp only [List.getElem_toArray, List.getElem_cons_succ, List.getElem_cons_zero, Act.put, List.setIfInBounds_toArray, List.set_cons_zero, List.set_cons_succ])
      refine wpAnyH_ready (rs := [9, 11]) (by kernel_rfl) (by simp) ?_
      refine AllReadyH.cons rfl (fun K hK => ?_) (AllReadyH.cons rfl (fun K hK => ?_) AllReadyH.nil)
      · skip
        go_simp
        go_at_call 8
        (with_reducible refine (K2.out _ _ R4.out D3.out).mono ?_)
        rintro x v5 ⟨rfl, hb1⟩
        have D6 := Aside0.mk (below_step D3.out hb1)
        clear hb1
        refine hK.out _ _ ?_ (fun hHeld => ?_)
        · trivial
        clear hK K
        (try simp only [List.getElem_toArray, List.getElem_cons_succ, List.getElem_cons_zero, Act.put, List.setIfInBounds_toArray, List.set_cons_zero, List.set_cons_succ])
        refine wpAnyH_ready (rs := [11]) (by kernel_rfl) (by simp) ?_
        refine AllReadyH.cons rfl (fun K hK => ?_) AllReadyH.nil
        go_simp
        have D7 := Aside0.mk (below_alloc D6.out (.cells #[.slice A b.length ca] 28))
        have R8 : Aside0 (((v5).alloc (.cells #[.slice A b.length ca] 28)).heap[v5.heap.size]? = some (.cells #[.slice A b.length ca] 28 (0, 0))) := ⟨by have := blk_new (v5) (.cells #[.slice A b.length ca] 28); exact this⟩
        refine hK.out _ _ ?_ (fun hHeld => ?_)
        · trivial
        clear hK K
        (try simp only [List.getElem_toArray, List.getElem_cons_succ, List.getElem_cons_zero, Act.put, List.setIfInBounds_toArray, List.set_cons_zero, List.set_cons_succ])
        refine wpAnyH_ready (rs := [12]) (by kernel_rfl) (by simp) ?_
        refine AllReadyH.cons rfl (fun K hK => ?_) AllReadyH.nil
        go_simp
        go_at_call 8
        (with_reducible refine (K1.out _ _ R8.out D7.out).mono ?_)
        rintro x v9 ⟨rfl, hb1⟩
        have D10 := Aside0.mk (below_step D7.out hb1)
        clear hb1
        refine hK.out _ _ ?_ (fun hHeld => ?_)
        · trivial
        clear hK K
        (try simp only [List.getElem_toArray, List.getElem_cons_succ, List.getElem_cons_zero, Act.put, List.setIfInBounds_toArray, List.set_cons_zero, List.set_cons_succ])
        refine wpAnyH_take (i := 13) (v := ?_) rfl (by kernel_rfl) (by kernel_rfl) (by kernel_rfl) (fun _ _ _ h => h) (Or.inl ⟨by rfl, ?_⟩) (by trivial) ?_
        rotate_left
        · (intro w hSw; (try dsimp only at hSw); go_simp; try (with_reducible rfl))
        (try simp only [List.getElem_toArray, List.getElem_cons_succ, List.getElem_cons_zero, Act.put, List.setIfInBounds_toArray, List.set_cons_zero, List.set_cons_succ])
        refine wpAnyH_take (i := 14) (v := ?_) rfl (by kernel_rfl) (by kernel_rfl) (by kernel_rfl) (fun _ _ _ h => h) (Or.inl ⟨by rfl, ?_⟩) (by trivial) ?_
        rotate_left
        · (intro w hSw; (try dsimp only at hSw); go_simp; try (with_reducible rfl))
        (try simp only [List.getElem_toArray, List.getElem_cons_succ, List.getElem_cons_zero, Act.put, List.setIfInBounds_toArray, List.set_cons_zero, List.set_cons_succ])
        refine wpAnyH_take (i := 15) (v := ?_) rfl (by kernel_rfl) (by kernel_rfl) (by kernel_rfl) (fun _ _ _ h => h) (Or.inl ⟨by rfl, ?_⟩) (by trivial) ?_
        rotate_left
        · (intro w hSw; (try dsimp only at hSw); go_simp; try (with_reducible rfl))
        (try simp only [List.getElem_toArray, List.getElem_cons_succ, List.getElem_cons_zero, Act.put, List.setIfInBounds_toArray, List.set_cons_zero, List.set_cons_succ])
        refine wpAnyH_take (i := 16) (v := ?_) rfl (by kernel_rfl) (by kernel_rfl) (by kernel_rfl) (fun _ _ _ h => h) (Or.inl ⟨by rfl, ?_⟩) (by trivial) ?_
        rotate_left
        · (intro w hSw; (try dsimp only at hSw); go_simp; try (with_reducible rfl))
        (try simp only [List.getElem_toArray, List.getElem_cons_succ, List.getElem_cons_zero, Act.put, List.setIfInBounds_toArray, List.set_cons_zero, List.set_cons_succ])
        refine wpAnyH_take (i := 17) (v := ?_) rfl (by kernel_rfl) (by kernel_rfl) (by kernel_rfl) (fun _ _ _ h => h) (Or.inl ⟨by rfl, ?_⟩) (by trivial) ?_
        rotate_left
        · (intro w hSw; (try dsimp only at hSw); go_simp; try (with_reducible rfl))
        (try simp only [List.getElem_toArray, List.getElem_cons_succ, List.getElem_cons_zero, Act.put, List.setIfInBounds_toArray, List.set_cons_zero, List.set_cons_succ])
        refine wpAnyH_take (i := 18) (v := ?_) rfl (by kernel_rfl) (by kernel_rfl) (by kernel_rfl) (fun _ _ _ h => h) (Or.inl ⟨by rfl, ?_⟩) (by trivial) ?_
        rotate_left
        · (intro w hSw; (try dsimp only at hSw); go_simp; try (with_reducible rfl))
        (try simp only [List.getElem_toArray, List.getElem_cons_succ, List.getElem_cons_zero, Act.put, List.setIfInBounds_toArray, List.set_cons_zero, List.set_cons_succ])
        refine wpAnyH_take (i := 19) (v := ?_) rfl (by kernel_rfl) (by kernel_rfl) (by kernel_rfl) (fun _ _ _ h => h) (Or.inl ⟨by rfl, ?_⟩) (by trivial) ?_
        rotate_left
        · (intro w hSw; (try dsimp only at hSw); go_simp; try (with_reducible rfl))
        (try simp only [List.getElem_toArray, List.getElem_cons_succ, List.getElem_cons_zero, Act.put, List.setIfInBounds_toArray, List.set_cons_zero, List.set_cons_succ])
        refine wpAnyH_take (i := 20) (v := ?_) rfl (by kernel_rfl) (by kernel_rfl) (by kernel_rfl) (fun _ _ _ h => h) (Or.inl ⟨by rfl, ?_⟩) (by trivial) ?_
        rotate_left
        · (intro w hSw; (try dsimp only at hSw); go_simp; try (with_reducible rfl))
        (try simp only [List.getElem_toArray, List.getElem_cons_succ, List.getElem_cons_zero, Act.put, List.setIfInBounds_toArray, List.set_cons_zero, List.set_cons_succ])
        refine wpAnyH_take (i := 21) (v := ?_) rfl (by kernel_rfl) (by kernel_rfl) (by kernel_rfl) (fun _ _ _ h => h) (Or.inl ⟨by rfl, ?_⟩) (by trivial) ?_
        rotate_left
        · (intro w hSw; (try dsimp only at hSw); go_simp; try (with_reducible rfl))
        (try simp only [List.getElem_toArray, List.getElem_cons_succ, List.getElem_cons_zero, Act.put, List.setIfInBounds_toArray, List.set_cons_zero, List.set_cons_succ])
        refine wpAnyH_take (i := 25) (v := ?_) rfl (by kernel_rfl) (by kernel_rfl) (by kernel_rfl) (fun _ _ _ h => h) (Or.inl ⟨by rfl, ?_⟩) (by trivial) ?_
        rotate_left
        · (intro w hSw; (try dsimp only at hSw); go_simp; try (with_reducible rfl))
        (try simp only [List.getElem_toArray, List.getElem_cons_succ, List.getElem_cons_zero, Act.put, List.setIfInBounds_toArray, List.set_cons_zero, List.set_cons_succ])
        refine wpAnyH_ready (rs := [22, 26]) (by kernel_rfl) (by simp) ?_
        refine AllReadyH.cons rfl (fun K hK => ?_) (AllReadyH.cons rfl (fun K hK => ?_) AllReadyH.nil)
        · skip
          go_simp
          have D11 := Aside0.mk (below_alloc D10.out (.cells #[] 5))
          refine hK.out _ _ ?_ (fun hHeld => ?_)
          · trivial
          clear hK K
          (try simp only [List.getElem_toArray, List.getElem_cons_succ, List.getElem_cons_zero, Act.put, List.setIfInBounds_toArray, List.set_cons_zero, List.set_cons_succ])
          refine wpAnyH_ready (rs := [23, 26]) (by kernel_rfl) (by simp) ?_
          refine AllReadyH.cons rfl (fun K hK => ?_) (AllReadyH.cons rfl (fun K hK => ?_) AllReadyH.nil)
          · skip
            go_simp
            have D12 := Aside0.mk (below_alloc D11.out (.cells #[.slice A kn ca, .slice none 0 0, .slice A2 n2 c2, .slice (some ⟨v9.heap.size, 0, none⟩) 0 0] 28))
            have R13 : Aside0 ((((v9).alloc (.cells #[] 5)).alloc (.cells #[.slice A kn ca, .slice none 0 0, .slice A2 n2 c2, .slice (some ⟨v9.heap.size, 0, none⟩) 0 0] 28)).heap[v9.heap.size + 1]? = some (.cells #[.slice A kn ca, .slice none 0 0, .slice A2 n2 c2, .slice (some ⟨v9.heap.size, 0, none⟩) 0 0] 28 (0, 0))) := ⟨by have := blk_new ((v9).alloc (.cells #[] 5)) (.cells #[.slice A kn ca, .slice none 0 0, .slice A2 n2 c2, .slice (some ⟨v9.heap.size, 0, none⟩) 0 0] 28); rw [alloc_size] at this; exact this⟩
            refine hK.out _ _ ?_ (fun hHeld => ?_)
            · trivial
            clear hK K
            (try simp only [List.getElem_toArray, List.getElem_cons_succ, List.getElem_cons_zero, Act.put, List.setIfInBounds_toArray, List.set_cons_zero, List.set_cons_succ])
            refine wpAnyH_ready (rs := [24, 26]) (by kernel_rfl) (by simp) ?_
            refine AllReadyH.cons rfl (fun K hK => ?_) (AllReadyH.cons rfl (fun K hK => ?_) AllReadyH.nil)
            · skip
              go_simp
              go_at_call 8
              (with_reducible refine (K4.out _ _ _ R13.out D12.out).mono ?_)
              rintro x v14 ⟨rfl, hb1⟩
              have D15 := Aside0.mk (below_step D12.out hb1)
              clear hb1
              refine hK.out _ _ ?_ (fun hHeld => ?_)
              · trivial
              clear hK K
              (try simp only [List.getElem_toArray, List.getElem_cons_succ, List.getElem_cons_zero, Act.put, List.setIfInBounds_toArray, List.set_cons_zero, List.set_cons_succ])
              refine wpAnyH_ready (rs := [26]) (by kernel_rfl) (by simp) ?_
              refine AllReadyH.cons rfl (fun K hK => ?_) AllReadyH.nil
              go_simp
              have D16 := Aside0.mk (below_alloc D15.out (.cells #[.slice A b.length ca] 28))
              have R17 : Aside0 (((v14).alloc (.cells #[.slice A b.length ca] 28)).heap[v14.heap.size]? = some (.cells #[.slice A b.length ca] 28 (0, 0))) := ⟨by have := blk_new (v14) (.cells #[.slice A b.length ca] 28); exact this⟩
              refine hK.out _ _ ?_ (fun hHeld => ?_)
              · trivial
              clear hK K
              (try simp only [List.getElem_toArray, List.getElem_cons_succ, List.getElem_cons_zero, Act.put, List.setIfInBounds_toArray, List.set_cons_zero, List.set_cons_succ])
              refine wpAnyH_ready (rs := [27]) (by kernel_rfl) (by simp) ?_
              refine AllReadyH.cons rfl (fun K hK => ?_) AllReadyH.nil
              go_simp
              go_at_call 8
              (with_reducible refine (K1.out _ _ R17.out D16.out).mono ?_)
              rintro x v18 ⟨rfl, hb1⟩
              have D19 := Aside0.mk (below_step D16.out hb1)
              clear hb1
              refine hK.out _ _ ?_ (fun hHeld => ?_)
              · trivial
              clear hK K
              (try simp only [List.getElem_toArray, List.getElem_cons_succ, List.getElem_cons_zero, Act.put, List.setIfInBounds_toArray, List.set_cons_zero, List.set_cons_succ])
              refine wpAnyH_take (i := 28) (v := ?_) rfl (by kernel_rfl) (by kernel_rfl) (by kernel_rfl) (fun _ _ _ h => h) (Or.inl ⟨by rfl, ?_⟩) (by trivial) ?_
              rotate_left
              · (intro w hSw; (try dsimp only at hSw); go_simp; try (with_reducible rfl))
              (try simp only [List.getElem_toArray, List.getElem_cons_succ, List.getElem_cons_zero, Act.put, List.setIfInBounds_toArray, List.set_cons_zero, List.set_cons_succ])
              refine wpAnyH_take (i := 29) (v := ?_) rfl (by kernel_rfl) (by kernel_rfl) (by kernel_rfl) (fun _ _ _ h => h) (Or.inl ⟨by rfl, ?_⟩) (by trivial) ?_
              rotate_left
              · (intro w hSw; (try dsimp only at hSw); go_simp; try (with_reducible rfl))
              (try simp only [List.getElem_toArray, List.getElem_cons_succ, List.getElem_cons_zero, Act.put, List.setIfInBounds_toArray, List.set_cons_zero, List.set_cons_succ])
              refine wpAnyH_take (i := 30) (v := ?_) rfl (by kernel_rfl) (by kernel_rfl) (by kernel_rfl) (fun _ _ _ h => h) (Or.inl ⟨by rfl, ?_⟩) (by trivial) ?_
              rotate_left
              · (intro w hSw; (try dsimp only at hSw); go_simp; try (with_reducible rfl))
              (try simp only [List.getElem_toArray, List.getElem_cons_succ, List.getElem_cons_zero, Act.put, List.setIfInBounds_toArray, List.set_cons_zero, List.set_cons_succ])
              refine wpAnyH_done (by kernel_rfl) ?_ _
              refine NoPanic.normal ?_
              (try simp only [List.getElem_toArray, List.getElem_cons_succ, List.getElem_cons_zero, Act.put, List.setIfInBounds_toArray, List.set_cons_zero, List.set_cons_succ])
              go_wp2_with fail
              go_ret
              exact ⟨by rfl, D19.out⟩
            · skip
              go_simp
              have D20 := Aside0.mk (below_alloc D12.out (.cells #[.slice A b.length ca] 28))
              have R21 := Aside0.mk (blk_alloc R13.out (.cells #[.slice A b.length ca] 28))
              have R22 : Aside0 (((((v9).alloc (.cells #[] 5)).alloc (.cells #[.slice A kn ca, .slice none 0 0, .slice A2 n2 c2, .slice (some ⟨v9.heap.size, 0, none⟩) 0 0] 28)).alloc (.cells #[.slice A b.length ca] 28)).heap[v9.heap.size + 1 + 1]? = some (.cells #[.slice A b.length ca] 28 (0, 0))) := ⟨by have := blk_new (((v9).alloc (.cells #[] 5)).alloc (.cells #[.slice A kn ca, .slice none 0 0, .slice A2 n2 c2, .slice (some ⟨v9.heap.size, 0, none⟩) 0 0] 28)) (.cells #[.slice A b.length ca] 28); rw [alloc_size, alloc_size] at this; exact this⟩
              refine hK.out _ _ ?_ (fun hHeld => ?_)
              · trivial
              clear hK K
              (try simp only [List.getElem_toArray, List.getElem_cons_succ, List.getElem_cons_zero, Act.put, List.setIfInBounds_toArray, List.set_cons_zero, List.set_cons_succ])
              refine wpAnyH_ready (rs := [24]) (by kernel_rfl) (by simp) ?_
              refine AllReadyH.cons rfl (fun K hK => ?_) AllReadyH.nil
              go_simp
              go_at_call 8
              (with_reducible refine (K4.out _ _ _ R21.out D20.out).mono ?_)
              rintro x v23 ⟨rfl, hb1⟩
              have D24 := Aside0.mk (below_step D20.out hb1)
              have R25 := Aside0.mk ((hb1.block _ (Array.getElem?_eq_some_iff.1 R22.out).1).trans R22.out)
              clear hb1
              refine hK.out _ _ ?_ (fun hHeld => ?_)
              · trivial
              clear hK K
              (try simp only [List.getElem_toArray, List.getElem_cons_succ, List.getElem_cons_zero, Act.put, List.setIfInBounds_toArray, List.set_cons_zero, List.set_cons_succ])
              refine wpAnyH_ready (rs := [27]) (by kernel_rfl) (by simp) ?_
              refine AllReadyH.cons rfl (fun K hK => ?_) AllReadyH.nil
              go_simp
              go_at_call 8
              (with_reducible refine (K1.out _ _ R25.out D24.out).mono ?_)
              rintro x v26 ⟨rfl, hb1⟩
              have D27 := Aside0.mk (below_step D24.out hb1)
              clear hb1
              refine hK.out _ _ ?_ (fun hHeld => ?_)
              · trivial
              clear hK K
              (try simp only [List.getElem_toArray, List.getElem_cons_succ, List.getElem_cons_zero, Act.put, List.setIfInBounds_toArray, List.set_cons_zero, List.set_cons_succ])
              refine wpAnyH_take (i := 28) (v := ?_) rfl (by kernel_rfl) (by kernel_rfl) (by kernel_rfl) (fun _ _ _ h => h) (Or.inl ⟨by rfl, ?_⟩) (by trivial) ?_
              rotate_left
              · (intro w hSw; (try dsimp only at hSw); go_simp; try (with_reducible rfl))
              (try simp only [List.getElem_toArray, List.getElem_cons_succ, List.getElem_cons_zero, Act.put, List.setIfInBounds_toArray, List.set_cons_zero, List.set_cons_succ])
              refine wpAnyH_take (i := 29) (v := ?_) rfl (by kernel_rfl) (by kernel_rfl) (by kernel_rfl) (fun _ _ _ h => h) (Or.inl ⟨by rfl, ?_⟩) (by trivial) ?_
              rotate_left
              · (intro w hSw; (try dsimp only at hSw); go_simp; try (with_reducible rfl))
              (try simp only [List.getElem_toArray, List.getElem_cons_succ, List.getElem_cons_zero, Act.put, List.setIfInBounds_toArray, List.set_cons_zero, List.set_cons_succ])
              refine wpAnyH_take (i := 30) (v := ?_) rfl (by kernel_rfl) (by kernel_rfl) (by kernel_rfl) (fun _ _ _ h => h) (Or.inl ⟨by rfl, ?_⟩) (by trivial) ?_
              rotate_left
              · (intro w hSw; (try dsimp only at hSw); go_simp; try (with_reducible rfl))
              (try simp only [List.getElem_toArray, List.getElem_cons_succ, List.getElem_cons_zero, Act.put, List.setIfInBounds_toArray, List.set_cons_zero, List.set_cons_succ])
              refine wpAnyH_done (by kernel_rfl) ?_ _
              refine NoPanic.normal ?_
              (try simp only [List.getElem_toArray, List.getElem_cons_succ, List.getElem_cons_zero, Act.put, List.setIfInBounds_toArray, List.set_cons_zero, List.set_cons_succ])
              go_wp2_with fail
              go_ret
              exact ⟨by rfl, D27.out⟩
          · skip
            go_simp
            have D28 := Aside0.mk (below_alloc D11.out (.cells #[.slice A b.length ca] 28))
            have R29 : Aside0 ((((v9).alloc (.cells #[] 5)).alloc (.cells #[.slice A b.length ca] 28)).heap[v9.heap.size + 1]? = some (.cells #[.slice A b.length ca] 28 (0, 0))) := ⟨by have := blk_new ((v9).alloc (.cells #[] 5)) (.cells #[.slice A b.length ca] 28); rw [alloc_size] at this; exact this⟩
            refine hK.out _ _ ?_ (fun hHeld => ?_)
            · trivial
            clear hK K
            (try simp only [List.getElem_toArray, List.getElem_cons_succ, List.getElem_cons_zero, Act.put, List.setIfInBounds_toArray, List.set_cons_zero, List.set_cons_succ])
            refine wpAnyH_ready (rs := [23]) (by kernel_rfl) (by simp) ?_
            refine AllReadyH.cons rfl (fun K hK => ?_) AllReadyH.nil
            go_simp
            have D30 := Aside0.mk (below_alloc D28.out (.cells #[.slice A kn ca, .slice none 0 0, .slice A2 n2 c2, .slice (some ⟨v9.heap.size, 0, none⟩) 0 0] 28))
            have R31 := Aside0.mk (blk_alloc R29.out (.cells #[.slice A kn ca, .slice none 0 0, .slice A2 n2 c2, .slice (some ⟨v9.heap.size, 0, none⟩) 0 0] 28))
            have R32 : Aside0 (((((v9).alloc (.cells #[] 5)).alloc (.cells #[.slice A b.length ca] 28)).alloc (.cells #[.slice A kn ca, .slice none 0 0, .slice A2 n2 c2, .slice (some ⟨v9.heap.size, 0, none⟩) 0 0] 28)).heap[v9.heap.size + 1 + 1]? = some (.cells #[.slice A kn ca, .slice none 0 0, .slice A2 n2 c2, .slice (some ⟨v9.heap.size, 0, none⟩) 0 0] 28 (0, 0))) := ⟨by have := blk_new (((v9).alloc (.cells #[] 5)).alloc (.cells #[.slice A b.length ca] 28)) (.cells #[.slice A kn ca, .slice none 0 0, .slice A2 n2 c2, .slice (some ⟨v9.heap.size, 0, none⟩) 0 0] 28); rw [alloc_size, alloc_size] at this; exact this⟩
            refine hK.out _ _ ?_ (fun hHeld => ?_)
            · trivial
            clear hK K
            (try simp only [List.getElem_toArray, List.getElem_cons_succ, List.getElem_cons_zero, Act.put, List.setIfInBounds_toArray, List.set_cons_zero, List.set_cons_succ])
            refine wpAnyH_ready (rs := [24]) (by kernel_rfl) (by simp) ?_
            refine AllReadyH.cons rfl (fun K hK => ?_) AllReadyH.nil
            go_simp
            go_at_call 8
            (with_reducible refine (K4.out _ _ _ R32.out D30.out).mono ?_)
            rintro x v33 ⟨rfl, hb1⟩
            have D34 := Aside0.mk (below_step D30.out hb1)
            have R35 := Aside0.mk ((hb1.block _ (Array.getElem?_eq_some_iff.1 R31.out).1).trans R31.out)
            clear hb1
            refine hK.out _ _ ?_ (fun hHeld => ?_)
            · trivial
            clear hK K
            (try simp only [List.getElem_toArray, List.getElem_cons_succ, List.getElem_cons_zero, Act.put, List.setIfInBounds_toArray, List.set_cons_zero, List.set_cons_succ])
            refine wpAnyH_ready (rs := [27]) (by kernel_rfl) (by simp) ?_
            refine AllReadyH.cons rfl (fun K hK => ?_) AllReadyH.nil
            go_simp
            go_at_call 8
            (with_reducible refine (K1.out _ _ R35.out D34.out).mono ?_)
            rintro x v36 ⟨rfl, hb1⟩
            have D37 := Aside0.mk (below_step D34.out hb1)
            clear hb1
            refine hK.out _ _ ?_ (fun hHeld => ?_)
            · trivial
            clear hK K
            (try simp only [List.getElem_toArray, List.getElem_cons_succ, List.getElem_cons_zero, Act.put, List.setIfInBounds_toArray, List.set_cons_zero, List.set_cons_succ])
            refine wpAnyH_take (i := 28) (v := ?_) rfl (by kernel_rfl) (by kernel_rfl) (by kernel_rfl) (fun _ _ _ h => h) (Or.inl ⟨by rfl, ?_⟩) (by trivial) ?_
            rotate_left
            · (intro w hSw; (try dsimp only at hSw); go_simp; try (with_reducible rfl))
            (try simp only [List.getElem_toArray, List.getElem_cons_succ, List.getElem_cons_zero, Act.put, List.setIfInBounds_toArray, List.set_cons_zero, List.set_cons_succ])
            refine wpAnyH_take (i := 29) (v := ?_) rfl (by kernel_rfl) (by kernel_rfl) (by kernel_rfl) (fun _ _ _ h => h) (Or.inl ⟨by rfl, ?_⟩) (by trivial) ?_
            rotate_left
            · (intro w hSw; (try dsimp only at hSw); go_simp; try (with_reducible rfl))
            (try simp only [List.getElem_toArray, List.getElem_cons_succ, List.getElem_cons_zero, Act.put, List.setIfInBounds_toArray, List.set_cons_zero, List.set_cons_succ])
            refine wpAnyH_take (i := 30) (v := ?_) rfl (by kernel_rfl) (by kernel_rfl) (by kernel_rfl) (fun _ _ _ h => h) (Or.inl ⟨by rfl, ?_⟩) (by trivial) ?_
            rotate_left
            · (intro w hSw; (try dsimp only at hSw); go_simp; try (with_reducible rfl))
            (try simp only [List.getElem_toArray, List.getElem_cons_succ, List.getElem_cons_zero, Act.put, List.setIfInBounds_toArray, List.set_cons_zero, List.set_cons_succ])
            refine wpAnyH_done (by kernel_rfl) ?_ _
            refine NoPanic.normal ?_
            (try simp only [List.getElem_toArray, List.getElem_cons_succ, List.getElem_cons_zero, Act.put, List.setIfInBounds_toArray, List.set_cons_zero, List.set_cons_succ])
            go_wp2_with fail
            go_ret
            exact ⟨by rfl, D37.out⟩
        · skip
          go_simp
          have D38 := Aside0.mk (below_alloc D10.out (.cells #[.slice A b.length ca] 28))
          have R39 : Aside0 (((v9).alloc (.cells #[.slice A b.length ca] 28)).heap[v9.heap.size]? = some (.cells #[.slice A b.length ca] 28 (0, 0))) := ⟨by have := blk_new (v9) (.cells #[.slice A b.length ca] 28); exact this⟩
          refine hK.out _ _ ?_ (fun hHeld => ?_)
          · trivial
          clear hK K
          (try simp only [List.getElem_toArray, List.getElem_cons_succ, List.getElem_cons_zero, Act.put, List.setIfInBounds_toArray, List.set_cons_zero, List.set_cons_succ])
          refine wpAnyH_ready (rs := [22]) (by kernel_rfl) (by simp) ?_
          refine AllReadyH.cons rfl (fun K hK => ?_) AllReadyH.nil
          go_simp
          have D40 := Aside0.mk (below_alloc D38.out (.cells #[] 5))
          have R41 := Aside0.mk (blk_alloc R39.out (.cells #[] 5))
          refine hK.out _ _ ?_ (fun hHeld => ?_)
          · trivial
          clear hK K
          (try simp only [List.getElem_toArray, List.getElem_cons_succ, List.getElem_cons_zero, Act.put, List.setIfInBounds_toArray, List.set_cons_zero, List.set_cons_succ])
          refine wpAnyH_ready (rs := [23]) (by kernel_rfl) (by simp) ?_
          refine AllReadyH.cons rfl (fun K hK => ?_) AllReadyH.nil
          go_simp
          have D42 := Aside0.mk (below_alloc D40.out (.cells #[.slice A kn ca, .slice none 0 0, .slice A2 n2 c2, .slice (some ⟨v9.heap.size + 1, 0, none⟩) 0 0] 28))
          have R43 := Aside0.mk (blk_alloc R41.out (.cells #[.slice A kn ca, .slice none 0 0, .slice A2 n2 c2, .slice (some ⟨v9.heap.size + 1, 0, none⟩) 0 0] 28))
          have R44 : Aside0 (((((v9).alloc (.cells #[.slice A b.length ca] 28)).alloc (.cells #[] 5)).alloc (.cells #[.slice A kn ca, .slice none 0 0, .slice A2 n2 c2, .slice (some ⟨v9.heap.size + 1, 0, none⟩) 0 0] 28)).heap[v9.heap.size + 1 + 1]? = some (.cells #[.slice A kn ca, .slice none 0 0, .slice A2 n2 c2, .slice (some ⟨v9.heap.size + 1, 0, none⟩) 0 0] 28 (0, 0))) := ⟨by have := blk_new (((v9).alloc (.cells #[.slice A b.length ca] 28)).alloc (.cells #[] 5)) (.cells #[.slice A kn ca, .slice none 0 0, .slice A2 n2 c2, .slice (some ⟨v9.heap.size + 1, 0, none⟩) 0 0] 28); rw [alloc_size, alloc_size] at this; exact this⟩
          refine hK.out _ _ ?_ (fun hHeld => ?_)
          · trivial
          clear hK K
          (try simp only [List.getElem_toArray, List.getElem_cons_succ, List.getElem_cons_zero, Act.put, List.setIfInBounds_toArray, List.set_cons_zero, List.set_cons_succ])
          refine wpAnyH_ready (rs := [24]) (by kernel_rfl) (by simp) ?_
          refine AllReadyH.cons rfl (fun K hK => ?_) AllReadyH.nil
          go_simp
          go_at_call 8
          (with_reducible refine (K4.out _ _ _ R44.out D42.out).mono ?_)
          rintro x v45 ⟨rfl, hb1⟩
          have D46 := Aside0.mk (below_step D42.out hb1)
          have R47 := Aside0.mk ((hb1.block _ (Array.getElem?_eq_some_iff.1 R43.out).1).trans R43.out)
          clear hb1
          refine hK.out _ _ ?_ (fun hHeld => ?_)
          · trivial
          clear hK K
          (try simp only [List.getElem_toArray, List.getElem_cons_succ, List.getElem_cons_zero, Act.put, List.setIfInBounds_toArray, List.set_cons_zero, List.set_cons_succ])
          refine wpAnyH_ready (rs := [27]) (by kernel_rfl) (by simp) ?_
          refine AllReadyH.cons rfl (fun K hK => ?_) AllReadyH.nil
          go_simp
          go_at_call 8
          (with_reducible refine (K1.out _ _ R47.out D46.out).mono ?_)
          rintro x v48 ⟨rfl, hb1⟩
          have D49 := Aside0.mk (below_step D46.out hb1)
          clear hb1
          refine hK.out _ _ ?_ (fun hHeld => ?_)
          · trivial
          clear hK K
          (try simp only [List.getElem_toArray, List.getElem_cons_succ, List.getElem_cons_zero, Act.put, List.setIfInBounds_toArray, List.set_cons_zero, List.set_cons_succ])
          refine wpAnyH_take (i := 28) (v := ?_) rfl (by kernel_rfl) (by kernel_rfl) (by kernel_rfl) (fun _ _ _ h => h) (Or.inl ⟨by rfl, ?_⟩) (by trivial) ?_
          rotate_left
          · (intro w hSw; (try dsimp only at hSw); go_simp; try (with_reducible rfl))
          (try simp only [List.getElem_toArray, List.getElem_cons_succ, List.getElem_cons_zero, Act.put, List.setIfInBounds_toArray, List.set_cons_zero, List.set_cons_succ])
          refine wpAnyH_take (i := 29) (v := ?_) rfl (by kernel_rfl) (by kernel_rfl) (by kernel_rfl) (fun _ _ _ h => h) (Or.inl ⟨by rfl, ?_⟩) (by trivial) ?_
          rotate_left
          · (intro w hSw; (try dsimp only at hSw); go_simp; try (with_reducible rfl))
          (try simp only [List.getElem_toArray, List.getElem_cons_succ, List.getElem_cons_zero, Act.put, List.setIfInBounds_toArray, List.set_cons_zero, List.set_cons_succ])
          refine wpAnyH_take (i := 30) (v := ?_) rfl (by kernel_rfl) (by kernel_rfl) (by kernel_rfl) (fun _ _ _ h => h) (Or.inl ⟨by rfl, ?_⟩) (by trivial) ?_
          rotate_left
          · (intro w hSw; (try dsimp only at hSw); go_simp; try (with_reducible rfl))
          (try simp only [List.getElem_toArray, List.getElem_cons_succ, List.getElem_cons_zero, Act.put, List.setIfInBounds_toArray, List.set_cons_zero, List.set_cons_succ])
          refine wpAnyH_done (by kernel_rfl) ?_ _
          refine NoPanic.normal ?_
          (try simp only [List.getElem_toArray, List.getElem_cons_succ, List.getElem_cons_zero, Act.put, List.setIfInBounds_toArray, List.set_cons_zero, List.set_cons_succ])
          go_wp2_with fail
          go_ret
          exact ⟨by rfl, D49.out⟩
      · skip
        go_simp
        have D50 := Aside0.mk (below_alloc D3.out (.cells #[.slice A b.length ca] 28))
        have R51 := Aside0.mk (blk_alloc R4.out (.cells #[.slice A b.length ca] 28))
        have R52 : Aside0 ((((v1).alloc (.cells #[.slice A kn ca, .slice A2 n2 c2] 28)).alloc (.cells #[.slice A b.length ca] 28)).heap[v1.heap.size + 1]? = some (.cells #[.slice A b.length ca] 28 (0, 0))) := ⟨by have := blk_new ((v1).alloc (.cells #[.slice A kn ca, .slice A2 n2 c2] 28)) (.cells #[.slice A b.length ca] 28); rw [alloc_size] at this; exact this⟩
        refine hK.out _ _ ?_ (fun hHeld => ?_)
        · trivial
        clear hK K
        (try simp only [List.getElem_toArray, List.getElem_cons_succ, List.getElem_cons_zero, Act.put, List.setIfInBounds_toArray, List.set_cons_zero, List.set_cons_succ])
        refine wpAnyH_ready (rs := [9]) (by kernel_rfl) (by simp) ?_
        refine AllReadyH.cons rfl (fun K hK => ?_) AllReadyH.nil
        go_simp
        go_at_call 8
        (with_reducible refine (K2.out _ _ R51.out D50.out).mono ?_)
        rintro x v53 ⟨rfl, hb1⟩
        have D54 := Aside0.mk (below_step D50.out hb1)
        have R55 := Aside0.mk ((hb1.block _ (Array.getElem?_eq_some_iff.1 R52.out).1).trans R52.out)
        clear hb1
        refine hK.out _ _ ?_ (fun hHeld => ?_)
        · trivial
        clear hK K
        (try simp only [List.getElem_toArray, List.getElem_cons_succ, List.getElem_cons_zero, Act.put, List.setIfInBounds_toArray, List.set_cons_zero, List.set_cons_succ])
        refine wpAnyH_ready (rs := [12]) (by kernel_rfl) (by simp) ?_
        refine AllReadyH.cons rfl (fun K hK => ?_) AllReadyH.nil
        go_simp
        go_at_call 8
        (with_reducible refine (K1.out _ _ R55.out D54.out).mono ?_)
        rintro x v56 ⟨rfl, hb1⟩
        have D57 := Aside0.mk (below_step D54.out hb1)
        clear hb1
        refine hK.out _ _ ?_ (fun hHeld => ?_)
        · trivial
        clear hK K
        (try simp only [List.getElem_toArray, List.getElem_cons_succ, List.getElem_cons_zero, Act.put, List.setIfInBounds_toArray, List.set_cons_zero, List.set_cons_succ])
        refine wpAnyH_take (i := 13) (v := ?_) rfl (by kernel_rfl) (by kernel_rfl) (by kernel_rfl) (fun _ _ _ h => h) (Or.inl ⟨by rfl, ?_⟩) (by trivial) ?_
        rotate_left
        · (intro w hSw; (try dsimp only at hSw); go_simp; try (with_reducible rfl))
        (try simp only [List.getElem_toArray, List.getElem_cons_succ, List.getElem_cons_zero, Act.put, List.setIfInBounds_toArray, List.set_cons_zero, List.set_cons_succ])
        refine wpAnyH_take (i := 14) (v := ?_) rfl (by kernel_rfl) (by kernel_rfl) (by kernel_rfl) (fun _ _ _ h => h) (Or.inl ⟨by rfl, ?_⟩) (by trivial) ?_
        rotate_left
        · (intro w hSw; (try dsimp only at hSw); go_simp; try (with_reducible rfl))
        (try simp only [List.getElem_toArray, List.getElem_cons_succ, List.getElem_cons_zero, Act.put, List.setIfInBounds_toArray, List.set_cons_zero, List.set_cons_succ])
        refine wpAnyH_take (i := 15) (v := ?_) rfl (by kernel_rfl) (by kernel_rfl) (by kernel_rfl) (fun _ _ _ h => h) (Or.inl ⟨by rfl, ?_⟩) (by trivial) ?_
        rotate_left
        · (intro w hSw; (try dsimp only at hSw); go_simp; try (with_reducible rfl))
        (try simp only [List.getElem_toArray, List.getElem_cons_succ, List.getElem_cons_zero, Act.put, List.setIfInBounds_toArray, List.set_cons_zero, List.set_cons_succ])
        refine wpAnyH_take (i := 16) (v := ?_) rfl (by kernel_rfl) (by kernel_rfl) (by kernel_rfl) (fun _ _ _ h => h) (Or.inl ⟨by rfl, ?_⟩) (by trivial) ?_
        rotate_left
        · (intro w hSw; (try dsimp only at hSw); go_simp; try (with_reducible rfl))
        (try simp only [List.getElem_toArray, List.getElem_cons_succ, List.getElem_cons_zero, Act.put, List.setIfInBounds_toArray, List.set_cons_zero, List.set_cons_succ])
        refine wpAnyH_take (i := 17) (v := ?_) rfl (by kernel_rfl) (by kernel_rfl) (by kernel_rfl) (fun _ _ _ h => h) (Or.inl ⟨by rfl, ?_⟩) (by trivial) ?_
        rotate_left
        · (intro w hSw; (try dsimp only at hSw); go_simp; try (with_reducible rfl))
        (try simp only [List.getElem_toArray, List.getElem_cons_succ, List.getElem_cons_zero, Act.put, List.setIfInBounds_toArray, List.set_cons_zero, List.set_cons_succ])
        refine wpAnyH_take (i := 18) (v := ?_) rfl (by kernel_rfl) (by kernel_rfl) (by kernel_rfl) (fun _ _ _ h => h) (Or.inl ⟨by rfl, ?_⟩) (by trivial) ?_
        rotate_left
        · (intro w hSw; (try dsimp only at hSw); go_simp; try (with_reducible rfl))
        (try simp only [List.getElem_toArray, List.getElem_cons_succ, List.getElem_cons_zero, Act.put, List.setIfInBounds_toArray, List.set_cons_zero, List.set_cons_succ])
        refine wpAnyH_take (i := 19) (v := ?_) rfl (by kernel_rfl) (by kernel_rfl) (by kernel_rfl) (fun _ _ _ h => h) (Or.inl ⟨by rfl, ?_⟩) (by trivial) ?_
        rotate_left
        · (intro w hSw; (try dsimp only at hSw); go_simp; try (with_reducible rfl))
        (try simp only [List.getElem_toArray, List.getElem_cons_succ, List.getElem_cons_zero, Act.put, List.setIfInBounds_toArray, List.set_cons_zero, List.set_cons_succ])
        refine wpAnyH_take (i := 20) (v := ?_) rfl (by kernel_rfl) (by kernel_rfl) (by kernel_rfl) (fun _ _ _ h => h) (Or.inl ⟨by rfl, ?_⟩) (by trivial) ?_
        rotate_left
        · (intro w hSw; (try dsimp only at hSw); go_simp; try (with_reducible rfl))
        (try simp only [List.getElem_toArray, List.getElem_cons_succ, List.getElem_cons_zero, Act.put, List.setIfInBounds_toArray, List.set_cons_zero, List.set_cons_succ])
        refine wpAnyH_take (i := 21) (v := ?_) rfl (by kernel_rfl) (by kernel_rfl) (by kernel_rfl) (fun _ _ _ h => h) (Or.inl ⟨by rfl, ?_⟩) (by trivial) ?_
        rotate_left
        · (intro w hSw; (try dsimp only at hSw); go_simp; try (with_reducible rfl))
        (try simp only [List.getElem_toArray, List.getElem_cons_succ, List.getElem_cons_zero, Act.put, List.setIfInBounds_toArray, List.set_cons_zero, List.set_cons_succ])
        refine wpAnyH_take (i := 25) (v := ?_) rfl (by kernel_rfl) (by kernel_rfl) (by kernel_rfl) (fun _ _ _ h => h) (Or.inl ⟨by rfl, ?_⟩) (by trivial) ?_
        rotate_left
        · (intro w hSw; (try dsimp only at hSw); go_simp; try (with_reducible rfl))
        (try simp only [List.getElem_toArray, List.getElem_cons_succ, List.getElem_cons_zero, Act.put, List.setIfInBounds_toArray, List.set_cons_zero, List.set_cons_succ])
        refine wpAnyH_ready (rs := [22, 26]) (by kernel_rfl) (by simp) ?_
        refine AllReadyH.cons rfl (fun K hK => ?_) (AllReadyH.cons rfl (fun K hK => ?_) AllReadyH.nil)
        · skip
          go_simp
          have D58 := Aside0.mk (below_alloc D57.out (.cells #[] 5))
          refine hK.out _ _ ?_ (fun hHeld => ?_)
          · trivial
          clear hK K
          (try simp only [List.getElem_toArray, List.getElem_cons_succ, List.getElem_cons_zero, Act.put, List.setIfInBounds_toArray, List.set_cons_zero, List.set_cons_succ])
          refine wpAnyH_ready (rs := [23, 26]) (by kernel_rfl) (by simp) ?_
          refine AllReadyH.cons rfl (fun K hK => ?_) (AllReadyH.cons rfl (fun K hK => ?_) AllReadyH.nil)
          · skip
            go_simp
            have D59 := Aside0.mk (below_alloc D58.out (.cells #[.slice A kn ca, .slice none 0 0, .slice A2 n2 c2, .slice (some ⟨v56.heap.size, 0, none⟩) 0 0] 28))
            have R60 : Aside0 ((((v56).alloc (.cells #[] 5)).alloc (.cells #[.slice A kn ca, .slice none 0 0, .slice A2 n2 c2, .slice (some ⟨v56.heap.size, 0, none⟩) 0 0] 28)).heap[v56.heap.size + 1]? = some (.cells #[.slice A kn ca, .slice none 0 0, .slice A2 n2 c2, .slice (some ⟨v56.heap.size, 0, none⟩) 0 0] 28 (0, 0))) := ⟨by have := blk_new ((v56).alloc (.cells #[] 5)) (.cells #[.slice A kn ca, .slice none 0 0, .slice A2 n2 c2, .slice (some ⟨v56.heap.size, 0, none⟩) 0 0] 28); rw [alloc_size] at this; exact this⟩
            refine hK.out _ _ ?_ (fun hHeld => ?_)
            · trivial
            clear hK K
            (try simp only [List.getElem_toArray, List.getElem_cons_succ, List.getElem_cons_zero, Act.put, List.setIfInBounds_toArray, List.set_cons_zero, List.set_cons_succ])
            refine wpAnyH_ready (rs := [24, 26]) (by kernel_rfl) (by simp) ?_
            refine AllReadyH.cons rfl (fun K hK => ?_) (AllReadyH.cons rfl (fun K hK => ?_) AllReadyH.nil)
            · skip
              go_simp
              go_at_call 8
              (with_reducible refine (K4.out _ _ _ R60.out D59.out).mono ?_)
              rintro x v61 ⟨rfl, hb1⟩
              have D62 := Aside0.mk (below_step D59.out hb1)
              clear hb1
              refine hK.out _ _ ?_ (fun hHeld => ?_)
              · trivial
              clear hK K
              (try simp only [List.getElem_toArray, List.getElem_cons_succ, List.getElem_cons_zero, Act.put, List.setIfInBounds_toArray, List.set_cons_zero, List.set_cons_succ])
              refine wpAnyH_ready (rs := [26]) (by kernel_rfl) (by simp) ?_
              refine AllReadyH.cons rfl (fun K hK => ?_) AllReadyH.nil
              go_simp
              have D63 := Aside0.mk (below_alloc D62.out (.cells #[.slice A b.length ca] 28))
              have R64 : Aside0 (((v61).alloc (.cells #[.slice A b.length ca] 28)).heap[v61.heap.size]? = some (.cells #[.slice A b.length ca] 28 (0, 0))) := ⟨by have := blk_new (v61) (.cells #[.slice A b.length ca] 28); exact this⟩
              refine hK.out _ _ ?_ (fun hHeld => ?_)
              · trivial
              clear hK K
              (try simp only [List.getElem_toArray, List.getElem_cons_succ, List.getElem_cons_zero, Act.put, List.setIfInBounds_toArray, List.set_cons_zero, List.set_cons_succ])
              refine wpAnyH_ready (rs := [27]) (by kernel_rfl) (by simp) ?_
              refine AllReadyH.cons rfl (fun K hK => ?_) AllReadyH.nil
              go_simp
              go_at_call 8
              (with_reducible refine (K1.out _ _ R64.out D63.out).mono ?_)
              rintro x v65 ⟨rfl, hb1⟩
              have D66 := Aside0.mk (below_step D63.out hb1)
              clear hb1
              refine hK.out _ _ ?_ (fun hHeld => ?_)
              · trivial
              clear hK K
              (try simp only [List.getElem_toArray, List.getElem_cons_succ, List.getElem_cons_zero, Act.put, List.setIfInBounds_toArray, List.set_cons_zero, List.set_cons_succ])
              refine wpAnyH_take (i := 28) (v := ?_) rfl (by kernel_rfl) (by kernel_rfl) (by kernel_rfl) (fun _ _ _ h => h) (Or.inl ⟨by rfl, ?_⟩) (by trivial) ?_
              rotate_left
              · (intro w hSw; (try dsimp only at hSw); go_simp; try (with_reducible rfl))
              (try simp only [List.getElem_toArray, List.getElem_cons_succ, List.getElem_cons_zero, Act.put, List.setIfInBounds_toArray, List.set_cons_zero, List.set_cons_succ])
              refine wpAnyH_take (i := 29) (v := ?_) rfl (by kernel_rfl) (by kernel_rfl) (by kernel_rfl) (fun _ _ _ h => h) (Or.inl ⟨by rfl, ?_⟩) (by trivial) ?_
              rotate_left
              · (intro w hSw; (try dsimp only at hSw); go_simp; try (with_reducible rfl))
              (try simp only [List.getElem_toArray, List.getElem_cons_succ, List.getElem_cons_zero, Act.put, List.setIfInBounds_toArray, List.set_cons_zero, List.set_cons_succ])
              refine wpAnyH_take (i := 30) (v := ?_) rfl (by kernel_rfl) (by kernel_rfl) (by kernel_rfl) (fun _ _ _ h => h) (Or.inl ⟨by rfl, ?_⟩) (by trivial) ?_
              rotate_left
              · (intro w hSw; (try dsimp only at hSw); go_simp; try (with_reducible rfl))
              (try simp only [List.getElem_toArray, List.getElem_cons_succ, List.getElem_cons_zero, Act.put, List.setIfInBounds_toArray, List.set_cons_zero, List.set_cons_succ])
              refine wpAnyH_done (by kernel_rfl) ?_ _
              refine NoPanic.normal ?_
              (try simp only [List.getElem_toArray, List.getElem_cons_succ, List.getElem_cons_zero, Act.put, List.setIfInBounds_toArray, List.set_cons_zero, List.set_cons_succ])
              go_wp2_with fail
              go_ret
              exact ⟨by rfl, D66.out⟩
            · skip
              go_simp
              have D67 := Aside0.mk (below_alloc D59.out (.cells #[.slice A b.length ca] 28))
              have R68 := Aside0.mk (blk_alloc R60.out (.cells #[.slice A b.length ca] 28))
              have R69 : Aside0 (((((v56).alloc (.cells #[] 5)).alloc (.cells #[.slice A kn ca, .slice none 0 0, .slice A2 n2 c2, .slice (some ⟨v56.heap.size, 0, none⟩) 0 0] 28)).alloc (.cells #[.slice A b.length ca] 28)).heap[v56.heap.size + 1 + 1]? = some (.cells #[.slice A b.length ca] 28 (0, 0))) := ⟨by have := blk_new (((v56).alloc (.cells #[] 5)).alloc (.cells #[.slice A kn ca, .slice none 0 0, .slice A2 n2 c2, .slice (some ⟨v56.heap.size, 0, none⟩) 0 0] 28)) (.cells #[.slice A b.length ca] 28); rw [alloc_size, alloc_size] at this; exact this⟩
              refine hK.out _ _ ?_ (fun hHeld => ?_)
              · trivial
              clear hK K
              (try simp only [List.getElem_toArray, List.getElem_cons_succ, List.getElem_cons_zero, Act.put, List.setIfInBounds_toArray, List.set_cons_zero, List.set_cons_succ])
              refine wpAnyH_ready (rs := [24]) (by kernel_rfl) (by simp) ?_
              refine AllReadyH.cons rfl (fun K hK => ?_) AllReadyH.nil
              go_simp
              go_at_call 8
              (with_reducible refine (K4.out _ _ _ R68.out D67.out).mono ?_)
              rintro x v70 ⟨rfl, hb1⟩
              have D71 := Aside0.mk (below_step D67.out hb1)
              have R72 := Aside0.mk ((hb1.block _ (Array.getElem?_eq_some_iff.1 R69.out).1).trans R69.out)
              clear hb1
              refine hK.out _ _ ?_ (fun hHeld => ?_)
              · trivial
              clear hK K
              (try simp only [List.getElem_toArray, List.getElem_cons_succ, List.getElem_cons_zero, Act.put, List.setIfInBounds_toArray, List.set_cons_zero, List.set_cons_succ])
              refine wpAnyH_ready (rs := [27]) (by kernel_rfl) (by simp) ?_
              refine AllReadyH.cons rfl (fun K hK => ?_) AllReadyH.nil
              go_simp
              go_at_call 8
              (with_reducible refine (K1.out _ _ R72.out D71.out).mono ?_)
              rintro x v73 ⟨rfl, hb1⟩
              have D74 := Aside0.mk (below_step D71.out hb1)
              clear hb1
              refine hK.out _ _ ?_ (fun hHeld => ?_)
              · trivial
              clear hK K
              (try simp only [List.getElem_toArray, List.getElem_cons_succ, List.getElem_cons_zero, Act.put, List.setIfInBounds_toArray, List.set_cons_zero, List.set_cons_succ])
              refine wpAnyH_take (i := 28) (v := ?_) rfl (by kernel_rfl) (by kernel_rfl) (by kernel_rfl) (fun _ _ _ h => h) (Or.inl ⟨by rfl, ?_⟩) (by trivial) ?_
              rotate_left
              · (intro w hSw; (try dsimp only at hSw); go_simp; try (with_reducible rfl))
              (try simp only [List.getElem_toArray, List.getElem_cons_succ, List.getElem_cons_zero, Act.put, List.setIfInBounds_toArray, List.set_cons_zero, List.set_cons_succ])
              refine wpAnyH_take (i := 29) (v := ?_) rfl (by kernel_rfl) (by kernel_rfl) (by kernel_rfl) (fun _ _ _ h => h) (Or.inl ⟨by rfl, ?_⟩) (by trivial) ?_
              rotate_left
              · (intro w hSw; (try dsimp only at hSw); go_simp; try (with_reducible rfl))
              (try simp only [List.getElem_toArray, List.getElem_cons_succ, List.getElem_cons_zero, Act.put, List.setIfInBounds_toArray, List.set_cons_zero, List.set_cons_succ])
              refine wpAnyH_take (i := 30) (v := ?_) rfl (by kernel_rfl) (by kernel_rfl) (by kernel_rfl) (fun _ _ _ h => h) (Or.inl ⟨by rfl, ?_⟩) (by trivial) ?_
              rotate_left
              · (intro w hSw; (try dsimp only at hSw); go_simp; try (with_reducible rfl))
              (try simp only [List.getElem_toArray, List.getElem_cons_succ, List.getElem_cons_zero, Act.put, List.setIfInBounds_toArray, List.set_cons_zero, List.set_cons_succ])
              refine wpAnyH_done (by kernel_rfl) ?_ _
              refine NoPanic.normal ?_
              (try simp only [List.getElem_toArray, List.getElem_cons_succ, List.getElem_cons_zero, Act.put, List.setIfInBounds_toArray, List.set_cons_zero, List.set_cons_succ])
              go_wp2_with fail
              go_ret
              exact ⟨by rfl, D74.out⟩
          · skip
            go_simp
            have D75 := Aside0.mk (below_alloc D58.out (.cells #[.slice A b.length ca] 28))
            have R76 : Aside0 ((((v56).alloc (.cells #[] 5)).alloc (.cells #[.slice A b.length ca] 28)).heap[v56.heap.size + 1]? = some (.cells #[.slice A b.length ca] 28 (0, 0))) := ⟨by have := blk_new ((v56).alloc (.cells #[] 5)) (.cells #[.slice A b.length ca] 28); rw [alloc_size] at this; exact this⟩
            refine hK.out _ _ ?_ (fun hHeld => ?_)
            · trivial
            clear hK K
            (try simp only [List.getElem_toArray, List.getElem_cons_succ, List.getElem_cons_zero, Act.put, List.setIfInBounds_toArray, List.set_cons_zero, List.set_cons_succ])
            refine wpAnyH_ready (rs := [23]) (by kernel_rfl) (by simp) ?_
            refine AllReadyH.cons rfl (fun K hK => ?_) AllReadyH.nil
            go_simp
            have D77 := Aside0.mk (below_alloc D75.out (.cells #[.slice A kn ca, .slice none 0 0, .slice A2 n2 c2, .slice (some ⟨v56.heap.size, 0, none⟩) 0 0] 28))
            have R78 := Aside0.mk (blk_alloc R76.out (.cells #[.slice A kn ca, .slice none 0 0, .slice A2 n2 c2, .slice (some ⟨v56.heap.size, 0, none⟩) 0 0] 28))
            have R79 : Aside0 (((((v56).alloc (.cells #[] 5)).alloc (.cells #[.slice A b.length ca] 28)).alloc (.cells #[.slice A kn ca, .slice none 0 0, .slice A2 n2 c2, .slice (some ⟨v56.heap.size, 0, none⟩) 0 0] 28)).heap[v56.heap.size + 1 + 1]? = some (.cells #[.slice A kn ca, .slice none 0 0, .slice A2 n2 c2, .slice (some ⟨v56.heap.size, 0, none⟩) 0 0] 28 (0, 0))) := ⟨by have := blk_new (((v56).alloc (.cells #[] 5)).alloc (.cells #[.slice A b.length ca] 28)) (.cells #[.slice A kn ca, .slice none 0 0, .slice A2 n2 c2, .slice (some ⟨v56.heap.size, 0, none⟩) 0 0] 28); rw [alloc_size, alloc_size] at this; exact this⟩
            refine hK.out _ _ ?_ (fun hHeld => ?_)
            · trivial
            clear hK K
            (try simp only [List.getElem_toArray, List.getElem_cons_succ, List.getElem_cons_zero, Act.put, List.setIfInBounds_toArray, List.set_cons_zero, List.set_cons_succ])
            refine wpAnyH_ready (rs := [24]) (by kernel_rfl) (by simp) ?_
            refine AllReadyH.cons rfl (fun K hK => ?_) AllReadyH.nil
            go_simp
            go_at_call 8
            (with_reducible refine (K4.out _ _ _ R79.out D77.out).mono ?_)
            rintro x v80 ⟨rfl, hb1⟩
            have D81 := Aside0.mk (below_step D77.out hb1)
            have R82 := Aside0.mk ((hb1.block _ (Array.getElem?_eq_some_iff.1 R78.out).1).trans R78.out)
            clear hb1
            refine hK.out _ _ ?_ (fun hHeld => ?_)
            · trivial
            clear hK K
            (try simp only [List.getElem_toArray, List.getElem_cons_succ, List.getElem_cons_zero, Act.put, List.setIfInBounds_toArray, List.set_cons_zero, List.set_cons_succ])
            refine wpAnyH_ready (rs := [27]) (by kernel_rfl) (by simp) ?_
            refine AllReadyH.cons rfl (fun K hK => ?_) AllReadyH.nil
            go_simp
            go_at_call 8
            (with_reducible refine (K1.out _ _ R82.out D81.out).mono ?_)
            rintro x v83 ⟨rfl, hb1⟩
            have D84 := Aside0.mk (below_step D81.out hb1)
            clear hb1
            refine hK.out _ _ ?_ (fun hHeld => ?_)
            · trivial
            clear hK K
            (try simp only [List.getElem_toArray, List.getElem_cons_succ, List.getElem_cons_zero, Act.put, List.setIfInBounds_toArray, List.set_cons_zero, List.set_cons_succ])
            refine wpAnyH_take (i := 28) (v := ?_) rfl (by kernel_rfl) (by kernel_rfl) (by kernel_rfl) (fun _ _ _ h => h) (Or.inl ⟨by rfl, ?_⟩) (by trivial) ?_
            rotate_left
            · (intro w hSw; (try dsimp only at hSw); go_simp; try (with_reducible rfl))
            (try simp only [List.getElem_toArray, List.getElem_cons_succ, List.getElem_cons_zero, Act.put, List.setIfInBounds_toArray, List.set_cons_zero, List.set_cons_succ])
            refine wpAnyH_take (i := 29) (v := ?_) rfl (by kernel_rfl) (by kernel_rfl) (by kernel_rfl) (fun _ _ _ h => h) (Or.inl ⟨by rfl, ?_⟩) (by trivial) ?_
            rotate_left
            · (intro w hSw; (try dsimp only at hSw); go_simp; try (with_reducible rfl))
            (try simp only [List.getElem_toArray, List.getElem_cons_succ, List.getElem_cons_zero, Act.put, List.setIfInBounds_toArray, List.set_cons_zero, List.set_cons_succ])
            refine wpAnyH_take (i := 30) (v := ?_) rfl (by kernel_rfl) (by kernel_rfl) (by kernel_rfl) (fun _ _ _ h => h) (Or.inl ⟨by rfl, ?_⟩) (by trivial) ?_
            rotate_left
            · (intro w hSw; (try dsimp only at hSw); go_simp; try (with_reducible rfl))
            (try simp only [List.getElem_toArray, List.getElem_cons_succ, List.getElem_cons_zero, Act.put, List.setIfInBounds_toArray, List.set_cons_zero, List.set_cons_succ])
            refine wpAnyH_done (by kernel_rfl) ?_ _
            refine NoPanic.normal ?_
            (try simp only [List.getElem_toArray, List.getElem_cons_succ, List.getElem_cons_zero, Act.put, List.setIfInBounds_toArray, List.set_cons_zero, List.set_cons_succ])
            go_wp2_with fail
            go_ret
            exact ⟨by rfl, D84.out⟩
        · skip
          go_simp
          have D85 := Aside0.mk (below_alloc D57.out (.cells #[.slice A b.length ca] 28))
          have R86 : Aside0 (((v56).alloc (.cells #[.slice A b.length ca] 28)).heap[v56.heap.size]? = some (.cells #[.slice A b.length ca] 28 (0, 0))) := ⟨by have := blk_new (v56) (.cells #[.slice A b.length ca] 28); exact this⟩
          refine hK.out _ _ ?_ (fun hHeld => ?_)
          · trivial
          clear hK K
          (try simp only [List.getElem_toArray, List.getElem_cons_succ, List.getElem_cons_zero, Act.put, List.setIfInBounds_toArray, List.set_cons_zero, List.set_cons_succ])
          refine wpAnyH_ready (rs := [22]) (by kernel_rfl) (by simp) ?_
          refine AllReadyH.cons rfl (fun K hK => ?_) AllReadyH.nil
          go_simp
          have D87 := Aside0.mk (below_alloc D85.out (.cells #[] 5))
          have R88 := Aside0.mk (blk_alloc R86.out (.cells #[] 5))
          refine hK.out _ _ ?_ (fun hHeld => ?_)
          · trivial
          clear hK K
          (try simp only [List.getElem_toArray, List.getElem_cons_succ, List.getElem_cons_zero, Act.put, List.setIfInBounds_toArray, List.set_cons_zero, List.set_cons_succ])
          refine wpAnyH_ready (rs := [23]) (by kernel_rfl) (by simp) ?_
          refine AllReadyH.cons rfl (fun K hK => ?_) AllReadyH.nil
          go_simp
          have D89 := Aside0.mk (below_alloc D87.out (.cells #[.slice A kn ca, .slice none 0 0, .slice A2 n2 c2, .slice (some ⟨v56.heap.size + 1, 0, none⟩) 0 0] 28))
          have R90 := Aside0.mk (blk_alloc R88.out (.cells #[.slice A kn ca, .slice none 0 0, .slice A2 n2 c2, .slice (some ⟨v56.heap.size + 1, 0, none⟩) 0 0] 28))
          have R91 : Aside0 (((((v56).alloc (.cells #[.slice A b.length ca] 28)).alloc (.cells #[] 5)).alloc (.cells #[.slice A kn ca, .slice none 0 0, .slice A2 n2 c2, .slice (some ⟨v56.heap.size + 1, 0, none⟩) 0 0] 28)).heap[v56.heap.size + 1 + 1]? = some (.cells #[.slice A kn ca, .slice none 0 0, .slice A2 n2 c2, .slice (some ⟨v56.heap.size + 1, 0, none⟩) 0 0] 28 (0, 0))) := ⟨by have := blk_new (((v56).alloc (.cells #[.slice A b.length ca] 28)).alloc (.cells #[] 5)) (.cells #[.slice A kn ca, .slice none 0 0, .slice A2 n2 c2, .slice (some ⟨v56.heap.size + 1, 0, none⟩) 0 0] 28); rw [alloc_size, alloc_size] at this; exact this⟩
          refine hK.out _ _ ?_ (fun hHeld => ?_)
          · trivial
          clear hK K
          (try simp only [List.getElem_toArray, List.getElem_cons_succ, List.getElem_cons_zero, Act.put, List.setIfInBounds_toArray, List.set_cons_zero, List.set_cons_succ])
          refine wpAnyH_ready (rs := [24]) (by kernel_rfl) (by simp) ?_
          refine AllReadyH.cons rfl (fun K hK => ?_) AllReadyH.nil
          go_simp
          go_at_call 8
          (with_reducible refine (K4.out _ _ _ R91.out D89.out).mono ?_)
          rintro x v92 ⟨rfl, hb1⟩
          have D93 := Aside0.mk (below_step D89.out hb1)
          have R94 := Aside0.mk ((hb1.block _ (Array.getElem?_eq_some_iff.1 R90.out).1).trans R90.out)
          clear hb1
          refine hK.out _ _ ?_ (fun hHeld => ?_)
          · trivial
          clear hK K
          (try simp only [List.getElem_toArray, List.getElem_cons_succ, List.getElem_cons_zero, Act.put, List.setIfInBounds_toArray, List.set_cons_zero, List.set_cons_succ])
          refine wpAnyH_ready (rs := [27]) (by kernel_rfl) (by simp) ?_
          refine AllReadyH.cons rfl (fun K hK => ?_) AllReadyH.nil
          go_simp
          go_at_call 8
          (with_reducible refine (K1.out _ _ R94.out D93.out).mono ?_)
          rintro x v95 ⟨rfl, hb1⟩
          have D96 := Aside0.mk (below_step D93.out hb1)
          clear hb1
          refine hK.out _ _ ?_ (fun hHeld => ?_)
          · trivial
          clear hK K
          (try simp only [List.getElem_toArray, List.getElem_cons_succ, List.getElem_cons_zero, Act.put, List.setIfInBounds_toArray, List.set_cons_zero, List.set_cons_succ])
          refine wpAnyH_take (i := 28) (v := ?_) rfl (by kernel_rfl) (by kernel_rfl) (by kernel_rfl) (fun _ _ _ h => h) (Or.inl ⟨by rfl, ?_⟩) (by trivial) ?_
          rotate_left
          · (intro w hSw; (try dsimp only at hSw); go_simp; try (with_reducible rfl))
          (try simp only [List.getElem_toArray, List.getElem_cons_succ, List.getElem_cons_zero, Act.put, List.setIfInBounds_toArray, List.set_cons_zero, List.set_cons_succ])
          refine wpAnyH_take (i := 29) (v := ?_) rfl (by kernel_rfl) (by kernel_rfl) (by kernel_rfl) (fun _ _ _ h => h) (Or.inl ⟨by rfl, ?_⟩) (by trivial) ?_
          rotate_left
          · (intro w hSw; (try dsimp only at hSw); go_simp; try (with_reducible rfl))
          (try simp only [List.getElem_toArray, List.getElem_cons_succ, List.getElem_cons_zero, Act.put, List.setIfInBounds_toArray, List.set_cons_zero, List.set_cons_succ])
          refine wpAnyH_take (i := 30) (v := ?_) rfl (by kernel_rfl) (by kernel_rfl) (by kernel_rfl) (fun _ _ _ h => h) (Or.inl ⟨by rfl, ?_⟩) (by trivial) ?_
          rotate_left
          · (intro w hSw; (try dsimp only at hSw); go_simp; try (with_reducible rfl))
          (try simp only [List.getElem_toArray, List.getElem_cons_succ, List.getElem_cons_zero, Act.put, List.setIfInBounds_toArray, List.set_cons_zero, List.set_cons_succ])
          refine wpAnyH_done (by kernel_rfl) ?_ _
          refine NoPanic.normal ?_
          (try simp only [List.getElem_toArray, List.getElem_cons_succ, List.getElem_cons_zero, Act.put, List.setIfInBounds_toArray, List.set_cons_zero, List.set_cons_succ])
          go_wp2_with fail
          go_ret
          exact ⟨by rfl, D96.out⟩
    · skip
      go_simp
      have D97 := Aside0.mk (below_alloc D2.out (.cells #[.slice A b.length ca] 28))
      have R98 : Aside0 (((v1).alloc (.cells #[.slice A b.length ca] 28)).heap[v1.heap.size]? = some (.cells #[.slice A b.length ca] 28 (0, 0))) := ⟨by have := blk_new (v1) (.cells #[.slice A b.length ca] 28); exact this⟩
      refine hK.out _ _ ?_ (fun hHeld => ?_)
      · trivial
      clear hK K
      (try simp only [List.getElem_toArray, List.getElem_cons_succ, List.getElem_cons_zero, Act.put, List.setIfInBounds_toArray, List.set_cons_zero, List.set_cons_succ])
      refine wpAnyH_ready (rs := [8]) (by kernel_rfl) (by simp) ?_
      refine AllReadyH.cons rfl (fun K hK => ?_) AllReadyH.nil
      go_simp
      have D99 := Aside0.mk (below_alloc D97.out (.cells #[.slice A kn ca, .slice A2 n2 c2] 28))
      have R100 := Aside0.mk (blk_alloc R98.out (.cells #[.slice A kn ca, .slice A2 n2 c2] 28))
      have R101 : Aside0 ((((v1).alloc (.cells #[.slice A b.length ca] 28)).alloc (.cells #[.slice A kn ca, .slice A2 n2 c2] 28)).heap[v1.heap.size + 1]? = some (.cells #[.slice A kn ca, .slice A2 n2 c2] 28 (0, 0))) := ⟨by have := blk_new ((v1).alloc (.cells #[.slice A b.length ca] 28)) (.cells #[.slice A kn ca, .slice A2 n2 c2] 28); rw [alloc_size] at this; exact this⟩
      refine hK.out _ _ ?_ (fun hHeld => ?_)
      · trivial
      clear hK K
      (try simp only [List.getElem_toArray, List.getElem_cons_succ, List.getElem_cons_zero, Act.put, List.setIfInBounds_toArray, List.set_cons_zero, List.set_cons_succ])
      refine wpAnyH_ready (rs := [9]) (by kernel_rfl) (by simp) ?_
      refine AllReadyH.cons rfl (fun K hK => ?_) AllReadyH.nil
      go_simp
      go_at_call 8
      (with_reducible refine (K2.out _ _ R101.out D99.out).mono ?_)
      rintro x v102 ⟨rfl, hb1⟩
      have D103 := Aside0.mk (below_step D99.out hb1)
      have R104 := Aside0.mk ((hb1.block _ (Array.getElem?_eq_some_iff.1 R100.out).1).trans R100.out)
      clear hb1
      refine hK.out _ _ ?_ (fun hHeld => ?_)
      · trivial
      clear hK K
      (try simp only [List.getElem_toArray, List.getElem_cons_succ, List.getElem_cons_zero, Act.put, List.setIfInBounds_toArray, List.set_cons_zero, List.set_cons_succ])
      refine wpAnyH_ready (rs := [12]) (by kernel_rfl) (by simp) ?_
      refine AllReadyH.cons rfl (fun K hK => ?_) AllReadyH.nil
      go_simp
      go_at_call 8
      (with_reducible refine (K1.out _ _ R104.out D103.out).mono ?_)
      rintro x v105 ⟨rfl, hb1⟩
      have D106 := Aside0.mk (below_step D103.out hb1)
      clear hb1
      refine hK.out _ _ ?_ (fun hHeld => ?_)
      · trivial
      clear hK K
      (try simp only [List.getElem_toArray, List.getElem_cons_succ, List.getElem_cons_zero, Act.put, List.setIfInBounds_toArray, List.set_cons_zero, List.set_cons_succ])
      refine wpAnyH_take (i := 13) (v := ?_) rfl (by kernel_rfl) (by kernel_rfl) (by kernel_rfl) (fun _ _ _ h => h) (Or.inl ⟨by rfl, ?_⟩) (by trivial) ?_
      rotate_left
      · (intro w hSw; (try dsimp only at hSw); go_simp; try (with_reducible rfl))
      (try simp only [List.getElem_toArray, List.getElem_cons_succ, List.getElem_cons_zero, Act.put, List.setIfInBounds_toArray, List.set_cons_zero, List.set_cons_succ])
      refine wpAnyH_take (i := 14) (v := ?_) rfl (by kernel_rfl) (by kernel_rfl) (by kernel_rfl) (fun _ _ _ h => h) (Or.inl ⟨by rfl, ?_⟩) (by trivial) ?_
      rotate_left
      · (intro w hSw; (try dsimp only at hSw); go_simp; try (with_reducible rfl))
      (try simp only [List.getElem_toArray, List.getElem_cons_succ, List.getElem_cons_zero, Act.put, List.setIfInBounds_toArray, List.set_cons_zero, List.set_cons_succ])
      refine wpAnyH_take (i := 15) (v := ?_) rfl (by kernel_rfl) (by kernel_rfl) (by kernel_rfl) (fun _ _ _ h => h) (Or.inl ⟨by rfl, ?_⟩) (by trivial) ?_
      rotate_left
      · (intro w hSw; (try dsimp only at hSw); go_simp; try (with_reducible rfl))
      (try simp only [List.getElem_toArray, List.getElem_cons_succ, List.getElem_cons_zero, Act.put, List.setIfInBounds_toArray, List.set_cons_zero, List.set_cons_succ])
      refine wpAnyH_take (i := 16) (v := ?_) rfl (by kernel_rfl) (by kernel_rfl) (by kernel_rfl) (fun _ _ _ h => h) (Or.inl ⟨by rfl, ?_⟩) (by trivial) ?_
      rotate_left
      · (intro w hSw; (try dsimp only at hSw); go_simp; try (with_reducible rfl))
      (try simp only [List.getElem_toArray, List.getElem_cons_succ, List.getElem_cons_zero, Act.put, List.setIfInBounds_toArray, List.set_cons_zero, List.set_cons_succ])
      refine wpAnyH_take (i := 17) (v := ?_) rfl (by kernel_rfl) (by kernel_rfl) (by kernel_rfl) (fun _ _ _ h => h) (Or.inl ⟨by rfl, ?_⟩) (by trivial) ?_
      rotate_left
      · (intro w hSw; (try dsimp only at hSw); go_simp; try (with_reducible rfl))
      (try simp only [List.getElem_toArray, List.getElem_cons_succ, List.getElem_cons_zero, Act.put, List.setIfInBounds_toArray, List.set_cons_zero, List.set_cons_succ])
      refine wpAnyH_take (i := 18) (v := ?_) rfl (by kernel_rfl) (by kernel_rfl) (by kernel_rfl) (fun _ _ _ h => h) (Or.inl ⟨by rfl, ?_⟩) (by trivial) ?_
      rotate_left
      · (intro w hSw; (try dsimp only at hSw); go_simp; try (with_reducible rfl))
      (try simp only [List.getElem_toArray, List.getElem_cons_succ, List.getElem_cons_zero, Act.put, List.setIfInBounds_toArray, List.set_cons_zero, List.set_cons_succ])
      refine wpAnyH_take (i := 19) (v := ?_) rfl (by kernel_rfl) (by kernel_rfl) (by kernel_rfl) (fun _ _ _ h => h) (Or.inl ⟨by rfl, ?_⟩) (by trivial) ?_
      rotate_left
      · (intro w hSw; (try dsimp only at hSw); go_simp; try (with_reducible rfl))
      (try simp only [List.getElem_toArray, List.getElem_cons_succ, List.getElem_cons_zero, Act.put, List.setIfInBounds_toArray, List.set_cons_zero, List.set_cons_succ])
      refine wpAnyH_take (i := 20) (v := ?_) rfl (by kernel_rfl) (by kernel_rfl) (by kernel_rfl) (fun _ _ _ h => h) (Or.inl ⟨by rfl, ?_⟩) (by trivial) ?_
      rotate_left
      · (intro w hSw; (try dsimp only at hSw); go_simp; try (with_reducible rfl))
      (try simp only [List.getElem_toArray, List.getElem_cons_succ, List.getElem_cons_zero, Act.put, List.setIfInBounds_toArray, List.set_cons_zero, List.set_cons_succ])
      refine wpAnyH_take (i := 21) (v := ?_) rfl (by kernel_rfl) (by kernel_rfl) (by kernel_rfl) (fun _ _ _ h => h) (Or.inl ⟨by rfl, ?_⟩) (by trivial) ?_
      rotate_left
      · (intro w hSw; (try dsimp only at hSw); go_simp; try (with_reducible rfl))
      (try simp only [List.getElem_toArray, List.getElem_cons_succ, List.getElem_cons_zero, Act.put, List.setIfInBounds_toArray, List.set_cons_zero, List.set_cons_succ])
      refine wpAnyH_take (i := 25) (v := ?_) rfl (by kernel_rfl) (by kernel_rfl) (by kernel_rfl) (fun _ _ _ h => h) (Or.inl ⟨by rfl, ?_⟩) (by trivial) ?_
      rotate_left
      · (intro w hSw; (try dsimp only at hSw); go_simp; try (with_reducible rfl))
      (try simp only [List.getElem_toArray, List.getElem_cons_succ, List.getElem_cons_zero, Act.put, List.setIfInBounds_toArray, List.set_cons_zero, List.set_cons_succ])
      refine wpAnyH_ready (rs := [22, 26]) (by kernel_rfl) (by simp) ?_
      refine AllReadyH.cons rfl (fun K hK => ?_) (AllReadyH.cons rfl (fun K hK => ?_) AllReadyH.nil)
      · skip
        go_simp
        have D107 := Aside0.mk (below_alloc D106.out (.cells #[] 5))
        refine hK.out _ _ ?_ (fun hHeld => ?_)
        · trivial
        clear hK K
        (try simp only [List.getElem_toArray, List.getElem_cons_succ, List.getElem_cons_zero, Act.put, List.setIfInBounds_toArray, List.set_cons_zero, List.set_cons_succ])
        refine wpAnyH_ready (rs := [23, 26]) (by kernel_rfl) (by simp) ?_
        refine AllReadyH.cons rfl (fun K hK => ?_) (AllReadyH.cons rfl (fun K hK => ?_) AllReadyH.nil)
        · skip
          go_simp
          have D108 := Aside0.mk (below_alloc D107.out (.cells #[.slice A kn ca, .slice none 0 0, .slice A2 n2 c2, .slice (some ⟨v105.heap.size, 0, none⟩) 0 0] 28))
          have R109 : Aside0 ((((v105).alloc (.cells #[] 5)).alloc (.cells #[.slice A kn ca, .slice none 0 0, .slice A2 n2 c2, .slice (some ⟨v105.heap.size, 0, none⟩) 0 0] 28)).heap[v105.heap.size + 1]? = some (.cells #[.slice A kn ca, .slice none 0 0, .slice A2 n2 c2, .slice (some ⟨v105.heap.size, 0, none⟩) 0 0] 28 (0, 0))) := ⟨by have := blk_new ((v105).alloc (.cells #[] 5)) (.cells #[.slice A kn ca, .slice none 0 0, .slice A2 n2 c2, .slice (some ⟨v105.heap.size, 0, none⟩) 0 0] 28); rw [alloc_size] at this; exact this⟩
          refine hK.out _ _ ?_ (fun hHeld => ?_)
          · trivial
          clear hK K
          (try simp only [List.getElem_toArray, List.getElem_cons_succ, List.getElem_cons_zero, Act.put, List.setIfInBounds_toArray, List.set_cons_zero, List.set_cons_succ])
          refine wpAnyH_ready (rs := [24, 26]) (by kernel_rfl) (by simp) ?_
          refine AllReadyH.cons rfl (fun K hK => ?_) (AllReadyH.cons rfl (fun K hK => ?_) AllReadyH.nil)
          · skip
            go_simp
            go_at_call 8
            (with_reducible refine (K4.out _ _ _ R109.out D108.out).mono ?_)
            rintro x v110 ⟨rfl, hb1⟩
            have D111 := Aside0.mk (below_step D108.out hb1)
            clear hb1
            refine hK.out _ _ ?_ (fun hHeld => ?_)
            · trivial
            clear hK K
            (try simp only [List.getElem_toArray, List.getElem_cons_succ, List.getElem_cons_zero, Act.put, List.setIfInBounds_toArray, List.set_cons_zero, List.set_cons_succ])
            refine wpAnyH_ready (rs := [26]) (by kernel_rfl) (by simp) ?_
            refine AllReadyH.cons rfl (fun K hK => ?_) AllReadyH.nil
            go_simp
            have D112 := Aside0.mk (below_alloc D111.out (.cells #[.slice A b.length ca] 28))
            have R113 : Aside0 (((v110).alloc (.cells #[.slice A b.length ca] 28)).heap[v110.heap.size]? = some (.cells #[.slice A b.length ca] 28 (0, 0))) := ⟨by have := blk_new (v110) (.cells #[.slice A b.length ca] 28); exact this⟩
            refine hK.out _ _ ?_ (fun hHeld => ?_)
            · trivial
            clear hK K
            (try simp only [List.getElem_toArray, List.getElem_cons_succ, List.getElem_cons_zero, Act.put, List.setIfInBounds_toArray, List.set_cons_zero, List.set_cons_succ])
            refine wpAnyH_ready (rs := [27]) (by kernel_rfl) (by simp) ?_
            refine AllReadyH.cons rfl (fun K hK => ?_) AllReadyH.nil
            go_simp
            go_at_call 8
            (with_reducible refine (K1.out _ _ R113.out D112.out).mono ?_)
            rintro x v114 ⟨rfl, hb1⟩
            have D115 := Aside0.mk (below_step D112.out hb1)
            clear hb1
            refine hK.out _ _ ?_ (fun hHeld => ?_)
            · trivial
            clear hK K
            (try simp only [List.getElem_toArray, List.getElem_cons_succ, List.getElem_cons_zero, Act.put, List.setIfInBounds_toArray, List.set_cons_zero, List.set_cons_succ])
            refine wpAnyH_take (i := 28) (v := ?_) rfl (by kernel_rfl) (by kernel_rfl) (by kernel_rfl) (fun _ _ _ h => h) (Or.inl ⟨by rfl, ?_⟩) (by trivial) ?_
            rotate_left
            · (intro w hSw; (try dsimp only at hSw); go_simp; try (with_reducible rfl))
            (try simp only [List.getElem_toArray, List.getElem_cons_succ, List.getElem_cons_zero, Act.put, List.setIfInBounds_toArray, List.set_cons_zero, List.set_cons_succ])
            refine wpAnyH_take (i := 29) (v := ?_) rfl (by kernel_rfl) (by kernel_rfl) (by kernel_rfl) (fun _ _ _ h => h) (Or.inl ⟨by rfl, ?_⟩) (by trivial) ?_
            rotate_left
            · (intro w hSw; (try dsimp only at hSw); go_simp; try (with_reducible rfl))
            (try simp only [List.getElem_toArray, List.getElem_cons_succ, List.getElem_cons_zero, Act.put, List.setIfInBounds_toArray, List.set_cons_zero, List.set_cons_succ])
            refine wpAnyH_take (i := 30) (v := ?_) rfl (by kernel_rfl) (by kernel_rfl) (by kernel_rfl) (fun _ _ _ h => h) (Or.inl ⟨by rfl, ?_⟩) (by trivial) ?_
            rotate_left
            · (intro w hSw; (try dsimp only at hSw); go_simp; try (with_reducible rfl))
            (try simp only [List.getElem_toArray, List.getElem_cons_succ, List.getElem_cons_zero, Act.put, List.setIfInBounds_toArray, List.set_cons_zero, List.set_cons_succ])
            refine wpAnyH_done (by kernel_rfl) ?_ _
            refine NoPanic.normal ?_
            (try simp only [List.getElem_toArray, List.getElem_cons_succ, List.getElem_cons_zero, Act.put, List.setIfInBounds_toArray, List.set_cons_zero, List.set_cons_succ])
            go_wp2_with fail
            go_ret
            exact ⟨by rfl, D115.out⟩
          · skip
            go_simp
            have D116 := Aside0.mk (below_alloc D108.out (.cells #[.slice A b.length ca] 28))
            have R117 := Aside0.mk (blk_alloc R109.out (.cells #[.slice A b.length ca] 28))
            have R118 : Aside0 (((((v105).alloc (.cells #[] 5)).alloc (.cells #[.slice A kn ca, .slice none 0 0, .slice A2 n2 c2, .slice (some ⟨v105.heap.size, 0, none⟩) 0 0] 28)).alloc (.cells #[.slice A b.length ca] 28)).heap[v105.heap.size + 1 + 1]? = some (.cells #[.slice A b.length ca] 28 (0, 0))) := ⟨by have := blk_new (((v105).alloc (.cells #[] 5)).alloc (.cells #[.slice A kn ca, .slice none 0 0, .slice A2 n2 c2, .slice (some ⟨v105.heap.size, 0, none⟩) 0 0] 28)) (.cells #[.slice A b.length ca] 28); rw [alloc_size, alloc_size] at this; exact this⟩
            refine hK.out _ _ ?_ (fun hHeld => ?_)
            · trivial
            clear hK K
            (try simp only [List.getElem_toArray, List.getElem_cons_succ, List.getElem_cons_zero, Act.put, List.setIfInBounds_toArray, List.set_cons_zero, List.set_cons_succ])
            refine wpAnyH_ready (rs := [24]) (by kernel_rfl) (by simp) ?_
            refine AllReadyH.cons rfl (fun K hK => ?_) AllReadyH.nil
            go_simp
            go_at_call 8
            (with_reducible refine (K4.out _ _ _ R117.out D116.out).mono ?_)
            rintro x v119 ⟨rfl, hb1⟩
            have D120 := Aside0.mk (below_step D116.out hb1)
            have R121 := Aside0.mk ((hb1.block _ (Array.getElem?_eq_some_iff.1 R118.out).1).trans R118.out)
            clear hb1
            refine hK.out _ _ ?_ (fun hHeld => ?_)
            · trivial
            clear hK K
            (try simp only [List.getElem_toArray, List.getElem_cons_succ, List.getElem_cons_zero, Act.put, List.setIfInBounds_toArray, List.set_cons_zero, List.set_cons_succ])
            refine wpAnyH_ready (rs := [27]) (by kernel_rfl) (by simp) ?_
            refine AllReadyH.cons rfl (fun K hK => ?_) AllReadyH.nil
            go_simp
            go_at_call 8
            (with_reducible refine (K1.out _ _ R121.out D120.out).mono ?_)
            rintro x v122 ⟨rfl, hb1⟩
            have D123 := Aside0.mk (below_step D120.out hb1)
            clear hb1
            refine hK.out _ _ ?_ (fun hHeld => ?_)
            · trivial
            clear hK K
            (try simp only [List.getElem_toArray, List.getElem_cons_succ, List.getElem_cons_zero, Act.put, List.setIfInBounds_toArray, List.set_cons_zero, List.set_cons_succ])
            refine wpAnyH_take (i := 28) (v := ?_) rfl (by kernel_rfl) (by kernel_rfl) (by kernel_rfl) (fun _ _ _ h => h) (Or.inl ⟨by rfl, ?_⟩) (by trivial) ?_
            rotate_left
            · (intro w hSw; (try dsimp only at hSw); go_simp; try (with_reducible rfl))
            (try simp only [List.getElem_toArray, List.getElem_cons_succ, List.getElem_cons_zero, Act.put, List.setIfInBounds_toArray, List.set_cons_zero, List.set_cons_succ])
            refine wpAnyH_take (i := 29) (v := ?_) rfl (by kernel_rfl) (by kernel_rfl) (by kernel_rfl) (fun _ _ _ h => h) (Or.inl ⟨by rfl, ?_⟩) (by trivial) ?_
            rotate_left
            · (intro w hSw; (try dsimp only at hSw); go_simp; try (with_reducible rfl))
            (try simp only [List.getElem_toArray, List.getElem_cons_succ, List.getElem_cons_zero, Act.put, List.setIfInBounds_toArray, List.set_cons_zero, List.set_cons_succ])
            refine wpAnyH_take (i := 30) (v := ?_) rfl (by kernel_rfl) (by kernel_rfl) (by kernel_rfl) (fun _ _ _ h => h) (Or.inl ⟨by rfl, ?_⟩) (by trivial) ?_
            rotate_left
            · (intro w hSw; (try dsimp only at hSw); go_simp; try (with_reducible rfl))
            (try simp only [List.getElem_toArray, List.getElem_cons_succ, List.getElem_cons_zero, Act.put, List.setIfInBounds_toArray, List.set_cons_zero, List.set_cons_succ])
            refine wpAnyH_done (by kernel_rfl) ?_ _
            refine NoPanic.normal ?_
            (try simp only [List.getElem_toArray, List.getElem_cons_succ, List.getElem_cons_zero, Act.put, List.setIfInBounds_toArray, List.set_cons_zero, List.set_cons_succ])
            go_wp2_with fail
            go_ret
            exact ⟨by rfl, D123.out⟩
        · skip
          go_simp
          have D124 := Aside0.mk (below_alloc D107.out (.cells #[.slice A b.length ca] 28))
          have R125 : Aside0 ((((v105).alloc (.cells #[] 5)).alloc (.cells #[.slice A b.length ca] 28)).heap[v105.heap.size + 1]? = some (.cells #[.slice A b.length ca] 28 (0, 0))) := ⟨by have := blk_new ((v105).alloc (.cells #[] 5)) (.cells #[.slice A b.length ca] 28); rw [alloc_size] at this; exact this⟩
          refine hK.out _ _ ?_ (fun hHeld => ?_)
          · trivial
          clear hK K
          (try simp only [List.getElem_toArray, List.getElem_cons_succ, List.getElem_cons_zero, Act.put, List.setIfInBounds_toArray, List.set_cons_zero, List.set_cons_succ])
          refine wpAnyH_ready (rs := [23]) (by kernel_rfl) (by simp) ?_
          refine AllReadyH.cons rfl (fun K hK => ?_) AllReadyH.nil
          go_simp
          have D126 := Aside0.mk (below_alloc D124.out (.cells #[.slice A kn ca, .slice none 0 0, .slice A2 n2 c2, .slice (some ⟨v105.heap.size, 0, none⟩) 0 0] 28))
          have R127 := Aside0.mk (blk_alloc R125.out (.cells #[.slice A kn ca, .slice none 0 0, .slice A2 n2 c2, .slice (some ⟨v105.heap.size, 0, none⟩) 0 0] 28))
          have R128 : Aside0 (((((v105).alloc (.cells #[] 5)).alloc (.cells #[.slice A b.length ca] 28)).alloc (.cells #[.slice A kn ca, .slice none 0 0, .slice A2 n2 c2, .slice (some ⟨v105.heap.size, 0, none⟩) 0 0] 28)).heap[v105.heap.size + 1 + 1]? = some (.cells #[.slice A kn ca, .slice none 0 0, .slice A2 n2 c2, .slice (some ⟨v105.heap.size, 0, none⟩) 0 0] 28 (0, 0))) := ⟨by have := blk_new (((v105).alloc (.cells #[] 5)).alloc (.cells #[.slice A b.length ca] 28)) (.cells #[.slice A kn ca, .slice none 0 0, .slice A2 n2 c2, .slice (some ⟨v105.heap.size, 0, none⟩) 0 0] 28); rw [alloc_size, alloc_size] at this; exact this⟩
          refine hK.out _ _ ?_ (fun hHeld => ?_)
          · trivial
          clear hK K
          (try simp only [List.getElem_toArray, List.getElem_cons_succ, List.getElem_cons_zero, Act.put, List.setIfInBounds_toArray, List.set_cons_zero, List.set_cons_succ])
          refine wpAnyH_ready (rs := [24]) (by kernel_rfl) (by simp) ?_
          refine AllReadyH.cons rfl (fun K hK => ?_) AllReadyH.nil
          go_simp
          go_at_call 8
          (with_reducible refine (K4.out _ _ _ R128.out D126.out).mono ?_)
          rintro x v129 ⟨rfl, hb1⟩
          have D130 := Aside0.mk (below_step D126.out hb1)
          have R131 := Aside0.mk ((hb1.block _ (Array.getElem?_eq_some_iff.1 R127.out).1).trans R127.out)
          clear hb1
          refine hK.out _ _ ?_ (fun hHeld => ?_)
          · trivial
          clear hK K
          (try simp only [List.getElem_toArray, List.getElem_cons_succ, List.getElem_cons_zero, Act.put, List.setIfInBounds_toArray, List.set_cons_zero, List.set_cons_succ])
          refine wpAnyH_ready (rs := [27]) (by kernel_rfl) (by simp) ?_
          refine AllReadyH.cons rfl (fun K hK => ?_) AllReadyH.nil
          go_simp
          go_at_call 8
          (with_reducible refine (K1.out _ _ R131.out D130.out).mono ?_)
          rintro x v132 ⟨rfl, hb1⟩
          have D133 := Aside0.mk (below_step D130.out hb1)
          clear hb1
          refine hK.out _ _ ?_ (fun hHeld => ?_)
          · trivial
          clear hK K
          (try simp only [List.getElem_toArray, List.getElem_cons_succ, List.getElem_cons_zero, Act.put, List.setIfInBounds_toArray, List.set_cons_zero, List.set_cons_succ])
          refine wpAnyH_take (i := 28) (v := ?_) rfl (by kernel_rfl) (by kernel_rfl) (by kernel_rfl) (fun _ _ _ h => h) (Or.inl ⟨by rfl, ?_⟩) (by trivial) ?_
          rotate_left
          · (intro w hSw; (try dsimp only at hSw); go_simp; try (with_reducible rfl))
          (try simp only [List.getElem_toArray, List.getElem_cons_succ, List.getElem_cons_zero, Act.put, List.setIfInBounds_toArray, List.set_cons_zero, List.set_cons_succ])
          refine wpAnyH_take (i := 29) (v := ?_) rfl (by kernel_rfl) (by kernel_rfl) (by kernel_rfl) (fun _ _ _ h => h) (Or.inl ⟨by rfl, ?_⟩) (by trivial) ?_
          rotate_left
          · (intro w hSw; (try dsimp only at hSw); go_simp; try (with_reducible rfl))
          (try simp only [List.getElem_toArray, List.getElem_cons_succ, List.getElem_cons_zero, Act.put, List.setIfInBounds_toArray, List.set_cons_zero, List.set_cons_succ])
          refine wpAnyH_take (i := 30) (v := ?_) rfl (by kernel_rfl) (by kernel_rfl) (by kernel_rfl) (fun _ _ _ h => h) (Or.inl ⟨by rfl, ?_⟩) (by trivial) ?_
          rotate_left
          · (intro w hSw; (try dsimp only at hSw); go_simp; try (with_reducible rfl))
          (try simp only [List.getElem_toArray, List.getElem_cons_succ, List.getElem_cons_zero, Act.put, List.setIfInBounds_toArray, List.set_cons_zero, List.set_cons_succ])
          refine wpAnyH_done (by kernel_rfl) ?_ _
          refine NoPanic.normal ?_
          (try simp only [List.getElem_toArray, List.getElem_cons_succ, List.getElem_cons_zero, Act.put, List.setIfInBounds_toArray, List.set_cons_zero, List.set_cons_succ])
          go_wp2_with fail
          go_ret
          exact ⟨by rfl, D133.out⟩
      · skip
        go_simp
        have D134 := Aside0.mk (below_alloc D106.out (.cells #[.slice A b.length ca] 28))
        have R135 : Aside0 (((v105).alloc (.cells #[.slice A b.length ca] 28)).heap[v105.heap.size]? = some (.cells #[.slice A b.length ca] 28 (0, 0))) := ⟨by have := blk_new (v105) (.cells #[.slice A b.length ca] 28); exact this⟩
        refine hK.out _ _ ?_ (fun hHeld => ?_)
        · trivial
        clear hK K
        (try simp only [List.getElem_toArray, List.getElem_cons_succ, List.getElem_cons_zero, Act.put, List.setIfInBounds_toArray, List.set_cons_zero, List.set_cons_succ])
        refine wpAnyH_ready (rs := [22]) (by kernel_rfl) (by simp) ?_
        refine AllReadyH.cons rfl (fun K hK => ?_) AllReadyH.nil
        go_simp
        have D136 := Aside0.mk (below_alloc D134.out (.cells #[] 5))
        have R137 := Aside0.mk (blk_alloc R135.out (.cells #[] 5))
        refine hK.out _ _ ?_ (fun hHeld => ?_)
        · trivial
        clear hK K
        (try simp only [List.getElem_toArray, List.getElem_cons_succ, List.getElem_cons_zero, Act.put, List.setIfInBounds_toArray, List.set_cons_zero, List.set_cons_succ])
        refine wpAnyH_ready (rs := [23]) (by kernel_rfl) (by simp) ?_
        refine AllReadyH.cons rfl (fun K hK => ?_) AllReadyH.nil
        go_simp
        have D138 := Aside0.mk (below_alloc D136.out (.cells #[.slice A kn ca, .slice none 0 0, .slice A2 n2 c2, .slice (some ⟨v105.heap.size + 1, 0, none⟩) 0 0] 28))
        have R139 := Aside0.mk (blk_alloc R137.out (.cells #[.slice A kn ca, .slice none 0 0, .slice A2 n2 c2, .slice (some ⟨v105.heap.size + 1, 0, none⟩) 0 0] 28))
        have R140 : Aside0 (((((v105).alloc (.cells #[.slice A b.length ca] 28)).alloc (.cells #[] 5)).alloc (.cells #[.slice A kn ca, .slice none 0 0, .slice A2 n2 c2, .slice (some ⟨v105.heap.size + 1, 0, none⟩) 0 0] 28)).heap[v105.heap.size + 1 + 1]? = some (.cells #[.slice A kn ca, .slice none 0 0, .slice A2 n2 c2, .slice (some ⟨v105.heap.size + 1, 0, none⟩) 0 0] 28 (0, 0))) := ⟨by have := blk_new (((v105).alloc (.cells #[.slice A b.length ca] 28)).alloc (.cells #[] 5)) (.cells #[.slice A kn ca, .slice none 0 0, .slice A2 n2 c2, .slice (some ⟨v105.heap.size + 1, 0, none⟩) 0 0] 28); rw [alloc_size, alloc_size] at this; exact this⟩
        refine hK.out _ _ ?_ (fun hHeld => ?_)
        · trivial
        clear hK K
        (try simp only [List.getElem_toArray, List.getElem_cons_succ, List.getElem_cons_zero, Act.put, List.setIfInBounds_toArray, List.set_cons_zero, List.set_cons_succ])
        refine wpAnyH_ready (rs := [24]) (by kernel_rfl) (by simp) ?_
        refine AllReadyH.cons rfl (fun K hK => ?_) AllReadyH.nil
        go_simp
        go_at_call 8
        (with_reducible refine (K4.out _ _ _ R140.out D138.out).mono ?_)
        rintro x v141 ⟨rfl, hb1⟩
        have D142 := Aside0.mk (below_step D138.out hb1)
        have R143 := Aside0.mk ((hb1.block _ (Array.getElem?_eq_some_iff.1 R139.out).1).trans R139.out)
        clear hb1
        refine hK.out _ _ ?_ (fun hHeld => ?_)
        · trivial
        clear hK K
        (try simp only [List.getElem_toArray, List.getElem_cons_succ, List.getElem_cons_zero, Act.put, List.setIfInBounds_toArray, List.set_cons_zero, List.set_cons_succ])
        refine wpAnyH_ready (rs := [27]) (by kernel_rfl) (by simp) ?_
        refine AllReadyH.cons rfl (fun K hK => ?_) AllReadyH.nil
        go_simp
        go_at_call 8
        (with_reducible refine (K1.out _ _ R143.out D142.out).mono ?_)
        rintro x v144 ⟨rfl, hb1⟩
        have D145 := Aside0.mk (below_step D142.out hb1)
        clear hb1
        refine hK.out _ _ ?_ (fun hHeld => ?_)
        · trivial
        clear hK K
        (try simp only [List.getElem_toArray, List.getElem_cons_succ, List.getElem_cons_zero, Act.put, List.setIfInBounds_toArray, List.set_cons_zero, List.set_cons_succ])
        refine wpAnyH_take (i := 28) (v := ?_) rfl (by kernel_rfl) (by kernel_rfl) (by kernel_rfl) (fun _ _ _ h => h) (Or.inl ⟨by rfl, ?_⟩) (by trivial) ?_
        rotate_left
        · (intro w hSw; (try dsimp only at hSw); go_simp; try (with_reducible rfl))
        (try simp only [List.getElem_toArray, List.getElem_cons_succ, List.getElem_cons_zero, Act.put, List.setIfInBounds_toArray, List.set_cons_zero, List.set_cons_succ])
        refine wpAnyH_take (i := 29) (v := ?_) rfl (by kernel_rfl) (by kernel_rfl) (by kernel_rfl) (fun _ _ _ h => h) (Or.inl ⟨by rfl, ?_⟩) (by trivial) ?_
        rotate_left
        · (intro w hSw; (try dsimp only at hSw); go_simp; try (with_reducible rfl))
        (try simp only [List.getElem_toArray, List.getElem_cons_succ, List.getElem_cons_zero, Act.put, List.setIfInBounds_toArray, List.set_cons_zero, List.set_cons_succ])
        refine wpAnyH_take (i := 30) (v := ?_) rfl (by kernel_rfl) (by kernel_rfl) (by kernel_rfl) (fun _ _ _ h => h) (Or.inl ⟨by rfl, ?_⟩) (by trivial) ?_
        rotate_left
        · (intro w hSw; (try dsimp only at hSw); go_simp; try (with_reducible rfl))
        (try simp only [List.getElem_toArray, List.getElem_cons_succ, List.getElem_cons_zero, Act.put, List.setIfInBounds_toArray, List.set_cons_zero, List.set_cons_succ])
        refine wpAnyH_done (by kernel_rfl) ?_ _
        refine NoPanic.normal ?_
        (try simp only [List.getElem_toArray, List.getElem_cons_succ, List.getElem_cons_zero, Act.put, List.setIfInBounds_toArray, List.set_cons_zero, List.set_cons_succ])
        go_wp2_with fail
        go_ret
        exact ⟨by rfl, D145.out⟩
end Go.Proofs.YtbkocnclaobabaaDoor.CutsW
