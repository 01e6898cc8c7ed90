/- The law's simplest facts, walked: they hold. No condition. -/
import Derived.Test.YthcebfjpgmkjjaaPAllx1
import Derived.Lib.SlBytesConst
namespace Go.Proofs.Ythcebfjpgmkjjaa.Awake
open Go.RowKit Go.Proofs.YthcebfjpgmkjjaaW.PrintWords Go.Proofs.YthcebfjpgmkjjaaW.PrintLast Go.Proofs.YthcebfjpgmkjjaaW.PrintMore Go.Proofs.Ythcebfjpgmkjjaa.PAll
set_option linter.unusedVariables false
set_option linter.unusedSimpArgs false
theorem C_bytes {w : World} {g : Nat} {l : List Int} (hl : l.length ≤ 9223372036854775807) (h : ∀ i : Nat, i < l.length → w.cell? ⟨g, i, none⟩ = some (.int .u8 (l.getD i 0))) : (Kd.int .u8).C w (some ⟨g, 0, none⟩) l.length l := by
  refine ⟨rfl, hl, fun _ => ⟨_, rfl, fun j p hj => ⟨[.int .u8 p], rfl, rfl, fun i u hu => ?_⟩⟩⟩
  obtain ⟨hlt, rfl⟩ := List.getElem?_eq_some_iff.1 hj
  cases i with
  | zero =>
    simp at hu; subst hu
    have := h j hlt
    rw [List.getD_eq_getElem?_getD, List.getElem?_eq_getElem hlt] at this
    have e : (⟨g, 0, none⟩ : Addr).add (j * (Kd.int .u8).sz + 0) = ⟨g, j, none⟩ := by unfold Addr.add; split <;> simp_all [Kd.int, Kd.scalar]
    rw [e]; simpa using this
  | succ i => simp at hu
theorem C_rows {w : World} {g : Nat} {ls : List (List Int)} (hl : ls.length ≤ 9223372036854775807) (h : ∀ i l, ls[i]? = some l → ∃ A c, w.cell? ⟨g, i, none⟩ = some (.slice A l.length c) ∧ l.length ≤ c ∧ (Kd.int .u8).C w A l.length l) : (Kd.slice 5 (Kd.int .u8)).C w (some ⟨g, 0, none⟩) ls.length ls := by
  refine ⟨rfl, hl, fun _ => ⟨_, rfl, fun j p hj => ?_⟩⟩
  obtain ⟨A, c, hc, hlc, hC⟩ := h j p hj
  refine ⟨[.slice A p.length c], rfl, ⟨A, c, rfl, hlc, hC⟩, fun i u hu => ?_⟩
  cases i with
  | zero => 
    simp at hu; subst hu
    have e : (⟨g, 0, none⟩ : Addr).add (j * (Kd.slice 5 (Kd.int .u8)).sz + 0) = ⟨g, j, none⟩ := by unfold Addr.add; split <;> simp_all [Kd.slice]
    rw [e]; exact hc
  | succ i => simp at hu
theorem C_heap {w : World} {g : Nat} {l : List Int} {t : TypeId} {fr : Nat × Nat} (hl : l.length ≤ 9223372036854775807) (h : w.heap[g]? = some (.cells (nums .u8 l).toArray t fr)) : (Kd.int .u8).C w (some ⟨g, 0, none⟩) l.length l := by
  refine C_bytes hl fun i hi => ?_
  rw [cell_of_row w g i _ t fr h]
  unfold nums; simp [hi]
theorem C_heaps {w : World} {g : Nat} {ls : List (List Int)} {cs : Array Value} {t : TypeId} {fr : Nat × Nat} (hl : ls.length ≤ 9223372036854775807) (h : w.heap[g]? = some (.cells cs t fr))
    (hc : ∀ (i : Nat) (l : List Int), ls[i]? = some l → ∃ (A : Option Addr) (c : Nat), cs[i]? = some (Value.slice A l.length c) ∧ l.length ≤ c ∧ (Kd.int .u8).C w A l.length l) : (Kd.slice 5 (Kd.int .u8)).C w (some ⟨g, 0, none⟩) ls.length ls := by
  refine C_rows hl fun i l hi => ?_
  obtain ⟨A, c, h1, h2, h3⟩ := hc i l hi
  exact ⟨A, c, (cell_of_row w g i cs t fr h).trans h1, h2, h3⟩
theorem alloc_size (w : World) (o : Obj) : (w.alloc o).heap.size = w.heap.size + 1 := by
  show (w.heap.push o).size = _
  simp
theorem three (W : World) (A B C : Obj) : (((W.alloc A).alloc B).alloc C).heap[W.heap.size]? = some A ∧ (((W.alloc A).alloc B).alloc C).heap[W.heap.size + 1]? = some B ∧ (((W.alloc A).alloc B).alloc C).heap[W.heap.size + 1 + 1]? = some C ∧ Below W.heap.size W (((W.alloc A).alloc B).alloc C) := by
  refine ⟨blk_alloc (blk_alloc (blk_new W _) _) _, blk_alloc ?_ _, ?_, below_alloc (below_alloc (below_alloc (Below.refl _ _) _) _) _⟩
  · have := blk_new (W.alloc A) B
    rwa [alloc_size] at this
  · have := blk_new ((W.alloc A).alloc B) C
    rwa [alloc_size, alloc_size] at this
theorem two (W : World) (A B : Obj) : ((W.alloc A).alloc B).heap[W.heap.size]? = some A ∧ ((W.alloc A).alloc B).heap[W.heap.size + 1]? = some B ∧ Below W.heap.size W ((W.alloc A).alloc B) := by
  refine ⟨blk_alloc (blk_new W _) _, ?_, below_alloc (below_alloc (Below.refl _ _) _) _⟩
  have := blk_new (W.alloc A) B
  rwa [alloc_size] at this
theorem s1 : crc_Sum.f 60 [[49, 50, 51, 52], [53, 54, 55, 56, 57]] = some 3808858755 := by decide +kernel
theorem s2 : crc_Sum.f 60 [] = some 0 := by decide +kernel
theorem s3 : ∃ v z, crc_Sum.f 60 [[97]] = some v ∧ crc_Zeros.f v 2 = some z ∧ crc_Sum.f 60 [[97, 0, 0]] = some z :=
  ⟨(crc_Sum.f 60 [[97]]).getD 0, (crc_Sum.f 60 [[97, 0, 0]]).getD 0, by decide +kernel, by decide +kernel, by decide +kernel⟩
set_option maxHeartbeats 1000000 in
set_option maxRecDepth 100000 in
theorem awake_calls (w : World) : Calls Try.prog 10 #[] w fun e w' => e = .returned (.bool true) ∧ Below w.heap.size w w' := by
  have kc : ∀ (W : World) (C : Array Value) (n c g : Nat), g = W.heap.size → (convert 23 23 (.slice (some ⟨g, 0, none⟩) n c)).run Try.prog (W.alloc (.cells C 5)) = .ok (.slice (some ⟨g, 0, none⟩) n c) (W.alloc (.cells C 5 (C.size, C.size + 1))) := fun W C n c g hg => by subst hg; exact Lib.run_convert_bytes_const (P := Try.prog) W 23 5 C n c Try.underlying23 Try.underlying5
  go_enter Try.func10, Try.ntmps10
  go_wp2_with fail
  obtain ⟨h1, h2, h3, h4⟩ := three w (.cells #[Value.int IntKind.u8 49, Value.int IntKind.u8 50, Value.int IntKind.u8 51, Value.int IntKind.u8 52] 5 (4, 5)) (.cells #[Value.int IntKind.u8 53, Value.int IntKind.u8 54, Value.int IntKind.u8 55, Value.int IntKind.u8 56, Value.int IntKind.u8 57] 5 (5, 6))
    (.cells #[Value.slice (some { block := w.heap.size, off := 0 }) 4 4, Value.slice (some { block := w.heap.size + 1, off := 0 }) 5 5] 23)
  refine (crc_Sum.calls 60 (some ⟨w.heap.size + 1 + 1, 0, none⟩) 2 [[49, 50, 51, 52], [53, 54, 55, 56, 57]] 3808858755 _ (C_heaps (by decide) h3 (fun i l hi => ?_)) (by decide) s1).mono ?_
  · match i, hi with
    | 0, hi =>
      obtain rfl : [49, 50, 51, 52] = l := by simpa using hi
      exact ⟨_, _, rfl, by decide, C_heap (by decide) h1⟩
    | 1, hi =>
      obtain rfl : [53, 54, 55, 56, 57] = l := by simpa using hi
      exact ⟨_, _, rfl, by decide, C_heap (by decide) h2⟩
    | i + 2, hi => simp at hi
  rintro e w1 ⟨rfl, ⟨nd, hd⟩⟩
  have HB1 : Aside0 (Below w.heap.size w w1) := ⟨by rw [hd]; exact pw_below_drewN h4 nd⟩
  clear hd h1 h2 h3 h4
  go_wp2_with fail
  refine (crc_Sum.calls 60 none 0 [] 0 _ (Kd.C_nil _ _) (by decide) s2).mono ?_
  rintro e w2 ⟨rfl, ⟨nd, hd⟩⟩
  have HB2 : Aside0 (Below w.heap.size w w2) := ⟨by rw [hd]; exact pw_below_drewN HB1.out nd⟩
  clear hd HB1
  go_wp2_with fail
  obtain ⟨v, z, e1, e2, e3⟩ := s3
  have E1 := Aside0.mk e1
  have E2 := Aside0.mk e2
  have E3 := Aside0.mk e3
  clear e1 e2 e3
  obtain ⟨h1, h2, h4⟩ := two w2 (.cells #[Value.int IntKind.u8 97] 5 (1, 2)) (.cells #[Value.slice (some { block := w2.heap.size, off := 0 }) 1 1] 23)
  refine (crc_Sum.calls 60 (some ⟨w2.heap.size + 1, 0, none⟩) 1 [[97]] v _ (C_heaps (by decide) h2 (fun i l hi => ?_)) (by decide) E1.out).mono ?_
  · match i, hi with
    | 0, hi =>
      obtain rfl : [97] = l := by simpa using hi
      exact ⟨_, _, rfl, by decide, C_heap (by decide) h1⟩
    | i + 1, hi => simp at hi
  rintro e w3 ⟨rfl, ⟨nd, hd⟩⟩
  have HB3 : Aside0 (Below w.heap.size w w3) := ⟨by rw [hd]; exact pw_below_drewN (below_step HB2.out h4) nd⟩
  clear hd h1 h2 h4 HB2
  go_wp2_with fail
  refine (crc_Zeros.calls v 2 z _ E2.out).mono ?_
  rintro e w4 ⟨rfl, hb⟩
  have HB4 : Aside0 (Below w.heap.size w w4) := ⟨below_step HB3.out hb⟩
  clear hb HB3
  go_wp2_with fail
  obtain ⟨h1, h2, h4⟩ := two w4 (.cells #[Value.int IntKind.u8 97, Value.int IntKind.u8 0, Value.int IntKind.u8 0] 5 (3, 4)) (.cells #[Value.slice (some { block := w4.heap.size, off := 0 }) 3 3] 23)
  refine (crc_Sum.calls 60 (some ⟨w4.heap.size + 1, 0, none⟩) 1 [[97, 0, 0]] z _ (C_heaps (by decide) h2 (fun i l hi => ?_)) (by decide) E3.out).mono ?_
  · match i, hi with
    | 0, hi =>
      obtain rfl : [97, 0, 0] = l := by simpa using hi
      exact ⟨_, _, rfl, by decide, C_heap (by decide) h1⟩
    | i + 1, hi => simp at hi
  rintro e w5 ⟨rfl, ⟨nd, hd⟩⟩
  have HB5 : Aside0 (Below w.heap.size w w5) := ⟨by rw [hd]; exact pw_below_drewN (below_step HB4.out h4) nd⟩
  clear hd h1 h2 h4 HB4
  go_wp2
  go_ret
  exact ⟨by simp, HB5.out⟩
end Go.Proofs.Ythcebfjpgmkjjaa.Awake
namespace Go.Proofs.Ythcebfjpgmkjjaa.PAll
open Go.RowKit
def chartularylaw02_awake.f : Option Bool := some true
theorem chartularylaw02_awake.calls (r : Bool) (w : World) (h : chartularylaw02_awake.f = some r) : Calls Try.prog 10 #[] w fun e w' => e = .returned (.bool r) ∧ Below w.heap.size w w' := by
  obtain rfl := Option.some.inj h
  exact Awake.awake_calls w
end Go.Proofs.Ythcebfjpgmkjjaa.PAll
