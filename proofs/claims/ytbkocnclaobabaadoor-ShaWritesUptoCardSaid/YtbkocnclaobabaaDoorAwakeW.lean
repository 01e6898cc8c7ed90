/- The law's simplest facts, walked: they hold. No condition. -/
import Derived.Test.YtbkocnclaobabaaDoorDigEq
import Derived.Lib.SlBytesConst
import Derived.Deep.RegionHeld3
import Derived.Deep.MidRow
namespace Go.Proofs.YtbkocnclaobabaaDoor.AwakeW
set_option linter.unusedVariables false
set_option linter.unusedSimpArgs false
open Go.RowKit Go.Proofs.YtbkocnclaobabaaDoor.PAll Go.Proofs.YtbkocnclaobabaaDoor.Nums Go.Proofs.YtbkocnclaobabaaDoor.PutM Go.Proofs.YtbkocnclaobabaaDoor.Libs Go.Proofs.YtbkocnclaobabaaDoor.ShaM Go.Proofs.YtbkocnclaobabaaDoor.WriteM Go.Proofs.YtbkocnclaobabaaDoor.Arr Go.Proofs.YtbkocnclaobabaaDoor.SchedW Go.Proofs.YtbkocnclaobabaaDoor.NewW Go.Proofs.YtbkocnclaobabaaDoor.MixW Go.Proofs.YtbkocnclaobabaaDoor.App Go.Proofs.YtbkocnclaobabaaDoor.HashW Go.Proofs.YtbkocnclaobabaaDoorW.PrintWords Go.Proofs.YtbkocnclaobabaaDoorW.PrintLast Go.Proofs.YtbkocnclaobabaaDoorW.PrintMore
open Go.Proofs.YtbkocnclaobabaaDoor.WriteW Go.Proofs.YtbkocnclaobabaaDoor.SumW Go.Proofs.YtbkocnclaobabaaDoor.PartsW Go.Proofs.YtbkocnclaobabaaDoor.DigEq
theorem alloc_size (w : World) (o : Obj) : (w.alloc o).heap.size = w.heap.size + 1 := by
  show (w.heap.push o).size = _
  simp
theorem three (W : World) (A B C : Obj) : (((W.alloc A).alloc B).alloc C).heap[W.heap.size]? = some A ∧ (((W.alloc A).alloc B).alloc C).heap[W.heap.size + 1]? = some B ∧ (((W.alloc A).alloc B).alloc C).heap[W.heap.size + 1 + 1]? = some C ∧ Below W.heap.size W (((W.alloc A).alloc B).alloc C) := by
  refine ⟨blk_alloc (blk_alloc (blk_new W _) _) _, blk_alloc ?_ _, ?_, below_alloc (below_alloc (below_alloc (Below.refl _ _) _) _) _⟩
  · have := blk_new (W.alloc A) B
    rwa [alloc_size] at this
  · have := blk_new ((W.alloc A).alloc B) C
    rwa [alloc_size, alloc_size] at this
theorem C_heap {w : World} {g : Nat} {l : List Int} {t : TypeId} {fr : Nat × Nat} (hl : l.length ≤ 9223372036854775807) (h : w.heap[g]? = some (.cells (nums .u8 l).toArray t fr)) : (Kd.int .u8).C w (some ⟨g, 0, none⟩) l.length l := by
  refine C_bytes hl fun i hi => ?_
  rw [cell_of_row w g i _ t fr h]
  unfold nums; simp [hi]
/-- Rows that a row's cells tell. -/
theorem parts_heap {w : World} {g : Nat} {ls : List (List Int)} {cs : Array Value} {t : TypeId} {fr : Nat × Nat} (h : w.heap[g]? = some (.cells cs t fr))
    (hc : ∀ (i : Nat) (l : List Int), ls[i]? = some l → ∃ (A : Option Addr) (c : Nat), cs[i]? = some (Value.slice A l.length c) ∧ l.length ≤ c ∧ (Kd.int .u8).C w A l.length l ∧ (A = none → c = 0) ∧ Bytes l ∧ l.length ≤ 140737488351232) : PartsAt w (some ⟨g, 0, none⟩) ls := fun i hi => by
  obtain ⟨A, c, h1, h2, h3, h4, h5, h6⟩ := hc i _ (List.getElem?_eq_getElem hi)
  refine ⟨⟨g, 0, none⟩, A, c, rfl, ?_, h2, h3, h4, h5, h6⟩
  rw [add_plain]
  exact (cell_of_row w g i cs t fr h).trans h1
theorem getD_cons (D : List Int) (hD : D.length = 32) (j : Nat) (hj : j < 32) (w : World) (g t : Nat) (h : w.heap[g]? = some (.cells (nums .u8 D).toArray t (0, 0))) : w.cell? ⟨g, j, none⟩ = some (.int .u8 (D.getD j 0)) := by
  rw [cell_of_row w g j _ t (0, 0) h, List.getElem?_toArray]
  unfold nums
  rw [List.getElem?_map, List.getElem?_eq_getElem (by omega), List.getD_eq_getElem?_getD, List.getElem?_eq_getElem (by omega)]
  rfl
set_option maxHeartbeats 2000000 in
set_option maxRecDepth 100000 in
theorem awake_calls (w : World) (hG : Glob w) : Calls Tryd.prog 7 #[] w fun e w' => e = .returned (.bool true) ∧ Below w.heap.size w w' := by
  have kc : ∀ (W : World) (C : Array Value) (n c g : Nat), g = W.heap.size → (convert 28 28 (.slice (some ⟨g, 0, none⟩) n c)).run Tryd.prog (W.alloc (.cells C 5)) = .ok (.slice (some ⟨g, 0, none⟩) n c) (W.alloc (.cells C 5 (C.size, C.size + 1))) := fun W C n c g hg => by subst hg; exact Lib.run_convert_bytes_const (P := Tryd.prog) W 28 5 C n c Tryd.underlying28 Tryd.underlying5
  have HG := Aside0.mk hG
  clear hG
  go_enter Tryd.func7, Tryd.ntmps7
  go_wp2_with fail
  obtain ⟨h1, h2, h3, h4⟩ := three w (.cells #[Value.int IntKind.u8 97] 5 (1, 2)) (.cells #[Value.int IntKind.u8 98, Value.int IntKind.u8 99] 5 (2, 3)) (.cells #[Value.slice (some { block := w.heap.size, off := 0 }) 1 1, Value.slice (some { block := w.heap.size + 1, off := 0 }) 2 2] 28)
  refine (parts_calls (some ⟨w.heap.size + 1 + 1, 0, none⟩) 2 [[97], [98, 99]] _ (Glob.below HG.out h4) (parts_heap h3 fun i l hi => ?_) (by decide) (by decide) (by decide)).mono ?_
  · match i, hi with
    | 0, hi =>
      obtain rfl : [97] = l := by simpa using hi
      exact ⟨_, _, rfl, by decide, C_heap (by decide) h1, (fun e => by cases e), (by unfold Bytes; decide), by decide⟩
    | 1, hi =>
      obtain rfl : [98, 99] = l := by simpa using hi
      exact ⟨_, _, rfl, by decide, C_heap (by decide) h2, (fun e => by cases e), (by unfold Bytes; decide), by decide⟩
    | i + 2, hi => simp at hi
  rw [show [[97], [98, 99]].flatten = [(97 : Int), 98, 99] from rfl]
  rintro e w1 ⟨rfl, hb⟩
  have B1 : Aside0 (Below w.heap.size w w1) := ⟨below_step h4 hb⟩
  clear h1 h2 h3 h4 hb
  have hdl := dig_length [97, 98, 99]
  have hdb := dig_bytes [97, 98, 99]
  obtain ⟨d0, d1, d31⟩ := dig_abc
  generalize hdd : dig [97, 98, 99] = D at *
  have HDD := Aside0.mk hdd
  have HDB := Aside0.mk hdb
  obtain ⟨N, hN⟩ : ∃ N, w1.heap.size = N := ⟨_, rfl⟩
  have hi25 : (Tryd.prog.info? 25).map (·.size) = some (nums .u8 D).toArray.size := by rw [List.size_toArray, nums_length, hdl]; exact info25
  have hz32 : (nums .u8 (List.replicate 32 0)).toArray.size = (nums .u8 D).toArray.size := Ops.size_eq (by rw [hdl]; rfl)
  have hone : (nums .u8 D).toArray.all (·.oneCell') = true := by
    rw [Array.all_eq_true_iff_forall_mem]; intro u hu; exact nums_one D u (by simpa using hu)
  clear hdd hdb
  go_wp2_with (first
    | ((with_reducible refine Ops.wpList_allocRow rfl 25 rfl _ Ops.zero25 N hN fun W1 k1 b1 z1 => ?_); have K1 := Aside0.mk k1; have B2 := Aside0.mk b1; have Z2 := Aside0.mk z1; clear k1 b1 z1)
    | ((with_reducible refine Ops.wpList_setRow rfl 25 (.tmp 1) (.tmp 8) rfl rfl N rfl (nums .u8 D).toArray rfl 25 _ K1.out hi25 hz32 hone fun W2 k3 o3 => ?_); have K3 : Aside0 (W2.heap[N]? = some (.cells (nums .u8 D).toArray 25 (0, 0))) := Aside0.mk k3; have B3 : Aside0 (Below w.heap.size w W2) := ⟨B1.out.trans ((o3.below B2.out (Nat.le_refl _)).mono (by rw [← hN]; exact B1.out.size))⟩; have G3 : Aside0 (Glob W2) := ⟨Glob.below HG.out B3.out⟩; clear k3 o3))
  (with_reducible refine (newT_calls W2 G3.out).mono ?_)
  rintro e W3 ⟨g, hg, rfl, hH, hb⟩
  have hNW : N < W2.heap.size := (Array.getElem?_eq_some_iff.1 K3.out).1
  have H3 := Aside0.mk hH
  have K4 : Aside0 (W3.heap[N]? = some (.cells (nums .u8 D).toArray 25 (0, 0))) := ⟨(hb.block N hNW).trans K3.out⟩
  have B4 : Aside0 (Below w.heap.size w W3) := ⟨below_step B3.out hb⟩
  have hpos : 0 < g := by have := HG.out.pos; omega
  have hgl := hH.lt
  clear hH hb
  go_wp2_with fail
  have hn := blk_new W3 (.cells #[Value.int IntKind.u8 97, Value.int IntKind.u8 98, Value.int IntKind.u8 99] 5 (3, 4))
  have hbn := below_alloc (Below.refl W3.heap.size W3) (.cells #[Value.int IntKind.u8 97, Value.int IntKind.u8 98, Value.int IntKind.u8 99] 5 (3, 4))
  refine (write_calls W3.heap.size g [] [97, 98, 99] _ (Glob.below (Glob.below HG.out B4.out) hbn) hpos (SumA.HashT.below H3.out hbn) (some ⟨W3.heap.size, 0, none⟩) 3 (C_heap (by decide) hn) (by decide) (fun e => by cases e) (by unfold Bytes; decide) (by decide) (by decide) (fun ad e _ => by injection e with e; subst e; show W3.heap.size ≠ g; omega)).mono ?_
  rintro e W4 ⟨rfl, hH, hs⟩
  have H4 := Aside0.mk hH
  have hN3 : N < W3.heap.size := (Array.getElem?_eq_some_iff.1 K4.out).1
  have K5 : Aside0 (W4.heap[N]? = some (.cells (nums .u8 D).toArray 25 (0, 0))) := ⟨(hs.block N (Nat.lt_of_lt_of_le hN3 hbn.size) (by omega)).trans ((hbn.block N hN3).trans K4.out)⟩
  have B5 : Aside0 (Below w.heap.size w W4) := ⟨(below_step B4.out hbn).trans (hs.below (by have := B3.out.size; omega) (Nat.le_trans B4.out.size hbn.size))⟩
  clear hn hbn hH hs
  have hN4 : N < W4.heap.size := (Array.getElem?_eq_some_iff.1 K5.out).1
  have KS := Aside0.mk (fun w' (h : Below W4.heap.size W4 w') => sum_calls W3.heap.size g ([] ++ [97, 98, 99]) w' (Glob.below (Glob.below HG.out B5.out) h) hpos (SumA.HashT.below H4.out h) (by decide))
  rw [show ([] : List Int) ++ [97, 98, 99] = [97, 98, 99] from rfl, HDD.out] at KS
  have KL : Aside0 (∀ w', Below W4.heap.size W4 w' → Calls Tryd.prog 13 #[.pointer (some ⟨g, 0, none⟩)] w' fun e w'' => e = .returned (.int .i64 3) ∧ Below w'.heap.size w' w'') := ⟨fun w' h => len_calls W3.heap.size g ([] ++ [97, 98, 99]) w' (SumA.HashT.below H4.out h)⟩
  have SK : Aside0 (∀ w' : World, Below W4.heap.size W4 w' → w'.cell? ⟨N, 0, none⟩ = some (.int .u8 186) ∧ w'.cell? ⟨N, 1, none⟩ = some (.int .u8 120) ∧ w'.cell? ⟨N, 31, none⟩ = some (.int .u8 173) ∧ w'.rangeAt N 0 (nums .u8 D)) := ⟨fun w' hb => by
    have hK : w'.heap[N]? = some (.cells (nums .u8 D).toArray 25 (0, 0)) := (hb.block N hN4).trans K5.out
    refine ⟨?_, ?_, ?_, fun j v hv => ?_⟩
    · rw [getD_cons D hdl 0 (by omega) w' N 25 hK, d0]
    · rw [getD_cons D hdl 1 (by omega) w' N 25 hK, d1]
    · rw [getD_cons D hdl 31 (by omega) w' N 25 hK, d31]
    · rw [cell_of_row w' N _ _ 25 (0, 0) hK, List.getElem?_toArray, Nat.zero_add]; exact hv⟩
  have X0 : Aside0 (Below W4.heap.size W4 W4.drew) := ⟨(Below.refl _ _).drew⟩
  have u25 := Tryd.underlying25
  have i25 : (Tryd.prog.info? 25).map (·.size) = some (nums .u8 D).length := by rw [nums_length, hdl]; exact info25
  have qe := fun w => same hdl HDB.out w
  clear d0 d1 d31 hi25 hz32 hone hdl kc
  go_wp2_with fail
  go_region_held3 (fun w' => w'.cell? ⟨N, 0, none⟩ = some (.int .u8 186) ∧ w'.cell? ⟨N, 1, none⟩ = some (.int .u8 120) ∧ w'.cell? ⟨N, 31, none⟩ = some (.int .u8 173) ∧ w'.rangeAt N 0 (nums .u8 D))
    (first | exact SK.out _ X0.out | exact SK.out _ X1.out | exact SK.out _ X2.out)
    (first
      | (go_at_call 12; (with_reducible refine (KS.out _ X0.out).mono ?_); rintro x w11 ⟨rfl, hb1⟩; have X1 := Aside0.mk (below_step X0.out hb1); clear hb1)
      | (go_at_call 13; (with_reducible refine (KL.out _ X1.out).mono ?_); rintro x w12 ⟨rfl, hb1⟩; have X2 := Aside0.mk (below_step X1.out hb1); clear hb1))
  go_wp2_with fail
  go_ret
  exact ⟨rfl, below_step B5.out X2.out⟩
end Go.Proofs.YtbkocnclaobabaaDoor.AwakeW
