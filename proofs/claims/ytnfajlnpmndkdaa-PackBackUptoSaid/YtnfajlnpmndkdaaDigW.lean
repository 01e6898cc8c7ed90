/- The reader of fields, walked: digests. No condition. -/
import Derived.Test.YtnfajlnpmndkdaaReadX
import Derived.Deep.RegionLaw
import Derived.Laws.CopyOwn
import Derived.Laws.Rows
namespace Go.Proofs.Ytnfajlnpmndkdaa.DigW
set_option linter.unusedVariables false
set_option linter.unusedSimpArgs false
open Go.RowKit Go.Proofs.Ytnfajlnpmndkdaa.PAll Go.Proofs.Ytnfajlnpmndkdaa.Nums Go.Proofs.Ytnfajlnpmndkdaa.PackM Go.Proofs.Ytnfajlnpmndkdaa.TurnM Go.Proofs.Ytnfajlnpmndkdaa.Libs Go.Proofs.Ytnfajlnpmndkdaa.StrW Go.Proofs.Ytnfajlnpmndkdaa.WriteW Go.Proofs.Ytnfajlnpmndkdaa.ReadW Go.Proofs.Ytnfajlnpmndkdaa.ReadX Go.Proofs.YtnfajlnpmndkdaaW.PrintWords Go.Proofs.YtnfajlnpmndkdaaW.PrintLast Go.Proofs.YtnfajlnpmndkdaaW.PrintMore
def zero32 : List Int := List.replicate 32 0
theorem info41 : (Try.prog.info? 41).map (·.size) = some 32 := by kernel_rfl
theorem info5s : (Try.prog.info? 5).map (·.size) = some 1 := by kernel_rfl
theorem infoD {D : List Int} (h : D.length = 32) : (Try.prog.info? 41).map (·.size) = some (nums .u8 D).toArray.size := by
  rw [List.size_toArray, nums_length, h]; exact info41
theorem infoZ : (Try.prog.info? 41).map (·.size) = some (nums .u8 zero32).toArray.size := infoD rfl
def zObj : Obj := .cells (nums .u8 zero32).toArray 41
/-- What two blocks of noughts leave. -/
theorem two_new (w : World) : ((w.alloc zObj).alloc zObj).heap[w.heap.size]? = some zObj ∧ ((w.alloc zObj).alloc zObj).heap[w.heap.size + 1]? = some zObj ∧ Below w.heap.size w ((w.alloc zObj).alloc zObj) ∧ ((w.alloc zObj).alloc zObj).heap.size = w.heap.size + 2 := by
  have hs : ∀ (w : World) (o : Obj), (w.alloc o).heap.size = w.heap.size + 1 := fun w o => by show (w.heap.push o).size = _; simp
  refine ⟨?_, ?_, below_alloc (below_alloc (Below.refl _ _) _) _, by rw [hs, hs]⟩
  · have h1 := blk_new w zObj
    have : Below (w.alloc zObj).heap.size (w.alloc zObj) ((w.alloc zObj).alloc zObj) := below_alloc (Below.refl _ _) _
    rw [this.block _ (by rw [hs]; omega)]
    exact h1
  · have h1 := blk_new (w.alloc zObj) zObj
    rw [hs] at h1
    exact h1
theorem digs_one (D : List Int) : (nums .u8 D).toArray.all (·.oneCell') = true := by
  rw [Array.all_eq_true_iff_forall_mem]
  intro u hu
  exact nums_one D u (by simpa using hu)
set_option maxHeartbeats 2000000 in
set_option maxRecDepth 100000 in
theorem dig_none (w : World) : Calls Try.prog 30 #[.pointer none] w fun x w' => x = .returned (digV zero32) ∧ Below w.heap.size w w' := by
  obtain ⟨h1, h2, h3, h4⟩ := two_new w
  go_enter Try.func30, Try.ntmps30
  go_upto_region 4 with (fail)
  generalize hW : (w.alloc (Obj.cells #[Value.int .u8 0, Value.int .u8 0, Value.int .u8 0, Value.int .u8 0, Value.int .u8 0, Value.int .u8 0, Value.int .u8 0, Value.int .u8 0, Value.int .u8 0, Value.int .u8 0, Value.int .u8 0, Value.int .u8 0, Value.int .u8 0, Value.int .u8 0, Value.int .u8 0, Value.int .u8 0, Value.int .u8 0, Value.int .u8 0, Value.int .u8 0, Value.int .u8 0, Value.int .u8 0, Value.int .u8 0, Value.int .u8 0, Value.int .u8 0, Value.int .u8 0, Value.int .u8 0, Value.int .u8 0, Value.int .u8 0, Value.int .u8 0, Value.int .u8 0, Value.int .u8 0, Value.int .u8 0] 41)).alloc (Obj.cells #[Value.int .u8 0, Value.int .u8 0, Value.int .u8 0, Value.int .u8 0, Value.int .u8 0, Value.int .u8 0, Value.int .u8 0, Value.int .u8 0, Value.int .u8 0, Value.int .u8 0, Value.int .u8 0, Value.int .u8 0, Value.int .u8 0, Value.int .u8 0, Value.int .u8 0, Value.int .u8 0, Value.int .u8 0, Value.int .u8 0, Value.int .u8 0, Value.int .u8 0, Value.int .u8 0, Value.int .u8 0, Value.int .u8 0, Value.int .u8 0, Value.int .u8 0, Value.int .u8 0, Value.int .u8 0, Value.int .u8 0, Value.int .u8 0, Value.int .u8 0, Value.int .u8 0, Value.int .u8 0] 41) = W2
  have hW' : (w.alloc zObj).alloc zObj = W2 := hW
  rw [hW'] at h1 h2 h3 h4
  clear hW hW'
  have H1 : Aside0 (W2.heap[w.heap.size]? = some (.cells (nums .u8 zero32).toArray 41 (0, 0))) := ⟨h1⟩
  have H2 : Aside0 (W2.heap[w.heap.size + 1]? = some (.cells (nums .u8 zero32).toArray 41 (0, 0))) := ⟨h2⟩
  have H3 := Aside0.mk h3
  clear h1 h2 h3 h4
  go_wp2_with (first
    | (with_reducible refine wpList_load_row rfl 41 (.tmp 3) rfl (w.heap.size + 1) rfl 41 (nums .u8 zero32).toArray (0, 0) (.array 32 5) H2.out Try.underlying41 rfl infoZ ?_)
    | ((with_reducible refine wpList_store_row rfl 41 (.tmp 2) (.tmp 10) rfl w.heap.size (nums .u8 zero32).toArray rfl rfl 41 _ H1.out infoZ ?c4 (digs_one _) ?_); (case c4 => rfl)))
  refine bodyPost_ret (v := digV zero32) (results_cell_row rfl _ _ w.heap.size 41 _ (0, 0) (.array 32 5) rfl (setRow_heap _ _ _ _ _ _ H1.out) Try.underlying41 rfl infoZ) rfl ⟨rfl, ?_⟩
  exact below_setRow H3.out (Nat.le_refl _) _
/-- What 'Digest' reads. -/
def digR (l : List Int) (e : Int) : List Int := if (takeR 32 l e).1 = [] then zero32 else (takeR 32 l e).1
theorem digR_len (l : List Int) (e : Int) : (digR l e).length = 32 := by
  unfold digR
  by_cases h : (takeR 32 l e).1 = []
  · rw [if_pos h]; rfl
  · rw [if_neg h]
    unfold takeR at *
    split
    · rename_i he
      rw [if_pos he] at h
      split
      · rw [List.length_take]; omega
      · rename_i hn
        rw [if_neg hn] at h
        exact absurd rfl h
    · rename_i he
      rw [if_neg he] at h
      exact absurd rfl h
set_option maxHeartbeats 4000000 in
set_option maxRecDepth 100000 in
theorem dig_calls (g : Nat) (l : List Int) (e : Int) (w : World) (hR : Rdr w g l e) (hl : l.length ≤ 140737488355328) :
    Calls Try.prog 30 #[.pointer (some ⟨g, 0, none⟩)] w fun x w' => x = .returned (digV (digR l e)) ∧ Rdr w' g (takeR 32 l e).2.1 (takeR 32 l e).2.2 ∧ w.grownBy w' (some g) := by
  obtain ⟨h1, h2, h3, h4⟩ := two_new w
  have hlt := hR.lt
  have HR := Aside0.mk hR.rdrN
  have hdl := digR_len l e
  have hdd : digR l e = if (takeR 32 l e).1 = [] then zero32 else (takeR 32 l e).1 := rfl
  have HD := Aside0.mk hdd
  have HL := Aside0.mk hdl
  have KK := fun (W2 : World) (h : RdrN w.heap.size W2 g l e) => takeN_calls w.heap.size g 32 l e W2 h (by omega) hl
  have hm32 : (takeR 32 l e).1 = [] ∨ (takeR 32 l e).1.length = 32 := by
    have := HL.out
    rw [HD.out] at this
    by_cases h : (takeR 32 l e).1 = []
    · exact .inl h
    · rw [if_neg h] at this; exact .inr this
  have HM := Aside0.mk hm32
  clear hR hdl hdd hm32
  generalize takeR 32 l e = t at *
  obtain ⟨m, l2, e2⟩ := t
  have HKK := Aside0.mk KK
  clear KK
  go_enter Try.func30, Try.ntmps30
  go_upto_region 3 with (fail)
  generalize hW : (w.alloc (Obj.cells #[Value.int .u8 0, Value.int .u8 0, Value.int .u8 0, Value.int .u8 0, Value.int .u8 0, Value.int .u8 0, Value.int .u8 0, Value.int .u8 0, Value.int .u8 0, Value.int .u8 0, Value.int .u8 0, Value.int .u8 0, Value.int .u8 0, Value.int .u8 0, Value.int .u8 0, Value.int .u8 0, Value.int .u8 0, Value.int .u8 0, Value.int .u8 0, Value.int .u8 0, Value.int .u8 0, Value.int .u8 0, Value.int .u8 0, Value.int .u8 0, Value.int .u8 0, Value.int .u8 0, Value.int .u8 0, Value.int .u8 0, Value.int .u8 0, Value.int .u8 0, Value.int .u8 0, Value.int .u8 0] 41)).alloc (Obj.cells #[Value.int .u8 0, Value.int .u8 0, Value.int .u8 0, Value.int .u8 0, Value.int .u8 0, Value.int .u8 0, Value.int .u8 0, Value.int .u8 0, Value.int .u8 0, Value.int .u8 0, Value.int .u8 0, Value.int .u8 0, Value.int .u8 0, Value.int .u8 0, Value.int .u8 0, Value.int .u8 0, Value.int .u8 0, Value.int .u8 0, Value.int .u8 0, Value.int .u8 0, Value.int .u8 0, Value.int .u8 0, Value.int .u8 0, Value.int .u8 0, Value.int .u8 0, Value.int .u8 0, Value.int .u8 0, Value.int .u8 0, Value.int .u8 0, Value.int .u8 0, Value.int .u8 0, Value.int .u8 0] 41) = W2
  have hW' : (w.alloc zObj).alloc zObj = W2 := hW
  rw [hW'] at h1 h2 h3 h4
  clear hW hW'
  have H1 : Aside0 (W2.heap[w.heap.size]? = some (.cells (nums .u8 zero32).toArray 41 (0, 0))) := ⟨h1⟩
  have H2 : Aside0 (W2.heap[w.heap.size + 1]? = some (.cells (nums .u8 zero32).toArray 41 (0, 0))) := ⟨h2⟩
  have H3 := Aside0.mk h3
  have K := HKK.out W2.drew (HR.out.move (h3.block g hlt) fun k hk => h3.block k hk)
  rw [show ((32 : Nat) : Int) = 32 from rfl] at K
  replace K := Aside0.mk K
  have HH := Aside0.mk (show w.heap.size + 1 < W2.heap.size by omega)
  clear h1 h2 h3 h4
  have CN : Aside0 ((nums .u8 m).length = Nat.min m.length 32) := ⟨by
    rw [nums_length]
    rcases HM.out with h | h
    · have h' : m = [] := h
      rw [h']; rfl
    · have h' : m.length = 32 := h
      rw [h']; rfl⟩
  have CF : Aside0 (0 + (nums .u8 m).length ≤ (nums .u8 zero32).length) := ⟨by
    rw [CN.out, nums_length]
    show 0 + min m.length 32 ≤ 32
    omega⟩
  have CP : ∀ (w3 : World) (A2 : Option Addr), (Kd.int .u8).C w3 A2 m.length m → 0 < (nums .u8 m).length → (some ⟨w.heap.size + 1, 0, none⟩ : Option Addr) = some ⟨w.heap.size + 1, 0, none⟩ ∧ ∃ ad, A2 = some ad ∧ ∀ j v, (nums .u8 m)[j]? = some v → w3.cell? (ad.add j) = some v := by
    intro w3 A2 hC hpos
    rw [nums_length] at hpos
    obtain ⟨ad, rfl, _⟩ := hC.2.2 hpos
    exact ⟨rfl, ad, rfl, C_cells hC⟩
  have HCP := Aside0.mk CP
  clear CP
  have HLT := Aside0.mk hlt
  clear hlt
  go_region_law (first
    | (go_simp; (with_reducible refine K.out.mono ?_); rintro x w3 ⟨⟨A2, c2, rfl, hc2, hC2, hz2, hb2⟩, hR3, hg3⟩; have R3 := Aside0.mk hR3; have G3 := Aside0.mk hg3; have B2 := Aside0.mk hb2; have P2 := Aside0.mk (HCP.out w3 A2 hC2); have CG : Aside0 (w3.heap[w.heap.size + 1]? = some (.cells (nums .u8 zero32).toArray 41 (0, 0))) := ⟨(hg3.block (w.heap.size + 1) HH.out (fun e => by injection e with e; have := HLT.out; omega)).trans H2.out⟩; clear hR3 hg3 hC2 hb2 hz2)
    | (refine step_copy_splice rfl (.tmp 6) (.tmp 8) 24 24 rfl 5 Try.underlying24 info5s (some ⟨w.heap.size + 1, 0, none⟩) A2 32 32 m.length c2 ?hd ?hs (w.heap.size + 1) 0 (nums .u8 zero32) 41 CG.out (nums .u8 m) CN.out P2.out CF.out (nums_one m) (w.heap.size + 1) w3 (Below.refl _ _) (Nat.le_refl _) ?_; (case hd => simp [Act.eval, Act.put]); (case hs => simp [Act.eval, Act.put]); intro w4 hg4 hb4))
  have hsp : splice (nums .u8 zero32) 0 (nums .u8 m) = nums .u8 (digR l e) := by
    rw [HD.out]
    unfold splice
    rcases HM.out with h | h
    · have h' : m = [] := h
      subst h'
      rfl
    · have h' : m.length = 32 := h
      have hne : ¬ (m, l2, e2).1 = [] := fun x => by have x' : m = [] := x; rw [x'] at h'; simp at h'
      rw [if_neg hne, List.drop_eq_nil_of_le (by rw [nums_length, nums_length, h']; decide)]
      simp
  have H4 : Aside0 (w4.heap[w.heap.size + 1]? = some (.cells (nums .u8 (digR l e)).toArray 41 (0, 0))) := ⟨by rw [← hsp]; exact hg4.out⟩
  have B4 := Aside0.mk hb4
  have H5 : Aside0 (w4.heap[w.heap.size]? = some (.cells (nums .u8 zero32).toArray 41 (0, 0))) := ⟨(hb4.block _ (Nat.lt_succ_self _)).trans ((G3.out.block _ (Nat.lt_of_succ_lt HH.out) (fun e => by injection e with e; have := HLT.out; omega)).trans H1.out)⟩
  have ID := Aside0.mk (infoD HL.out)
  have SZ : Aside0 ((nums .u8 zero32).toArray.size = (nums .u8 (digR l e)).toArray.size) := ⟨by simp [nums_length, HL.out]; rfl⟩
  have R4 : Aside0 (RdrN w.heap.size w4 g l2 e2) := ⟨R3.out.move (hb4.block _ (Nat.lt_succ_of_lt HLT.out)) fun k hk => hb4.block k (Nat.lt_succ_of_lt hk)⟩
  clear hsp hg4 hb4
  go_wp2_with (first
    | (with_reducible refine wpList_load_row rfl 41 (.tmp 3) rfl (w.heap.size + 1) rfl 41 (nums .u8 (digR l e)).toArray (0, 0) (.array 32 5) H4.out Try.underlying41 rfl ID.out ?_)
    | (with_reducible refine wpList_store_row rfl 41 (.tmp 2) (.tmp 10) rfl w.heap.size (nums .u8 (digR l e)).toArray rfl rfl 41 _ H5.out ID.out SZ.out (digs_one _) ?_))
  have hoth : ∀ k, k ≠ w.heap.size → (w4.setRow w.heap.size (nums .u8 (digR l e)).toArray).heap[k]? = w4.heap[k]? := fun k hk => setRow_other w4 w.heap.size k _ hk
  have hsize : w4.heap.size ≤ (w4.setRow w.heap.size (nums .u8 (digR l e)).toArray).heap.size := by simp [World.setRow]
  refine bodyPost_ret (v := digV (digR l e)) (results_cell_row rfl _ _ w.heap.size 41 _ (0, 0) (.array 32 5) rfl (setRow_heap _ _ _ _ _ _ H5.out) Try.underlying41 rfl ID.out) rfl ⟨rfl, ?_, ?_⟩
  · have := HLT.out
    exact (R4.out.move (hoth g (by omega)) fun k hk => hoth k (by omega)).rdr (Nat.le_trans (Nat.le_trans (Nat.le_of_lt (Nat.lt_of_succ_lt HH.out)) (Nat.le_trans G3.out.size B4.out.size)) hsize)
  · refine ⟨(B4.out.os.trans G3.out.os).trans H3.out.os, (B4.out.tape.trans G3.out.tape).trans H3.out.tape, (B4.out.output.trans G3.out.output).trans H3.out.output, Nat.le_trans (Nat.le_trans (Nat.le_of_lt (Nat.lt_of_succ_lt HH.out)) (Nat.le_trans G3.out.size B4.out.size)) hsize, fun k hk hn => ?_⟩
    have h2 := HH.out
    rw [hoth k (by omega), B4.out.block k (by omega), G3.out.block k (by show k < W2.heap.size; omega) hn]
    exact H3.out.block k hk
end Go.Proofs.Ytnfajlnpmndkdaa.DigW
