/- The matrix functions of crc, walked. -/
import Derived.Test.YthcebfjpgmkjjaaPStx1
import Derived.Test.YthcebfjpgmkjjaaNums
import Derived.Laws.CopyOwn
namespace Go.Proofs.Ythcebfjpgmkjjaa.Mat
open Go.RowKit Go.Proofs.YthcebfjpgmkjjaaW.PrintWords Go.Proofs.YthcebfjpgmkjjaaW.PrintLast Go.Proofs.YthcebfjpgmkjjaaW.PrintMore Go.Proofs.Ythcebfjpgmkjjaa.Nums Go.Proofs.Ythcebfjpgmkjjaa.PSt
set_option linter.unusedVariables false
set_option linter.unusedSimpArgs false
def rows (xs : List Int) : Array Value := (nums .u32 xs).toArray
theorem rows_get (xs : List Int) (i : Nat) (h : i < xs.length) : (rows xs)[i]? = some (.int .u32 (rd xs (i : Int))) := by
  unfold rows nums rd; simp [h]
/-- What a matrix makes of a word. -/
def ap (xs : List Int) : Nat → Int → Int → Int → Int
  | 0, _, _, out => out
  | k + 1, i, w, out => if w = 0 then out else ap xs k (i + 1) (w / 2) (if w % 2 = 1 then Go.bits .xor .u32 out (rd xs i) else out)
theorem and1_32 {u : Int} (h0 : 0 ≤ u) (h1 : u < 4294967296) : Go.bits .and .u32 u 1 = u % 2 := by
  obtain ⟨x, rfl⟩ := Int.eq_ofNat_of_zero_le h0
  have := andN .u32 rfl x 1 (by show _ < 2 ^ 32; omega) (by decide)
  rw [show (1 : Int) = ((1 : Nat) : Int) from rfl, this, Nat.and_one_is_mod]; simp
def RelA (xs : List Int) (w : Int) (v1 v5 v6 : Value) : Prop :=
  ∃ (i : Nat) (w' out : Int), i ≤ 32 ∧ 0 ≤ w' ∧ w' < 2 ^ (32 - i) ∧ v1 = .int .u32 w' ∧ v5 = .int .u32 out ∧ v6 = .int .i64 (i : Int) ∧ ap xs (32 - i) i w' out = ap xs 32 0 w 0
set_option maxHeartbeats 1000000 in
set_option maxRecDepth 100000 in
theorem apply_calls (xs : List Int) (hx : xs.length = 32) (w : Int) (h0 : 0 ≤ w) (h1 : w < 4294967296) (W : World) :
    Calls Try.prog 19 #[.agg (rows xs), .int .u32 w] W fun e W' => e = .returned (.int .u32 (ap xs 32 0 w 0)) ∧ Below W.heap.size W W' := by
  go_enter Try.func19, Try.ntmps19
  go_wp2
  go_loop [1, 5, 6] (fun v1 v5 v6 => RelA xs w v1 v5 v6) (fun v1 _ _ => (intOf v1).toNat)
  case atStart => exact ⟨0, w, 0, by omega, h0, h1, rfl, rfl, rfl, rfl⟩
  case round =>
    obtain ⟨i, w', out, hi, hw0, hw1, rfl, rfl, rfl, hap⟩ := hrel
    have HA := Aside0.mk hap
    clear hap
    by_cases hz : w' = 0
    · subst hz
      go_wp2
      go_ret
      refine ⟨?_, (Below.refl _ _).alloc (Nat.le_refl _) _⟩
      rw [← HA.out]
      congr 2
      cases hk : 32 - i with
      | zero => rfl
      | succ k => rw [ap, if_pos rfl]; rfl
    · have hi31 : i < 32 := by
        apply Classical.byContradiction
        intro hc
        obtain rfl : i = 32 := by omega
        simp at hw1; omega
      have hk : 32 - i = (31 - i) + 1 := by omega
      have hw32 : w' < 4294967296 := Int.lt_of_lt_of_le hw1 (by
        have : (2 : Int) ^ (32 - i) ≤ 2 ^ 32 := by exact_mod_cast Nat.pow_le_pow_right (n := 2) (by decide) (show 32 - i ≤ 32 by omega)
        exact this)
      have hnext : w' / 2 < 2 ^ (32 - (i + 1)) := by
        rw [hk, Int.pow_succ] at hw1
        rw [show 32 - (i + 1) = 31 - i by omega]; omega
      have hb0 : (w' != 0) = true := by rw [bne_iff_ne]; exact hz
      have hpos : 0 < w' := by omega
      have hc := rows_get xs i (by omega)
      have hstep := HA.out
      rw [hk, ap, if_neg hz] at hstep
      have HS := Aside0.mk hstep
      have HN := Aside0.mk hnext
      clear HA hstep hnext hw1 hz
      by_cases hb : w' % 2 = 1
      · have hb1 : (Go.bits .and .u32 w' 1 == 1) = true := by rw [and1_32 hw0 hw32, hb]; rfl
        rw [if_pos hb] at HS
        clear hb
        go_wp2
        go_round
        case rel => exact ⟨i + 1, w' / 2, _, by omega, by omega, HN.out, rfl, rfl, by go_num, by have := HS.out; rw [show 32 - (i + 1) = 31 - i by omega]; simpa using this⟩
        case measure => simp [intOf]; omega
      · have hb1 : (Go.bits .and .u32 w' 1 == 1) = false := by rw [and1_32 hw0 hw32]; rw [beq_eq_false_iff_ne]; exact hb
        rw [if_neg hb] at HS
        clear hb
        go_wp2
        go_round
        case rel => exact ⟨i + 1, w' / 2, _, by omega, by omega, HN.out, rfl, rfl, by go_num, by have := HS.out; rw [show 32 - (i + 1) = 31 - i by omega]; simpa using this⟩
        case measure => simp [intOf]; omega
theorem rows_size (xs : List Int) : (rows xs).size = xs.length := by simp [rows, nums]
theorem rows_one (xs : List Int) : (rows xs).all (·.oneCell') = true := by
  rw [Array.all_eq_true_iff_forall_mem]
  intro x hx
  simp [rows, nums] at hx
  obtain ⟨y, _, rfl⟩ := hx
  rfl
theorem rows_set (xs : List Int) (i : Nat) (v : Int) : (rows xs).setIfInBounds i (.int .u32 v) = rows (xs.set i v) := by
  simp [rows, nums]
theorem rows_zero : rows (List.replicate 32 0) = #[.int .u32 0, .int .u32 0, .int .u32 0, .int .u32 0, .int .u32 0, .int .u32 0, .int .u32 0, .int .u32 0, .int .u32 0, .int .u32 0, .int .u32 0, .int .u32 0, .int .u32 0, .int .u32 0, .int .u32 0, .int .u32 0, .int .u32 0, .int .u32 0, .int .u32 0, .int .u32 0, .int .u32 0, .int .u32 0, .int .u32 0, .int .u32 0, .int .u32 0, .int .u32 0, .int .u32 0, .int .u32 0, .int .u32 0, .int .u32 0, .int .u32 0, .int .u32 0] := rfl
theorem info41 : (Try.prog.info? 41).map (·.size) = some 32 := by kernel_rfl
/-- What becomes of each bit when it is done twice. -/
def tw (xs : List Int) : List Int := xs.map fun w => ap xs 32 0 w 0
theorem alloc_size (w : World) (o : Obj) : (w.alloc o).heap.size = w.heap.size + 1 := by
  show (w.heap.push o).size = _
  simp
theorem three (W : World) (A B C : Obj) : (((W.alloc A).alloc B).alloc C).heap[W.heap.size]? = some A ∧ (((W.alloc A).alloc B).alloc C).heap[W.heap.size + 1]? = some B ∧ (((W.alloc A).alloc B).alloc C).heap[W.heap.size + 1 + 1]? = some C ∧ Below W.heap.size W (((W.alloc A).alloc B).alloc C) := by
  refine ⟨blk_alloc (blk_alloc (blk_new W _) _) _, blk_alloc ?_ _, ?_, below_alloc (below_alloc (below_alloc (Below.refl _ _) _) _) _⟩
  · have := blk_new (W.alloc A) B
    rwa [alloc_size] at this
  · have := blk_new ((W.alloc A).alloc B) C
    rwa [alloc_size, alloc_size] at this
theorem two (W : World) (A B : Obj) : ((W.alloc A).alloc B).heap[W.heap.size]? = some A ∧ ((W.alloc A).alloc B).heap[W.heap.size + 1]? = some B ∧ Below W.heap.size W ((W.alloc A).alloc B) := by
  refine ⟨blk_alloc (blk_new W _) _, ?_, below_alloc (below_alloc (Below.refl _ _) _) _⟩
  have := blk_new (W.alloc A) B
  rwa [alloc_size] at this
def sofar (ys : List Int) (i : Nat) : List Int := ys.take i ++ List.replicate (32 - i) 0
theorem sofar_length {ys : List Int} (h : ys.length = 32) {i : Nat} (hi : i ≤ 32) : (sofar ys i).length = 32 := by unfold sofar; simp [h]; omega
theorem sofar_step {ys : List Int} (h : ys.length = 32) {i : Nat} (hi : i < 32) (v : Int) (hv : ys[i]? = some v) : (sofar ys i).set i v = sofar ys (i + 1) := by
  unfold sofar
  have hl : (ys.take i).length = i := by rw [List.length_take]; omega
  have e : List.replicate (32 - i) (0 : Int) = 0 :: List.replicate (32 - (i + 1)) 0 := by rw [show 32 - i = 32 - (i + 1) + 1 by omega, List.replicate_succ]
  obtain ⟨hlt, rfl⟩ := List.getElem?_eq_some_iff.1 hv
  rw [e, List.set_append_right _ _ (by omega), hl, Nat.sub_self, List.set_cons_zero, List.take_succ_eq_append_getElem hlt, List.append_assoc]
  rfl
theorem sofar_all {ys : List Int} (h : ys.length = 32) : sofar ys 32 = ys := by unfold sofar; simp [← h]
theorem tw_length {xs : List Int} (h : xs.length = 32) : (tw xs).length = 32 := by simp [tw, h]
theorem tw_get {xs : List Int} (i : Nat) (h : i < xs.length) : (tw xs)[i]? = some (ap xs 32 0 (rd xs i) 0) := by
  unfold tw rd; simp [h]
theorem run_index (xs : List Int) (hx : xs.length = 32) (i : Nat) (h : i < 32) (w : World) : (Instr.index 41 (.agg (rows xs)) (.int .i64 (i : Int))).run Try.prog w = .ok (.int .u32 (rd xs i)) w := by
  have hc := rows_get xs i (by omega)
  have hu : Try.prog.underlying 41 = some (.array 32 24) := Try.underlying41
  have hu24 : Try.prog.underlying 24 = some (.int .u32) := Try.underlying24
  unfold Instr.index
  go_simp
def RelT (xs : List Int) (W : World) (v7 : Value) (wr : World) : Prop :=
  ∃ i : Nat, i ≤ 32 ∧ v7 = .int .i64 (i : Int) ∧ Aside0 (wr.heap[W.heap.size]? = some (.cells (rows xs) 41 (0, 0))) ∧ Aside0 (wr.heap[W.heap.size + 1]? = some (.cells (rows (List.replicate 32 0)) 41 (0, 0))) ∧
    Aside0 (wr.heap[W.heap.size + 1 + 1]? = some (.cells (rows (sofar (tw xs) i)) 41 (0, 0))) ∧ Aside0 (Below W.heap.size W wr)
set_option maxHeartbeats 1000000 in
set_option maxRecDepth 100000 in
theorem twice_calls (xs : List Int) (hx : xs.length = 32) (hb : ∀ i : Nat, 0 ≤ rd xs i ∧ rd xs i < 4294967296) (W : World) :
    Calls Try.prog 20 #[.agg (rows xs)] W fun e W' => e = .returned (.agg (rows (tw xs))) ∧ Below W.heap.size W W' := by
  have hi : (Try.prog.info? 41).map (·.size) = some (rows xs).size := by rw [rows_size, hx]; exact info41
  have HI := Aside0.mk hi
  clear hi
  have HX := Aside0.mk hx
  have HBD := Aside0.mk hb
  clear hb hx
  go_enter Try.func20, Try.ntmps20
  go_wp2_with ((with_reducible refine wpList_load_row rfl 41 (.tmp 1) rfl W.heap.size rfl 41 (rows xs) (0, 0) (.array 32 24) ?c1 Try.underlying41 rfl HI.out ?_); (case c1 => first | exact blk_alloc (blk_alloc (blk_new W _) _) _ | exact blk_alloc (blk_new W _) _))
  go_loopw [7] (fun v7 wr => RelT xs W v7 wr) (fun v7 _ => 32 - (intOf v7).toNat)
  case atStart =>
    obtain ⟨e1, e2, e3, e4⟩ := three W (Obj.cells (rows xs) 41) (Obj.cells (rows (List.replicate 32 0)) 41) (Obj.cells (rows (List.replicate 32 0)) 41)
    exact ⟨0, by omega, rfl, ⟨e1⟩, ⟨e2⟩, ⟨e3⟩, ⟨e4⟩⟩
  case round =>
    obtain ⟨i, hi, rfl, H1, H2, H3, HB⟩ := hrel
    by_cases hlt : i < 32
    · have hc := rows_get xs i (by rw [HX.out]; exact hlt)
      have hv0 := (HBD.out i).1
      have hv1 := (HBD.out i).2
      have hri := run_index xs HX.out i hlt
      have hl3 := rows_get (sofar (tw xs) i) i (by rw [sofar_length (tw_length HX.out) hi]; exact hlt)
      go_wp2_with (first
        | ((with_reducible refine wpList_load_row rfl 41 (.tmp 1) rfl W.heap.size rfl 41 (rows xs) (0, 0) (.array 32 24) H1.out Try.underlying41 rfl HI.out ?_))
        | (go_at_call 19; refine (apply_calls xs HX.out (rd xs i) hv0 hv1 _).mono ?_; rintro e w1 ⟨rfl, hbw⟩; have hcell := (blk_cell (blk_below H3.out hbw) i).trans hl3; have hfroz := blk_frozen (blk_below H3.out hbw) i; have HW := Aside0.mk hbw; clear hbw))
      go_roundw
      case rel =>
        refine ⟨i + 1, by omega, by go_num, ⟨?_⟩, ⟨?_⟩, ⟨?_⟩, ⟨below_set (below_step HB.out HW.out) (by omega)⟩⟩
        · exact blk_far (blk_below H1.out HW.out) (by show W.heap.size ≠ W.heap.size + 1 + 1; omega) _
        · exact blk_far (blk_below H2.out HW.out) (by show W.heap.size + 1 ≠ W.heap.size + 1 + 1; omega) _
        · refine blk_put (blk_below H3.out HW.out) i _ ?_
          rw [rows_set, sofar_step (tw_length HX.out) hlt _ (tw_get i (by rw [HX.out]; exact hlt))]
      case measure => simp [intOf]; omega
    · obtain rfl : i = 32 := by omega
      go_wp2_with (first
        | ((with_reducible refine wpList_load_row rfl 41 (.tmp 3) rfl (W.heap.size + 1 + 1) rfl 41 (rows (sofar (tw xs) 32)) (0, 0) (.array 32 24) H3.out Try.underlying41 rfl ?c2 ?_); (case c2 => rw [rows_size, sofar_length (tw_length HX.out) (Nat.le_refl _)]; exact info41))
        | ((with_reducible refine wpList_store_row rfl 41 (.tmp 2) (.tmp 17) rfl (W.heap.size + 1) (rows (sofar (tw xs) 32)) rfl rfl 41 _ H2.out ?c3 ?c4 (rows_one _) ?_); (case c3 => rw [rows_size, sofar_length (tw_length HX.out) (Nat.le_refl _)]; exact info41); (case c4 => rw [rows_size, rows_size, sofar_length (tw_length HX.out) (Nat.le_refl _)]; rfl)))
      have hsz : (Try.prog.info? 41).map (·.size) = some (rows (sofar (tw xs) 32)).size := by rw [rows_size, sofar_length (tw_length HX.out) (Nat.le_refl _)]; exact info41
      refine bodyPost_ret (v := .agg (rows (sofar (tw xs) 32))) (results_cell_row rfl _ _ (W.heap.size + 1) 41 _ (0, 0) (.array 32 24) rfl (setRow_heap _ _ _ _ _ _ H2.out) Try.underlying41 rfl hsz) rfl ⟨?_, ?_⟩
      · rw [sofar_all (tw_length HX.out)]
      · exact below_setRow HB.out (by omega) _
def RelB (ys : List Int) (W : World) (v3 : Value) (wr : World) : Prop :=
  ∃ i : Nat, i ≤ 32 ∧ v3 = .int .i64 (i : Int) ∧ Aside0 (wr.heap[W.heap.size]? = some (.cells (rows (List.replicate 32 0)) 41 (0, 0))) ∧
    Aside0 (wr.heap[W.heap.size + 1]? = some (.cells (rows (sofar ys i)) 41 (0, 0))) ∧ Aside0 (Below W.heap.size W wr)
set_option maxHeartbeats 1000000 in
set_option maxRecDepth 100000 in
theorem byte_calls (ys : List Int) (hy : ys.length = 32) (k : Nat) (hs : ∀ i : Nat, i < 32 → crc_step.f k (2 ^ i % 4294967296) = some (rd ys i)) (W : World) :
    Calls Try.prog 18 #[] W fun e W' => e = .returned (.agg (rows ys)) ∧ Below W.heap.size W W' := by
  have HY := Aside0.mk hy
  have HS := Aside0.mk hs
  clear hs hy
  go_enter Try.func18, Try.ntmps18
  go_wp2
  go_loopw [3] (fun v3 wr => RelB ys W v3 wr) (fun v3 _ => 32 - (intOf v3).toNat)
  case atStart =>
    obtain ⟨e1, e2, e4⟩ := two W (Obj.cells (rows (List.replicate 32 0)) 41) (Obj.cells (rows (List.replicate 32 0)) 41)
    exact ⟨0, by omega, rfl, ⟨e1⟩, ⟨e2⟩, ⟨e4⟩⟩
  case round =>
    obtain ⟨i, hi, rfl, H1, H2, HB⟩ := hrel
    by_cases hlt : i < 32
    · have hl3 := rows_get (sofar ys i) i (by rw [sofar_length HY.out hi]; exact hlt)
      have hsi := HS.out i hlt
      have HSI := Aside0.mk hsi
      clear hsi
      go_wp2_with (go_at_call 16; refine (crc_step.calls k (2 ^ i % 4294967296) (rd ys i) _ HSI.out).mono ?_; rintro e w1 ⟨rfl, ⟨nd, rfl⟩⟩; have hcell := (blk_cell (blk_drewN H2.out nd) i).trans hl3; have hfroz := blk_frozen (blk_drewN H2.out nd) i)
      go_roundw
      case rel =>
        refine ⟨i + 1, by omega, by go_num, ⟨?_⟩, ⟨?_⟩, ⟨below_set (pw_below_drewN HB.out _) (by omega)⟩⟩
        · exact blk_far (blk_drewN H1.out _) (by show W.heap.size ≠ W.heap.size + 1; omega) _
        · refine blk_put (blk_drewN H2.out _) i _ ?_
          rw [rows_set, sofar_step HY.out hlt _ (by unfold rd; simp [HY.out, hlt])]
      case measure => simp [intOf]; omega
    · obtain rfl : i = 32 := by omega
      have hsz : (Try.prog.info? 41).map (·.size) = some (rows (sofar ys 32)).size := by rw [rows_size, sofar_length HY.out (Nat.le_refl _)]; exact info41
      have HZ := Aside0.mk hsz
      clear hsz
      go_wp2_with (first
        | (with_reducible refine wpList_load_row rfl 41 (.tmp 1) rfl (W.heap.size + 1) rfl 41 (rows (sofar ys 32)) (0, 0) (.array 32 24) H2.out Try.underlying41 rfl HZ.out ?_)
        | ((with_reducible refine wpList_store_row rfl 41 (.tmp 0) (.tmp 13) rfl W.heap.size (rows (sofar ys 32)) rfl rfl 41 _ H1.out HZ.out ?c4 (rows_one _) ?_); (case c4 => rw [rows_size, rows_size, sofar_length HY.out (Nat.le_refl _)]; rfl)))
      refine bodyPost_ret (v := .agg (rows (sofar ys 32))) (results_cell_row rfl _ _ W.heap.size 41 _ (0, 0) (.array 32 24) rfl (setRow_heap _ _ _ _ _ _ H1.out) Try.underlying41 rfl HZ.out) rfl ⟨?_, ?_⟩
      · rw [sofar_all HY.out]
      · exact below_setRow HB.out (by omega) _
/-- What comes of a register when so many bytes 0 come: by the digits of the number. -/
def sh : Nat → List Int → Int → Int → Int
  | 0, _, r, _ => r
  | k + 1, m, r, n => if 0 < n then sh k (tw m) (if n % 2 = 1 then ap m 32 0 r 0 else r) (n / 2) else r
def Good (xs : List Int) : Prop := xs.length = 32 ∧ ∀ i : Nat, 0 ≤ rd xs i ∧ rd xs i < 4294967296
def RelS (ys : List Int) (r0 n0 : Int) (W : World) (g : Nat) (v0 v1 : Value) (wr : World) : Prop :=
  ∃ (xs : List Int) (r n : Int) (j : Nat), Aside0 (Good xs) ∧ 0 ≤ r ∧ r < 4294967296 ∧ Aside0 (n < 2 ^ j) ∧ n < 9223372036854775808 ∧ v0 = .int .u32 r ∧ v1 = .int .i64 n ∧ Aside0 (wr.heap[g]? = some (.cells (rows xs) 41 (0, 0))) ∧ Aside0 (Below W.heap.size W wr) ∧ Aside0 (sh j xs r n = sh 63 ys r0 n0)
theorem good_info {xs : List Int} (h : xs.length = 32) : (Try.prog.info? 41).map (·.size) = some (rows xs).size := by rw [rows_size, h]; exact info41
theorem and1_i64 {n : Int} (h0 : 0 ≤ n) (h1 : n < 9223372036854775808) : Go.bits .and .i64 n 1 = n % 2 := by
  obtain ⟨x, rfl⟩ := Int.eq_ofNat_of_zero_le h0
  have e : Go.bits .and .i64 (x : Int) 1 = IntKind.i64.wrap ((((BitVec.ofInt 64 (x : Int)).toNat &&& (BitVec.ofInt 64 1).toNat : Nat)) : Int) := by rw [← BitVec.toNat_and]; rfl
  have e1 : (BitVec.ofInt 64 1).toNat = 1 := by decide
  rw [e, e1, BitVec.ofInt_natCast, BitVec.toNat_ofNat, Nat.mod_eq_of_lt (by omega), Nat.and_one_is_mod, IntKind.wrap_i64]
  omega
set_option maxHeartbeats 1000000 in
set_option maxRecDepth 100000 in
theorem shift_calls (ys : List Int) (hg : Good ys) (ht : ∀ xs, Good xs → Good (tw xs)) (ha : ∀ xs r, Good xs → 0 ≤ r → r < 4294967296 → 0 ≤ ap xs 32 0 r 0 ∧ ap xs 32 0 r 0 < 4294967296) (k : Nat) (hs : ∀ i : Nat, i < 32 → crc_step.f k (2 ^ i % 4294967296) = some (rd ys i))
    (r n : Int) (h0 : 0 ≤ r) (h1 : r < 4294967296) (hn : n < 9223372036854775808) (W : World) :
    Calls Try.prog 17 #[.int .u32 r, .int .i64 n] W fun e W' => e = .returned (.int .u32 (sh 63 ys r n)) ∧ Below W.heap.size W W' := by
  have HG := Aside0.mk hg
  have HT := Aside0.mk ht
  have HA := Aside0.mk ha
  have HS := Aside0.mk hs
  have HI := Aside0.mk (good_info hg.1)
  clear hg ht ha hs
  go_enter Try.func17, Try.ntmps17
  go_wp2_with fail
  refine (byte_calls ys HG.out.1 k HS.out W).mono ?_
  rintro e w1 ⟨rfl, hb⟩
  have HB1 := Aside0.mk hb
  clear hb
  go_wp2_with ((with_reducible refine wpList_store_row rfl 41 (.tmp 5) (.tmp 6) rfl w1.heap.size (rows ys) rfl rfl 41 _ (blk_new w1 _) HI.out ?c4 (rows_one _) ?_); (case c4 => rw [rows_size, HG.out.1]; rfl))
  (try simp only [Act.put, List.setIfInBounds_toArray, List.set_cons_zero, List.set_cons_succ])
  go_loopw [0, 1] (fun v0 v1 wr => RelS ys r n W w1.heap.size v0 v1 wr) (fun _ v1 _ => (intOf v1).toNat)
  case atStart =>
    exact ⟨ys, r, n, 63, HG, h0, h1, ⟨hn⟩, hn, rfl, rfl, ⟨setRow_heap _ _ _ _ _ _ (blk_new w1 _)⟩, ⟨below_setRow (below_alloc HB1.out _) HB1.out.size _⟩, ⟨rfl⟩⟩
  case round =>
    obtain ⟨xs, r', n', j, HGx, hr0, hr1, HJ, hn1, rfl, rfl, H1, HB, HE⟩ := hrel
    by_cases hpos : 0 < n'
    · have HIx := Aside0.mk (good_info HGx.out.1)
      have hn0 : 0 ≤ n' := by omega
      have HGt := Aside0.mk (HT.out xs HGx.out)
      have HIt := Aside0.mk (good_info HGt.out.1)
      obtain ⟨j', rfl⟩ : ∃ m, j = m + 1 := ⟨j - 1, by
        have hj := HJ.out
        cases j with
        | zero => simp at hj; omega
        | succ j => simp⟩
      have HJ' : Aside0 (n' / 2 < 2 ^ j') := ⟨by have hj := HJ.out; rw [Int.pow_succ] at hj; omega⟩
      have hstep := HE.out
      rw [sh, if_pos hpos] at hstep
      have HSt := Aside0.mk hstep
      clear hstep HE HJ
      by_cases ho : n' % 2 = 1
      · have hb1 : (Go.bits .and .i64 n' 1 == 1) = true := by rw [and1_i64 hn0 hn1, ho]; rfl
        rw [if_pos ho] at HSt
        clear ho
        go_wp2_with (first
          | ((with_reducible refine wpList_load_row rfl 41 (.tmp 5) rfl w1.heap.size rfl 41 (rows xs) (0, 0) (.array 32 24) ?c1 Try.underlying41 rfl HIx.out ?_); (case c1 => first | exact HN.out | exact H1.out))
          | (go_at_call 19; refine (apply_calls xs HGx.out.1 r' hr0 hr1 _).mono ?_; rintro e w2 ⟨rfl, hb2⟩; have HN := Aside0.mk (blk_below H1.out hb2); have HB2 := Aside0.mk (below_step HB.out hb2); clear hb2)
          | (go_at_call 20; refine (twice_calls xs HGx.out.1 HGx.out.2 _).mono ?_; rintro e w3 ⟨rfl, hb3⟩; have HN3 := Aside0.mk (blk_below HN.out hb3); have HB3 := Aside0.mk (below_step HB2.out hb3); clear hb3)
          | ((with_reducible refine wpList_store_row rfl 41 (.tmp 5) (.tmp 18) rfl w1.heap.size (rows (tw xs)) rfl rfl 41 _ HN3.out HIt.out ?c4 (rows_one _) ?_); (case c4 => rw [rows_size, rows_size, HGx.out.1, HGt.out.1])))
        go_roundw
        case rel =>
          have := HA.out xs r' HGx.out hr0 hr1
          exact ⟨tw xs, _, n' / 2, j', HGt, this.1, this.2, HJ', by omega, rfl, rfl, ⟨setRow_heap _ _ _ _ _ _ HN3.out⟩, ⟨below_setRow HB3.out HB1.out.size _⟩, HSt⟩
        case measure => simp [intOf]; omega
      · have hb1 : (Go.bits .and .i64 n' 1 == 1) = false := by rw [and1_i64 hn0 hn1]; rw [beq_eq_false_iff_ne]; exact ho
        rw [if_neg ho] at HSt
        clear ho
        go_wp2_with (first
          | ((with_reducible refine wpList_load_row rfl 41 (.tmp 5) rfl w1.heap.size rfl 41 (rows xs) (0, 0) (.array 32 24) H1.out Try.underlying41 rfl HIx.out ?_))
          | (go_at_call 20; refine (twice_calls xs HGx.out.1 HGx.out.2 _).mono ?_; rintro e w3 ⟨rfl, hb3⟩; have HN3 := Aside0.mk (blk_below H1.out hb3); have HB3 := Aside0.mk (below_step HB.out hb3); clear hb3)
          | ((with_reducible refine wpList_store_row rfl 41 (.tmp 5) (.tmp 18) rfl w1.heap.size (rows (tw xs)) rfl rfl 41 _ HN3.out HIt.out ?c4 (rows_one _) ?_); (case c4 => rw [rows_size, rows_size, HGx.out.1, HGt.out.1])))
        go_roundw
        case rel =>
          exact ⟨tw xs, _, n' / 2, j', HGt, hr0, hr1, HJ', by omega, rfl, rfl, ⟨setRow_heap _ _ _ _ _ _ HN3.out⟩, ⟨below_setRow HB3.out HB1.out.size _⟩, HSt⟩
        case measure => simp [intOf]; omega
    · go_wp2
      go_ret
      refine ⟨?_, HB.out⟩
      rw [← HE.out]
      cases j with
      | zero => rfl
      | succ j => rw [sh, if_neg (by omega)]; rfl
end Go.Proofs.Ythcebfjpgmkjjaa.Mat
