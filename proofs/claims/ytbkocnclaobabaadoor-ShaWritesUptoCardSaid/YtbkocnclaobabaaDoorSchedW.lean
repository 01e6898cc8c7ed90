/- schedule, walked: the 64 words of a block. No condition. -/
import Derived.Test.YtbkocnclaobabaaDoorArr
import Derived.Laws.CopyOwn
namespace Go.Proofs.YtbkocnclaobabaaDoor.SchedW
set_option linter.unusedVariables false
set_option linter.unusedSimpArgs false
open Go.RowKit Go.Proofs.YtbkocnclaobabaaDoor.PAll Go.Proofs.YtbkocnclaobabaaDoor.Nums Go.Proofs.YtbkocnclaobabaaDoor.PutM Go.Proofs.YtbkocnclaobabaaDoor.Libs Go.Proofs.YtbkocnclaobabaaDoor.ShaM Go.Proofs.YtbkocnclaobabaaDoor.Arr Go.Proofs.YtbkocnclaobabaaDoorW.PrintWords Go.Proofs.YtbkocnclaobabaaDoorW.PrintLast Go.Proofs.YtbkocnclaobabaaDoorW.PrintMore
theorem get4 {l : List Int} (hb : Bytes l) (h4 : l.length = 4) (A : Option Addr) (c : Nat) (w : World) (hC : (Kd.int .u8).C w A l.length l) (hc : l.length ≤ c) :
    Calls Tryd.prog 26 #[.slice A 4 c] w fun e w' => e = .returned (.tuple #[.int .u64 (num l : Nat), .int .i64 0]) ∧ Drawn0 w w' := by
  have h := get_eq hb 12 (by omega)
  unfold getR at h
  rw [if_neg (by omega)] at h
  have := bits_Get.calls 12 A c l _ _ w hC hc h
  rw [h4] at this
  exact this
theorem bytes_take {l : List Int} (h : Bytes l) (n : Nat) : Bytes (l.take n) := fun x hx => h x (List.mem_of_mem_take hx)
theorem bytes_drop {l : List Int} (h : Bytes l) (n : Nat) : Bytes (l.drop n) := fun x hx => h x (List.mem_of_mem_drop hx)
def zeros (n : Nat) : List Int := List.replicate n 0
theorem zeros_succ {n : Nat} (h : 0 < n) : zeros n = 0 :: zeros (n - 1) := by
  obtain ⟨m, rfl⟩ : ∃ m, n = m + 1 := ⟨n - 1, by omega⟩
  rfl
/-- Two arrays of 64 noughts, new. -/
def zObj : Obj := .cells (nums .u32 (zeros 64)).toArray 58 (0, 0)
theorem two_new (w : World) : At ((w.alloc zObj).alloc zObj) w.heap.size 58 (zeros 64) ∧ At ((w.alloc zObj).alloc zObj) (w.heap.size + 1) 58 (zeros 64) ∧ Below w.heap.size w ((w.alloc zObj).alloc zObj) ∧ ((w.alloc zObj).alloc zObj).heap.size = w.heap.size + 2 := by
  have hs : ∀ (w : World) (o : Obj), (w.alloc o).heap.size = w.heap.size + 1 := fun w o => by show (w.heap.push o).size = _; simp
  refine ⟨?_, ?_, below_alloc (below_alloc (Below.refl _ _) _) _, by rw [hs, hs]⟩
  · have h1 := blk_new w zObj
    have : Below (w.alloc zObj).heap.size (w.alloc zObj) ((w.alloc zObj).alloc zObj) := below_alloc (Below.refl _ _) _
    unfold At
    rw [this.block _ (by rw [hs]; omega)]
    exact h1
  · have h1 := blk_new (w.alloc zObj) zObj
    rw [hs] at h1
    exact h1
/-- What the first loop holds. -/
def RelA (W : World) (b : List Int) (g : Nat) (v8 : Value) (wr : World) : Prop :=
  ∃ i : Nat, i ≤ 16 ∧ v8 = .int .i64 (i : Int) ∧ Aside0 (At wr g 58 (zeros 64)) ∧ Aside0 (At wr (g + 1) 58 (first b i ++ zeros (64 - i))) ∧ Aside0 (Below W.heap.size W wr)
/-- What the second loop holds. -/
def RelB (W : World) (g : Nat) (L : List Int) (v7 : Value) (wr : World) : Prop :=
  ∃ j : Nat, 16 ≤ j ∧ j ≤ 64 ∧ v7 = .int .i64 (j : Int) ∧ Aside0 (At wr g 58 (zeros 64)) ∧ Aside0 (At wr (g + 1) 58 (grow (j - 16) L ++ zeros (64 - j))) ∧ Aside0 (Below W.heap.size W wr)
set_option maxHeartbeats 1000000 in
set_option maxRecDepth 100000 in
theorem sched_calls (A : Option Addr) (c : Nat) (b : List Int) (W : World) (hC : (Kd.int .u8).C W A b.length b) (hc : b.length ≤ c) (hl : b.length = 64) (hB : Bytes b) :
    Calls Tryd.prog 23 #[.slice A 64 c] W fun e w' => e = .returned (.agg (nums .u32 (sched b)).toArray) ∧ Below W.heap.size W w' := by
  obtain ⟨h1, h2, h3, h4⟩ := two_new W
  have HC := Aside0.mk hC
  have HB := Aside0.mk hB
  clear hC hB
  go_enter Tryd.func23, Tryd.ntmps23
  go_upto_region 2 with (fail)
  generalize hW : (W.alloc (Obj.cells #[Value.int .u32 0, Value.int .u32 0, Value.int .u32 0, Value.int .u32 0, Value.int .u32 0, Value.int .u32 0, Value.int .u32 0, Value.int .u32 0, Value.int .u32 0, Value.int .u32 0, Value.int .u32 0, Value.int .u32 0, Value.int .u32 0, Value.int .u32 0, Value.int .u32 0, Value.int .u32 0, Value.int .u32 0, Value.int .u32 0, Value.int .u32 0, Value.int .u32 0, Value.int .u32 0, Value.int .u32 0, Value.int .u32 0, Value.int .u32 0, Value.int .u32 0, Value.int .u32 0, Value.int .u32 0, Value.int .u32 0, Value.int .u32 0, Value.int .u32 0, Value.int .u32 0, Value.int .u32 0, Value.int .u32 0, Value.int .u32 0, Value.int .u32 0, Value.int .u32 0, Value.int .u32 0, Value.int .u32 0, Value.int .u32 0, Value.int .u32 0, Value.int .u32 0, Value.int .u32 0, Value.int .u32 0, Value.int .u32 0, Value.int .u32 0, Value.int .u32 0, Value.int .u32 0, Value.int .u32 0, Value.int .u32 0, Value.int .u32 0, Value.int .u32 0, Value.int .u32 0, Value.int .u32 0, Value.int .u32 0, Value.int .u32 0, Value.int .u32 0, Value.int .u32 0, Value.int .u32 0, Value.int .u32 0, Value.int .u32 0, Value.int .u32 0, Value.int .u32 0, Value.int .u32 0, Value.int .u32 0] 58)).alloc (Obj.cells #[Value.int .u32 0, Value.int .u32 0, Value.int .u32 0, Value.int .u32 0, Value.int .u32 0, Value.int .u32 0, Value.int .u32 0, Value.int .u32 0, Value.int .u32 0, Value.int .u32 0, Value.int .u32 0, Value.int .u32 0, Value.int .u32 0, Value.int .u32 0, Value.int .u32 0, Value.int .u32 0, Value.int .u32 0, Value.int .u32 0, Value.int .u32 0, Value.int .u32 0, Value.int .u32 0, Value.int .u32 0, Value.int .u32 0, Value.int .u32 0, Value.int .u32 0, Value.int .u32 0, Value.int .u32 0, Value.int .u32 0, Value.int .u32 0, Value.int .u32 0, Value.int .u32 0, Value.int .u32 0, Value.int .u32 0, Value.int .u32 0, Value.int .u32 0, Value.int .u32 0, Value.int .u32 0, Value.int .u32 0, Value.int .u32 0, Value.int .u32 0, Value.int .u32 0, Value.int .u32 0, Value.int .u32 0, Value.int .u32 0, Value.int .u32 0, Value.int .u32 0, Value.int .u32 0, Value.int .u32 0, Value.int .u32 0, Value.int .u32 0, Value.int .u32 0, Value.int .u32 0, Value.int .u32 0, Value.int .u32 0, Value.int .u32 0, Value.int .u32 0, Value.int .u32 0, Value.int .u32 0, Value.int .u32 0, Value.int .u32 0, Value.int .u32 0, Value.int .u32 0, Value.int .u32 0, Value.int .u32 0] 58) = W2 at *
  have hW' : (W.alloc zObj).alloc zObj = W2 := hW
  rw [hW'] at h1 h2 h3 h4
  clear hW hW'
  have H1 := Aside0.mk h1
  have H2 := Aside0.mk h2
  have H3 := Aside0.mk h3
  have H4 := Aside0.mk h4
  clear h1 h2 h3 h4
  go_wp2_with fail
  go_loopw [8] (fun v8 wr => RelA W b W.heap.size v8 wr) (fun v8 _ => 16 - (intOf v8).toNat)
  case atStart => exact ⟨0, by omega, rfl, H1, H2, H3⟩
  case round =>
    obtain ⟨i, hi, rfl, HA, HX, HBe⟩ := hrel
    by_cases hlt : i < 16
    · obtain ⟨i0, hi0, _, hsz, _⟩ := info_parts Libs.info5
      have hi1 : (i : Int) < 16 := by omega
      have hi2 : (0 : Int) ≤ (i : Int) := by omega
      have hcm := cut_mid (P := Tryd.prog) 28 5 .i64 .i64 Tryd.underlying28 hi0 1 hsz A 64 c (4 * (i : Int)) (4 * (i : Int) + 4) (by omega) (by omega) (by omega) (by omega)
      have D2 := Aside0.mk (Kd.C_mid (lo := 4 * i) (hi := 4 * i + 4) HC.out (by omega) (by omega) hc)
      have L2 : ((b.take (4 * i + 4)).drop (4 * i)).length = 4 := by rw [List.length_drop, List.length_take]; omega
      have e1 : (4 * (i : Int)).toNat = 4 * i := by omega
      have e2 : (4 * (i : Int) + 4).toNat - 4 * i = 4 := by omega
      rw [e1, e2] at hcm
      rw [show 4 * i * (Kd.int .u8).sz = 4 * i * 1 from rfl] at D2
      generalize (if c = 4 * i then A else A.map (·.add (4 * i * 1))) = A2 at D2 hcm
      have G := Aside0.mk (fun w h => get4 (bytes_drop (bytes_take HB.out (4 * i + 4)) (4 * i)) L2 A2 (c - 4 * i) w h (by omega))
      have HF := Aside0.mk (first_succ b i)
      have hnum : num ((b.take (4 * i + 4)).drop (4 * i)) < 4294967296 := by have := num_lt (bytes_drop (bytes_take HB.out (4 * i + 4)) (4 * i)); rw [L2] at this; exact this
      generalize hz : num ((b.take (4 * i + 4)).drop (4 * i)) = z at *
      have hlen := first_length b i
      clear L2 e1 e2
      go_wp2_with fail
      (with_reducible refine (G.out _ (Kd.C_below D2.out HBe.out)).mono ?_)
      rintro x w1 ⟨rfl, ⟨nd1, hd1⟩⟩
      have B1 : Aside0 (Below wr.heap.size wr w1) := ⟨by rw [hd1]; exact pw_below_drewN (Below.refl _ _) nd1⟩
      have HA1 := Aside0.mk (HA.out.below B1.out)
      have HX1 := Aside0.mk (HX.out.below B1.out)
      have BB1 := Aside0.mk (below_step HBe.out B1.out)
      have fz := HX1.out.frozen i
      have hc1 := HX1.out.cell i (by rw [List.length_append, hlen]; unfold zeros; rw [List.length_replicate]; omega)
      clear hd1
      go_wp2_with fail
      go_roundw
      case rel =>
        refine ⟨i + 1, by omega, by go_num, ⟨(HA1.out).move (Below.heap_setCell _ _ _ _ (by simp))⟩, ⟨?_⟩, ⟨below_set BB1.out (by omega)⟩⟩
        have := HX1.out.set i (z : Int)
        have e : (first b i ++ zeros (64 - i)).set i (z : Int) = first b (i + 1) ++ zeros (64 - (i + 1)) := by
          rw [HF.out, zeros_succ (by omega)]
          have h := set_next (first b i) (zeros (64 - i - 1)) (z : Int) 0
          rw [hlen] at h
          rw [h]
          rfl
        rw [e] at this
        exact this
      case measure => simp [intOf]; omega
    · have hi16 : i = 16 := by omega
      subst hi16
      have hlen := first_length b 16
      have HSC : Aside0 (sched b = grow 48 (first b 16)) := ⟨rfl⟩
      generalize first b 16 = L at *
      rw [show ((16 : Nat) : Int) = 16 from rfl]
      go_wp2_with fail
      go_loopw [7] (fun v7 wr => RelB W W.heap.size L v7 wr) (fun v7 _ => 64 - (intOf v7).toNat)
      case atStart => exact ⟨16, by omega, by omega, rfl, HA, HX, HBe⟩
      case round =>
        obtain ⟨j, hj, hj2, rfl, HA, HX, HBe⟩ := hrel
        by_cases hlt : j < 64
        · have hj3 : (j : Int) < 64 := by omega
          have hj4 : (16 : Int) ≤ (j : Int) := by omega
          have hgl : (grow (j - 16) L).length = j := by rw [grow_length, hlen]; omega
          have hgs : grow (j + 1 - 16) L = grow (j - 16) L ++ [nextW (grow (j - 16) L)] := by rw [show j + 1 - 16 = (j - 16) + 1 by omega]; exact grow_snoc _ _
          generalize grow (j - 16) L = M at *
          have hlen2 : (M ++ zeros (64 - j)).length = 64 := by rw [List.length_append, hgl]; unfold zeros; rw [List.length_replicate]; omega
          have hcell : ∀ k, k < j → wr.cell? ⟨W.heap.size + 1, k, none⟩ = some (.int .u32 (M.getD k 0)) := fun k hk => by rw [HX.out.cell k (by omega), getD_left _ _ _ (by omega)]
          have SK : Aside0 (∀ w' : World, Below wr.heap.size wr w' → w'.cell? ⟨W.heap.size + 1, j - 2, none⟩ = some (.int .u32 (M.getD (j - 2) 0)) ∧ w'.cell? ⟨W.heap.size + 1, j - 7, none⟩ = some (.int .u32 (M.getD (j - 7) 0)) ∧ w'.cell? ⟨W.heap.size + 1, j - 15, none⟩ = some (.int .u32 (M.getD (j - 15) 0)) ∧ w'.cell? ⟨W.heap.size + 1, j - 16, none⟩ = some (.int .u32 (M.getD (j - 16) 0))) := ⟨fun w' hb => by
            have h := HX.out.below hb
            have hc' : ∀ k, k < j → w'.cell? ⟨W.heap.size + 1, k, none⟩ = some (.int .u32 (M.getD k 0)) := fun k hk => by rw [h.cell k (by omega), getD_left _ _ _ (by omega)]
            exact ⟨hc' _ (by omega), hc' _ (by omega), hc' _ (by omega), hc' _ (by omega)⟩⟩
          have SS : Aside0 (∀ (w' : World) (x : Int), Below wr.heap.size wr w' → (fun w' : World => w'.cell? ⟨W.heap.size + 1, j - 2, none⟩ = some (.int .u32 (M.getD (j - 2) 0)) ∧ w'.cell? ⟨W.heap.size + 1, j - 7, none⟩ = some (.int .u32 (M.getD (j - 7) 0)) ∧ w'.cell? ⟨W.heap.size + 1, j - 15, none⟩ = some (.int .u32 (M.getD (j - 15) 0)) ∧ w'.cell? ⟨W.heap.size + 1, j - 16, none⟩ = some (.int .u32 (M.getD (j - 16) 0))) (w'.setCell ⟨W.heap.size + 1, j, none⟩ (.int .u32 x))) := ⟨fun w' x hb => by
            have h := (HX.out.below hb).set j x
            have hc' : ∀ k, k < j → (w'.setCell ⟨W.heap.size + 1, j, none⟩ (.int .u32 x)).cell? ⟨W.heap.size + 1, k, none⟩ = some (.int .u32 (M.getD k 0)) := fun k hk => by
              have h2 := h.cell k (by rw [List.length_set]; omega)
              rw [List.getD_eq_getElem?_getD, List.getElem?_set_ne (by omega), ← List.getD_eq_getElem?_getD, getD_left _ _ _ (by omega)] at h2
              exact h2
            exact ⟨hc' _ (by omega), hc' _ (by omega), hc' _ (by omega), hc' _ (by omega)⟩⟩
          have X0 : Aside0 (Below wr.heap.size wr wr.drew) := ⟨(Below.refl _ _).drew⟩
          have n2 : ((j : Int) - 2).toNat = j - 2 := by omega
          have a2 : (0 : Int) ≤ (j : Int) - 2 := by omega
          have b2 : (j : Int) - 2 < 64 := by omega
          have q2 : (2 : Int) ≤ (j : Int) := by omega
          have r2 : IntKind.i64.wrap ((j : Int) - 2) = (j : Int) - 2 := by rw [IntKind.wrap_i64]; omega
          have n7 : ((j : Int) - 7).toNat = j - 7 := by omega
          have a7 : (0 : Int) ≤ (j : Int) - 7 := by omega
          have b7 : (j : Int) - 7 < 64 := by omega
          have q7 : (7 : Int) ≤ (j : Int) := by omega
          have r7 : IntKind.i64.wrap ((j : Int) - 7) = (j : Int) - 7 := by rw [IntKind.wrap_i64]; omega
          have n15 : ((j : Int) - 15).toNat = j - 15 := by omega
          have a15 : (0 : Int) ≤ (j : Int) - 15 := by omega
          have b15 : (j : Int) - 15 < 64 := by omega
          have q15 : (15 : Int) ≤ (j : Int) := by omega
          have r15 : IntKind.i64.wrap ((j : Int) - 15) = (j : Int) - 15 := by rw [IntKind.wrap_i64]; omega
          have n16 : ((j : Int) - 16).toNat = j - 16 := by omega
          have a16 : (0 : Int) ≤ (j : Int) - 16 := by omega
          have b16 : (j : Int) - 16 < 64 := by omega
          have q16 : (16 : Int) ≤ (j : Int) := by omega
          have r16 : IntKind.i64.wrap ((j : Int) - 16) = (j : Int) - 16 := by rw [IntKind.wrap_i64]; omega
          go_wp2_with fail
          go_region_held3 (fun w' : World => w'.cell? ⟨W.heap.size + 1, j - 2, none⟩ = some (.int .u32 (M.getD (j - 2) 0)) ∧ w'.cell? ⟨W.heap.size + 1, j - 7, none⟩ = some (.int .u32 (M.getD (j - 7) 0)) ∧ w'.cell? ⟨W.heap.size + 1, j - 15, none⟩ = some (.int .u32 (M.getD (j - 15) 0)) ∧ w'.cell? ⟨W.heap.size + 1, j - 16, none⟩ = some (.int .u32 (M.getD (j - 16) 0)))
            (first | exact SK.out _ X0.out | exact SK.out _ X1.out | exact SK.out _ X2.out | exact SS.out _ _ X2.out)
            (first
              | (go_at_call 24; (with_reducible refine (sha_spread.calls _ 17 19 (-10) _ _ (spr1 _)).mono ?_); rintro x w1 ⟨rfl, hb1⟩; (first | (have X2 := Aside0.mk (below_step X1.out hb1); have fz := (HX.out.below X2.out).frozen j; have cj := (HX.out.below X2.out).cell j (by omega)) | (have X1 := Aside0.mk (below_step X0.out hb1))); clear hb1)
              | (go_at_call 24; (with_reducible refine (sha_spread.calls _ 7 18 (-3) _ _ (spr2 _)).mono ?_); rintro x w1 ⟨rfl, hb1⟩; (first | (have X2 := Aside0.mk (below_step X1.out hb1); have fz := (HX.out.below X2.out).frozen j; have cj := (HX.out.below X2.out).cell j (by omega)) | (have X1 := Aside0.mk (below_step X0.out hb1))); clear hb1))
          have HX2 := Aside0.mk ((HX.out.below X2.out).set j (IntKind.u32.wrap (IntKind.u32.wrap (IntKind.u32.wrap (spr (M.getD (j - 2) 0) 17 19 (-10) + M.getD (j - 7) 0) + spr (M.getD (j - 15) 0) 7 18 (-3)) + M.getD (j - 16) 0)))
          have HA2 := Aside0.mk (HA.out.below X2.out)
          have B2 := Aside0.mk (below_step HBe.out X2.out)
          clear fz cj
          have hset : (M ++ zeros (64 - j)).set j (nextW M) = (M ++ [nextW M]) ++ zeros (64 - (j + 1)) := by
            have h := set_next M (zeros (64 - j - 1)) (nextW M) 0
            rw [hgl] at h
            rw [zeros_succ (by omega), h]
            rfl
          have hnx : nextW M = IntKind.u32.wrap (IntKind.u32.wrap (IntKind.u32.wrap (spr (M.getD (j - 2) 0) 17 19 (-10) + M.getD (j - 7) 0) + spr (M.getD (j - 15) 0) 7 18 (-3)) + M.getD (j - 16) 0) := by unfold nextW; rw [hgl]
          have HS := Aside0.mk hset
          have HN := Aside0.mk hnx
          clear hset hnx
          clear HX2
          go_wp2_with fail
          go_roundw
          case rel =>
            refine ⟨j + 1, by omega, by omega, by go_num, ⟨HA2.out.move (Below.heap_setCell _ _ _ _ (by simp))⟩, ⟨?_⟩, ⟨below_set B2.out (Nat.le_succ _)⟩⟩
            have h := (HX.out.below X2.out).set j (nextW M)
            have e := HN.out
            rw [HS.out] at h
            simp only [List.getD_eq_getElem?_getD] at e
            rw [hgs]
            have key : ∀ x : Int, x = nextW M → At (w1.setCell ⟨W.heap.size + 1, j, none⟩ (.int .u32 x)) (W.heap.size + 1) 58 ((M ++ [nextW M]) ++ zeros (64 - (j + 1))) := fun x hx => by rw [hx]; exact h
            exact key _ (by rw [e]; first | rfl | (simp only [IntKind.wrap_u32]; done) | (simp only [wu32]; done) | (simp only [wu32]; omega) | (simp [IntKind.wrap, IntKind.bits, IntKind.signed]; done) | (simp [IntKind.wrap, IntKind.bits, IntKind.signed]; omega))
          case measure => simp [intOf]; omega
        · have hj64 : j = 64 := by omega
          subst hj64
          have hgl : (grow (64 - 16) L).length = 64 := by rw [grow_length, hlen]
          have hz0 : grow (64 - 16) L ++ zeros (64 - 64) = sched b := by rw [HSC.out]; show grow 48 L ++ [] = _; rw [List.append_nil]
          rw [hz0] at HX
          have hgl2 : (sched b).length = 64 := by rw [HSC.out]; exact hgl
          generalize hSb : sched b = S at *
          have HSb := Aside0.mk hSb
          clear hz0 hgl HSC hSb
          have IL : Aside0 ((Tryd.prog.info? 58).map (·.size) = some (nums .u32 S).toArray.size) := ⟨by rw [List.size_toArray, nums_length, hgl2]; exact info58⟩
          have SZ : Aside0 ((nums .u32 (zeros 64)).toArray.size = (nums .u32 S).toArray.size) := ⟨by rw [List.size_toArray, List.size_toArray, nums_length, nums_length, hgl2]; rfl⟩
          have hX : wr.heap[W.heap.size + 1]? = some (.cells (nums .u32 S).toArray 58 (0, 0)) := HX.out
          have hA : wr.heap[W.heap.size]? = some (.cells (nums .u32 (zeros 64)).toArray 58 (0, 0)) := HA.out
          have HX' := Aside0.mk hX
          have HA' := Aside0.mk hA
          clear hX hA HX HA
          go_wp2_with (first
            | (with_reducible refine wpList_load_row rfl 58 (.tmp 3) rfl (W.heap.size + 1) rfl 58 (nums .u32 S).toArray (0, 0) (.array 64 42) HX'.out Tryd.underlying58 rfl IL.out ?_)
            | (with_reducible refine wpList_store_row rfl 58 (.tmp 2) (.tmp 54) rfl W.heap.size (nums .u32 S).toArray rfl rfl 58 (nums .u32 (zeros 64)).toArray HA'.out IL.out SZ.out (nums_all S) ?_))
          have hres := fun (tmps : Array Value) (hp : tmps.getD 2 undef = .pointer (some ⟨W.heap.size, 0, none⟩)) => results_cell_row (fn := Tryd.f23) rfl tmps (wr.setRow W.heap.size (nums .u32 S).toArray) W.heap.size 58 (nums .u32 S).toArray (0, 0) (.array 64 42) hp (setRow_heap _ _ _ _ _ _ HA'.out) Tryd.underlying58 rfl IL.out
          refine bodyPost_ret (v := .agg (nums .u32 S).toArray) (hres _ ?_) ?_ ⟨by rw [HSb.out], below_setRow HBe.out (Nat.le_refl _) _⟩
          · simp [Act.put]
          · simp [Act.put]
end Go.Proofs.YtbkocnclaobabaaDoor.SchedW
