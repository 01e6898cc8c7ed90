-- Ytbohofdffjlloaa: functions of the translation, their Lean counterparts and contracts (laid by a program of this claim's session)
import Derived.Test.YtbohofdffjlloaaPAllx0
import Derived.Test.YtbohofdffjlloaaPAllx3
import Derived.Test.YtbohofdffjlloaaPAllx4
namespace Go.Proofs.Ytbohofdffjlloaa.PAll
open Go.RowKit Go.Proofs.YtbohofdffjlloaaW.PrintWords Go.Proofs.YtbohofdffjlloaaW.PrintLast Go.Proofs.YtbohofdffjlloaaW.PrintMore
attribute [local go_sem] max2_int min2_int max_two min_two max_three min_three max_four min_four   -- for this text's walks alone
set_option linter.unusedVariables false
set_option linter.unusedSimpArgs false

/-! ### chartularyref12_Retain: function 22 -/
mutual
def chartularyref12_Retain.j0 : Nat → Int → Int → Int → Bool → Bool → Int → Int → Bool → Int → Int → Bool → Option (Int × Int × Bool × Int)
  | 0, _, _, _, _, _, _, _, _, _, _, _ => none
  | k + 1, x1, x2, x3, x4, x25, x186000, x186001, x186002, x188000, x188001, x188002 => if x25 = true then (some (0, 0, false, 2)) else (if x1 = 0 then (chartularyref12_Retain.j1 k x1 x2 x3 x4 false x186000 x186001 x186002 x188000 x188001 x188002) else (chartularyref12_Retain.j1 k x1 x2 x3 x4 (decide (x2 ≤ x3)) x186000 x186001 x186002 x188000 x188001 x188002))
def chartularyref12_Retain.j1 : Nat → Int → Int → Int → Bool → Bool → Int → Int → Bool → Int → Int → Bool → Option (Int × Int × Bool × Int)
  | 0, _, _, _, _, _, _, _, _, _, _, _ => none
  | k + 1, x1, x2, x3, x4, x33, x186000, x186001, x186002, x188000, x188001, x188002 => if x33 = true then (some (0, 0, false, 4)) else ((chartularyref12_Binds.f x186000 x186001 x186002 x3).bind fun t190 => (if t190 = true then (if x186000 = 2 then (if x1 = 2 then (chartularyref12_Retain.j2 k x1 x2 x4 (decide (x2 < x186001)) x186000 x186001 x186002 x188000 x188001 x188002) else (chartularyref12_Retain.j2 k x1 x2 x4 true x186000 x186001 x186002 x188000 x188001 x188002)) else (chartularyref12_Retain.j2 k x1 x2 x4 false x186000 x186001 x186002 x188000 x188001 x188002)) else (some (x188000, x188001, x188002, 0))))
def chartularyref12_Retain.j2 : Nat → Int → Int → Bool → Bool → Int → Int → Bool → Int → Int → Bool → Option (Int × Int × Bool × Int)
  | 0, _, _, _, _, _, _, _, _, _, _ => none
  | k + 1, x1, x2, x4, x50, x186000, x186001, x186002, x188000, x188001, x188002 => if x50 = true then (some (0, 0, false, 13)) else (if x186000 = 1 then (if x4 = true then (some (x188000, x188001, x188002, 0)) else (if x1 = 0 then (some (0, 0, false, 13)) else (if x2 < x186001 then (some (0, 0, false, 13)) else (some (x188000, x188001, x188002, 0))))) else (some (x188000, x188001, x188002, 0)))
end
def chartularyref12_Retain.f (k : Nat) (a0_0 : Int) (a0_1 : Int) (a0_2 : Bool) (a1 : Int) (a2 : Int) (a3 : Int) (a4 : Bool) : Option (Int × Int × Bool × Int) := (chartularyref12_Sound.f a0_0 a0_1 a0_2).bind fun t188 => (if t188 = true then ((chartularyref12_Sound.f a1 a2 a0_2).bind fun t189 => (chartularyref12_Retain.j0 k a1 a2 a3 a4 (!t189) a0_0 a0_1 a0_2 a1 a2 a0_2)) else (chartularyref12_Retain.j0 k a1 a2 a3 a4 true a0_0 a0_1 a0_2 a1 a2 a0_2))
theorem chartularyref12_Retain.mono_l : ∀ k, (∀ y0 y1 y2 y3 y4 y5 y6 y7 y8 y9 y10, LeO (chartularyref12_Retain.j0 k y0 y1 y2 y3 y4 y5 y6 y7 y8 y9 y10) (chartularyref12_Retain.j0 (k + 1) y0 y1 y2 y3 y4 y5 y6 y7 y8 y9 y10)) ∧ (∀ y0 y1 y2 y3 y4 y5 y6 y7 y8 y9 y10, LeO (chartularyref12_Retain.j1 k y0 y1 y2 y3 y4 y5 y6 y7 y8 y9 y10) (chartularyref12_Retain.j1 (k + 1) y0 y1 y2 y3 y4 y5 y6 y7 y8 y9 y10)) ∧ (∀ y0 y1 y2 y3 y4 y5 y6 y7 y8 y9, LeO (chartularyref12_Retain.j2 k y0 y1 y2 y3 y4 y5 y6 y7 y8 y9) (chartularyref12_Retain.j2 (k + 1) y0 y1 y2 y3 y4 y5 y6 y7 y8 y9))
  | 0 => ⟨fun _ _ _ _ _ _ _ _ _ _ _ r h => by simp [chartularyref12_Retain.j0] at h, fun _ _ _ _ _ _ _ _ _ _ _ r h => by simp [chartularyref12_Retain.j1] at h, fun _ _ _ _ _ _ _ _ _ _ r h => by simp [chartularyref12_Retain.j2] at h⟩
  | k + 1 => by
    obtain ⟨ih0, ih1, ih2⟩ := chartularyref12_Retain.mono_l k
    refine ⟨?_, ?_, ?_⟩
    · intro y0 y1 y2 y3 y4 y5 y6 y7 y8 y9 y10
      unfold chartularyref12_Retain.j0
      repeat' first
      | (with_reducible exact ih0 _ _ _ _ _ _ _ _ _ _ _)
      | (with_reducible exact ih1 _ _ _ _ _ _ _ _ _ _ _)
      | (with_reducible exact ih2 _ _ _ _ _ _ _ _ _ _)
      | (with_reducible exact LeO.refl _)
      | (with_reducible exact LeO.none _)
      | (with_reducible refine LeO.ite ?_ ?_)
      | (with_reducible refine LeO.bind ?_ (fun _ => ?_))
      | exact ih0 _ _ _ _ _ _ _ _ _ _ _
      | exact ih1 _ _ _ _ _ _ _ _ _ _ _
      | exact ih2 _ _ _ _ _ _ _ _ _ _
      | exact LeO.none _
      | refine LeO.ite ?_ ?_
      | refine LeO.bind ?_ (fun _ => ?_)
    · intro y0 y1 y2 y3 y4 y5 y6 y7 y8 y9 y10
      unfold chartularyref12_Retain.j1
      repeat' first
      | (with_reducible exact ih0 _ _ _ _ _ _ _ _ _ _ _)
      | (with_reducible exact ih1 _ _ _ _ _ _ _ _ _ _ _)
      | (with_reducible exact ih2 _ _ _ _ _ _ _ _ _ _)
      | (with_reducible exact LeO.refl _)
      | (with_reducible exact LeO.none _)
      | (with_reducible refine LeO.ite ?_ ?_)
      | (with_reducible refine LeO.bind ?_ (fun _ => ?_))
      | exact ih0 _ _ _ _ _ _ _ _ _ _ _
      | exact ih1 _ _ _ _ _ _ _ _ _ _ _
      | exact ih2 _ _ _ _ _ _ _ _ _ _
      | exact LeO.none _
      | refine LeO.ite ?_ ?_
      | refine LeO.bind ?_ (fun _ => ?_)
    · intro y0 y1 y2 y3 y4 y5 y6 y7 y8 y9
      unfold chartularyref12_Retain.j2
      repeat' first
      | (with_reducible exact ih0 _ _ _ _ _ _ _ _ _ _ _)
      | (with_reducible exact ih1 _ _ _ _ _ _ _ _ _ _ _)
      | (with_reducible exact ih2 _ _ _ _ _ _ _ _ _ _)
      | (with_reducible exact LeO.refl _)
      | (with_reducible exact LeO.none _)
      | (with_reducible refine LeO.ite ?_ ?_)
      | (with_reducible refine LeO.bind ?_ (fun _ => ?_))
      | exact ih0 _ _ _ _ _ _ _ _ _ _ _
      | exact ih1 _ _ _ _ _ _ _ _ _ _ _
      | exact ih2 _ _ _ _ _ _ _ _ _ _
      | exact LeO.none _
      | refine LeO.ite ?_ ?_
      | refine LeO.bind ?_ (fun _ => ?_)
theorem chartularyref12_Retain.mono : ∀ a0 a1 a2 a3 a4 a5 a6 k, LeO (chartularyref12_Retain.f k a0 a1 a2 a3 a4 a5 a6) (chartularyref12_Retain.f (k + 1) a0 a1 a2 a3 a4 a5 a6) := by
  intro a0 a1 a2 a3 a4 a5 a6 k
  obtain ⟨ih0, ih1, ih2⟩ := chartularyref12_Retain.mono_l k
  unfold chartularyref12_Retain.f
  repeat' first
      | (with_reducible exact ih0 _ _ _ _ _ _ _ _ _ _ _)
      | (with_reducible exact ih1 _ _ _ _ _ _ _ _ _ _ _)
      | (with_reducible exact ih2 _ _ _ _ _ _ _ _ _ _)
      | (with_reducible exact LeO.refl _)
      | (with_reducible exact LeO.none _)
      | (with_reducible refine LeO.ite ?_ ?_)
      | (with_reducible refine LeO.bind ?_ (fun _ => ?_))
      | exact ih0 _ _ _ _ _ _ _ _ _ _ _
      | exact ih1 _ _ _ _ _ _ _ _ _ _ _
      | exact ih2 _ _ _ _ _ _ _ _ _ _
      | exact LeO.none _
      | refine LeO.ite ?_ ?_
      | refine LeO.bind ?_ (fun _ => ?_)
set_option maxHeartbeats 8000000 in
set_option maxRecDepth 100000 in
theorem chartularyref12_Retain.calls (k : Nat) (a0_0 : Int) (a0_1 : Int) (a0_2 : Bool) (a1 : Int) (a2 : Int) (a3 : Int) (a4 : Bool) (r1 : Int) (r2 : Int) (r3 : Bool) (r4 : Int) (w : World) (h : chartularyref12_Retain.f k a0_0 a0_1 a0_2 a1 a2 a3 a4 = some (r1, r2, r3, r4)) :
    Calls Try.prog 22 #[.agg #[.int .i64 a0_0, .int .i64 a0_1, .bool a0_2], .int .i64 a1, .int .i64 a2, .int .i64 a3, .bool a4] w fun e w' => e = .returned (.tuple #[.agg #[.int .i64 r1, .int .i64 r2, .bool r3], .int .i64 r4]) ∧ Below w.heap.size w w' := by
  have hu23 := Try.underlying23
  have HB := Aside0.mk (Below.refl w.heap.size w)
  have H : ((chartularyref12_Sound.f a0_0 a0_1 a0_2).bind fun t188 => (if t188 = true then ((chartularyref12_Sound.f a1 a2 a0_2).bind fun t189 => (chartularyref12_Retain.j0 k a1 a2 a3 a4 (!t189) a0_0 a0_1 a0_2 a1 a2 a0_2)) else (chartularyref12_Retain.j0 k a1 a2 a3 a4 true a0_0 a0_1 a0_2 a1 a2 a0_2))) = some (r1, r2, r3, r4) := h
  clear h
  have HC6 := Aside0.mk H
  clear H
  go_enter Try.func22, Try.ntmps22
  go_upto_region 4 with (first | ((with_reducible refine gate_dst (N := 5) rfl ?_); refine box_event ?hg (N := 5) ?hd (cs := #[.int .i64 a0_0, .int .i64 a0_1, .bool a0_2]) (t := 23) ?hr ?_; (case hd => rfl); (case hg => rfl); (case hr => first | (go_simp; done) | (go_simp; rfl)); intro gb185 hg w7 hbox hb; have n0_ := Aside0.mk (below_step (by repeat (first | (with_reducible first | exact HB.out | apply below_alloc | apply pw_below_drewN | apply below_drew1) | exact HB.out)) hb); have n1_ := Aside0.mk (hbox); have n2_ := Aside0.mk ((by rw [hg]; exact (below_size (by repeat (first | (with_reducible first | exact HB.out | apply below_alloc | apply pw_below_drewN | apply below_drew1) | exact HB.out))) : w.heap.size ≤ gb185)); have n3_ := Aside0.mk ((by rw [hg]; exact (below_size (by repeat (first | (with_reducible first | exact HB.out | apply below_alloc | apply pw_below_drewN | apply below_drew1) | exact HB.out))) : w.heap.size ≤ gb185)); clear HB; have HB := n0_; have BK185 := n1_; have GW185 := n2_; have GE185 := n3_; clear n0_ n1_ n2_ n3_; clear hb hbox hg) | ((with_reducible refine gate_dst (N := 10) rfl ?_); refine box_event ?hg (N := 10) ?hd (cs := #[.int .i64 0, .int .i64 0, .bool false]) (t := 23) ?hr ?_; (case hd => rfl); (case hg => rfl); (case hr => first | (go_simp; done) | (go_simp; rfl)); intro gb186 hg w8 hbox hb; have n0_ := Aside0.mk (blk_below (g := gb185) (o := .cells #[.int .i64 a0_0, .int .i64 a0_1, .bool a0_2] 23 (0, 0)) (by (with_reducible repeat (first | refine blk_drewN ?_ _ | refine blk_drew ?_ | refine blk_alloc ?_ _)); exact BK185.out) hb); have n1_ := Aside0.mk (below_step (by repeat (first | (with_reducible first | exact HB.out | apply below_alloc | apply pw_below_drewN | apply below_drew1 | refine below_set ?_ GE185.out) | exact HB.out)) hb); have n2_ := Aside0.mk (hbox); have n3_ := Aside0.mk ((by rw [hg]; exact (below_size (by repeat (first | (with_reducible first | exact HB.out | apply below_alloc | apply pw_below_drewN | apply below_drew1 | refine below_set ?_ GE185.out) | exact HB.out))) : w.heap.size ≤ gb186)); have n4_ := Aside0.mk ((by rw [hg]; exact (below_size (by repeat (first | (with_reducible first | exact HB.out | apply below_alloc | apply pw_below_drewN | apply below_drew1 | refine below_set ?_ GE185.out) | exact HB.out))) : w.heap.size ≤ gb186)); have n5_ := Aside0.mk ((by rw [hg]; exact Nat.ne_of_lt (blk_lt (g := gb185) (o := .cells #[.int .i64 a0_0, .int .i64 a0_1, .bool a0_2] 23 (0, 0)) (by (with_reducible repeat (first | refine blk_drewN ?_ _ | refine blk_drew ?_ | refine blk_alloc ?_ _)); exact BK185.out)) : gb185 ≠ gb186)); have n6_ := Aside0.mk ((by rw [hg]; exact Nat.ne_of_gt (blk_lt (g := gb185) (o := .cells #[.int .i64 a0_0, .int .i64 a0_1, .bool a0_2] 23 (0, 0)) (by (with_reducible repeat (first | refine blk_drewN ?_ _ | refine blk_drew ?_ | refine blk_alloc ?_ _)); exact BK185.out)) : gb186 ≠ gb185)); clear BK185; clear HB; have BK185 := n0_; have HB := n1_; have BK186 := n2_; have GW186 := n3_; have GE186 := n4_; have NB185_186 := n5_; have NB186_185 := n6_; clear n0_ n1_ n2_ n3_ n4_ n5_ n6_; clear hb hbox hg; have hnb9 := NB185_186.out; have hnc9 := NB186_185.out; have hcz10_0 : w8.cell? ⟨gb185, 0, none⟩ = some (.int .i64 a0_0) := (blk_cell BK185.out 0).trans rfl; have hcz10_1 : w8.cell? ⟨gb185, 1, none⟩ = some (.int .i64 a0_1) := (blk_cell BK185.out 1).trans rfl; have hcz10_2 : w8.cell? ⟨gb185, 2, none⟩ = some (.bool a0_2) := (blk_cell BK185.out 2).trans rfl; have hfz10_0 := blk_frozen BK185.out 0; have hfz10_1 := blk_frozen BK185.out 1; have hfz10_2 := blk_frozen BK185.out 2) | ((with_reducible refine gate_dst (N := 12) rfl ?_); refine box_event ?hg (N := 12) ?hd (cs := #[.int .i64 0, .int .i64 0, .bool false]) (t := 23) ?hr ?_; (case hd => rfl); (case hg => rfl); (case hr => first | (go_simp; done) | (go_simp; rfl)); intro gb187 hg w11 hbox hb; have n0_ := Aside0.mk (blk_below (g := gb185) (o := .cells #[.int .i64 a0_0, .int .i64 a0_1, .bool a0_2] 23 (0, 0)) (by (with_reducible repeat (first | refine blk_drewN ?_ _ | refine blk_drew ?_ | refine blk_alloc ?_ _)); exact BK185.out) hb); have n1_ := Aside0.mk (blk_below (g := gb186) (o := .cells #[.int .i64 0, .int .i64 0, .bool false] 23 (0, 0)) (by (with_reducible repeat (first | refine blk_drewN ?_ _ | refine blk_drew ?_ | refine blk_alloc ?_ _)); exact BK186.out) hb); have n2_ := Aside0.mk (below_step (by repeat (first | (with_reducible first | exact HB.out | apply below_alloc | apply pw_below_drewN | apply below_drew1 | refine below_set ?_ GE185.out | refine below_set ?_ GE186.out) | exact HB.out)) hb); have n3_ := Aside0.mk (hbox); have n4_ := Aside0.mk ((by rw [hg]; exact (below_size (by repeat (first | (with_reducible first | exact HB.out | apply below_alloc | apply pw_below_drewN | apply below_drew1 | refine below_set ?_ GE185.out | refine below_set ?_ GE186.out) | exact HB.out))) : w.heap.size ≤ gb187)); have n5_ := Aside0.mk ((by rw [hg]; exact (below_size (by repeat (first | (with_reducible first | exact HB.out | apply below_alloc | apply pw_below_drewN | apply below_drew1 | refine below_set ?_ GE185.out | refine below_set ?_ GE186.out) | exact HB.out))) : w.heap.size ≤ gb187)); have n6_ := Aside0.mk ((by rw [hg]; exact Nat.ne_of_lt (blk_lt (g := gb185) (o := .cells #[.int .i64 a0_0, .int .i64 a0_1, .bool a0_2] 23 (0, 0)) (by (with_reducible repeat (first | refine blk_drewN ?_ _ | refine blk_drew ?_ | refine blk_alloc ?_ _)); exact BK185.out)) : gb185 ≠ gb187)); have n7_ := Aside0.mk ((by rw [hg]; exact Nat.ne_of_gt (blk_lt (g := gb185) (o := .cells #[.int .i64 a0_0, .int .i64 a0_1, .bool a0_2] 23 (0, 0)) (by (with_reducible repeat (first | refine blk_drewN ?_ _ | refine blk_drew ?_ | refine blk_alloc ?_ _)); exact BK185.out)) : gb187 ≠ gb185)); have n8_ := Aside0.mk ((by rw [hg]; exact Nat.ne_of_lt (blk_lt (g := gb186) (o := .cells #[.int .i64 0, .int .i64 0, .bool false] 23 (0, 0)) (by (with_reducible repeat (first | refine blk_drewN ?_ _ | refine blk_drew ?_ | refine blk_alloc ?_ _)); exact BK186.out)) : gb186 ≠ gb187)); have n9_ := Aside0.mk ((by rw [hg]; exact Nat.ne_of_gt (blk_lt (g := gb186) (o := .cells #[.int .i64 0, .int .i64 0, .bool false] 23 (0, 0)) (by (with_reducible repeat (first | refine blk_drewN ?_ _ | refine blk_drew ?_ | refine blk_alloc ?_ _)); exact BK186.out)) : gb187 ≠ gb186)); clear BK185; clear BK186; clear HB; have BK185 := n0_; have BK186 := n1_; have HB := n2_; have BK187 := n3_; have GW187 := n4_; have GE187 := n5_; have NB185_187 := n6_; have NB187_185 := n7_; have NB186_187 := n8_; have NB187_186 := n9_; clear n0_ n1_ n2_ n3_ n4_ n5_ n6_ n7_ n8_ n9_; clear hb hbox hg; have hnb12 := NB187_185.out; have hnc12 := NB185_187.out; have hnb13 := NB187_186.out; have hnc13 := NB186_187.out; have hcz14_0 : w11.cell? ⟨gb187, 0, none⟩ = some (.int .i64 0) := (blk_cell BK187.out 0).trans rfl; have hcz14_1 : w11.cell? ⟨gb187, 1, none⟩ = some (.int .i64 0) := (blk_cell BK187.out 1).trans rfl; have hcz14_2 : w11.cell? ⟨gb187, 2, none⟩ = some (.bool false) := (blk_cell BK187.out 2).trans rfl; have hfz14_0 := blk_frozen BK187.out 0; have hfz14_1 := blk_frozen BK187.out 1; have hfz14_2 := blk_frozen BK187.out 2))
  (try simp only [Act.put, List.setIfInBounds_toArray, List.set_cons_zero, List.set_cons_succ])
  go_cut [25] (fun v25 wc => ∃ (kq : Nat) (x25_5 : Bool), v25 = .bool x25_5 ∧ Aside0 (chartularyref12_Retain.j0 kq a1 a2 a3 a4 x25_5 a0_0 a0_1 a0_2 a1 a2 a0_2 = some (r1, r2, r3, r4)) ∧ Aside0 (kq ≤ k) ∧ Aside0 (wc.heap[gb185]? = some (.cells #[.int .i64 a0_0, .int .i64 a0_1, .bool a0_2] 23 (0, 0))) ∧ Aside0 (wc.heap[gb186]? = some (.cells #[.int .i64 0, .int .i64 0, .bool false] 23 (0, 0))) ∧ Aside0 (wc.heap[gb187]? = some (.cells #[.int .i64 a1, .int .i64 a2, .bool a0_2] 23 (0, 0))) ∧ Aside0 (Below w.heap.size w wc))
  case first =>
    have H := HC6.out
    clear HC6
    replace H := Option.bind_eq_some_iff.mp H
    obtain ⟨t188, A150, H⟩ := H
    replace H : (if t188 = true then ((chartularyref12_Sound.f a1 a2 a0_2).bind fun t189 => (chartularyref12_Retain.j0 k a1 a2 a3 a4 (!t189) a0_0 a0_1 a0_2 a1 a2 a0_2)) else (chartularyref12_Retain.j0 k a1 a2 a3 a4 true a0_0 a0_1 a0_2 a1 a2 a0_2)) = some (r1, r2, r3, r4) := H
    have A15 := Aside0.mk A150
    clear A150
    by_cases c16 : t188 = true
    · subst c16
      have H1 : ((chartularyref12_Sound.f a1 a2 a0_2).bind fun t189 => (chartularyref12_Retain.j0 k a1 a2 a3 a4 (!t189) a0_0 a0_1 a0_2 a1 a2 a0_2)) = some (r1, r2, r3, r4) := by rw [if_pos rfl] at H; exact H
      clear H
      have H := H1
      clear H1
      replace H := Option.bind_eq_some_iff.mp H
      obtain ⟨t189, A170, H⟩ := H
      replace H : (chartularyref12_Retain.j0 k a1 a2 a3 a4 (!t189) a0_0 a0_1 a0_2 a1 a2 a0_2) = some (r1, r2, r3, r4) := H
      have A17 := Aside0.mk A170
      clear A170
      have H' := Aside0.mk H
      clear H
      have hnb18 := NB185_186.out
      have hnc18 := NB186_185.out
      have hnb19 := NB185_187.out
      have hnc19 := NB187_185.out
      have hcz20_0 : w11.cell? ⟨gb185, 0, none⟩ = some (.int .i64 a0_0) := (blk_cell BK185.out 0).trans rfl
      have hcz20_1 : w11.cell? ⟨gb185, 1, none⟩ = some (.int .i64 a0_1) := (blk_cell BK185.out 1).trans rfl
      have hcz20_2 : w11.cell? ⟨gb185, 2, none⟩ = some (.bool a0_2) := (blk_cell BK185.out 2).trans rfl
      have hfz20_0 := blk_frozen BK185.out 0
      have hfz20_1 := blk_frozen BK185.out 1
      have hfz20_2 := blk_frozen BK185.out 2
      go_wp2_with (first | ((with_reducible refine gate_callee (f := 17) rfl ?_); refine goesL_ (some 19) rfl rfl Try.func17 (by kernel_rfl) rfl #[.agg #[.int .i64 a0_0, .int .i64 a0_1, .bool a0_2]] rfl (by (try simp only [List.map_toArray, List.map_cons, List.map_nil]); first | done | rfl | (simp only [List.length_drop, List.length_take]; rfl)) ?_; (with_reducible refine (chartularyref12_Sound.calls a0_0 a0_1 a0_2 true _ A15.out).mono ?_); rintro e w21 ⟨rfl, hb⟩; refine ⟨_, rfl, ?_⟩; have n0_ := Aside0.mk (blk_below (g := gb185) (o := .cells #[.int .i64 a0_0, .int .i64 a0_1, .bool a0_2] 23 (0, 0)) (by (with_reducible repeat (first | refine blk_drewN ?_ _ | refine blk_drew ?_ | refine blk_alloc ?_ _)); refine blk_far ?_ NB185_187.out _; (with_reducible repeat (first | refine blk_drewN ?_ _ | refine blk_drew ?_ | refine blk_alloc ?_ _)); refine blk_far ?_ NB185_187.out _; (with_reducible repeat (first | refine blk_drewN ?_ _ | refine blk_drew ?_ | refine blk_alloc ?_ _)); refine blk_far ?_ NB185_187.out _; (with_reducible repeat (first | refine blk_drewN ?_ _ | refine blk_drew ?_ | refine blk_alloc ?_ _)); refine blk_far ?_ NB185_187.out _; (with_reducible repeat (first | refine blk_drewN ?_ _ | refine blk_drew ?_ | refine blk_alloc ?_ _)); refine blk_far ?_ NB185_187.out _; (with_reducible repeat (first | refine blk_drewN ?_ _ | refine blk_drew ?_ | refine blk_alloc ?_ _)); exact BK185.out) hb); have n1_ := Aside0.mk (blk_below (g := gb186) (o := .cells #[.int .i64 0, .int .i64 0, .bool false] 23 (0, 0)) (by (with_reducible repeat (first | refine blk_drewN ?_ _ | refine blk_drew ?_ | refine blk_alloc ?_ _)); refine blk_far ?_ NB186_187.out _; (with_reducible repeat (first | refine blk_drewN ?_ _ | refine blk_drew ?_ | refine blk_alloc ?_ _)); refine blk_far ?_ NB186_187.out _; (with_reducible repeat (first | refine blk_drewN ?_ _ | refine blk_drew ?_ | refine blk_alloc ?_ _)); refine blk_far ?_ NB186_187.out _; (with_reducible repeat (first | refine blk_drewN ?_ _ | refine blk_drew ?_ | refine blk_alloc ?_ _)); refine blk_far ?_ NB186_187.out _; (with_reducible repeat (first | refine blk_drewN ?_ _ | refine blk_drew ?_ | refine blk_alloc ?_ _)); refine blk_far ?_ NB186_187.out _; (with_reducible repeat (first | refine blk_drewN ?_ _ | refine blk_drew ?_ | refine blk_alloc ?_ _)); exact BK186.out) hb); have n2_ := Aside0.mk (blk_below (g := gb187) (o := .cells #[.int .i64 a1, .int .i64 a2, .bool a0_2] 23 (0, 0)) (by (with_reducible repeat (first | refine blk_drewN ?_ _ | refine blk_drew ?_ | refine blk_alloc ?_ _)); refine blk_put (cs := #[.int .i64 a1, .int .i64 a0_1, .bool a0_2]) ?_ 1 _ rfl; (with_reducible repeat (first | refine blk_drewN ?_ _ | refine blk_drew ?_ | refine blk_alloc ?_ _)); refine blk_put (cs := #[.int .i64 a0_0, .int .i64 a0_1, .bool a0_2]) ?_ 0 _ rfl; (with_reducible repeat (first | refine blk_drewN ?_ _ | refine blk_drew ?_ | refine blk_alloc ?_ _)); refine blk_put (cs := #[.int .i64 a0_0, .int .i64 a0_1, .bool false]) ?_ 2 _ rfl; (with_reducible repeat (first | refine blk_drewN ?_ _ | refine blk_drew ?_ | refine blk_alloc ?_ _)); refine blk_put (cs := #[.int .i64 a0_0, .int .i64 0, .bool false]) ?_ 1 _ rfl; (with_reducible repeat (first | refine blk_drewN ?_ _ | refine blk_drew ?_ | refine blk_alloc ?_ _)); refine blk_put (cs := #[.int .i64 0, .int .i64 0, .bool false]) ?_ 0 _ rfl; (with_reducible repeat (first | refine blk_drewN ?_ _ | refine blk_drew ?_ | refine blk_alloc ?_ _)); exact BK187.out) hb); have n3_ := Aside0.mk (below_step (by repeat (first | (with_reducible first | exact HB.out | apply below_alloc | apply pw_below_drewN | apply below_drew1 | refine below_set ?_ GE185.out | refine below_set ?_ GE186.out | refine below_set ?_ GE187.out) | exact HB.out)) hb); clear BK185; clear BK186; clear BK187; clear HB; have BK185 := n0_; have BK186 := n1_; have BK187 := n2_; have HB := n3_; clear n0_ n1_ n2_ n3_; (try clear hb); (try clear hb2); (try clear hk); (try clear hi); have hnb22 := NB187_186.out; have hnc22 := NB186_187.out; have hcz23_0 : w21.cell? ⟨gb187, 0, none⟩ = some (.int .i64 a1) := (blk_cell BK187.out 0).trans rfl; have hcz23_1 : w21.cell? ⟨gb187, 1, none⟩ = some (.int .i64 a2) := (blk_cell BK187.out 1).trans rfl; have hcz23_2 : w21.cell? ⟨gb187, 2, none⟩ = some (.bool a0_2) := (blk_cell BK187.out 2).trans rfl; have hfz23_0 := blk_frozen BK187.out 0; have hfz23_1 := blk_frozen BK187.out 1; have hfz23_2 := blk_frozen BK187.out 2) | (go_at_call 17; (with_reducible refine (chartularyref12_Sound.calls a1 a2 a0_2 t189 _ A17.out).mono ?_); rintro e w24 ⟨rfl, hb⟩; have n0_ := Aside0.mk (blk_below (g := gb185) (o := .cells #[.int .i64 a0_0, .int .i64 a0_1, .bool a0_2] 23 (0, 0)) (by (with_reducible repeat (first | refine blk_drewN ?_ _ | refine blk_drew ?_ | refine blk_alloc ?_ _)); exact BK185.out) hb); have n1_ := Aside0.mk (blk_below (g := gb186) (o := .cells #[.int .i64 0, .int .i64 0, .bool false] 23 (0, 0)) (by (with_reducible repeat (first | refine blk_drewN ?_ _ | refine blk_drew ?_ | refine blk_alloc ?_ _)); exact BK186.out) hb); have n2_ := Aside0.mk (blk_below (g := gb187) (o := .cells #[.int .i64 a1, .int .i64 a2, .bool a0_2] 23 (0, 0)) (by (with_reducible repeat (first | refine blk_drewN ?_ _ | refine blk_drew ?_ | refine blk_alloc ?_ _)); exact BK187.out) hb); have n3_ := Aside0.mk (below_step (by repeat (first | (with_reducible first | exact HB.out | apply below_alloc | apply pw_below_drewN | apply below_drew1 | refine below_set ?_ GE185.out | refine below_set ?_ GE186.out | refine below_set ?_ GE187.out) | exact HB.out)) hb); clear BK185; clear BK186; clear BK187; clear HB; have BK185 := n0_; have BK186 := n1_; have BK187 := n2_; have HB := n3_; clear n0_ n1_ n2_ n3_; (try clear hb); (try clear hb2); (try clear hk); (try clear hi)))
      go_meet
      case rel => exact ⟨_, (!t189), (by first | rfl | (simp; done) | (simp [*]; done)), H', ⟨by first | omega | exact Nat.le_refl _⟩, ⟨by (with_reducible repeat (first | refine blk_drewN ?_ _ | refine blk_drew ?_ | refine blk_alloc ?_ _)); exact BK185.out⟩, ⟨by (with_reducible repeat (first | refine blk_drewN ?_ _ | refine blk_drew ?_ | refine blk_alloc ?_ _)); exact BK186.out⟩, ⟨by (with_reducible repeat (first | refine blk_drewN ?_ _ | refine blk_drew ?_ | refine blk_alloc ?_ _)); exact BK187.out⟩, ⟨by repeat (first | (with_reducible first | exact HB.out | apply below_alloc | apply pw_below_drewN | apply below_drew1 | refine below_set ?_ GE185.out | refine below_set ?_ GE186.out | refine below_set ?_ GE187.out) | exact HB.out)⟩⟩
    · replace c16 := Bool.eq_false_iff.mpr c16
      subst c16
      have H1 : (chartularyref12_Retain.j0 k a1 a2 a3 a4 true a0_0 a0_1 a0_2 a1 a2 a0_2) = some (r1, r2, r3, r4) := by rw [if_neg (show ¬ (false = true) by decide)] at H; exact H
      clear H
      have H := H1
      clear H1
      have H' := Aside0.mk H
      clear H
      have hnb25 := NB185_186.out
      have hnc25 := NB186_185.out
      have hnb26 := NB185_187.out
      have hnc26 := NB187_185.out
      have hcz27_0 : w11.cell? ⟨gb185, 0, none⟩ = some (.int .i64 a0_0) := (blk_cell BK185.out 0).trans rfl
      have hcz27_1 : w11.cell? ⟨gb185, 1, none⟩ = some (.int .i64 a0_1) := (blk_cell BK185.out 1).trans rfl
      have hcz27_2 : w11.cell? ⟨gb185, 2, none⟩ = some (.bool a0_2) := (blk_cell BK185.out 2).trans rfl
      have hfz27_0 := blk_frozen BK185.out 0
      have hfz27_1 := blk_frozen BK185.out 1
      have hfz27_2 := blk_frozen BK185.out 2
      go_wp2_with (first | ((with_reducible refine gate_callee (f := 17) rfl ?_); refine goesL_ (some 19) rfl rfl Try.func17 (by kernel_rfl) rfl #[.agg #[.int .i64 a0_0, .int .i64 a0_1, .bool a0_2]] rfl (by (try simp only [List.map_toArray, List.map_cons, List.map_nil]); first | done | rfl | (simp only [List.length_drop, List.length_take]; rfl)) ?_; (with_reducible refine (chartularyref12_Sound.calls a0_0 a0_1 a0_2 false _ A15.out).mono ?_); rintro e w28 ⟨rfl, hb⟩; refine ⟨_, rfl, ?_⟩; have n0_ := Aside0.mk (blk_below (g := gb185) (o := .cells #[.int .i64 a0_0, .int .i64 a0_1, .bool a0_2] 23 (0, 0)) (by (with_reducible repeat (first | refine blk_drewN ?_ _ | refine blk_drew ?_ | refine blk_alloc ?_ _)); refine blk_far ?_ NB185_187.out _; (with_reducible repeat (first | refine blk_drewN ?_ _ | refine blk_drew ?_ | refine blk_alloc ?_ _)); refine blk_far ?_ NB185_187.out _; (with_reducible repeat (first | refine blk_drewN ?_ _ | refine blk_drew ?_ | refine blk_alloc ?_ _)); refine blk_far ?_ NB185_187.out _; (with_reducible repeat (first | refine blk_drewN ?_ _ | refine blk_drew ?_ | refine blk_alloc ?_ _)); refine blk_far ?_ NB185_187.out _; (with_reducible repeat (first | refine blk_drewN ?_ _ | refine blk_drew ?_ | refine blk_alloc ?_ _)); refine blk_far ?_ NB185_187.out _; (with_reducible repeat (first | refine blk_drewN ?_ _ | refine blk_drew ?_ | refine blk_alloc ?_ _)); exact BK185.out) hb); have n1_ := Aside0.mk (blk_below (g := gb186) (o := .cells #[.int .i64 0, .int .i64 0, .bool false] 23 (0, 0)) (by (with_reducible repeat (first | refine blk_drewN ?_ _ | refine blk_drew ?_ | refine blk_alloc ?_ _)); refine blk_far ?_ NB186_187.out _; (with_reducible repeat (first | refine blk_drewN ?_ _ | refine blk_drew ?_ | refine blk_alloc ?_ _)); refine blk_far ?_ NB186_187.out _; (with_reducible repeat (first | refine blk_drewN ?_ _ | refine blk_drew ?_ | refine blk_alloc ?_ _)); refine blk_far ?_ NB186_187.out _; (with_reducible repeat (first | refine blk_drewN ?_ _ | refine blk_drew ?_ | refine blk_alloc ?_ _)); refine blk_far ?_ NB186_187.out _; (with_reducible repeat (first | refine blk_drewN ?_ _ | refine blk_drew ?_ | refine blk_alloc ?_ _)); refine blk_far ?_ NB186_187.out _; (with_reducible repeat (first | refine blk_drewN ?_ _ | refine blk_drew ?_ | refine blk_alloc ?_ _)); exact BK186.out) hb); have n2_ := Aside0.mk (blk_below (g := gb187) (o := .cells #[.int .i64 a1, .int .i64 a2, .bool a0_2] 23 (0, 0)) (by (with_reducible repeat (first | refine blk_drewN ?_ _ | refine blk_drew ?_ | refine blk_alloc ?_ _)); refine blk_put (cs := #[.int .i64 a1, .int .i64 a0_1, .bool a0_2]) ?_ 1 _ rfl; (with_reducible repeat (first | refine blk_drewN ?_ _ | refine blk_drew ?_ | refine blk_alloc ?_ _)); refine blk_put (cs := #[.int .i64 a0_0, .int .i64 a0_1, .bool a0_2]) ?_ 0 _ rfl; (with_reducible repeat (first | refine blk_drewN ?_ _ | refine blk_drew ?_ | refine blk_alloc ?_ _)); refine blk_put (cs := #[.int .i64 a0_0, .int .i64 a0_1, .bool false]) ?_ 2 _ rfl; (with_reducible repeat (first | refine blk_drewN ?_ _ | refine blk_drew ?_ | refine blk_alloc ?_ _)); refine blk_put (cs := #[.int .i64 a0_0, .int .i64 0, .bool false]) ?_ 1 _ rfl; (with_reducible repeat (first | refine blk_drewN ?_ _ | refine blk_drew ?_ | refine blk_alloc ?_ _)); refine blk_put (cs := #[.int .i64 0, .int .i64 0, .bool false]) ?_ 0 _ rfl; (with_reducible repeat (first | refine blk_drewN ?_ _ | refine blk_drew ?_ | refine blk_alloc ?_ _)); exact BK187.out) hb); have n3_ := Aside0.mk (below_step (by repeat (first | (with_reducible first | exact HB.out | apply below_alloc | apply pw_below_drewN | apply below_drew1 | refine below_set ?_ GE185.out | refine below_set ?_ GE186.out | refine below_set ?_ GE187.out) | exact HB.out)) hb); clear BK185; clear BK186; clear BK187; clear HB; have BK185 := n0_; have BK186 := n1_; have BK187 := n2_; have HB := n3_; clear n0_ n1_ n2_ n3_; (try clear hb); (try clear hb2); (try clear hk); (try clear hi)))
      go_meet
      case rel => exact ⟨_, (true), (by first | rfl | (simp; done) | (simp [*]; done)), H', ⟨by first | omega | exact Nat.le_refl _⟩, ⟨by (with_reducible repeat (first | refine blk_drewN ?_ _ | refine blk_drew ?_ | refine blk_alloc ?_ _)); exact BK185.out⟩, ⟨by (with_reducible repeat (first | refine blk_drewN ?_ _ | refine blk_drew ?_ | refine blk_alloc ?_ _)); exact BK186.out⟩, ⟨by (with_reducible repeat (first | refine blk_drewN ?_ _ | refine blk_drew ?_ | refine blk_alloc ?_ _)); exact BK187.out⟩, ⟨by repeat (first | (with_reducible first | exact HB.out | apply below_alloc | apply pw_below_drewN | apply below_drew1 | refine below_set ?_ GE185.out | refine below_set ?_ GE186.out | refine below_set ?_ GE187.out) | exact HB.out)⟩⟩
  case rest =>
    clear HC6
    try clear c1
    try clear c2
    try clear p2
    try clear c9
    try clear c12
    try clear c13
    try clear c16
    try clear c17
    try clear c18
    try clear c19
    try clear c22
    try clear c25
    try clear c26
    try clear hcz10_0
    try clear hcz10_1
    try clear hcz10_2
    try clear hcz14_0
    try clear hcz14_1
    try clear hcz14_2
    try clear hcz20_0
    try clear hcz20_1
    try clear hcz20_2
    try clear hcz23_0
    try clear hcz23_1
    try clear hcz23_2
    try clear hcz27_0
    try clear hcz27_1
    try clear hcz27_2
    try clear hfz10_0
    try clear hfz10_1
    try clear hfz10_2
    try clear hfz14_0
    try clear hfz14_1
    try clear hfz14_2
    try clear hfz20_0
    try clear hfz20_1
    try clear hfz20_2
    try clear hfz23_0
    try clear hfz23_1
    try clear hfz23_2
    try clear hfz27_0
    try clear hfz27_1
    try clear hfz27_2
    obtain ⟨kq, x25_5, rfl, HA, HJ5, BK185, BK186, BK187, HB⟩ := hcut
    cases kq with
    | zero => exact absurd HA.out (by simp [chartularyref12_Retain.j0])
    | succ kj5 =>
      have H := HA.out
      clear HA
      simp only [chartularyref12_Retain.j0] at H
      by_cases c29 : x25_5 = true
      · subst c29
        have H1 : (some (0, 0, false, 2)) = some (r1, r2, r3, r4) := by rw [if_pos rfl] at H; exact H
        clear H
        have H := H1
        clear H1
        simp only [Option.some.injEq, Prod.mk.injEq] at H
        obtain ⟨rfl, rfl, rfl, rfl⟩ := H
        have hnb30 := NB186_185.out
        have hnc30 := NB185_186.out
        have hnb31 := NB186_187.out
        have hnc31 := NB187_186.out
        have hcz32_0 : wc.cell? ⟨gb186, 0, none⟩ = some (.int .i64 0) := (blk_cell BK186.out 0).trans rfl
        have hcz32_1 : wc.cell? ⟨gb186, 1, none⟩ = some (.int .i64 0) := (blk_cell BK186.out 1).trans rfl
        have hcz32_2 : wc.cell? ⟨gb186, 2, none⟩ = some (.bool false) := (blk_cell BK186.out 2).trans rfl
        have hfz32_0 := blk_frozen BK186.out 0
        have hfz32_1 := blk_frozen BK186.out 1
        have hfz32_2 := blk_frozen BK186.out 2
        go_wp2
        refine bodyPost_ret (results_ct rfl _ _ gb186 23 #[.int .i64 0, .int .i64 0, .bool false] (0, 0) _ rfl (by (with_reducible repeat (first | refine blk_drewN ?_ _ | refine blk_drew ?_ | refine blk_alloc ?_ _)); refine blk_put (cs := #[.int .i64 0, .int .i64 0, .bool false]) ?_ 2 _ rfl; (with_reducible repeat (first | refine blk_drewN ?_ _ | refine blk_drew ?_ | refine blk_alloc ?_ _)); refine blk_put (cs := #[.int .i64 0, .int .i64 0, .bool false]) ?_ 1 _ rfl; (with_reducible repeat (first | refine blk_drewN ?_ _ | refine blk_drew ?_ | refine blk_alloc ?_ _)); refine blk_put (cs := #[.int .i64 0, .int .i64 0, .bool false]) ?_ 0 _ rfl; (with_reducible repeat (first | refine blk_drewN ?_ _ | refine blk_drew ?_ | refine blk_alloc ?_ _)); exact BK186.out) Try.underlying23 rfl (by kernel_rfl)) rfl ?_
        exact ⟨by first | rfl | (simp [errW_none, errW_some] <;> rfl) | (simp [*, errW_none, errW_some] <;> rfl), by repeat (first | (with_reducible first | exact HB.out | apply below_alloc | apply pw_below_drewN | apply below_drew1 | refine below_set ?_ GE185.out | refine below_set ?_ GE186.out | refine below_set ?_ GE187.out) | exact HB.out)⟩
      · replace c29 := Bool.eq_false_iff.mpr c29
        subst c29
        have H1 : (if a1 = 0 then (chartularyref12_Retain.j1 kj5 a1 a2 a3 a4 false a0_0 a0_1 a0_2 a1 a2 a0_2) else (chartularyref12_Retain.j1 kj5 a1 a2 a3 a4 (decide (a2 ≤ a3)) a0_0 a0_1 a0_2 a1 a2 a0_2)) = some (r1, r2, r3, r4) := by rw [if_neg (show ¬ (false = true) by decide)] at H; exact H
        clear H
        have H := H1
        clear H1
        have HC33 := Aside0.mk H
        clear H
        go_upto_region 6 with (fail)
        go_cut [33] (fun v33 wc => ∃ (kq : Nat) (x33_32 : Bool), v33 = .bool x33_32 ∧ Aside0 (chartularyref12_Retain.j1 kq a1 a2 a3 a4 x33_32 a0_0 a0_1 a0_2 a1 a2 a0_2 = some (r1, r2, r3, r4)) ∧ Aside0 (kq ≤ kj5) ∧ Aside0 (wc.heap[gb185]? = some (.cells #[.int .i64 a0_0, .int .i64 a0_1, .bool a0_2] 23 (0, 0))) ∧ Aside0 (wc.heap[gb186]? = some (.cells #[.int .i64 0, .int .i64 0, .bool false] 23 (0, 0))) ∧ Aside0 (wc.heap[gb187]? = some (.cells #[.int .i64 a1, .int .i64 a2, .bool a0_2] 23 (0, 0))) ∧ Aside0 (Below w.heap.size w wc))
        case first =>
          have H := HC33.out
          clear HC33
          by_cases c34 : a1 = 0
          · rw [if_pos c34] at H
            have c34b0 : (a1 == 0) = true := beq_iff_eq.mpr c34
            have c34b1 : (a1 != 0) = false := bne_eq_false_iff_eq.mpr c34
            clear c34
            (first | rw [c34b0] | (simp only [i64_w, i32_w]; rw [c34b0]) | skip)
            have H' := Aside0.mk H
            clear H
            go_wp2
            go_meet
            case rel => exact ⟨_, (false), (by first | rfl | (simp; done) | (simp [*]; done)), H', ⟨by have := HJ5.out; first | omega | exact Nat.le_refl _⟩, ⟨by (with_reducible repeat (first | refine blk_drewN ?_ _ | refine blk_drew ?_ | refine blk_alloc ?_ _)); exact BK185.out⟩, ⟨by (with_reducible repeat (first | refine blk_drewN ?_ _ | refine blk_drew ?_ | refine blk_alloc ?_ _)); exact BK186.out⟩, ⟨by (with_reducible repeat (first | refine blk_drewN ?_ _ | refine blk_drew ?_ | refine blk_alloc ?_ _)); exact BK187.out⟩, ⟨by repeat (first | (with_reducible first | exact HB.out | apply below_alloc | apply pw_below_drewN | apply below_drew1 | refine below_set ?_ GE185.out | refine below_set ?_ GE186.out | refine below_set ?_ GE187.out) | exact HB.out)⟩⟩
          · rw [if_neg c34] at H
            have c34b0 : (a1 == 0) = false := beq_eq_false_iff_ne.mpr c34
            have c34b1 : (a1 != 0) = true := bne_iff_ne.mpr c34
            (first | rw [c34b0] | (simp only [i64_w, i32_w]; rw [c34b0]) | skip)
            have H' := Aside0.mk H
            clear H
            go_wp2
            go_meet
            case rel => exact ⟨_, (decide (a2 ≤ a3)), (by first | rfl | (simp; done) | (simp [*]; done)), H', ⟨by have := HJ5.out; first | omega | exact Nat.le_refl _⟩, ⟨by (with_reducible repeat (first | refine blk_drewN ?_ _ | refine blk_drew ?_ | refine blk_alloc ?_ _)); exact BK185.out⟩, ⟨by (with_reducible repeat (first | refine blk_drewN ?_ _ | refine blk_drew ?_ | refine blk_alloc ?_ _)); exact BK186.out⟩, ⟨by (with_reducible repeat (first | refine blk_drewN ?_ _ | refine blk_drew ?_ | refine blk_alloc ?_ _)); exact BK187.out⟩, ⟨by repeat (first | (with_reducible first | exact HB.out | apply below_alloc | apply pw_below_drewN | apply below_drew1 | refine below_set ?_ GE185.out | refine below_set ?_ GE186.out | refine below_set ?_ GE187.out) | exact HB.out)⟩⟩
        case rest =>
          clear HC33
          try clear c1
          try clear c2
          try clear p2
          try clear c3
          try clear c9
          try clear c12
          try clear c13
          try clear c16
          try clear c17
          try clear c18
          try clear c19
          try clear c22
          try clear c25
          try clear c26
          try clear c29
          try clear c30
          try clear c31
          try clear c34
          try clear c34b0
          try clear c34b1
          try clear hcz10_0
          try clear hcz10_1
          try clear hcz10_2
          try clear hcz14_0
          try clear hcz14_1
          try clear hcz14_2
          try clear hcz20_0
          try clear hcz20_1
          try clear hcz20_2
          try clear hcz23_0
          try clear hcz23_1
          try clear hcz23_2
          try clear hcz27_0
          try clear hcz27_1
          try clear hcz27_2
          try clear hcz32_0
          try clear hcz32_1
          try clear hcz32_2
          try clear hfz10_0
          try clear hfz10_1
          try clear hfz10_2
          try clear hfz14_0
          try clear hfz14_1
          try clear hfz14_2
          try clear hfz20_0
          try clear hfz20_1
          try clear hfz20_2
          try clear hfz23_0
          try clear hfz23_1
          try clear hfz23_2
          try clear hfz27_0
          try clear hfz27_1
          try clear hfz27_2
          try clear hfz32_0
          try clear hfz32_1
          try clear hfz32_2
          try clear p2
          obtain ⟨kq, x33_32, rfl, HA, HJ32, BK185, BK186, BK187, HB⟩ := hcut
          cases kq with
          | zero => exact absurd HA.out (by simp [chartularyref12_Retain.j1])
          | succ kj32 =>
            have H := HA.out
            clear HA
            simp only [chartularyref12_Retain.j1] at H
            by_cases c35 : x33_32 = true
            · subst c35
              have H1 : (some (0, 0, false, 4)) = some (r1, r2, r3, r4) := by rw [if_pos rfl] at H; exact H
              clear H
              have H := H1
              clear H1
              simp only [Option.some.injEq, Prod.mk.injEq] at H
              obtain ⟨rfl, rfl, rfl, rfl⟩ := H
              have hnb36 := NB186_185.out
              have hnc36 := NB185_186.out
              have hnb37 := NB186_187.out
              have hnc37 := NB187_186.out
              have hcz38_0 : wc.cell? ⟨gb186, 0, none⟩ = some (.int .i64 0) := (blk_cell BK186.out 0).trans rfl
              have hcz38_1 : wc.cell? ⟨gb186, 1, none⟩ = some (.int .i64 0) := (blk_cell BK186.out 1).trans rfl
              have hcz38_2 : wc.cell? ⟨gb186, 2, none⟩ = some (.bool false) := (blk_cell BK186.out 2).trans rfl
              have hfz38_0 := blk_frozen BK186.out 0
              have hfz38_1 := blk_frozen BK186.out 1
              have hfz38_2 := blk_frozen BK186.out 2
              go_wp2
              refine bodyPost_ret (results_ct rfl _ _ gb186 23 #[.int .i64 0, .int .i64 0, .bool false] (0, 0) _ rfl (by (with_reducible repeat (first | refine blk_drewN ?_ _ | refine blk_drew ?_ | refine blk_alloc ?_ _)); refine blk_put (cs := #[.int .i64 0, .int .i64 0, .bool false]) ?_ 2 _ rfl; (with_reducible repeat (first | refine blk_drewN ?_ _ | refine blk_drew ?_ | refine blk_alloc ?_ _)); refine blk_put (cs := #[.int .i64 0, .int .i64 0, .bool false]) ?_ 1 _ rfl; (with_reducible repeat (first | refine blk_drewN ?_ _ | refine blk_drew ?_ | refine blk_alloc ?_ _)); refine blk_put (cs := #[.int .i64 0, .int .i64 0, .bool false]) ?_ 0 _ rfl; (with_reducible repeat (first | refine blk_drewN ?_ _ | refine blk_drew ?_ | refine blk_alloc ?_ _)); exact BK186.out) Try.underlying23 rfl (by kernel_rfl)) rfl ?_
              exact ⟨by first | rfl | (simp [errW_none, errW_some] <;> rfl) | (simp [*, errW_none, errW_some] <;> rfl), by repeat (first | (with_reducible first | exact HB.out | apply below_alloc | apply pw_below_drewN | apply below_drew1 | refine below_set ?_ GE185.out | refine below_set ?_ GE186.out | refine below_set ?_ GE187.out) | exact HB.out)⟩
            · replace c35 := Bool.eq_false_iff.mpr c35
              subst c35
              have H1 : ((chartularyref12_Binds.f a0_0 a0_1 a0_2 a3).bind fun t190 => (if t190 = true then (if a0_0 = 2 then (if a1 = 2 then (chartularyref12_Retain.j2 kj32 a1 a2 a4 (decide (a2 < a0_1)) a0_0 a0_1 a0_2 a1 a2 a0_2) else (chartularyref12_Retain.j2 kj32 a1 a2 a4 true a0_0 a0_1 a0_2 a1 a2 a0_2)) else (chartularyref12_Retain.j2 kj32 a1 a2 a4 false a0_0 a0_1 a0_2 a1 a2 a0_2)) else (some (a1, a2, a0_2, 0)))) = some (r1, r2, r3, r4) := by rw [if_neg (show ¬ (false = true) by decide)] at H; exact H
              clear H
              have H := H1
              clear H1
              replace H := Option.bind_eq_some_iff.mp H
              obtain ⟨t190, A390, H⟩ := H
              replace H : (if t190 = true then (if a0_0 = 2 then (if a1 = 2 then (chartularyref12_Retain.j2 kj32 a1 a2 a4 (decide (a2 < a0_1)) a0_0 a0_1 a0_2 a1 a2 a0_2) else (chartularyref12_Retain.j2 kj32 a1 a2 a4 true a0_0 a0_1 a0_2 a1 a2 a0_2)) else (chartularyref12_Retain.j2 kj32 a1 a2 a4 false a0_0 a0_1 a0_2 a1 a2 a0_2)) else (some (a1, a2, a0_2, 0))) = some (r1, r2, r3, r4) := H
              have A39 := Aside0.mk A390
              clear A390
              by_cases c40 : t190 = true
              · subst c40
                have H1 : (if a0_0 = 2 then (if a1 = 2 then (chartularyref12_Retain.j2 kj32 a1 a2 a4 (decide (a2 < a0_1)) a0_0 a0_1 a0_2 a1 a2 a0_2) else (chartularyref12_Retain.j2 kj32 a1 a2 a4 true a0_0 a0_1 a0_2 a1 a2 a0_2)) else (chartularyref12_Retain.j2 kj32 a1 a2 a4 false a0_0 a0_1 a0_2 a1 a2 a0_2)) = some (r1, r2, r3, r4) := by rw [if_pos rfl] at H; exact H
                clear H
                have H := H1
                clear H1
                have HC41 := Aside0.mk H
                clear H
                have hnb42 := NB185_186.out
                have hnc42 := NB186_185.out
                have hnb43 := NB185_187.out
                have hnc43 := NB187_185.out
                have hcz44_0 : wc.cell? ⟨gb185, 0, none⟩ = some (.int .i64 a0_0) := (blk_cell BK185.out 0).trans rfl
                have hcz44_1 : wc.cell? ⟨gb185, 1, none⟩ = some (.int .i64 a0_1) := (blk_cell BK185.out 1).trans rfl
                have hcz44_2 : wc.cell? ⟨gb185, 2, none⟩ = some (.bool a0_2) := (blk_cell BK185.out 2).trans rfl
                have hfz44_0 := blk_frozen BK185.out 0
                have hfz44_1 := blk_frozen BK185.out 1
                have hfz44_2 := blk_frozen BK185.out 2
                go_upto_region 9 with (first | ((with_reducible refine gate_callee (f := 26) rfl ?_); refine goesL_ (some 37) rfl rfl Try.func26 (by kernel_rfl) rfl #[.agg #[.int .i64 a0_0, .int .i64 a0_1, .bool a0_2], .int .i64 a3] rfl (by (try simp only [List.map_toArray, List.map_cons, List.map_nil]); first | done | rfl | (simp only [List.length_drop, List.length_take]; rfl)) ?_; (with_reducible refine (chartularyref12_Binds.calls a0_0 a0_1 a0_2 a3 true _ A39.out).mono ?_); rintro e w45 ⟨rfl, hb⟩; refine ⟨_, rfl, ?_⟩; have n0_ := Aside0.mk (blk_below (g := gb185) (o := .cells #[.int .i64 a0_0, .int .i64 a0_1, .bool a0_2] 23 (0, 0)) (by (with_reducible repeat (first | refine blk_drewN ?_ _ | refine blk_drew ?_ | refine blk_alloc ?_ _)); exact BK185.out) hb); have n1_ := Aside0.mk (blk_below (g := gb186) (o := .cells #[.int .i64 0, .int .i64 0, .bool false] 23 (0, 0)) (by (with_reducible repeat (first | refine blk_drewN ?_ _ | refine blk_drew ?_ | refine blk_alloc ?_ _)); exact BK186.out) hb); have n2_ := Aside0.mk (blk_below (g := gb187) (o := .cells #[.int .i64 a1, .int .i64 a2, .bool a0_2] 23 (0, 0)) (by (with_reducible repeat (first | refine blk_drewN ?_ _ | refine blk_drew ?_ | refine blk_alloc ?_ _)); exact BK187.out) hb); have n3_ := Aside0.mk (below_step (by repeat (first | (with_reducible first | exact HB.out | apply below_alloc | apply pw_below_drewN | apply below_drew1 | refine below_set ?_ GE185.out | refine below_set ?_ GE186.out | refine below_set ?_ GE187.out) | exact HB.out)) hb); clear BK185; clear BK186; clear BK187; clear HB; have BK185 := n0_; have BK186 := n1_; have BK187 := n2_; have HB := n3_; clear n0_ n1_ n2_ n3_; (try clear hb); (try clear hb2); (try clear hk); (try clear hi)))
                (try simp only [Act.put, List.setIfInBounds_toArray, List.set_cons_zero, List.set_cons_succ])
                go_cut [50] (fun v50 wc => ∃ (kq : Nat) (x50_40 : Bool), v50 = .bool x50_40 ∧ Aside0 (chartularyref12_Retain.j2 kq a1 a2 a4 x50_40 a0_0 a0_1 a0_2 a1 a2 a0_2 = some (r1, r2, r3, r4)) ∧ Aside0 (kq ≤ kj32) ∧ Aside0 (wc.heap[gb185]? = some (.cells #[.int .i64 a0_0, .int .i64 a0_1, .bool a0_2] 23 (0, 0))) ∧ Aside0 (wc.heap[gb186]? = some (.cells #[.int .i64 0, .int .i64 0, .bool false] 23 (0, 0))) ∧ Aside0 (wc.heap[gb187]? = some (.cells #[.int .i64 a1, .int .i64 a2, .bool a0_2] 23 (0, 0))) ∧ Aside0 (Below w.heap.size w wc))
                case first =>
                  have H := HC41.out
                  clear HC41
                  by_cases c46 : a0_0 = 2
                  · rw [if_pos c46] at H
                    have c46b0 : (a0_0 == 2) = true := beq_iff_eq.mpr c46
                    have c46b1 : (a0_0 != 2) = false := bne_eq_false_iff_eq.mpr c46
                    clear c46
                    (first | rw [c46b0] | (simp only [i64_w, i32_w]; rw [c46b0]) | skip)
                    by_cases c47 : a1 = 2
                    · rw [if_pos c47] at H
                      have c47b0 : (a1 == 2) = true := beq_iff_eq.mpr c47
                      have c47b1 : (a1 != 2) = false := bne_eq_false_iff_eq.mpr c47
                      clear c47
                      have H' := Aside0.mk H
                      clear H
                      have hnb48 := NB185_186.out
                      have hnc48 := NB186_185.out
                      have hnb49 := NB185_187.out
                      have hnc49 := NB187_185.out
                      have hcz50_0 : w45.cell? ⟨gb185, 0, none⟩ = some (.int .i64 a0_0) := (blk_cell BK185.out 0).trans rfl
                      have hcz50_1 : w45.cell? ⟨gb185, 1, none⟩ = some (.int .i64 a0_1) := (blk_cell BK185.out 1).trans rfl
                      have hcz50_2 : w45.cell? ⟨gb185, 2, none⟩ = some (.bool a0_2) := (blk_cell BK185.out 2).trans rfl
                      have hfz50_0 := blk_frozen BK185.out 0
                      have hfz50_1 := blk_frozen BK185.out 1
                      have hfz50_2 := blk_frozen BK185.out 2
                      go_wp2
                      go_meet
                      case rel => exact ⟨_, (decide (a2 < a0_1)), (by first | rfl | (simp; done) | (simp [*]; done)), H', ⟨by have := HJ5.out; have := HJ32.out; first | omega | exact Nat.le_refl _⟩, ⟨by (with_reducible repeat (first | refine blk_drewN ?_ _ | refine blk_drew ?_ | refine blk_alloc ?_ _)); exact BK185.out⟩, ⟨by (with_reducible repeat (first | refine blk_drewN ?_ _ | refine blk_drew ?_ | refine blk_alloc ?_ _)); exact BK186.out⟩, ⟨by (with_reducible repeat (first | refine blk_drewN ?_ _ | refine blk_drew ?_ | refine blk_alloc ?_ _)); exact BK187.out⟩, ⟨by repeat (first | (with_reducible first | exact HB.out | apply below_alloc | apply pw_below_drewN | apply below_drew1 | refine below_set ?_ GE185.out | refine below_set ?_ GE186.out | refine below_set ?_ GE187.out) | exact HB.out)⟩⟩
                    · rw [if_neg c47] at H
                      have c47b0 : (a1 == 2) = false := beq_eq_false_iff_ne.mpr c47
                      have c47b1 : (a1 != 2) = true := bne_iff_ne.mpr c47
                      have H' := Aside0.mk H
                      clear H
                      have hnb51 := NB185_186.out
                      have hnc51 := NB186_185.out
                      have hnb52 := NB185_187.out
                      have hnc52 := NB187_185.out
                      have hcz53_0 : w45.cell? ⟨gb185, 0, none⟩ = some (.int .i64 a0_0) := (blk_cell BK185.out 0).trans rfl
                      have hcz53_1 : w45.cell? ⟨gb185, 1, none⟩ = some (.int .i64 a0_1) := (blk_cell BK185.out 1).trans rfl
                      have hcz53_2 : w45.cell? ⟨gb185, 2, none⟩ = some (.bool a0_2) := (blk_cell BK185.out 2).trans rfl
                      have hfz53_0 := blk_frozen BK185.out 0
                      have hfz53_1 := blk_frozen BK185.out 1
                      have hfz53_2 := blk_frozen BK185.out 2
                      go_wp2
                      go_meet
                      case rel => exact ⟨_, (true), (by first | rfl | (simp; done) | (simp [*]; done)), H', ⟨by have := HJ5.out; have := HJ32.out; first | omega | exact Nat.le_refl _⟩, ⟨by (with_reducible repeat (first | refine blk_drewN ?_ _ | refine blk_drew ?_ | refine blk_alloc ?_ _)); exact BK185.out⟩, ⟨by (with_reducible repeat (first | refine blk_drewN ?_ _ | refine blk_drew ?_ | refine blk_alloc ?_ _)); exact BK186.out⟩, ⟨by (with_reducible repeat (first | refine blk_drewN ?_ _ | refine blk_drew ?_ | refine blk_alloc ?_ _)); exact BK187.out⟩, ⟨by repeat (first | (with_reducible first | exact HB.out | apply below_alloc | apply pw_below_drewN | apply below_drew1 | refine below_set ?_ GE185.out | refine below_set ?_ GE186.out | refine below_set ?_ GE187.out) | exact HB.out)⟩⟩
                  · rw [if_neg c46] at H
                    have c46b0 : (a0_0 == 2) = false := beq_eq_false_iff_ne.mpr c46
                    have c46b1 : (a0_0 != 2) = true := bne_iff_ne.mpr c46
                    (first | rw [c46b0] | (simp only [i64_w, i32_w]; rw [c46b0]) | skip)
                    have H' := Aside0.mk H
                    clear H
                    have hnb54 := NB185_186.out
                    have hnc54 := NB186_185.out
                    have hnb55 := NB185_187.out
                    have hnc55 := NB187_185.out
                    have hcz56_0 : w45.cell? ⟨gb185, 0, none⟩ = some (.int .i64 a0_0) := (blk_cell BK185.out 0).trans rfl
                    have hcz56_1 : w45.cell? ⟨gb185, 1, none⟩ = some (.int .i64 a0_1) := (blk_cell BK185.out 1).trans rfl
                    have hcz56_2 : w45.cell? ⟨gb185, 2, none⟩ = some (.bool a0_2) := (blk_cell BK185.out 2).trans rfl
                    have hfz56_0 := blk_frozen BK185.out 0
                    have hfz56_1 := blk_frozen BK185.out 1
                    have hfz56_2 := blk_frozen BK185.out 2
                    go_wp2
                    go_meet
                    case rel => exact ⟨_, (false), (by first | rfl | (simp; done) | (simp [*]; done)), H', ⟨by have := HJ5.out; have := HJ32.out; first | omega | exact Nat.le_refl _⟩, ⟨by (with_reducible repeat (first | refine blk_drewN ?_ _ | refine blk_drew ?_ | refine blk_alloc ?_ _)); exact BK185.out⟩, ⟨by (with_reducible repeat (first | refine blk_drewN ?_ _ | refine blk_drew ?_ | refine blk_alloc ?_ _)); exact BK186.out⟩, ⟨by (with_reducible repeat (first | refine blk_drewN ?_ _ | refine blk_drew ?_ | refine blk_alloc ?_ _)); exact BK187.out⟩, ⟨by repeat (first | (with_reducible first | exact HB.out | apply below_alloc | apply pw_below_drewN | apply below_drew1 | refine below_set ?_ GE185.out | refine below_set ?_ GE186.out | refine below_set ?_ GE187.out) | exact HB.out)⟩⟩
                case rest =>
                  clear HC41
                  try clear c1
                  try clear c2
                  try clear p2
                  try clear c3
                  try clear c4
                  try clear c5
                  try clear c9
                  try clear c12
                  try clear c13
                  try clear c16
                  try clear c17
                  try clear c18
                  try clear c19
                  try clear c22
                  try clear c25
                  try clear c26
                  try clear c29
                  try clear c30
                  try clear c31
                  try clear c34
                  try clear c34b0
                  try clear c34b1
                  try clear c35
                  try clear c36
                  try clear c37
                  try clear c40
                  try clear c42
                  try clear c43
                  try clear c46
                  try clear c46b0
                  try clear c46b1
                  try clear c47
                  try clear c47b0
                  try clear c47b1
                  try clear c48
                  try clear c49
                  try clear c51
                  try clear c52
                  try clear c54
                  try clear c55
                  try clear hcz10_0
                  try clear hcz10_1
                  try clear hcz10_2
                  try clear hcz14_0
                  try clear hcz14_1
                  try clear hcz14_2
                  try clear hcz20_0
                  try clear hcz20_1
                  try clear hcz20_2
                  try clear hcz23_0
                  try clear hcz23_1
                  try clear hcz23_2
                  try clear hcz27_0
                  try clear hcz27_1
                  try clear hcz27_2
                  try clear hcz32_0
                  try clear hcz32_1
                  try clear hcz32_2
                  try clear hcz38_0
                  try clear hcz38_1
                  try clear hcz38_2
                  try clear hcz44_0
                  try clear hcz44_1
                  try clear hcz44_2
                  try clear hcz50_0
                  try clear hcz50_1
                  try clear hcz50_2
                  try clear hcz53_0
                  try clear hcz53_1
                  try clear hcz53_2
                  try clear hcz56_0
                  try clear hcz56_1
                  try clear hcz56_2
                  try clear hfz10_0
                  try clear hfz10_1
                  try clear hfz10_2
                  try clear hfz14_0
                  try clear hfz14_1
                  try clear hfz14_2
                  try clear hfz20_0
                  try clear hfz20_1
                  try clear hfz20_2
                  try clear hfz23_0
                  try clear hfz23_1
                  try clear hfz23_2
                  try clear hfz27_0
                  try clear hfz27_1
                  try clear hfz27_2
                  try clear hfz32_0
                  try clear hfz32_1
                  try clear hfz32_2
                  try clear hfz38_0
                  try clear hfz38_1
                  try clear hfz38_2
                  try clear hfz44_0
                  try clear hfz44_1
                  try clear hfz44_2
                  try clear hfz50_0
                  try clear hfz50_1
                  try clear hfz50_2
                  try clear hfz53_0
                  try clear hfz53_1
                  try clear hfz53_2
                  try clear hfz56_0
                  try clear hfz56_1
                  try clear hfz56_2
                  try clear p2
                  obtain ⟨kq, x50_40, rfl, HA, HJ40, BK185, BK186, BK187, HB⟩ := hcut
                  cases kq with
                  | zero => exact absurd HA.out (by simp [chartularyref12_Retain.j2])
                  | succ kj40 =>
                    have H := HA.out
                    clear HA
                    simp only [chartularyref12_Retain.j2] at H
                    by_cases c57 : x50_40 = true
                    · subst c57
                      have H1 : (some (0, 0, false, 13)) = some (r1, r2, r3, r4) := by rw [if_pos rfl] at H; exact H
                      clear H
                      have H := H1
                      clear H1
                      simp only [Option.some.injEq, Prod.mk.injEq] at H
                      obtain ⟨rfl, rfl, rfl, rfl⟩ := H
                      have hnb58 := NB186_185.out
                      have hnc58 := NB185_186.out
                      have hnb59 := NB186_187.out
                      have hnc59 := NB187_186.out
                      have hcz60_0 : wc.cell? ⟨gb186, 0, none⟩ = some (.int .i64 0) := (blk_cell BK186.out 0).trans rfl
                      have hcz60_1 : wc.cell? ⟨gb186, 1, none⟩ = some (.int .i64 0) := (blk_cell BK186.out 1).trans rfl
                      have hcz60_2 : wc.cell? ⟨gb186, 2, none⟩ = some (.bool false) := (blk_cell BK186.out 2).trans rfl
                      have hfz60_0 := blk_frozen BK186.out 0
                      have hfz60_1 := blk_frozen BK186.out 1
                      have hfz60_2 := blk_frozen BK186.out 2
                      go_wp2
                      refine bodyPost_ret (results_ct rfl _ _ gb186 23 #[.int .i64 0, .int .i64 0, .bool false] (0, 0) _ rfl (by (with_reducible repeat (first | refine blk_drewN ?_ _ | refine blk_drew ?_ | refine blk_alloc ?_ _)); refine blk_put (cs := #[.int .i64 0, .int .i64 0, .bool false]) ?_ 2 _ rfl; (with_reducible repeat (first | refine blk_drewN ?_ _ | refine blk_drew ?_ | refine blk_alloc ?_ _)); refine blk_put (cs := #[.int .i64 0, .int .i64 0, .bool false]) ?_ 1 _ rfl; (with_reducible repeat (first | refine blk_drewN ?_ _ | refine blk_drew ?_ | refine blk_alloc ?_ _)); refine blk_put (cs := #[.int .i64 0, .int .i64 0, .bool false]) ?_ 0 _ rfl; (with_reducible repeat (first | refine blk_drewN ?_ _ | refine blk_drew ?_ | refine blk_alloc ?_ _)); exact BK186.out) Try.underlying23 rfl (by kernel_rfl)) rfl ?_
                      exact ⟨by first | rfl | (simp [errW_none, errW_some] <;> rfl) | (simp [*, errW_none, errW_some] <;> rfl), by repeat (first | (with_reducible first | exact HB.out | apply below_alloc | apply pw_below_drewN | apply below_drew1 | refine below_set ?_ GE185.out | refine below_set ?_ GE186.out | refine below_set ?_ GE187.out) | exact HB.out)⟩
                    · replace c57 := Bool.eq_false_iff.mpr c57
                      subst c57
                      have H1 : (if a0_0 = 1 then (if a4 = true then (some (a1, a2, a0_2, 0)) else (if a1 = 0 then (some (0, 0, false, 13)) else (if a2 < a0_1 then (some (0, 0, false, 13)) else (some (a1, a2, a0_2, 0))))) else (some (a1, a2, a0_2, 0))) = some (r1, r2, r3, r4) := by rw [if_neg (show ¬ (false = true) by decide)] at H; exact H
                      clear H
                      have H := H1
                      clear H1
                      by_cases c61 : a0_0 = 1
                      · rw [if_pos c61] at H
                        have c61b0 : (a0_0 == 1) = true := beq_iff_eq.mpr c61
                        have c61b1 : (a0_0 != 1) = false := bne_eq_false_iff_eq.mpr c61
                        clear c61
                        by_cases c62 : a4 = true
                        · subst c62
                          have H1 : (some (a1, a2, a0_2, 0)) = some (r1, r2, r3, r4) := by rw [if_pos rfl] at H; exact H
                          clear H
                          have H := H1
                          clear H1
                          simp only [Option.some.injEq, Prod.mk.injEq] at H
                          obtain ⟨rfl, rfl, rfl, rfl⟩ := H
                          have hnb63 := NB185_186.out
                          have hnc63 := NB186_185.out
                          have hnb64 := NB185_187.out
                          have hnc64 := NB187_185.out
                          have hcz65_0 : wc.cell? ⟨gb185, 0, none⟩ = some (.int .i64 a0_0) := (blk_cell BK185.out 0).trans rfl
                          have hcz65_1 : wc.cell? ⟨gb185, 1, none⟩ = some (.int .i64 a0_1) := (blk_cell BK185.out 1).trans rfl
                          have hcz65_2 : wc.cell? ⟨gb185, 2, none⟩ = some (.bool a0_2) := (blk_cell BK185.out 2).trans rfl
                          have hfz65_0 := blk_frozen BK185.out 0
                          have hfz65_1 := blk_frozen BK185.out 1
                          have hfz65_2 := blk_frozen BK185.out 2
                          have hnb66 := NB187_186.out
                          have hnc66 := NB186_187.out
                          have hcz67_0 : wc.cell? ⟨gb187, 0, none⟩ = some (.int .i64 a1) := (blk_cell BK187.out 0).trans rfl
                          have hcz67_1 : wc.cell? ⟨gb187, 1, none⟩ = some (.int .i64 a2) := (blk_cell BK187.out 1).trans rfl
                          have hcz67_2 : wc.cell? ⟨gb187, 2, none⟩ = some (.bool a0_2) := (blk_cell BK187.out 2).trans rfl
                          have hfz67_0 := blk_frozen BK187.out 0
                          have hfz67_1 := blk_frozen BK187.out 1
                          have hfz67_2 := blk_frozen BK187.out 2
                          have hcz68_0 : wc.cell? ⟨gb186, 0, none⟩ = some (.int .i64 0) := (blk_cell BK186.out 0).trans rfl
                          have hcz68_1 : wc.cell? ⟨gb186, 1, none⟩ = some (.int .i64 0) := (blk_cell BK186.out 1).trans rfl
                          have hcz68_2 : wc.cell? ⟨gb186, 2, none⟩ = some (.bool false) := (blk_cell BK186.out 2).trans rfl
                          have hfz68_0 := blk_frozen BK186.out 0
                          have hfz68_1 := blk_frozen BK186.out 1
                          have hfz68_2 := blk_frozen BK186.out 2
                          go_wp2
                          refine bodyPost_ret (results_ct rfl _ _ gb186 23 #[.int .i64 a1, .int .i64 a2, .bool a0_2] (0, 0) _ rfl (by (with_reducible repeat (first | refine blk_drewN ?_ _ | refine blk_drew ?_ | refine blk_alloc ?_ _)); refine blk_put (cs := #[.int .i64 a1, .int .i64 a2, .bool false]) ?_ 2 _ rfl; (with_reducible repeat (first | refine blk_drewN ?_ _ | refine blk_drew ?_ | refine blk_alloc ?_ _)); refine blk_put (cs := #[.int .i64 a1, .int .i64 0, .bool false]) ?_ 1 _ rfl; (with_reducible repeat (first | refine blk_drewN ?_ _ | refine blk_drew ?_ | refine blk_alloc ?_ _)); refine blk_put (cs := #[.int .i64 0, .int .i64 0, .bool false]) ?_ 0 _ rfl; (with_reducible repeat (first | refine blk_drewN ?_ _ | refine blk_drew ?_ | refine blk_alloc ?_ _)); exact BK186.out) Try.underlying23 rfl (by kernel_rfl)) rfl ?_
                          exact ⟨by first | rfl | (simp [errW_none, errW_some] <;> rfl) | (simp [*, errW_none, errW_some] <;> rfl), by repeat (first | (with_reducible first | exact HB.out | apply below_alloc | apply pw_below_drewN | apply below_drew1 | refine below_set ?_ GE185.out | refine below_set ?_ GE186.out | refine below_set ?_ GE187.out) | exact HB.out)⟩
                        · replace c62 := Bool.eq_false_iff.mpr c62
                          subst c62
                          have H1 : (if a1 = 0 then (some (0, 0, false, 13)) else (if a2 < a0_1 then (some (0, 0, false, 13)) else (some (a1, a2, a0_2, 0)))) = some (r1, r2, r3, r4) := by rw [if_neg (show ¬ (false = true) by decide)] at H; exact H
                          clear H
                          have H := H1
                          clear H1
                          by_cases c69 : a1 = 0
                          · rw [if_pos c69] at H
                            have c69b0 : (a1 == 0) = true := beq_iff_eq.mpr c69
                            have c69b1 : (a1 != 0) = false := bne_eq_false_iff_eq.mpr c69
                            clear c69
                            simp only [Option.some.injEq, Prod.mk.injEq] at H
                            obtain ⟨rfl, rfl, rfl, rfl⟩ := H
                            have hnb70 := NB185_186.out
                            have hnc70 := NB186_185.out
                            have hnb71 := NB185_187.out
                            have hnc71 := NB187_185.out
                            have hcz72_0 : wc.cell? ⟨gb185, 0, none⟩ = some (.int .i64 a0_0) := (blk_cell BK185.out 0).trans rfl
                            have hcz72_1 : wc.cell? ⟨gb185, 1, none⟩ = some (.int .i64 a0_1) := (blk_cell BK185.out 1).trans rfl
                            have hcz72_2 : wc.cell? ⟨gb185, 2, none⟩ = some (.bool a0_2) := (blk_cell BK185.out 2).trans rfl
                            have hfz72_0 := blk_frozen BK185.out 0
                            have hfz72_1 := blk_frozen BK185.out 1
                            have hfz72_2 := blk_frozen BK185.out 2
                            have hnb73 := NB186_187.out
                            have hnc73 := NB187_186.out
                            have hcz74_0 : wc.cell? ⟨gb186, 0, none⟩ = some (.int .i64 0) := (blk_cell BK186.out 0).trans rfl
                            have hcz74_1 : wc.cell? ⟨gb186, 1, none⟩ = some (.int .i64 0) := (blk_cell BK186.out 1).trans rfl
                            have hcz74_2 : wc.cell? ⟨gb186, 2, none⟩ = some (.bool false) := (blk_cell BK186.out 2).trans rfl
                            have hfz74_0 := blk_frozen BK186.out 0
                            have hfz74_1 := blk_frozen BK186.out 1
                            have hfz74_2 := blk_frozen BK186.out 2
                            go_wp2
                            refine bodyPost_ret (results_ct rfl _ _ gb186 23 #[.int .i64 0, .int .i64 0, .bool false] (0, 0) _ rfl (by (with_reducible repeat (first | refine blk_drewN ?_ _ | refine blk_drew ?_ | refine blk_alloc ?_ _)); refine blk_put (cs := #[.int .i64 0, .int .i64 0, .bool false]) ?_ 2 _ rfl; (with_reducible repeat (first | refine blk_drewN ?_ _ | refine blk_drew ?_ | refine blk_alloc ?_ _)); refine blk_put (cs := #[.int .i64 0, .int .i64 0, .bool false]) ?_ 1 _ rfl; (with_reducible repeat (first | refine blk_drewN ?_ _ | refine blk_drew ?_ | refine blk_alloc ?_ _)); refine blk_put (cs := #[.int .i64 0, .int .i64 0, .bool false]) ?_ 0 _ rfl; (with_reducible repeat (first | refine blk_drewN ?_ _ | refine blk_drew ?_ | refine blk_alloc ?_ _)); exact BK186.out) Try.underlying23 rfl (by kernel_rfl)) rfl ?_
                            exact ⟨by first | rfl | (simp [errW_none, errW_some] <;> rfl) | (simp [*, errW_none, errW_some] <;> rfl), by repeat (first | (with_reducible first | exact HB.out | apply below_alloc | apply pw_below_drewN | apply below_drew1 | refine below_set ?_ GE185.out | refine below_set ?_ GE186.out | refine below_set ?_ GE187.out) | exact HB.out)⟩
                          · rw [if_neg c69] at H
                            have c69b0 : (a1 == 0) = false := beq_eq_false_iff_ne.mpr c69
                            have c69b1 : (a1 != 0) = true := bne_iff_ne.mpr c69
                            by_cases c75 : a2 < a0_1
                            · rw [if_pos c75] at H
                              have c75b0 : decide (a2 < a0_1) = true := decide_eq_true c75
                              clear c75
                              simp only [Option.some.injEq, Prod.mk.injEq] at H
                              obtain ⟨rfl, rfl, rfl, rfl⟩ := H
                              have hnb76 := NB185_186.out
                              have hnc76 := NB186_185.out
                              have hnb77 := NB185_187.out
                              have hnc77 := NB187_185.out
                              have hcz78_0 : wc.cell? ⟨gb185, 0, none⟩ = some (.int .i64 a0_0) := (blk_cell BK185.out 0).trans rfl
                              have hcz78_1 : wc.cell? ⟨gb185, 1, none⟩ = some (.int .i64 a0_1) := (blk_cell BK185.out 1).trans rfl
                              have hcz78_2 : wc.cell? ⟨gb185, 2, none⟩ = some (.bool a0_2) := (blk_cell BK185.out 2).trans rfl
                              have hfz78_0 := blk_frozen BK185.out 0
                              have hfz78_1 := blk_frozen BK185.out 1
                              have hfz78_2 := blk_frozen BK185.out 2
                              have hnb79 := NB186_187.out
                              have hnc79 := NB187_186.out
                              have hcz80_0 : wc.cell? ⟨gb186, 0, none⟩ = some (.int .i64 0) := (blk_cell BK186.out 0).trans rfl
                              have hcz80_1 : wc.cell? ⟨gb186, 1, none⟩ = some (.int .i64 0) := (blk_cell BK186.out 1).trans rfl
                              have hcz80_2 : wc.cell? ⟨gb186, 2, none⟩ = some (.bool false) := (blk_cell BK186.out 2).trans rfl
                              have hfz80_0 := blk_frozen BK186.out 0
                              have hfz80_1 := blk_frozen BK186.out 1
                              have hfz80_2 := blk_frozen BK186.out 2
                              go_wp2
                              refine bodyPost_ret (results_ct rfl _ _ gb186 23 #[.int .i64 0, .int .i64 0, .bool false] (0, 0) _ rfl (by (with_reducible repeat (first | refine blk_drewN ?_ _ | refine blk_drew ?_ | refine blk_alloc ?_ _)); refine blk_put (cs := #[.int .i64 0, .int .i64 0, .bool false]) ?_ 2 _ rfl; (with_reducible repeat (first | refine blk_drewN ?_ _ | refine blk_drew ?_ | refine blk_alloc ?_ _)); refine blk_put (cs := #[.int .i64 0, .int .i64 0, .bool false]) ?_ 1 _ rfl; (with_reducible repeat (first | refine blk_drewN ?_ _ | refine blk_drew ?_ | refine blk_alloc ?_ _)); refine blk_put (cs := #[.int .i64 0, .int .i64 0, .bool false]) ?_ 0 _ rfl; (with_reducible repeat (first | refine blk_drewN ?_ _ | refine blk_drew ?_ | refine blk_alloc ?_ _)); exact BK186.out) Try.underlying23 rfl (by kernel_rfl)) rfl ?_
                              exact ⟨by first | rfl | (simp [errW_none, errW_some] <;> rfl) | (simp [*, errW_none, errW_some] <;> rfl), by repeat (first | (with_reducible first | exact HB.out | apply below_alloc | apply pw_below_drewN | apply below_drew1 | refine below_set ?_ GE185.out | refine below_set ?_ GE186.out | refine below_set ?_ GE187.out) | exact HB.out)⟩
                            · rw [if_neg c75] at H
                              have c75b0 : decide (a2 < a0_1) = false := decide_eq_false c75
                              clear c75
                              simp only [Option.some.injEq, Prod.mk.injEq] at H
                              obtain ⟨rfl, rfl, rfl, rfl⟩ := H
                              have hnb81 := NB185_186.out
                              have hnc81 := NB186_185.out
                              have hnb82 := NB185_187.out
                              have hnc82 := NB187_185.out
                              have hcz83_0 : wc.cell? ⟨gb185, 0, none⟩ = some (.int .i64 a0_0) := (blk_cell BK185.out 0).trans rfl
                              have hcz83_1 : wc.cell? ⟨gb185, 1, none⟩ = some (.int .i64 a0_1) := (blk_cell BK185.out 1).trans rfl
                              have hcz83_2 : wc.cell? ⟨gb185, 2, none⟩ = some (.bool a0_2) := (blk_cell BK185.out 2).trans rfl
                              have hfz83_0 := blk_frozen BK185.out 0
                              have hfz83_1 := blk_frozen BK185.out 1
                              have hfz83_2 := blk_frozen BK185.out 2
                              have hnb84 := NB187_186.out
                              have hnc84 := NB186_187.out
                              have hcz85_0 : wc.cell? ⟨gb187, 0, none⟩ = some (.int .i64 a1) := (blk_cell BK187.out 0).trans rfl
                              have hcz85_1 : wc.cell? ⟨gb187, 1, none⟩ = some (.int .i64 a2) := (blk_cell BK187.out 1).trans rfl
                              have hcz85_2 : wc.cell? ⟨gb187, 2, none⟩ = some (.bool a0_2) := (blk_cell BK187.out 2).trans rfl
                              have hfz85_0 := blk_frozen BK187.out 0
                              have hfz85_1 := blk_frozen BK187.out 1
                              have hfz85_2 := blk_frozen BK187.out 2
                              have hcz86_0 : wc.cell? ⟨gb186, 0, none⟩ = some (.int .i64 0) := (blk_cell BK186.out 0).trans rfl
                              have hcz86_1 : wc.cell? ⟨gb186, 1, none⟩ = some (.int .i64 0) := (blk_cell BK186.out 1).trans rfl
                              have hcz86_2 : wc.cell? ⟨gb186, 2, none⟩ = some (.bool false) := (blk_cell BK186.out 2).trans rfl
                              have hfz86_0 := blk_frozen BK186.out 0
                              have hfz86_1 := blk_frozen BK186.out 1
                              have hfz86_2 := blk_frozen BK186.out 2
                              go_wp2
                              refine bodyPost_ret (results_ct rfl _ _ gb186 23 #[.int .i64 a1, .int .i64 a2, .bool a0_2] (0, 0) _ rfl (by (with_reducible repeat (first | refine blk_drewN ?_ _ | refine blk_drew ?_ | refine blk_alloc ?_ _)); refine blk_put (cs := #[.int .i64 a1, .int .i64 a2, .bool false]) ?_ 2 _ rfl; (with_reducible repeat (first | refine blk_drewN ?_ _ | refine blk_drew ?_ | refine blk_alloc ?_ _)); refine blk_put (cs := #[.int .i64 a1, .int .i64 0, .bool false]) ?_ 1 _ rfl; (with_reducible repeat (first | refine blk_drewN ?_ _ | refine blk_drew ?_ | refine blk_alloc ?_ _)); refine blk_put (cs := #[.int .i64 0, .int .i64 0, .bool false]) ?_ 0 _ rfl; (with_reducible repeat (first | refine blk_drewN ?_ _ | refine blk_drew ?_ | refine blk_alloc ?_ _)); exact BK186.out) Try.underlying23 rfl (by kernel_rfl)) rfl ?_
                              exact ⟨by first | rfl | (simp [errW_none, errW_some] <;> rfl) | (simp [*, errW_none, errW_some] <;> rfl), by repeat (first | (with_reducible first | exact HB.out | apply below_alloc | apply pw_below_drewN | apply below_drew1 | refine below_set ?_ GE185.out | refine below_set ?_ GE186.out | refine below_set ?_ GE187.out) | exact HB.out)⟩
                      · rw [if_neg c61] at H
                        have c61b0 : (a0_0 == 1) = false := beq_eq_false_iff_ne.mpr c61
                        have c61b1 : (a0_0 != 1) = true := bne_iff_ne.mpr c61
                        simp only [Option.some.injEq, Prod.mk.injEq] at H
                        obtain ⟨rfl, rfl, rfl, rfl⟩ := H
                        have hnb87 := NB185_186.out
                        have hnc87 := NB186_185.out
                        have hnb88 := NB185_187.out
                        have hnc88 := NB187_185.out
                        have hcz89_0 : wc.cell? ⟨gb185, 0, none⟩ = some (.int .i64 a0_0) := (blk_cell BK185.out 0).trans rfl
                        have hcz89_1 : wc.cell? ⟨gb185, 1, none⟩ = some (.int .i64 a0_1) := (blk_cell BK185.out 1).trans rfl
                        have hcz89_2 : wc.cell? ⟨gb185, 2, none⟩ = some (.bool a0_2) := (blk_cell BK185.out 2).trans rfl
                        have hfz89_0 := blk_frozen BK185.out 0
                        have hfz89_1 := blk_frozen BK185.out 1
                        have hfz89_2 := blk_frozen BK185.out 2
                        have hnb90 := NB187_186.out
                        have hnc90 := NB186_187.out
                        have hcz91_0 : wc.cell? ⟨gb187, 0, none⟩ = some (.int .i64 a1) := (blk_cell BK187.out 0).trans rfl
                        have hcz91_1 : wc.cell? ⟨gb187, 1, none⟩ = some (.int .i64 a2) := (blk_cell BK187.out 1).trans rfl
                        have hcz91_2 : wc.cell? ⟨gb187, 2, none⟩ = some (.bool a0_2) := (blk_cell BK187.out 2).trans rfl
                        have hfz91_0 := blk_frozen BK187.out 0
                        have hfz91_1 := blk_frozen BK187.out 1
                        have hfz91_2 := blk_frozen BK187.out 2
                        have hcz92_0 : wc.cell? ⟨gb186, 0, none⟩ = some (.int .i64 0) := (blk_cell BK186.out 0).trans rfl
                        have hcz92_1 : wc.cell? ⟨gb186, 1, none⟩ = some (.int .i64 0) := (blk_cell BK186.out 1).trans rfl
                        have hcz92_2 : wc.cell? ⟨gb186, 2, none⟩ = some (.bool false) := (blk_cell BK186.out 2).trans rfl
                        have hfz92_0 := blk_frozen BK186.out 0
                        have hfz92_1 := blk_frozen BK186.out 1
                        have hfz92_2 := blk_frozen BK186.out 2
                        go_wp2
                        refine bodyPost_ret (results_ct rfl _ _ gb186 23 #[.int .i64 a1, .int .i64 a2, .bool a0_2] (0, 0) _ rfl (by (with_reducible repeat (first | refine blk_drewN ?_ _ | refine blk_drew ?_ | refine blk_alloc ?_ _)); refine blk_put (cs := #[.int .i64 a1, .int .i64 a2, .bool false]) ?_ 2 _ rfl; (with_reducible repeat (first | refine blk_drewN ?_ _ | refine blk_drew ?_ | refine blk_alloc ?_ _)); refine blk_put (cs := #[.int .i64 a1, .int .i64 0, .bool false]) ?_ 1 _ rfl; (with_reducible repeat (first | refine blk_drewN ?_ _ | refine blk_drew ?_ | refine blk_alloc ?_ _)); refine blk_put (cs := #[.int .i64 0, .int .i64 0, .bool false]) ?_ 0 _ rfl; (with_reducible repeat (first | refine blk_drewN ?_ _ | refine blk_drew ?_ | refine blk_alloc ?_ _)); exact BK186.out) Try.underlying23 rfl (by kernel_rfl)) rfl ?_
                        exact ⟨by first | rfl | (simp [errW_none, errW_some] <;> rfl) | (simp [*, errW_none, errW_some] <;> rfl), by repeat (first | (with_reducible first | exact HB.out | apply below_alloc | apply pw_below_drewN | apply below_drew1 | refine below_set ?_ GE185.out | refine below_set ?_ GE186.out | refine below_set ?_ GE187.out) | exact HB.out)⟩
              · replace c40 := Bool.eq_false_iff.mpr c40
                subst c40
                have H1 : (some (a1, a2, a0_2, 0)) = some (r1, r2, r3, r4) := by rw [if_neg (show ¬ (false = true) by decide)] at H; exact H
                clear H
                have H := H1
                clear H1
                simp only [Option.some.injEq, Prod.mk.injEq] at H
                obtain ⟨rfl, rfl, rfl, rfl⟩ := H
                have hnb93 := NB185_186.out
                have hnc93 := NB186_185.out
                have hnb94 := NB185_187.out
                have hnc94 := NB187_185.out
                have hcz95_0 : wc.cell? ⟨gb185, 0, none⟩ = some (.int .i64 a0_0) := (blk_cell BK185.out 0).trans rfl
                have hcz95_1 : wc.cell? ⟨gb185, 1, none⟩ = some (.int .i64 a0_1) := (blk_cell BK185.out 1).trans rfl
                have hcz95_2 : wc.cell? ⟨gb185, 2, none⟩ = some (.bool a0_2) := (blk_cell BK185.out 2).trans rfl
                have hfz95_0 := blk_frozen BK185.out 0
                have hfz95_1 := blk_frozen BK185.out 1
                have hfz95_2 := blk_frozen BK185.out 2
                go_wp2_with (first | ((with_reducible refine gate_callee (f := 26) rfl ?_); refine goesL_ (some 37) rfl rfl Try.func26 (by kernel_rfl) rfl #[.agg #[.int .i64 a0_0, .int .i64 a0_1, .bool a0_2], .int .i64 a3] rfl (by (try simp only [List.map_toArray, List.map_cons, List.map_nil]); first | done | rfl | (simp only [List.length_drop, List.length_take]; rfl)) ?_; (with_reducible refine (chartularyref12_Binds.calls a0_0 a0_1 a0_2 a3 false _ A39.out).mono ?_); rintro e w96 ⟨rfl, hb⟩; refine ⟨_, rfl, ?_⟩; have n0_ := Aside0.mk (blk_below (g := gb185) (o := .cells #[.int .i64 a0_0, .int .i64 a0_1, .bool a0_2] 23 (0, 0)) (by (with_reducible repeat (first | refine blk_drewN ?_ _ | refine blk_drew ?_ | refine blk_alloc ?_ _)); exact BK185.out) hb); have n1_ := Aside0.mk (blk_below (g := gb186) (o := .cells #[.int .i64 0, .int .i64 0, .bool false] 23 (0, 0)) (by (with_reducible repeat (first | refine blk_drewN ?_ _ | refine blk_drew ?_ | refine blk_alloc ?_ _)); exact BK186.out) hb); have n2_ := Aside0.mk (blk_below (g := gb187) (o := .cells #[.int .i64 a1, .int .i64 a2, .bool a0_2] 23 (0, 0)) (by (with_reducible repeat (first | refine blk_drewN ?_ _ | refine blk_drew ?_ | refine blk_alloc ?_ _)); exact BK187.out) hb); have n3_ := Aside0.mk (below_step (by repeat (first | (with_reducible first | exact HB.out | apply below_alloc | apply pw_below_drewN | apply below_drew1 | refine below_set ?_ GE185.out | refine below_set ?_ GE186.out | refine below_set ?_ GE187.out) | exact HB.out)) hb); clear BK185; clear BK186; clear BK187; clear HB; have BK185 := n0_; have BK186 := n1_; have BK187 := n2_; have HB := n3_; clear n0_ n1_ n2_ n3_; (try clear hb); (try clear hb2); (try clear hk); (try clear hi); have hnb97 := NB187_186.out; have hnc97 := NB186_187.out; have hcz98_0 : w96.cell? ⟨gb187, 0, none⟩ = some (.int .i64 a1) := (blk_cell BK187.out 0).trans rfl; have hcz98_1 : w96.cell? ⟨gb187, 1, none⟩ = some (.int .i64 a2) := (blk_cell BK187.out 1).trans rfl; have hcz98_2 : w96.cell? ⟨gb187, 2, none⟩ = some (.bool a0_2) := (blk_cell BK187.out 2).trans rfl; have hfz98_0 := blk_frozen BK187.out 0; have hfz98_1 := blk_frozen BK187.out 1; have hfz98_2 := blk_frozen BK187.out 2; have hcz99_0 : w96.cell? ⟨gb186, 0, none⟩ = some (.int .i64 0) := (blk_cell BK186.out 0).trans rfl; have hcz99_1 : w96.cell? ⟨gb186, 1, none⟩ = some (.int .i64 0) := (blk_cell BK186.out 1).trans rfl; have hcz99_2 : w96.cell? ⟨gb186, 2, none⟩ = some (.bool false) := (blk_cell BK186.out 2).trans rfl; have hfz99_0 := blk_frozen BK186.out 0; have hfz99_1 := blk_frozen BK186.out 1; have hfz99_2 := blk_frozen BK186.out 2))
                refine bodyPost_ret (results_ct rfl _ _ gb186 23 #[.int .i64 a1, .int .i64 a2, .bool a0_2] (0, 0) _ rfl (by (with_reducible repeat (first | refine blk_drewN ?_ _ | refine blk_drew ?_ | refine blk_alloc ?_ _)); refine blk_put (cs := #[.int .i64 a1, .int .i64 a2, .bool false]) ?_ 2 _ rfl; (with_reducible repeat (first | refine blk_drewN ?_ _ | refine blk_drew ?_ | refine blk_alloc ?_ _)); refine blk_put (cs := #[.int .i64 a1, .int .i64 0, .bool false]) ?_ 1 _ rfl; (with_reducible repeat (first | refine blk_drewN ?_ _ | refine blk_drew ?_ | refine blk_alloc ?_ _)); refine blk_put (cs := #[.int .i64 0, .int .i64 0, .bool false]) ?_ 0 _ rfl; (with_reducible repeat (first | refine blk_drewN ?_ _ | refine blk_drew ?_ | refine blk_alloc ?_ _)); exact BK186.out) Try.underlying23 rfl (by kernel_rfl)) rfl ?_
                exact ⟨by first | rfl | (simp [errW_none, errW_some] <;> rfl) | (simp [*, errW_none, errW_some] <;> rfl), by repeat (first | (with_reducible first | exact HB.out | apply below_alloc | apply pw_below_drewN | apply below_drew1 | refine below_set ?_ GE185.out | refine below_set ?_ GE186.out | refine below_set ?_ GE187.out) | exact HB.out)⟩

end Go.Proofs.Ytbohofdffjlloaa.PAll
