-- Ytgfclffalgielaa: functions of the translation, their Lean counterparts and contracts (laid by a program of this claim's session)
import Derived.Test.YtgfclffalgielaaPAllx0
import Derived.Test.YtgfclffalgielaaPAllx3
import Derived.Test.YtgfclffalgielaaPAllx8
import Derived.Test.YtgfclffalgielaaPAllx9
namespace Go.Proofs.Ytgfclffalgielaa.PAll
open Go.RowKit Go.Proofs.YtgfclffalgielaaW.PrintWords Go.Proofs.YtgfclffalgielaaW.PrintLast Go.Proofs.YtgfclffalgielaaW.PrintMore
attribute [local go_sem] max2_int min2_int max_two min_two max_three min_three max_four min_four   -- for this text's walks alone
set_option linter.unusedVariables false
set_option linter.unusedSimpArgs false

/-! ### chartularylaw01_BitsOrder: function 10 -/
def chartularylaw01_BitsOrder.f (k : Nat) (a0 : Int) (a1 : Int) : Option (Bool) := (bits_Add.f k a0 a1).bind fun t281 => ((chartularylaw01_awake.f k).bind fun t282 => (if t282 = true then ((bits_Add.f k a1 a0).bind fun t283 => (if t281 = t283 then ((bits_Mul.f k a0 a1).bind fun t284 => ((bits_Mul.f k a1 a0).bind fun t285 => (if t284 = t285 then (if a0 < 0 then ((bits_Mul.f k a0 1).bind fun t286 => (if t286 = a0 then ((bits_Mul.f k a0 0).bind fun t287 => (if t287 = 0 then ((bits_Mul.f k a0 2).bind fun t288 => ((bits_Add.f k a0 a0).bind fun t289 => (some (t288 == t289)))) else (some false))) else (some false))) else (if a1 < 0 then ((bits_Mul.f k a0 1).bind fun t290 => (if t290 = a0 then ((bits_Mul.f k a0 0).bind fun t291 => (if t291 = 0 then ((bits_Mul.f k a0 2).bind fun t292 => ((bits_Add.f k a0 a0).bind fun t293 => (some (t292 == t293)))) else (some false))) else (some false))) else (if t281 ≥ a0 then (if t281 ≥ a1 then ((bits_Mul.f k a0 1).bind fun t294 => (if t294 = a0 then ((bits_Mul.f k a0 0).bind fun t295 => (if t295 = 0 then ((bits_Mul.f k a0 2).bind fun t296 => ((bits_Add.f k a0 a0).bind fun t297 => (some (t296 == t297)))) else (some false))) else (some false))) else (some false)) else (some false)))) else (some false)))) else (some false))) else (some false)))
theorem chartularylaw01_BitsOrder.mono : ∀ a0 a1 k, LeO (chartularylaw01_BitsOrder.f k a0 a1) (chartularylaw01_BitsOrder.f (k + 1) a0 a1) := by
  intro a0 a1 k
  unfold chartularylaw01_BitsOrder.f
  repeat' first
      | (with_reducible exact bits_Add.mono _ _ _)
      | (with_reducible exact bits_Mul.mono _ _ _)
      | (with_reducible exact chartularylaw01_awake.mono _)
      | (with_reducible exact LeO.refl _)
      | (with_reducible exact LeO.none _)
      | (with_reducible refine LeO.ite ?_ ?_)
      | (with_reducible refine LeO.bind ?_ (fun _ => ?_))
      | exact bits_Add.mono _ _ _
      | exact bits_Mul.mono _ _ _
      | exact chartularylaw01_awake.mono _
      | exact LeO.none _
      | refine LeO.ite ?_ ?_
      | refine LeO.bind ?_ (fun _ => ?_)
set_option maxHeartbeats 8000000 in
set_option maxRecDepth 100000 in
theorem chartularylaw01_BitsOrder.calls (k : Nat) (a0 : Int) (a1 : Int) (r : Bool) (w : World) (h : chartularylaw01_BitsOrder.f k a0 a1 = some r) :
    Calls Try.prog 10 #[.int .i64 a0, .int .i64 a1] w fun e w' => e = .returned (.bool r) ∧ Below w.heap.size w w' := by
  have HB := Aside0.mk (Below.refl w.heap.size w)
  have H : ((bits_Add.f k a0 a1).bind fun t281 => ((chartularylaw01_awake.f k).bind fun t282 => (if t282 = true then ((bits_Add.f k a1 a0).bind fun t283 => (if t281 = t283 then ((bits_Mul.f k a0 a1).bind fun t284 => ((bits_Mul.f k a1 a0).bind fun t285 => (if t284 = t285 then (if a0 < 0 then ((bits_Mul.f k a0 1).bind fun t286 => (if t286 = a0 then ((bits_Mul.f k a0 0).bind fun t287 => (if t287 = 0 then ((bits_Mul.f k a0 2).bind fun t288 => ((bits_Add.f k a0 a0).bind fun t289 => (some (t288 == t289)))) else (some false))) else (some false))) else (if a1 < 0 then ((bits_Mul.f k a0 1).bind fun t290 => (if t290 = a0 then ((bits_Mul.f k a0 0).bind fun t291 => (if t291 = 0 then ((bits_Mul.f k a0 2).bind fun t292 => ((bits_Add.f k a0 a0).bind fun t293 => (some (t292 == t293)))) else (some false))) else (some false))) else (if t281 ≥ a0 then (if t281 ≥ a1 then ((bits_Mul.f k a0 1).bind fun t294 => (if t294 = a0 then ((bits_Mul.f k a0 0).bind fun t295 => (if t295 = 0 then ((bits_Mul.f k a0 2).bind fun t296 => ((bits_Add.f k a0 a0).bind fun t297 => (some (t296 == t297)))) else (some false))) else (some false))) else (some false)) else (some false)))) else (some false)))) else (some false))) else (some false)))) = some r := h
  clear h
  replace H := Option.bind_eq_some_iff.mp H
  obtain ⟨t281, A30, H⟩ := H
  replace H : ((chartularylaw01_awake.f k).bind fun t282 => (if t282 = true then ((bits_Add.f k a1 a0).bind fun t283 => (if t281 = t283 then ((bits_Mul.f k a0 a1).bind fun t284 => ((bits_Mul.f k a1 a0).bind fun t285 => (if t284 = t285 then (if a0 < 0 then ((bits_Mul.f k a0 1).bind fun t286 => (if t286 = a0 then ((bits_Mul.f k a0 0).bind fun t287 => (if t287 = 0 then ((bits_Mul.f k a0 2).bind fun t288 => ((bits_Add.f k a0 a0).bind fun t289 => (some (t288 == t289)))) else (some false))) else (some false))) else (if a1 < 0 then ((bits_Mul.f k a0 1).bind fun t290 => (if t290 = a0 then ((bits_Mul.f k a0 0).bind fun t291 => (if t291 = 0 then ((bits_Mul.f k a0 2).bind fun t292 => ((bits_Add.f k a0 a0).bind fun t293 => (some (t292 == t293)))) else (some false))) else (some false))) else (if t281 ≥ a0 then (if t281 ≥ a1 then ((bits_Mul.f k a0 1).bind fun t294 => (if t294 = a0 then ((bits_Mul.f k a0 0).bind fun t295 => (if t295 = 0 then ((bits_Mul.f k a0 2).bind fun t296 => ((bits_Add.f k a0 a0).bind fun t297 => (some (t296 == t297)))) else (some false))) else (some false))) else (some false)) else (some false)))) else (some false)))) else (some false))) else (some false))) = some r := H
  have A3 := Aside0.mk A30
  clear A30
  replace H := Option.bind_eq_some_iff.mp H
  obtain ⟨t282, A40, H⟩ := H
  replace H : (if t282 = true then ((bits_Add.f k a1 a0).bind fun t283 => (if t281 = t283 then ((bits_Mul.f k a0 a1).bind fun t284 => ((bits_Mul.f k a1 a0).bind fun t285 => (if t284 = t285 then (if a0 < 0 then ((bits_Mul.f k a0 1).bind fun t286 => (if t286 = a0 then ((bits_Mul.f k a0 0).bind fun t287 => (if t287 = 0 then ((bits_Mul.f k a0 2).bind fun t288 => ((bits_Add.f k a0 a0).bind fun t289 => (some (t288 == t289)))) else (some false))) else (some false))) else (if a1 < 0 then ((bits_Mul.f k a0 1).bind fun t290 => (if t290 = a0 then ((bits_Mul.f k a0 0).bind fun t291 => (if t291 = 0 then ((bits_Mul.f k a0 2).bind fun t292 => ((bits_Add.f k a0 a0).bind fun t293 => (some (t292 == t293)))) else (some false))) else (some false))) else (if t281 ≥ a0 then (if t281 ≥ a1 then ((bits_Mul.f k a0 1).bind fun t294 => (if t294 = a0 then ((bits_Mul.f k a0 0).bind fun t295 => (if t295 = 0 then ((bits_Mul.f k a0 2).bind fun t296 => ((bits_Add.f k a0 a0).bind fun t297 => (some (t296 == t297)))) else (some false))) else (some false))) else (some false)) else (some false)))) else (some false)))) else (some false))) else (some false)) = some r := H
  have A4 := Aside0.mk A40
  clear A40
  by_cases c5 : t282 = true
  · subst c5
    have H1 : ((bits_Add.f k a1 a0).bind fun t283 => (if t281 = t283 then ((bits_Mul.f k a0 a1).bind fun t284 => ((bits_Mul.f k a1 a0).bind fun t285 => (if t284 = t285 then (if a0 < 0 then ((bits_Mul.f k a0 1).bind fun t286 => (if t286 = a0 then ((bits_Mul.f k a0 0).bind fun t287 => (if t287 = 0 then ((bits_Mul.f k a0 2).bind fun t288 => ((bits_Add.f k a0 a0).bind fun t289 => (some (t288 == t289)))) else (some false))) else (some false))) else (if a1 < 0 then ((bits_Mul.f k a0 1).bind fun t290 => (if t290 = a0 then ((bits_Mul.f k a0 0).bind fun t291 => (if t291 = 0 then ((bits_Mul.f k a0 2).bind fun t292 => ((bits_Add.f k a0 a0).bind fun t293 => (some (t292 == t293)))) else (some false))) else (some false))) else (if t281 ≥ a0 then (if t281 ≥ a1 then ((bits_Mul.f k a0 1).bind fun t294 => (if t294 = a0 then ((bits_Mul.f k a0 0).bind fun t295 => (if t295 = 0 then ((bits_Mul.f k a0 2).bind fun t296 => ((bits_Add.f k a0 a0).bind fun t297 => (some (t296 == t297)))) else (some false))) else (some false))) else (some false)) else (some false)))) else (some false)))) else (some false))) = some r := by rw [if_pos rfl] at H; exact H
    clear H
    have H := H1
    clear H1
    replace H := Option.bind_eq_some_iff.mp H
    obtain ⟨t283, A60, H⟩ := H
    replace H : (if t281 = t283 then ((bits_Mul.f k a0 a1).bind fun t284 => ((bits_Mul.f k a1 a0).bind fun t285 => (if t284 = t285 then (if a0 < 0 then ((bits_Mul.f k a0 1).bind fun t286 => (if t286 = a0 then ((bits_Mul.f k a0 0).bind fun t287 => (if t287 = 0 then ((bits_Mul.f k a0 2).bind fun t288 => ((bits_Add.f k a0 a0).bind fun t289 => (some (t288 == t289)))) else (some false))) else (some false))) else (if a1 < 0 then ((bits_Mul.f k a0 1).bind fun t290 => (if t290 = a0 then ((bits_Mul.f k a0 0).bind fun t291 => (if t291 = 0 then ((bits_Mul.f k a0 2).bind fun t292 => ((bits_Add.f k a0 a0).bind fun t293 => (some (t292 == t293)))) else (some false))) else (some false))) else (if t281 ≥ a0 then (if t281 ≥ a1 then ((bits_Mul.f k a0 1).bind fun t294 => (if t294 = a0 then ((bits_Mul.f k a0 0).bind fun t295 => (if t295 = 0 then ((bits_Mul.f k a0 2).bind fun t296 => ((bits_Add.f k a0 a0).bind fun t297 => (some (t296 == t297)))) else (some false))) else (some false))) else (some false)) else (some false)))) else (some false)))) else (some false)) = some r := H
    have A6 := Aside0.mk A60
    clear A60
    by_cases c7 : t281 = t283
    · rw [if_pos c7] at H
      have c7b0 : (t281 == t283) = true := beq_iff_eq.mpr c7
      have c7b1 : (t281 != t283) = false := bne_eq_false_iff_eq.mpr c7
      clear c7
      replace H := Option.bind_eq_some_iff.mp H
      obtain ⟨t284, A80, H⟩ := H
      replace H : ((bits_Mul.f k a1 a0).bind fun t285 => (if t284 = t285 then (if a0 < 0 then ((bits_Mul.f k a0 1).bind fun t286 => (if t286 = a0 then ((bits_Mul.f k a0 0).bind fun t287 => (if t287 = 0 then ((bits_Mul.f k a0 2).bind fun t288 => ((bits_Add.f k a0 a0).bind fun t289 => (some (t288 == t289)))) else (some false))) else (some false))) else (if a1 < 0 then ((bits_Mul.f k a0 1).bind fun t290 => (if t290 = a0 then ((bits_Mul.f k a0 0).bind fun t291 => (if t291 = 0 then ((bits_Mul.f k a0 2).bind fun t292 => ((bits_Add.f k a0 a0).bind fun t293 => (some (t292 == t293)))) else (some false))) else (some false))) else (if t281 ≥ a0 then (if t281 ≥ a1 then ((bits_Mul.f k a0 1).bind fun t294 => (if t294 = a0 then ((bits_Mul.f k a0 0).bind fun t295 => (if t295 = 0 then ((bits_Mul.f k a0 2).bind fun t296 => ((bits_Add.f k a0 a0).bind fun t297 => (some (t296 == t297)))) else (some false))) else (some false))) else (some false)) else (some false)))) else (some false))) = some r := H
      have A8 := Aside0.mk A80
      clear A80
      replace H := Option.bind_eq_some_iff.mp H
      obtain ⟨t285, A90, H⟩ := H
      replace H : (if t284 = t285 then (if a0 < 0 then ((bits_Mul.f k a0 1).bind fun t286 => (if t286 = a0 then ((bits_Mul.f k a0 0).bind fun t287 => (if t287 = 0 then ((bits_Mul.f k a0 2).bind fun t288 => ((bits_Add.f k a0 a0).bind fun t289 => (some (t288 == t289)))) else (some false))) else (some false))) else (if a1 < 0 then ((bits_Mul.f k a0 1).bind fun t290 => (if t290 = a0 then ((bits_Mul.f k a0 0).bind fun t291 => (if t291 = 0 then ((bits_Mul.f k a0 2).bind fun t292 => ((bits_Add.f k a0 a0).bind fun t293 => (some (t292 == t293)))) else (some false))) else (some false))) else (if t281 ≥ a0 then (if t281 ≥ a1 then ((bits_Mul.f k a0 1).bind fun t294 => (if t294 = a0 then ((bits_Mul.f k a0 0).bind fun t295 => (if t295 = 0 then ((bits_Mul.f k a0 2).bind fun t296 => ((bits_Add.f k a0 a0).bind fun t297 => (some (t296 == t297)))) else (some false))) else (some false))) else (some false)) else (some false)))) else (some false)) = some r := H
      have A9 := Aside0.mk A90
      clear A90
      by_cases c10 : t284 = t285
      · rw [if_pos c10] at H
        have c10b0 : (t284 == t285) = true := beq_iff_eq.mpr c10
        have c10b1 : (t284 != t285) = false := bne_eq_false_iff_eq.mpr c10
        clear c10
        by_cases c11 : a0 < 0
        · rw [if_pos c11] at H
          have c11b0 : decide (a0 < 0) = true := decide_eq_true c11
          clear c11
          replace H := Option.bind_eq_some_iff.mp H
          obtain ⟨t286, A120, H⟩ := H
          replace H : (if t286 = a0 then ((bits_Mul.f k a0 0).bind fun t287 => (if t287 = 0 then ((bits_Mul.f k a0 2).bind fun t288 => ((bits_Add.f k a0 a0).bind fun t289 => (some (t288 == t289)))) else (some false))) else (some false)) = some r := H
          have A12 := Aside0.mk A120
          clear A120
          by_cases c13 : t286 = a0
          · rw [if_pos c13] at H
            have c13b0 : (t286 == a0) = true := beq_iff_eq.mpr c13
            have c13b1 : (t286 != a0) = false := bne_eq_false_iff_eq.mpr c13
            clear c13
            replace H := Option.bind_eq_some_iff.mp H
            obtain ⟨t287, A140, H⟩ := H
            replace H : (if t287 = 0 then ((bits_Mul.f k a0 2).bind fun t288 => ((bits_Add.f k a0 a0).bind fun t289 => (some (t288 == t289)))) else (some false)) = some r := H
            have A14 := Aside0.mk A140
            clear A140
            by_cases c15 : t287 = 0
            · rw [if_pos c15] at H
              have c15b0 : (t287 == 0) = true := beq_iff_eq.mpr c15
              have c15b1 : (t287 != 0) = false := bne_eq_false_iff_eq.mpr c15
              clear c15
              replace H := Option.bind_eq_some_iff.mp H
              obtain ⟨t288, A160, H⟩ := H
              replace H : ((bits_Add.f k a0 a0).bind fun t289 => (some (t288 == t289))) = some r := H
              have A16 := Aside0.mk A160
              clear A160
              replace H := Option.bind_eq_some_iff.mp H
              obtain ⟨t289, A170, H⟩ := H
              replace H : (some (t288 == t289)) = some r := H
              have A17 := Aside0.mk A170
              clear A170
              obtain rfl := Option.some.inj H
              go_enter Try.func10, Try.ntmps10
              go_wp2_with (first | ((with_reducible refine gate_callee (f := 35) rfl ?_); refine goesL_ (some 8) rfl rfl Try.func35 (by kernel_rfl) rfl #[.int .i64 a0, .int .i64 a1] rfl (by (try simp only [List.map_toArray, List.map_cons, List.map_nil]); first | done | rfl | (simp only [List.length_drop, List.length_take]; rfl)) ?_; (with_reducible refine (bits_Add.calls k a0 a1 t281 _ A3.out).mono ?_); rintro e w' ⟨rfl, ⟨nd, rfl⟩⟩; refine ⟨_, rfl, ?_⟩) | ((with_reducible refine gate_callee (f := 13) rfl ?_); refine goesL_ (some 9) rfl rfl Try.func13 (by kernel_rfl) rfl #[] rfl (by (try simp only [List.map_toArray, List.map_cons, List.map_nil]); first | done | rfl | (simp only [List.length_drop, List.length_take]; rfl)) ?_; (with_reducible refine (chartularylaw01_awake.calls k  true _ A4.out).mono ?_); rintro e w18 ⟨rfl, hb⟩; refine ⟨_, rfl, ?_⟩; have n0_ := Aside0.mk (below_step (by repeat (first | (with_reducible first | exact HB.out | apply below_alloc | apply pw_below_drewN | apply below_drew1) | exact HB.out)) hb); clear HB; have HB := n0_; clear n0_; (try clear hb); (try clear hb2); (try clear hk); (try clear hi)) | (go_at_call 35; (with_reducible refine (bits_Add.calls k a1 a0 t283 _ A6.out).mono ?_); rintro e w' ⟨rfl, ⟨nd, rfl⟩⟩) | (go_at_call 37; (with_reducible refine (bits_Mul.calls k a0 a1 t284 _ A8.out).mono ?_); rintro e w' ⟨rfl, ⟨nd, rfl⟩⟩) | (go_at_call 37; (with_reducible refine (bits_Mul.calls k a1 a0 t285 _ A9.out).mono ?_); rintro e w' ⟨rfl, ⟨nd, rfl⟩⟩) | (go_at_call 37; (with_reducible refine (bits_Mul.calls k a0 1 t286 _ A12.out).mono ?_); rintro e w' ⟨rfl, ⟨nd, rfl⟩⟩) | (go_at_call 37; (with_reducible refine (bits_Mul.calls k a0 0 t287 _ A14.out).mono ?_); rintro e w' ⟨rfl, ⟨nd, rfl⟩⟩) | (go_at_call 37; (with_reducible refine (bits_Mul.calls k a0 2 t288 _ A16.out).mono ?_); rintro e w' ⟨rfl, ⟨nd, rfl⟩⟩) | (go_at_call 35; (with_reducible refine (bits_Add.calls k a0 a0 t289 _ A17.out).mono ?_); rintro e w' ⟨rfl, ⟨nd, rfl⟩⟩))
              go_ret
              exact ⟨by first | rfl | (simp [errW_none, errW_some] <;> rfl) | (simp [*, errW_none, errW_some] <;> rfl), by repeat (first | (with_reducible first | exact HB.out | apply below_alloc | apply pw_below_drewN | apply below_drew1) | exact HB.out)⟩
            · rw [if_neg c15] at H
              have c15b0 : (t287 == 0) = false := beq_eq_false_iff_ne.mpr c15
              have c15b1 : (t287 != 0) = true := bne_iff_ne.mpr c15
              obtain rfl := Option.some.inj H
              go_enter Try.func10, Try.ntmps10
              go_wp2_with (first | ((with_reducible refine gate_callee (f := 35) rfl ?_); refine goesL_ (some 8) rfl rfl Try.func35 (by kernel_rfl) rfl #[.int .i64 a0, .int .i64 a1] rfl (by (try simp only [List.map_toArray, List.map_cons, List.map_nil]); first | done | rfl | (simp only [List.length_drop, List.length_take]; rfl)) ?_; (with_reducible refine (bits_Add.calls k a0 a1 t281 _ A3.out).mono ?_); rintro e w' ⟨rfl, ⟨nd, rfl⟩⟩; refine ⟨_, rfl, ?_⟩) | ((with_reducible refine gate_callee (f := 13) rfl ?_); refine goesL_ (some 9) rfl rfl Try.func13 (by kernel_rfl) rfl #[] rfl (by (try simp only [List.map_toArray, List.map_cons, List.map_nil]); first | done | rfl | (simp only [List.length_drop, List.length_take]; rfl)) ?_; (with_reducible refine (chartularylaw01_awake.calls k  true _ A4.out).mono ?_); rintro e w19 ⟨rfl, hb⟩; refine ⟨_, rfl, ?_⟩; have n0_ := Aside0.mk (below_step (by repeat (first | (with_reducible first | exact HB.out | apply below_alloc | apply pw_below_drewN | apply below_drew1) | exact HB.out)) hb); clear HB; have HB := n0_; clear n0_; (try clear hb); (try clear hb2); (try clear hk); (try clear hi)) | (go_at_call 35; (with_reducible refine (bits_Add.calls k a1 a0 t283 _ A6.out).mono ?_); rintro e w' ⟨rfl, ⟨nd, rfl⟩⟩) | (go_at_call 37; (with_reducible refine (bits_Mul.calls k a0 a1 t284 _ A8.out).mono ?_); rintro e w' ⟨rfl, ⟨nd, rfl⟩⟩) | (go_at_call 37; (with_reducible refine (bits_Mul.calls k a1 a0 t285 _ A9.out).mono ?_); rintro e w' ⟨rfl, ⟨nd, rfl⟩⟩) | (go_at_call 37; (with_reducible refine (bits_Mul.calls k a0 1 t286 _ A12.out).mono ?_); rintro e w' ⟨rfl, ⟨nd, rfl⟩⟩) | (go_at_call 37; (with_reducible refine (bits_Mul.calls k a0 0 t287 _ A14.out).mono ?_); rintro e w' ⟨rfl, ⟨nd, rfl⟩⟩))
              go_ret
              exact ⟨by first | rfl | (simp [errW_none, errW_some] <;> rfl) | (simp [*, errW_none, errW_some] <;> rfl), by repeat (first | (with_reducible first | exact HB.out | apply below_alloc | apply pw_below_drewN | apply below_drew1) | exact HB.out)⟩
          · rw [if_neg c13] at H
            have c13b0 : (t286 == a0) = false := beq_eq_false_iff_ne.mpr c13
            have c13b1 : (t286 != a0) = true := bne_iff_ne.mpr c13
            obtain rfl := Option.some.inj H
            go_enter Try.func10, Try.ntmps10
            go_wp2_with (first | ((with_reducible refine gate_callee (f := 35) rfl ?_); refine goesL_ (some 8) rfl rfl Try.func35 (by kernel_rfl) rfl #[.int .i64 a0, .int .i64 a1] rfl (by (try simp only [List.map_toArray, List.map_cons, List.map_nil]); first | done | rfl | (simp only [List.length_drop, List.length_take]; rfl)) ?_; (with_reducible refine (bits_Add.calls k a0 a1 t281 _ A3.out).mono ?_); rintro e w' ⟨rfl, ⟨nd, rfl⟩⟩; refine ⟨_, rfl, ?_⟩) | ((with_reducible refine gate_callee (f := 13) rfl ?_); refine goesL_ (some 9) rfl rfl Try.func13 (by kernel_rfl) rfl #[] rfl (by (try simp only [List.map_toArray, List.map_cons, List.map_nil]); first | done | rfl | (simp only [List.length_drop, List.length_take]; rfl)) ?_; (with_reducible refine (chartularylaw01_awake.calls k  true _ A4.out).mono ?_); rintro e w20 ⟨rfl, hb⟩; refine ⟨_, rfl, ?_⟩; have n0_ := Aside0.mk (below_step (by repeat (first | (with_reducible first | exact HB.out | apply below_alloc | apply pw_below_drewN | apply below_drew1) | exact HB.out)) hb); clear HB; have HB := n0_; clear n0_; (try clear hb); (try clear hb2); (try clear hk); (try clear hi)) | (go_at_call 35; (with_reducible refine (bits_Add.calls k a1 a0 t283 _ A6.out).mono ?_); rintro e w' ⟨rfl, ⟨nd, rfl⟩⟩) | (go_at_call 37; (with_reducible refine (bits_Mul.calls k a0 a1 t284 _ A8.out).mono ?_); rintro e w' ⟨rfl, ⟨nd, rfl⟩⟩) | (go_at_call 37; (with_reducible refine (bits_Mul.calls k a1 a0 t285 _ A9.out).mono ?_); rintro e w' ⟨rfl, ⟨nd, rfl⟩⟩) | (go_at_call 37; (with_reducible refine (bits_Mul.calls k a0 1 t286 _ A12.out).mono ?_); rintro e w' ⟨rfl, ⟨nd, rfl⟩⟩))
            go_ret
            exact ⟨by first | rfl | (simp [errW_none, errW_some] <;> rfl) | (simp [*, errW_none, errW_some] <;> rfl), by repeat (first | (with_reducible first | exact HB.out | apply below_alloc | apply pw_below_drewN | apply below_drew1) | exact HB.out)⟩
        · rw [if_neg c11] at H
          have c11b0 : decide (a0 < 0) = false := decide_eq_false c11
          clear c11
          by_cases c21 : a1 < 0
          · rw [if_pos c21] at H
            have c21b0 : decide (a1 < 0) = true := decide_eq_true c21
            clear c21
            replace H := Option.bind_eq_some_iff.mp H
            obtain ⟨t290, A220, H⟩ := H
            replace H : (if t290 = a0 then ((bits_Mul.f k a0 0).bind fun t291 => (if t291 = 0 then ((bits_Mul.f k a0 2).bind fun t292 => ((bits_Add.f k a0 a0).bind fun t293 => (some (t292 == t293)))) else (some false))) else (some false)) = some r := H
            have A22 := Aside0.mk A220
            clear A220
            by_cases c23 : t290 = a0
            · rw [if_pos c23] at H
              have c23b0 : (t290 == a0) = true := beq_iff_eq.mpr c23
              have c23b1 : (t290 != a0) = false := bne_eq_false_iff_eq.mpr c23
              clear c23
              replace H := Option.bind_eq_some_iff.mp H
              obtain ⟨t291, A240, H⟩ := H
              replace H : (if t291 = 0 then ((bits_Mul.f k a0 2).bind fun t292 => ((bits_Add.f k a0 a0).bind fun t293 => (some (t292 == t293)))) else (some false)) = some r := H
              have A24 := Aside0.mk A240
              clear A240
              by_cases c25 : t291 = 0
              · rw [if_pos c25] at H
                have c25b0 : (t291 == 0) = true := beq_iff_eq.mpr c25
                have c25b1 : (t291 != 0) = false := bne_eq_false_iff_eq.mpr c25
                clear c25
                replace H := Option.bind_eq_some_iff.mp H
                obtain ⟨t292, A260, H⟩ := H
                replace H : ((bits_Add.f k a0 a0).bind fun t293 => (some (t292 == t293))) = some r := H
                have A26 := Aside0.mk A260
                clear A260
                replace H := Option.bind_eq_some_iff.mp H
                obtain ⟨t293, A270, H⟩ := H
                replace H : (some (t292 == t293)) = some r := H
                have A27 := Aside0.mk A270
                clear A270
                obtain rfl := Option.some.inj H
                go_enter Try.func10, Try.ntmps10
                go_wp2_with (first | ((with_reducible refine gate_callee (f := 35) rfl ?_); refine goesL_ (some 8) rfl rfl Try.func35 (by kernel_rfl) rfl #[.int .i64 a0, .int .i64 a1] rfl (by (try simp only [List.map_toArray, List.map_cons, List.map_nil]); first | done | rfl | (simp only [List.length_drop, List.length_take]; rfl)) ?_; (with_reducible refine (bits_Add.calls k a0 a1 t281 _ A3.out).mono ?_); rintro e w' ⟨rfl, ⟨nd, rfl⟩⟩; refine ⟨_, rfl, ?_⟩) | ((with_reducible refine gate_callee (f := 13) rfl ?_); refine goesL_ (some 9) rfl rfl Try.func13 (by kernel_rfl) rfl #[] rfl (by (try simp only [List.map_toArray, List.map_cons, List.map_nil]); first | done | rfl | (simp only [List.length_drop, List.length_take]; rfl)) ?_; (with_reducible refine (chartularylaw01_awake.calls k  true _ A4.out).mono ?_); rintro e w28 ⟨rfl, hb⟩; refine ⟨_, rfl, ?_⟩; have n0_ := Aside0.mk (below_step (by repeat (first | (with_reducible first | exact HB.out | apply below_alloc | apply pw_below_drewN | apply below_drew1) | exact HB.out)) hb); clear HB; have HB := n0_; clear n0_; (try clear hb); (try clear hb2); (try clear hk); (try clear hi)) | (go_at_call 35; (with_reducible refine (bits_Add.calls k a1 a0 t283 _ A6.out).mono ?_); rintro e w' ⟨rfl, ⟨nd, rfl⟩⟩) | (go_at_call 37; (with_reducible refine (bits_Mul.calls k a0 a1 t284 _ A8.out).mono ?_); rintro e w' ⟨rfl, ⟨nd, rfl⟩⟩) | (go_at_call 37; (with_reducible refine (bits_Mul.calls k a1 a0 t285 _ A9.out).mono ?_); rintro e w' ⟨rfl, ⟨nd, rfl⟩⟩) | (go_at_call 37; (with_reducible refine (bits_Mul.calls k a0 1 t290 _ A22.out).mono ?_); rintro e w' ⟨rfl, ⟨nd, rfl⟩⟩) | (go_at_call 37; (with_reducible refine (bits_Mul.calls k a0 0 t291 _ A24.out).mono ?_); rintro e w' ⟨rfl, ⟨nd, rfl⟩⟩) | (go_at_call 37; (with_reducible refine (bits_Mul.calls k a0 2 t292 _ A26.out).mono ?_); rintro e w' ⟨rfl, ⟨nd, rfl⟩⟩) | (go_at_call 35; (with_reducible refine (bits_Add.calls k a0 a0 t293 _ A27.out).mono ?_); rintro e w' ⟨rfl, ⟨nd, rfl⟩⟩))
                go_ret
                exact ⟨by first | rfl | (simp [errW_none, errW_some] <;> rfl) | (simp [*, errW_none, errW_some] <;> rfl), by repeat (first | (with_reducible first | exact HB.out | apply below_alloc | apply pw_below_drewN | apply below_drew1) | exact HB.out)⟩
              · rw [if_neg c25] at H
                have c25b0 : (t291 == 0) = false := beq_eq_false_iff_ne.mpr c25
                have c25b1 : (t291 != 0) = true := bne_iff_ne.mpr c25
                obtain rfl := Option.some.inj H
                go_enter Try.func10, Try.ntmps10
                go_wp2_with (first | ((with_reducible refine gate_callee (f := 35) rfl ?_); refine goesL_ (some 8) rfl rfl Try.func35 (by kernel_rfl) rfl #[.int .i64 a0, .int .i64 a1] rfl (by (try simp only [List.map_toArray, List.map_cons, List.map_nil]); first | done | rfl | (simp only [List.length_drop, List.length_take]; rfl)) ?_; (with_reducible refine (bits_Add.calls k a0 a1 t281 _ A3.out).mono ?_); rintro e w' ⟨rfl, ⟨nd, rfl⟩⟩; refine ⟨_, rfl, ?_⟩) | ((with_reducible refine gate_callee (f := 13) rfl ?_); refine goesL_ (some 9) rfl rfl Try.func13 (by kernel_rfl) rfl #[] rfl (by (try simp only [List.map_toArray, List.map_cons, List.map_nil]); first | done | rfl | (simp only [List.length_drop, List.length_take]; rfl)) ?_; (with_reducible refine (chartularylaw01_awake.calls k  true _ A4.out).mono ?_); rintro e w29 ⟨rfl, hb⟩; refine ⟨_, rfl, ?_⟩; have n0_ := Aside0.mk (below_step (by repeat (first | (with_reducible first | exact HB.out | apply below_alloc | apply pw_below_drewN | apply below_drew1) | exact HB.out)) hb); clear HB; have HB := n0_; clear n0_; (try clear hb); (try clear hb2); (try clear hk); (try clear hi)) | (go_at_call 35; (with_reducible refine (bits_Add.calls k a1 a0 t283 _ A6.out).mono ?_); rintro e w' ⟨rfl, ⟨nd, rfl⟩⟩) | (go_at_call 37; (with_reducible refine (bits_Mul.calls k a0 a1 t284 _ A8.out).mono ?_); rintro e w' ⟨rfl, ⟨nd, rfl⟩⟩) | (go_at_call 37; (with_reducible refine (bits_Mul.calls k a1 a0 t285 _ A9.out).mono ?_); rintro e w' ⟨rfl, ⟨nd, rfl⟩⟩) | (go_at_call 37; (with_reducible refine (bits_Mul.calls k a0 1 t290 _ A22.out).mono ?_); rintro e w' ⟨rfl, ⟨nd, rfl⟩⟩) | (go_at_call 37; (with_reducible refine (bits_Mul.calls k a0 0 t291 _ A24.out).mono ?_); rintro e w' ⟨rfl, ⟨nd, rfl⟩⟩))
                go_ret
                exact ⟨by first | rfl | (simp [errW_none, errW_some] <;> rfl) | (simp [*, errW_none, errW_some] <;> rfl), by repeat (first | (with_reducible first | exact HB.out | apply below_alloc | apply pw_below_drewN | apply below_drew1) | exact HB.out)⟩
            · rw [if_neg c23] at H
              have c23b0 : (t290 == a0) = false := beq_eq_false_iff_ne.mpr c23
              have c23b1 : (t290 != a0) = true := bne_iff_ne.mpr c23
              obtain rfl := Option.some.inj H
              go_enter Try.func10, Try.ntmps10
              go_wp2_with (first | ((with_reducible refine gate_callee (f := 35) rfl ?_); refine goesL_ (some 8) rfl rfl Try.func35 (by kernel_rfl) rfl #[.int .i64 a0, .int .i64 a1] rfl (by (try simp only [List.map_toArray, List.map_cons, List.map_nil]); first | done | rfl | (simp only [List.length_drop, List.length_take]; rfl)) ?_; (with_reducible refine (bits_Add.calls k a0 a1 t281 _ A3.out).mono ?_); rintro e w' ⟨rfl, ⟨nd, rfl⟩⟩; refine ⟨_, rfl, ?_⟩) | ((with_reducible refine gate_callee (f := 13) rfl ?_); refine goesL_ (some 9) rfl rfl Try.func13 (by kernel_rfl) rfl #[] rfl (by (try simp only [List.map_toArray, List.map_cons, List.map_nil]); first | done | rfl | (simp only [List.length_drop, List.length_take]; rfl)) ?_; (with_reducible refine (chartularylaw01_awake.calls k  true _ A4.out).mono ?_); rintro e w30 ⟨rfl, hb⟩; refine ⟨_, rfl, ?_⟩; have n0_ := Aside0.mk (below_step (by repeat (first | (with_reducible first | exact HB.out | apply below_alloc | apply pw_below_drewN | apply below_drew1) | exact HB.out)) hb); clear HB; have HB := n0_; clear n0_; (try clear hb); (try clear hb2); (try clear hk); (try clear hi)) | (go_at_call 35; (with_reducible refine (bits_Add.calls k a1 a0 t283 _ A6.out).mono ?_); rintro e w' ⟨rfl, ⟨nd, rfl⟩⟩) | (go_at_call 37; (with_reducible refine (bits_Mul.calls k a0 a1 t284 _ A8.out).mono ?_); rintro e w' ⟨rfl, ⟨nd, rfl⟩⟩) | (go_at_call 37; (with_reducible refine (bits_Mul.calls k a1 a0 t285 _ A9.out).mono ?_); rintro e w' ⟨rfl, ⟨nd, rfl⟩⟩) | (go_at_call 37; (with_reducible refine (bits_Mul.calls k a0 1 t290 _ A22.out).mono ?_); rintro e w' ⟨rfl, ⟨nd, rfl⟩⟩))
              go_ret
              exact ⟨by first | rfl | (simp [errW_none, errW_some] <;> rfl) | (simp [*, errW_none, errW_some] <;> rfl), by repeat (first | (with_reducible first | exact HB.out | apply below_alloc | apply pw_below_drewN | apply below_drew1) | exact HB.out)⟩
          · rw [if_neg c21] at H
            have c21b0 : decide (a1 < 0) = false := decide_eq_false c21
            clear c21
            by_cases c31 : t281 ≥ a0
            · rw [if_pos c31] at H
              have c31b0 : decide (a0 ≤ t281) = true := decide_eq_true c31
              clear c31
              by_cases c32 : t281 ≥ a1
              · rw [if_pos c32] at H
                have c32b0 : decide (a1 ≤ t281) = true := decide_eq_true c32
                clear c32
                replace H := Option.bind_eq_some_iff.mp H
                obtain ⟨t294, A330, H⟩ := H
                replace H : (if t294 = a0 then ((bits_Mul.f k a0 0).bind fun t295 => (if t295 = 0 then ((bits_Mul.f k a0 2).bind fun t296 => ((bits_Add.f k a0 a0).bind fun t297 => (some (t296 == t297)))) else (some false))) else (some false)) = some r := H
                have A33 := Aside0.mk A330
                clear A330
                by_cases c34 : t294 = a0
                · rw [if_pos c34] at H
                  have c34b0 : (t294 == a0) = true := beq_iff_eq.mpr c34
                  have c34b1 : (t294 != a0) = false := bne_eq_false_iff_eq.mpr c34
                  clear c34
                  replace H := Option.bind_eq_some_iff.mp H
                  obtain ⟨t295, A350, H⟩ := H
                  replace H : (if t295 = 0 then ((bits_Mul.f k a0 2).bind fun t296 => ((bits_Add.f k a0 a0).bind fun t297 => (some (t296 == t297)))) else (some false)) = some r := H
                  have A35 := Aside0.mk A350
                  clear A350
                  by_cases c36 : t295 = 0
                  · rw [if_pos c36] at H
                    have c36b0 : (t295 == 0) = true := beq_iff_eq.mpr c36
                    have c36b1 : (t295 != 0) = false := bne_eq_false_iff_eq.mpr c36
                    clear c36
                    replace H := Option.bind_eq_some_iff.mp H
                    obtain ⟨t296, A370, H⟩ := H
                    replace H : ((bits_Add.f k a0 a0).bind fun t297 => (some (t296 == t297))) = some r := H
                    have A37 := Aside0.mk A370
                    clear A370
                    replace H := Option.bind_eq_some_iff.mp H
                    obtain ⟨t297, A380, H⟩ := H
                    replace H : (some (t296 == t297)) = some r := H
                    have A38 := Aside0.mk A380
                    clear A380
                    obtain rfl := Option.some.inj H
                    go_enter Try.func10, Try.ntmps10
                    go_wp2_with (first | ((with_reducible refine gate_callee (f := 35) rfl ?_); refine goesL_ (some 8) rfl rfl Try.func35 (by kernel_rfl) rfl #[.int .i64 a0, .int .i64 a1] rfl (by (try simp only [List.map_toArray, List.map_cons, List.map_nil]); first | done | rfl | (simp only [List.length_drop, List.length_take]; rfl)) ?_; (with_reducible refine (bits_Add.calls k a0 a1 t281 _ A3.out).mono ?_); rintro e w' ⟨rfl, ⟨nd, rfl⟩⟩; refine ⟨_, rfl, ?_⟩) | ((with_reducible refine gate_callee (f := 13) rfl ?_); refine goesL_ (some 9) rfl rfl Try.func13 (by kernel_rfl) rfl #[] rfl (by (try simp only [List.map_toArray, List.map_cons, List.map_nil]); first | done | rfl | (simp only [List.length_drop, List.length_take]; rfl)) ?_; (with_reducible refine (chartularylaw01_awake.calls k  true _ A4.out).mono ?_); rintro e w39 ⟨rfl, hb⟩; refine ⟨_, rfl, ?_⟩; have n0_ := Aside0.mk (below_step (by repeat (first | (with_reducible first | exact HB.out | apply below_alloc | apply pw_below_drewN | apply below_drew1) | exact HB.out)) hb); clear HB; have HB := n0_; clear n0_; (try clear hb); (try clear hb2); (try clear hk); (try clear hi)) | (go_at_call 35; (with_reducible refine (bits_Add.calls k a1 a0 t283 _ A6.out).mono ?_); rintro e w' ⟨rfl, ⟨nd, rfl⟩⟩) | (go_at_call 37; (with_reducible refine (bits_Mul.calls k a0 a1 t284 _ A8.out).mono ?_); rintro e w' ⟨rfl, ⟨nd, rfl⟩⟩) | (go_at_call 37; (with_reducible refine (bits_Mul.calls k a1 a0 t285 _ A9.out).mono ?_); rintro e w' ⟨rfl, ⟨nd, rfl⟩⟩) | (go_at_call 37; (with_reducible refine (bits_Mul.calls k a0 1 t294 _ A33.out).mono ?_); rintro e w' ⟨rfl, ⟨nd, rfl⟩⟩) | (go_at_call 37; (with_reducible refine (bits_Mul.calls k a0 0 t295 _ A35.out).mono ?_); rintro e w' ⟨rfl, ⟨nd, rfl⟩⟩) | (go_at_call 37; (with_reducible refine (bits_Mul.calls k a0 2 t296 _ A37.out).mono ?_); rintro e w' ⟨rfl, ⟨nd, rfl⟩⟩) | (go_at_call 35; (with_reducible refine (bits_Add.calls k a0 a0 t297 _ A38.out).mono ?_); rintro e w' ⟨rfl, ⟨nd, rfl⟩⟩))
                    go_ret
                    exact ⟨by first | rfl | (simp [errW_none, errW_some] <;> rfl) | (simp [*, errW_none, errW_some] <;> rfl), by repeat (first | (with_reducible first | exact HB.out | apply below_alloc | apply pw_below_drewN | apply below_drew1) | exact HB.out)⟩
                  · rw [if_neg c36] at H
                    have c36b0 : (t295 == 0) = false := beq_eq_false_iff_ne.mpr c36
                    have c36b1 : (t295 != 0) = true := bne_iff_ne.mpr c36
                    obtain rfl := Option.some.inj H
                    go_enter Try.func10, Try.ntmps10
                    go_wp2_with (first | ((with_reducible refine gate_callee (f := 35) rfl ?_); refine goesL_ (some 8) rfl rfl Try.func35 (by kernel_rfl) rfl #[.int .i64 a0, .int .i64 a1] rfl (by (try simp only [List.map_toArray, List.map_cons, List.map_nil]); first | done | rfl | (simp only [List.length_drop, List.length_take]; rfl)) ?_; (with_reducible refine (bits_Add.calls k a0 a1 t281 _ A3.out).mono ?_); rintro e w' ⟨rfl, ⟨nd, rfl⟩⟩; refine ⟨_, rfl, ?_⟩) | ((with_reducible refine gate_callee (f := 13) rfl ?_); refine goesL_ (some 9) rfl rfl Try.func13 (by kernel_rfl) rfl #[] rfl (by (try simp only [List.map_toArray, List.map_cons, List.map_nil]); first | done | rfl | (simp only [List.length_drop, List.length_take]; rfl)) ?_; (with_reducible refine (chartularylaw01_awake.calls k  true _ A4.out).mono ?_); rintro e w40 ⟨rfl, hb⟩; refine ⟨_, rfl, ?_⟩; have n0_ := Aside0.mk (below_step (by repeat (first | (with_reducible first | exact HB.out | apply below_alloc | apply pw_below_drewN | apply below_drew1) | exact HB.out)) hb); clear HB; have HB := n0_; clear n0_; (try clear hb); (try clear hb2); (try clear hk); (try clear hi)) | (go_at_call 35; (with_reducible refine (bits_Add.calls k a1 a0 t283 _ A6.out).mono ?_); rintro e w' ⟨rfl, ⟨nd, rfl⟩⟩) | (go_at_call 37; (with_reducible refine (bits_Mul.calls k a0 a1 t284 _ A8.out).mono ?_); rintro e w' ⟨rfl, ⟨nd, rfl⟩⟩) | (go_at_call 37; (with_reducible refine (bits_Mul.calls k a1 a0 t285 _ A9.out).mono ?_); rintro e w' ⟨rfl, ⟨nd, rfl⟩⟩) | (go_at_call 37; (with_reducible refine (bits_Mul.calls k a0 1 t294 _ A33.out).mono ?_); rintro e w' ⟨rfl, ⟨nd, rfl⟩⟩) | (go_at_call 37; (with_reducible refine (bits_Mul.calls k a0 0 t295 _ A35.out).mono ?_); rintro e w' ⟨rfl, ⟨nd, rfl⟩⟩))
                    go_ret
                    exact ⟨by first | rfl | (simp [errW_none, errW_some] <;> rfl) | (simp [*, errW_none, errW_some] <;> rfl), by repeat (first | (with_reducible first | exact HB.out | apply below_alloc | apply pw_below_drewN | apply below_drew1) | exact HB.out)⟩
                · rw [if_neg c34] at H
                  have c34b0 : (t294 == a0) = false := beq_eq_false_iff_ne.mpr c34
                  have c34b1 : (t294 != a0) = true := bne_iff_ne.mpr c34
                  obtain rfl := Option.some.inj H
                  go_enter Try.func10, Try.ntmps10
                  go_wp2_with (first | ((with_reducible refine gate_callee (f := 35) rfl ?_); refine goesL_ (some 8) rfl rfl Try.func35 (by kernel_rfl) rfl #[.int .i64 a0, .int .i64 a1] rfl (by (try simp only [List.map_toArray, List.map_cons, List.map_nil]); first | done | rfl | (simp only [List.length_drop, List.length_take]; rfl)) ?_; (with_reducible refine (bits_Add.calls k a0 a1 t281 _ A3.out).mono ?_); rintro e w' ⟨rfl, ⟨nd, rfl⟩⟩; refine ⟨_, rfl, ?_⟩) | ((with_reducible refine gate_callee (f := 13) rfl ?_); refine goesL_ (some 9) rfl rfl Try.func13 (by kernel_rfl) rfl #[] rfl (by (try simp only [List.map_toArray, List.map_cons, List.map_nil]); first | done | rfl | (simp only [List.length_drop, List.length_take]; rfl)) ?_; (with_reducible refine (chartularylaw01_awake.calls k  true _ A4.out).mono ?_); rintro e w41 ⟨rfl, hb⟩; refine ⟨_, rfl, ?_⟩; have n0_ := Aside0.mk (below_step (by repeat (first | (with_reducible first | exact HB.out | apply below_alloc | apply pw_below_drewN | apply below_drew1) | exact HB.out)) hb); clear HB; have HB := n0_; clear n0_; (try clear hb); (try clear hb2); (try clear hk); (try clear hi)) | (go_at_call 35; (with_reducible refine (bits_Add.calls k a1 a0 t283 _ A6.out).mono ?_); rintro e w' ⟨rfl, ⟨nd, rfl⟩⟩) | (go_at_call 37; (with_reducible refine (bits_Mul.calls k a0 a1 t284 _ A8.out).mono ?_); rintro e w' ⟨rfl, ⟨nd, rfl⟩⟩) | (go_at_call 37; (with_reducible refine (bits_Mul.calls k a1 a0 t285 _ A9.out).mono ?_); rintro e w' ⟨rfl, ⟨nd, rfl⟩⟩) | (go_at_call 37; (with_reducible refine (bits_Mul.calls k a0 1 t294 _ A33.out).mono ?_); rintro e w' ⟨rfl, ⟨nd, rfl⟩⟩))
                  go_ret
                  exact ⟨by first | rfl | (simp [errW_none, errW_some] <;> rfl) | (simp [*, errW_none, errW_some] <;> rfl), by repeat (first | (with_reducible first | exact HB.out | apply below_alloc | apply pw_below_drewN | apply below_drew1) | exact HB.out)⟩
              · rw [if_neg c32] at H
                have c32b0 : decide (a1 ≤ t281) = false := decide_eq_false c32
                clear c32
                obtain rfl := Option.some.inj H
                go_enter Try.func10, Try.ntmps10
                go_wp2_with (first | ((with_reducible refine gate_callee (f := 35) rfl ?_); refine goesL_ (some 8) rfl rfl Try.func35 (by kernel_rfl) rfl #[.int .i64 a0, .int .i64 a1] rfl (by (try simp only [List.map_toArray, List.map_cons, List.map_nil]); first | done | rfl | (simp only [List.length_drop, List.length_take]; rfl)) ?_; (with_reducible refine (bits_Add.calls k a0 a1 t281 _ A3.out).mono ?_); rintro e w' ⟨rfl, ⟨nd, rfl⟩⟩; refine ⟨_, rfl, ?_⟩) | ((with_reducible refine gate_callee (f := 13) rfl ?_); refine goesL_ (some 9) rfl rfl Try.func13 (by kernel_rfl) rfl #[] rfl (by (try simp only [List.map_toArray, List.map_cons, List.map_nil]); first | done | rfl | (simp only [List.length_drop, List.length_take]; rfl)) ?_; (with_reducible refine (chartularylaw01_awake.calls k  true _ A4.out).mono ?_); rintro e w42 ⟨rfl, hb⟩; refine ⟨_, rfl, ?_⟩; have n0_ := Aside0.mk (below_step (by repeat (first | (with_reducible first | exact HB.out | apply below_alloc | apply pw_below_drewN | apply below_drew1) | exact HB.out)) hb); clear HB; have HB := n0_; clear n0_; (try clear hb); (try clear hb2); (try clear hk); (try clear hi)) | (go_at_call 35; (with_reducible refine (bits_Add.calls k a1 a0 t283 _ A6.out).mono ?_); rintro e w' ⟨rfl, ⟨nd, rfl⟩⟩) | (go_at_call 37; (with_reducible refine (bits_Mul.calls k a0 a1 t284 _ A8.out).mono ?_); rintro e w' ⟨rfl, ⟨nd, rfl⟩⟩) | (go_at_call 37; (with_reducible refine (bits_Mul.calls k a1 a0 t285 _ A9.out).mono ?_); rintro e w' ⟨rfl, ⟨nd, rfl⟩⟩))
                go_ret
                exact ⟨by first | rfl | (simp [errW_none, errW_some] <;> rfl) | (simp [*, errW_none, errW_some] <;> rfl), by repeat (first | (with_reducible first | exact HB.out | apply below_alloc | apply pw_below_drewN | apply below_drew1) | exact HB.out)⟩
            · rw [if_neg c31] at H
              have c31b0 : decide (a0 ≤ t281) = false := decide_eq_false c31
              clear c31
              obtain rfl := Option.some.inj H
              go_enter Try.func10, Try.ntmps10
              go_wp2_with (first | ((with_reducible refine gate_callee (f := 35) rfl ?_); refine goesL_ (some 8) rfl rfl Try.func35 (by kernel_rfl) rfl #[.int .i64 a0, .int .i64 a1] rfl (by (try simp only [List.map_toArray, List.map_cons, List.map_nil]); first | done | rfl | (simp only [List.length_drop, List.length_take]; rfl)) ?_; (with_reducible refine (bits_Add.calls k a0 a1 t281 _ A3.out).mono ?_); rintro e w' ⟨rfl, ⟨nd, rfl⟩⟩; refine ⟨_, rfl, ?_⟩) | ((with_reducible refine gate_callee (f := 13) rfl ?_); refine goesL_ (some 9) rfl rfl Try.func13 (by kernel_rfl) rfl #[] rfl (by (try simp only [List.map_toArray, List.map_cons, List.map_nil]); first | done | rfl | (simp only [List.length_drop, List.length_take]; rfl)) ?_; (with_reducible refine (chartularylaw01_awake.calls k  true _ A4.out).mono ?_); rintro e w43 ⟨rfl, hb⟩; refine ⟨_, rfl, ?_⟩; have n0_ := Aside0.mk (below_step (by repeat (first | (with_reducible first | exact HB.out | apply below_alloc | apply pw_below_drewN | apply below_drew1) | exact HB.out)) hb); clear HB; have HB := n0_; clear n0_; (try clear hb); (try clear hb2); (try clear hk); (try clear hi)) | (go_at_call 35; (with_reducible refine (bits_Add.calls k a1 a0 t283 _ A6.out).mono ?_); rintro e w' ⟨rfl, ⟨nd, rfl⟩⟩) | (go_at_call 37; (with_reducible refine (bits_Mul.calls k a0 a1 t284 _ A8.out).mono ?_); rintro e w' ⟨rfl, ⟨nd, rfl⟩⟩) | (go_at_call 37; (with_reducible refine (bits_Mul.calls k a1 a0 t285 _ A9.out).mono ?_); rintro e w' ⟨rfl, ⟨nd, rfl⟩⟩))
              go_ret
              exact ⟨by first | rfl | (simp [errW_none, errW_some] <;> rfl) | (simp [*, errW_none, errW_some] <;> rfl), by repeat (first | (with_reducible first | exact HB.out | apply below_alloc | apply pw_below_drewN | apply below_drew1) | exact HB.out)⟩
      · rw [if_neg c10] at H
        have c10b0 : (t284 == t285) = false := beq_eq_false_iff_ne.mpr c10
        have c10b1 : (t284 != t285) = true := bne_iff_ne.mpr c10
        obtain rfl := Option.some.inj H
        go_enter Try.func10, Try.ntmps10
        go_wp2_with (first | ((with_reducible refine gate_callee (f := 35) rfl ?_); refine goesL_ (some 8) rfl rfl Try.func35 (by kernel_rfl) rfl #[.int .i64 a0, .int .i64 a1] rfl (by (try simp only [List.map_toArray, List.map_cons, List.map_nil]); first | done | rfl | (simp only [List.length_drop, List.length_take]; rfl)) ?_; (with_reducible refine (bits_Add.calls k a0 a1 t281 _ A3.out).mono ?_); rintro e w' ⟨rfl, ⟨nd, rfl⟩⟩; refine ⟨_, rfl, ?_⟩) | ((with_reducible refine gate_callee (f := 13) rfl ?_); refine goesL_ (some 9) rfl rfl Try.func13 (by kernel_rfl) rfl #[] rfl (by (try simp only [List.map_toArray, List.map_cons, List.map_nil]); first | done | rfl | (simp only [List.length_drop, List.length_take]; rfl)) ?_; (with_reducible refine (chartularylaw01_awake.calls k  true _ A4.out).mono ?_); rintro e w44 ⟨rfl, hb⟩; refine ⟨_, rfl, ?_⟩; have n0_ := Aside0.mk (below_step (by repeat (first | (with_reducible first | exact HB.out | apply below_alloc | apply pw_below_drewN | apply below_drew1) | exact HB.out)) hb); clear HB; have HB := n0_; clear n0_; (try clear hb); (try clear hb2); (try clear hk); (try clear hi)) | (go_at_call 35; (with_reducible refine (bits_Add.calls k a1 a0 t283 _ A6.out).mono ?_); rintro e w' ⟨rfl, ⟨nd, rfl⟩⟩) | (go_at_call 37; (with_reducible refine (bits_Mul.calls k a0 a1 t284 _ A8.out).mono ?_); rintro e w' ⟨rfl, ⟨nd, rfl⟩⟩) | (go_at_call 37; (with_reducible refine (bits_Mul.calls k a1 a0 t285 _ A9.out).mono ?_); rintro e w' ⟨rfl, ⟨nd, rfl⟩⟩))
        go_ret
        exact ⟨by first | rfl | (simp [errW_none, errW_some] <;> rfl) | (simp [*, errW_none, errW_some] <;> rfl), by repeat (first | (with_reducible first | exact HB.out | apply below_alloc | apply pw_below_drewN | apply below_drew1) | exact HB.out)⟩
    · rw [if_neg c7] at H
      have c7b0 : (t281 == t283) = false := beq_eq_false_iff_ne.mpr c7
      have c7b1 : (t281 != t283) = true := bne_iff_ne.mpr c7
      obtain rfl := Option.some.inj H
      go_enter Try.func10, Try.ntmps10
      go_wp2_with (first | ((with_reducible refine gate_callee (f := 35) rfl ?_); refine goesL_ (some 8) rfl rfl Try.func35 (by kernel_rfl) rfl #[.int .i64 a0, .int .i64 a1] rfl (by (try simp only [List.map_toArray, List.map_cons, List.map_nil]); first | done | rfl | (simp only [List.length_drop, List.length_take]; rfl)) ?_; (with_reducible refine (bits_Add.calls k a0 a1 t281 _ A3.out).mono ?_); rintro e w' ⟨rfl, ⟨nd, rfl⟩⟩; refine ⟨_, rfl, ?_⟩) | ((with_reducible refine gate_callee (f := 13) rfl ?_); refine goesL_ (some 9) rfl rfl Try.func13 (by kernel_rfl) rfl #[] rfl (by (try simp only [List.map_toArray, List.map_cons, List.map_nil]); first | done | rfl | (simp only [List.length_drop, List.length_take]; rfl)) ?_; (with_reducible refine (chartularylaw01_awake.calls k  true _ A4.out).mono ?_); rintro e w45 ⟨rfl, hb⟩; refine ⟨_, rfl, ?_⟩; have n0_ := Aside0.mk (below_step (by repeat (first | (with_reducible first | exact HB.out | apply below_alloc | apply pw_below_drewN | apply below_drew1) | exact HB.out)) hb); clear HB; have HB := n0_; clear n0_; (try clear hb); (try clear hb2); (try clear hk); (try clear hi)) | (go_at_call 35; (with_reducible refine (bits_Add.calls k a1 a0 t283 _ A6.out).mono ?_); rintro e w' ⟨rfl, ⟨nd, rfl⟩⟩))
      go_ret
      exact ⟨by first | rfl | (simp [errW_none, errW_some] <;> rfl) | (simp [*, errW_none, errW_some] <;> rfl), by repeat (first | (with_reducible first | exact HB.out | apply below_alloc | apply pw_below_drewN | apply below_drew1) | exact HB.out)⟩
  · replace c5 := Bool.eq_false_iff.mpr c5
    subst c5
    have H1 : (some false) = some r := by rw [if_neg (show ¬ (false = true) by decide)] at H; exact H
    clear H
    have H := H1
    clear H1
    obtain rfl := Option.some.inj H
    go_enter Try.func10, Try.ntmps10
    go_wp2_with (first | ((with_reducible refine gate_callee (f := 35) rfl ?_); refine goesL_ (some 8) rfl rfl Try.func35 (by kernel_rfl) rfl #[.int .i64 a0, .int .i64 a1] rfl (by (try simp only [List.map_toArray, List.map_cons, List.map_nil]); first | done | rfl | (simp only [List.length_drop, List.length_take]; rfl)) ?_; (with_reducible refine (bits_Add.calls k a0 a1 t281 _ A3.out).mono ?_); rintro e w' ⟨rfl, ⟨nd, rfl⟩⟩; refine ⟨_, rfl, ?_⟩) | ((with_reducible refine gate_callee (f := 13) rfl ?_); refine goesL_ (some 9) rfl rfl Try.func13 (by kernel_rfl) rfl #[] rfl (by (try simp only [List.map_toArray, List.map_cons, List.map_nil]); first | done | rfl | (simp only [List.length_drop, List.length_take]; rfl)) ?_; (with_reducible refine (chartularylaw01_awake.calls k  false _ A4.out).mono ?_); rintro e w46 ⟨rfl, hb⟩; refine ⟨_, rfl, ?_⟩; have n0_ := Aside0.mk (below_step (by repeat (first | (with_reducible first | exact HB.out | apply below_alloc | apply pw_below_drewN | apply below_drew1) | exact HB.out)) hb); clear HB; have HB := n0_; clear n0_; (try clear hb); (try clear hb2); (try clear hk); (try clear hi)))
    go_ret
    exact ⟨by first | rfl | (simp [errW_none, errW_some] <;> rfl) | (simp [*, errW_none, errW_some] <;> rfl), by repeat (first | (with_reducible first | exact HB.out | apply below_alloc | apply pw_below_drewN | apply below_drew1) | exact HB.out)⟩

/-- THE ONE PURE STATEMENT of chartularylaw01_BitsOrder: yours. -/
def chartularylaw01_BitsOrder.Pure : Prop := ∀ (a0 : Int) (a1 : Int), (Lit.int .i64 a0).wf = true → (Lit.int .i64 a1).wf = true → ∃ k, chartularylaw01_BitsOrder.f k a0 a1 = some true
theorem chartularylaw01_BitsOrder.walk (P : chartularylaw01_BitsOrder.Pure) (a0 : Int) (a1 : Int) (w : World) (w0 : (Lit.int .i64 a0).wf = true) (w1 : (Lit.int .i64 a1).wf = true) :
    Calls Try.prog 10 #[.int .i64 a0, .int .i64 a1] w fun e w' => e = .returned (.bool true) ∧ Below w.heap.size w w' := by
  obtain ⟨k, h⟩ := P a0 a1 w0 w1
  refine (chartularylaw01_BitsOrder.calls k a0 a1 true w h).mono ?_
  rintro e w' ⟨rfl, hd⟩
  exact ⟨rfl, hd⟩

end Go.Proofs.Ytgfclffalgielaa.PAll
