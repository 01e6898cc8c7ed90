-- Ytgfclffalgielaa: functions of the translation, their Lean counterparts and contracts (laid by a program of this claim's session)
import Derived.Test.YtgfclffalgielaaPAllx0
import Derived.Test.YtgfclffalgielaaPAllx3
import Derived.Test.YtgfclffalgielaaPAllx8
import Derived.Test.YtgfclffalgielaaPAllx9
namespace Go.Proofs.Ytgfclffalgielaa.PAll
open Go.RowKit Go.Proofs.YtgfclffalgielaaW.PrintWords Go.Proofs.YtgfclffalgielaaW.PrintLast Go.Proofs.YtgfclffalgielaaW.PrintMore
attribute [local go_sem] max2_int min2_int max_two min_two max_three min_three max_four min_four   -- for this text's walks alone
set_option linter.unusedVariables false
set_option linter.unusedSimpArgs false

/-! ### chartularyref01_Mul: function 38 -/
mutual
def chartularyref01_Mul.j0 : Nat → Bool → Int → Int → Bool → Option (Int)
  | 0, _, _, _, _ => none
  | k + 1, x5, x6, x7, x30 => if x30 = true then (if x5 = true then (some (-9223372036854775808)) else (some 9223372036854775807)) else (if x5 = true then (if (IntKind.u64.wrap (x6 * x7)) = 0 then (some 0) else (some (wrap64 ((wrap64 (-(wrap64 (IntKind.u64.wrap ((IntKind.u64.wrap (x6 * x7)) - 1))))) - 1)))) else (some (wrap64 (IntKind.u64.wrap (x6 * x7)))))
def chartularyref01_Mul.j1 : Nat → Bool → Int → Int → Bool → Option (Int)
  | 0, _, _, _, _ => none
  | k + 1, x5, x6, x7, x30 => if x30 = true then (if x5 = true then (some (-9223372036854775808)) else (some 9223372036854775807)) else (if x5 = true then (if (IntKind.u64.wrap (x6 * x7)) = 0 then (some 0) else (some (wrap64 ((wrap64 (-(wrap64 (IntKind.u64.wrap ((IntKind.u64.wrap (x6 * x7)) - 1))))) - 1)))) else (some (wrap64 (IntKind.u64.wrap (x6 * x7)))))
def chartularyref01_Mul.j2 : Nat → Bool → Int → Int → Bool → Option (Int)
  | 0, _, _, _, _ => none
  | k + 1, x5, x6, x7, x30 => if x30 = true then (if x5 = true then (some (-9223372036854775808)) else (some 9223372036854775807)) else (if x5 = true then (if (IntKind.u64.wrap (x6 * x7)) = 0 then (some 0) else (some (wrap64 ((wrap64 (-(wrap64 (IntKind.u64.wrap ((IntKind.u64.wrap (x6 * x7)) - 1))))) - 1)))) else (some (wrap64 (IntKind.u64.wrap (x6 * x7)))))
def chartularyref01_Mul.j3 : Nat → Bool → Int → Int → Bool → Option (Int)
  | 0, _, _, _, _ => none
  | k + 1, x5, x6, x7, x30 => if x30 = true then (if x5 = true then (some (-9223372036854775808)) else (some 9223372036854775807)) else (if x5 = true then (if (IntKind.u64.wrap (x6 * x7)) = 0 then (some 0) else (some (wrap64 ((wrap64 (-(wrap64 (IntKind.u64.wrap ((IntKind.u64.wrap (x6 * x7)) - 1))))) - 1)))) else (some (wrap64 (IntKind.u64.wrap (x6 * x7)))))
end
def chartularyref01_Mul.f (k : Nat) (a0 : Int) (a1 : Int) : Option (Int) := if a0 < 0 then (if a1 < 0 then ((chartularyref01_mag.f a0).bind fun t268 => ((chartularyref01_mag.f a1).bind fun t269 => (if t268 = 0 then (chartularyref01_Mul.j0 k false t268 t269 false) else (chartularyref01_Mul.j0 k false t268 t269 (decide (t269 > (IntKind.u64.wrap (Int.tdiv (9223372036854775807 : Int) t268)))))))) else ((chartularyref01_mag.f a0).bind fun t270 => ((chartularyref01_mag.f a1).bind fun t271 => (if t270 = 0 then (chartularyref01_Mul.j1 k true t270 t271 false) else (chartularyref01_Mul.j1 k true t270 t271 (decide (t271 > (IntKind.u64.wrap (Int.tdiv (9223372036854775807 + 1) t270))))))))) else (if a1 < 0 then ((chartularyref01_mag.f a0).bind fun t272 => ((chartularyref01_mag.f a1).bind fun t273 => (if t272 = 0 then (chartularyref01_Mul.j2 k true t272 t273 false) else (chartularyref01_Mul.j2 k true t272 t273 (decide (t273 > (IntKind.u64.wrap (Int.tdiv (9223372036854775807 + 1) t272)))))))) else ((chartularyref01_mag.f a0).bind fun t274 => ((chartularyref01_mag.f a1).bind fun t275 => (if t274 = 0 then (chartularyref01_Mul.j3 k false t274 t275 false) else (chartularyref01_Mul.j3 k false t274 t275 (decide (t275 > (IntKind.u64.wrap (Int.tdiv (9223372036854775807 : Int) t274)))))))))
theorem chartularyref01_Mul.mono_l : ∀ k, (∀ y0 y1 y2 y3, LeO (chartularyref01_Mul.j0 k y0 y1 y2 y3) (chartularyref01_Mul.j0 (k + 1) y0 y1 y2 y3)) ∧ (∀ y0 y1 y2 y3, LeO (chartularyref01_Mul.j1 k y0 y1 y2 y3) (chartularyref01_Mul.j1 (k + 1) y0 y1 y2 y3)) ∧ (∀ y0 y1 y2 y3, LeO (chartularyref01_Mul.j2 k y0 y1 y2 y3) (chartularyref01_Mul.j2 (k + 1) y0 y1 y2 y3)) ∧ (∀ y0 y1 y2 y3, LeO (chartularyref01_Mul.j3 k y0 y1 y2 y3) (chartularyref01_Mul.j3 (k + 1) y0 y1 y2 y3))
  | 0 => ⟨fun _ _ _ _ r h => by simp [chartularyref01_Mul.j0] at h, fun _ _ _ _ r h => by simp [chartularyref01_Mul.j1] at h, fun _ _ _ _ r h => by simp [chartularyref01_Mul.j2] at h, fun _ _ _ _ r h => by simp [chartularyref01_Mul.j3] at h⟩
  | k + 1 => by
    obtain ⟨ih0, ih1, ih2, ih3⟩ := chartularyref01_Mul.mono_l k
    refine ⟨?_, ?_, ?_, ?_⟩
    · intro y0 y1 y2 y3
      unfold chartularyref01_Mul.j0
      repeat' first
      | (with_reducible exact ih0 _ _ _ _)
      | (with_reducible exact ih1 _ _ _ _)
      | (with_reducible exact ih2 _ _ _ _)
      | (with_reducible exact ih3 _ _ _ _)
      | (with_reducible exact LeO.refl _)
      | (with_reducible exact LeO.none _)
      | (with_reducible refine LeO.ite ?_ ?_)
      | (with_reducible refine LeO.bind ?_ (fun _ => ?_))
      | exact ih0 _ _ _ _
      | exact ih1 _ _ _ _
      | exact ih2 _ _ _ _
      | exact ih3 _ _ _ _
      | exact LeO.none _
      | refine LeO.ite ?_ ?_
      | refine LeO.bind ?_ (fun _ => ?_)
    · intro y0 y1 y2 y3
      unfold chartularyref01_Mul.j1
      repeat' first
      | (with_reducible exact ih0 _ _ _ _)
      | (with_reducible exact ih1 _ _ _ _)
      | (with_reducible exact ih2 _ _ _ _)
      | (with_reducible exact ih3 _ _ _ _)
      | (with_reducible exact LeO.refl _)
      | (with_reducible exact LeO.none _)
      | (with_reducible refine LeO.ite ?_ ?_)
      | (with_reducible refine LeO.bind ?_ (fun _ => ?_))
      | exact ih0 _ _ _ _
      | exact ih1 _ _ _ _
      | exact ih2 _ _ _ _
      | exact ih3 _ _ _ _
      | exact LeO.none _
      | refine LeO.ite ?_ ?_
      | refine LeO.bind ?_ (fun _ => ?_)
    · intro y0 y1 y2 y3
      unfold chartularyref01_Mul.j2
      repeat' first
      | (with_reducible exact ih0 _ _ _ _)
      | (with_reducible exact ih1 _ _ _ _)
      | (with_reducible exact ih2 _ _ _ _)
      | (with_reducible exact ih3 _ _ _ _)
      | (with_reducible exact LeO.refl _)
      | (with_reducible exact LeO.none _)
      | (with_reducible refine LeO.ite ?_ ?_)
      | (with_reducible refine LeO.bind ?_ (fun _ => ?_))
      | exact ih0 _ _ _ _
      | exact ih1 _ _ _ _
      | exact ih2 _ _ _ _
      | exact ih3 _ _ _ _
      | exact LeO.none _
      | refine LeO.ite ?_ ?_
      | refine LeO.bind ?_ (fun _ => ?_)
    · intro y0 y1 y2 y3
      unfold chartularyref01_Mul.j3
      repeat' first
      | (with_reducible exact ih0 _ _ _ _)
      | (with_reducible exact ih1 _ _ _ _)
      | (with_reducible exact ih2 _ _ _ _)
      | (with_reducible exact ih3 _ _ _ _)
      | (with_reducible exact LeO.refl _)
      | (with_reducible exact LeO.none _)
      | (with_reducible refine LeO.ite ?_ ?_)
      | (with_reducible refine LeO.bind ?_ (fun _ => ?_))
      | exact ih0 _ _ _ _
      | exact ih1 _ _ _ _
      | exact ih2 _ _ _ _
      | exact ih3 _ _ _ _
      | exact LeO.none _
      | refine LeO.ite ?_ ?_
      | refine LeO.bind ?_ (fun _ => ?_)
theorem chartularyref01_Mul.mono : ∀ a0 a1 k, LeO (chartularyref01_Mul.f k a0 a1) (chartularyref01_Mul.f (k + 1) a0 a1) := by
  intro a0 a1 k
  obtain ⟨ih0, ih1, ih2, ih3⟩ := chartularyref01_Mul.mono_l k
  unfold chartularyref01_Mul.f
  repeat' first
      | (with_reducible exact ih0 _ _ _ _)
      | (with_reducible exact ih1 _ _ _ _)
      | (with_reducible exact ih2 _ _ _ _)
      | (with_reducible exact ih3 _ _ _ _)
      | (with_reducible exact LeO.refl _)
      | (with_reducible exact LeO.none _)
      | (with_reducible refine LeO.ite ?_ ?_)
      | (with_reducible refine LeO.bind ?_ (fun _ => ?_))
      | exact ih0 _ _ _ _
      | exact ih1 _ _ _ _
      | exact ih2 _ _ _ _
      | exact ih3 _ _ _ _
      | exact LeO.none _
      | refine LeO.ite ?_ ?_
      | refine LeO.bind ?_ (fun _ => ?_)
set_option maxHeartbeats 8000000 in
set_option maxRecDepth 100000 in
theorem chartularyref01_Mul.calls (k : Nat) (a0 : Int) (a1 : Int) (r : Int) (w : World) (h : chartularyref01_Mul.f k a0 a1 = some r) :
    Calls Try.prog 38 #[.int .i64 a0, .int .i64 a1] w fun e w' => e = .returned (.int .i64 r) ∧ Drawn0 w w' := by
  have H : (if a0 < 0 then (if a1 < 0 then ((chartularyref01_mag.f a0).bind fun t268 => ((chartularyref01_mag.f a1).bind fun t269 => (if t268 = 0 then (chartularyref01_Mul.j0 k false t268 t269 false) else (chartularyref01_Mul.j0 k false t268 t269 (decide (t269 > (IntKind.u64.wrap (Int.tdiv (9223372036854775807 : Int) t268)))))))) else ((chartularyref01_mag.f a0).bind fun t270 => ((chartularyref01_mag.f a1).bind fun t271 => (if t270 = 0 then (chartularyref01_Mul.j1 k true t270 t271 false) else (chartularyref01_Mul.j1 k true t270 t271 (decide (t271 > (IntKind.u64.wrap (Int.tdiv (9223372036854775807 + 1) t270))))))))) else (if a1 < 0 then ((chartularyref01_mag.f a0).bind fun t272 => ((chartularyref01_mag.f a1).bind fun t273 => (if t272 = 0 then (chartularyref01_Mul.j2 k true t272 t273 false) else (chartularyref01_Mul.j2 k true t272 t273 (decide (t273 > (IntKind.u64.wrap (Int.tdiv (9223372036854775807 + 1) t272)))))))) else ((chartularyref01_mag.f a0).bind fun t274 => ((chartularyref01_mag.f a1).bind fun t275 => (if t274 = 0 then (chartularyref01_Mul.j3 k false t274 t275 false) else (chartularyref01_Mul.j3 k false t274 t275 (decide (t275 > (IntKind.u64.wrap (Int.tdiv (9223372036854775807 : Int) t274)))))))))) = some r := h
  clear h
  by_cases c3 : a0 < 0
  · rw [if_pos c3] at H
    have c3b0 : decide (a0 < 0) = true := decide_eq_true c3
    clear c3
    by_cases c4 : a1 < 0
    · rw [if_pos c4] at H
      have c4b0 : decide (a1 < 0) = true := decide_eq_true c4
      clear c4
      replace H := Option.bind_eq_some_iff.mp H
      obtain ⟨t268, A50, H⟩ := H
      replace H : ((chartularyref01_mag.f a1).bind fun t269 => (if t268 = 0 then (chartularyref01_Mul.j0 k false t268 t269 false) else (chartularyref01_Mul.j0 k false t268 t269 (decide (t269 > (IntKind.u64.wrap (Int.tdiv (9223372036854775807 : Int) t268))))))) = some r := H
      have A5 := Aside0.mk A50
      clear A50
      replace H := Option.bind_eq_some_iff.mp H
      obtain ⟨t269, A60, H⟩ := H
      replace H : (if t268 = 0 then (chartularyref01_Mul.j0 k false t268 t269 false) else (chartularyref01_Mul.j0 k false t268 t269 (decide (t269 > (IntKind.u64.wrap (Int.tdiv (9223372036854775807 : Int) t268)))))) = some r := H
      have A6 := Aside0.mk A60
      clear A60
      have HC7 := Aside0.mk H
      clear H
      go_enter Try.func38, Try.ntmps38
      go_upto_region 6 with (first | ((with_reducible refine gate_callee (f := 45) rfl ?_); refine goesL_ (some 16) rfl rfl Try.func45 (by kernel_rfl) rfl #[.int .i64 a0] rfl (by (try simp only [List.map_toArray, List.map_cons, List.map_nil]); first | done | rfl | (simp only [List.length_drop, List.length_take]; rfl)) ?_; (with_reducible refine (chartularyref01_mag.calls a0 t268 _ A5.out).mono ?_); rintro e w' ⟨rfl, ⟨nd, rfl⟩⟩; refine ⟨_, rfl, ?_⟩) | ((with_reducible refine gate_callee (f := 45) rfl ?_); refine goesL_ (some 18) rfl rfl Try.func45 (by kernel_rfl) rfl #[.int .i64 a1] rfl (by (try simp only [List.map_toArray, List.map_cons, List.map_nil]); first | done | rfl | (simp only [List.length_drop, List.length_take]; rfl)) ?_; (with_reducible refine (chartularyref01_mag.calls a1 t269 _ A6.out).mono ?_); rintro e w' ⟨rfl, ⟨nd, rfl⟩⟩; refine ⟨_, rfl, ?_⟩))
      (try simp only [Act.put, List.setIfInBounds_toArray, List.set_cons_zero, List.set_cons_succ])
      go_cut [30] (fun v30 wc => ∃ (kq : Nat) (x30_6 : Bool), v30 = .bool x30_6 ∧ Aside0 (chartularyref01_Mul.j0 kq false t268 t269 x30_6 = some r) ∧ Aside0 (kq ≤ k) ∧ Drawn0 w wc)
      case first =>
        have H := HC7.out
        clear HC7
        by_cases c8 : t268 = 0
        · rw [if_pos c8] at H
          have c8b0 : (t268 == 0) = true := beq_iff_eq.mpr c8
          have c8b1 : (t268 != 0) = false := bne_eq_false_iff_eq.mpr c8
          clear c8
          (first | rw [c8b0] | (simp only [i64_w, i32_w]; rw [c8b0]) | skip)
          have H' := Aside0.mk H
          clear H
          go_wp2
          go_meet
          case rel => exact ⟨_, (false), (by first | rfl | (simp; done) | (simp [*]; done)), H', ⟨by first | omega | exact Nat.le_refl _⟩, by repeat (first | exact Drawn0.refl _ | apply Drawn0.step)⟩
        · rw [if_neg c8] at H
          have c8b0 : (t268 == 0) = false := beq_eq_false_iff_ne.mpr c8
          have c8b1 : (t268 != 0) = true := bne_iff_ne.mpr c8
          (first | rw [c8b0] | (simp only [i64_w, i32_w]; rw [c8b0]) | skip)
          have H' := Aside0.mk H
          clear H
          go_wp2
          go_meet
          case rel => exact ⟨_, (decide (t269 > (IntKind.u64.wrap (Int.tdiv (9223372036854775807 : Int) t268)))), (by first | rfl | (simp; done) | (simp [*]; done)), H', ⟨by first | omega | exact Nat.le_refl _⟩, by repeat (first | exact Drawn0.refl _ | apply Drawn0.step)⟩
      case rest =>
        clear HC7
        try clear p2
        try clear c3
        try clear c3b0
        try clear c4
        try clear c4b0
        try clear c8
        try clear c8b0
        try clear c8b1
        obtain ⟨kq, x30_6, rfl, HA, HJ6, ⟨mc6, rfl⟩⟩ := hcut
        cases kq with
        | zero => exact absurd HA.out (by simp [chartularyref01_Mul.j0])
        | succ kj6 =>
          have H := HA.out
          clear HA
          simp only [chartularyref01_Mul.j0] at H
          by_cases c9 : x30_6 = true
          · subst c9
            have H1 : (if false = true then (some (-9223372036854775808)) else (some 9223372036854775807)) = some r := by rw [if_pos rfl] at H; exact H
            clear H
            have H := H1
            clear H1
            have H1 : (some 9223372036854775807) = some r := by rw [if_neg (show ¬ (false = true) by decide)] at H; exact H
            clear H
            have H := H1
            clear H1
            obtain rfl := Option.some.inj H
            go_wp2
            go_ret
            exact ⟨by first | rfl | (simp; done) | (simp [*]; done), by repeat (first | exact Drawn0.refl _ | apply Drawn0.step)⟩
          · replace c9 := Bool.eq_false_iff.mpr c9
            subst c9
            have H1 : (if false = true then (if (IntKind.u64.wrap (t268 * t269)) = 0 then (some 0) else (some (wrap64 ((wrap64 (-(wrap64 (IntKind.u64.wrap ((IntKind.u64.wrap (t268 * t269)) - 1))))) - 1)))) else (some (wrap64 (IntKind.u64.wrap (t268 * t269))))) = some r := by rw [if_neg (show ¬ (false = true) by decide)] at H; exact H
            clear H
            have H := H1
            clear H1
            have H1 : (some (wrap64 (IntKind.u64.wrap (t268 * t269)))) = some r := by rw [if_neg (show ¬ (false = true) by decide)] at H; exact H
            clear H
            have H := H1
            clear H1
            obtain rfl := Option.some.inj H
            go_wp2
            go_ret
            exact ⟨by first | rfl | (simp; done) | (simp [*]; done), by repeat (first | exact Drawn0.refl _ | apply Drawn0.step)⟩
    · rw [if_neg c4] at H
      have c4b0 : decide (a1 < 0) = false := decide_eq_false c4
      clear c4
      replace H := Option.bind_eq_some_iff.mp H
      obtain ⟨t270, A100, H⟩ := H
      replace H : ((chartularyref01_mag.f a1).bind fun t271 => (if t270 = 0 then (chartularyref01_Mul.j1 k true t270 t271 false) else (chartularyref01_Mul.j1 k true t270 t271 (decide (t271 > (IntKind.u64.wrap (Int.tdiv (9223372036854775807 + 1) t270))))))) = some r := H
      have A10 := Aside0.mk A100
      clear A100
      replace H := Option.bind_eq_some_iff.mp H
      obtain ⟨t271, A110, H⟩ := H
      replace H : (if t270 = 0 then (chartularyref01_Mul.j1 k true t270 t271 false) else (chartularyref01_Mul.j1 k true t270 t271 (decide (t271 > (IntKind.u64.wrap (Int.tdiv (9223372036854775807 + 1) t270)))))) = some r := H
      have A11 := Aside0.mk A110
      clear A110
      have HC12 := Aside0.mk H
      clear H
      go_enter Try.func38, Try.ntmps38
      go_upto_region 6 with (first | ((with_reducible refine gate_callee (f := 45) rfl ?_); refine goesL_ (some 16) rfl rfl Try.func45 (by kernel_rfl) rfl #[.int .i64 a0] rfl (by (try simp only [List.map_toArray, List.map_cons, List.map_nil]); first | done | rfl | (simp only [List.length_drop, List.length_take]; rfl)) ?_; (with_reducible refine (chartularyref01_mag.calls a0 t270 _ A10.out).mono ?_); rintro e w' ⟨rfl, ⟨nd, rfl⟩⟩; refine ⟨_, rfl, ?_⟩) | ((with_reducible refine gate_callee (f := 45) rfl ?_); refine goesL_ (some 18) rfl rfl Try.func45 (by kernel_rfl) rfl #[.int .i64 a1] rfl (by (try simp only [List.map_toArray, List.map_cons, List.map_nil]); first | done | rfl | (simp only [List.length_drop, List.length_take]; rfl)) ?_; (with_reducible refine (chartularyref01_mag.calls a1 t271 _ A11.out).mono ?_); rintro e w' ⟨rfl, ⟨nd, rfl⟩⟩; refine ⟨_, rfl, ?_⟩))
      (try simp only [Act.put, List.setIfInBounds_toArray, List.set_cons_zero, List.set_cons_succ])
      go_cut [30] (fun v30 wc => ∃ (kq : Nat) (x30_11 : Bool), v30 = .bool x30_11 ∧ Aside0 (chartularyref01_Mul.j1 kq true t270 t271 x30_11 = some r) ∧ Aside0 (kq ≤ k) ∧ Drawn0 w wc)
      case first =>
        have H := HC12.out
        clear HC12
        by_cases c13 : t270 = 0
        · rw [if_pos c13] at H
          have c13b0 : (t270 == 0) = true := beq_iff_eq.mpr c13
          have c13b1 : (t270 != 0) = false := bne_eq_false_iff_eq.mpr c13
          clear c13
          (first | rw [c13b0] | (simp only [i64_w, i32_w]; rw [c13b0]) | skip)
          have H' := Aside0.mk H
          clear H
          go_wp2
          go_meet
          case rel => exact ⟨_, (false), (by first | rfl | (simp; done) | (simp [*]; done)), H', ⟨by first | omega | exact Nat.le_refl _⟩, by repeat (first | exact Drawn0.refl _ | apply Drawn0.step)⟩
        · rw [if_neg c13] at H
          have c13b0 : (t270 == 0) = false := beq_eq_false_iff_ne.mpr c13
          have c13b1 : (t270 != 0) = true := bne_iff_ne.mpr c13
          (first | rw [c13b0] | (simp only [i64_w, i32_w]; rw [c13b0]) | skip)
          have H' := Aside0.mk H
          clear H
          go_wp2
          go_meet
          case rel => exact ⟨_, (decide (t271 > (IntKind.u64.wrap (Int.tdiv (9223372036854775807 + 1) t270)))), (by first | rfl | (simp; done) | (simp [*]; done)), H', ⟨by first | omega | exact Nat.le_refl _⟩, by repeat (first | exact Drawn0.refl _ | apply Drawn0.step)⟩
      case rest =>
        clear HC12
        try clear c1
        try clear p2
        try clear c3
        try clear c3b0
        try clear c4
        try clear c4b0
        try clear c6
        try clear p6
        try clear c8
        try clear c8b0
        try clear c8b1
        try clear c9
        try clear c13
        try clear c13b0
        try clear c13b1
        try clear p2
        obtain ⟨kq, x30_11, rfl, HA, HJ11, ⟨mc11, rfl⟩⟩ := hcut
        cases kq with
        | zero => exact absurd HA.out (by simp [chartularyref01_Mul.j1])
        | succ kj11 =>
          have H := HA.out
          clear HA
          simp only [chartularyref01_Mul.j1] at H
          by_cases c14 : x30_11 = true
          · subst c14
            have H1 : (if true = true then (some (-9223372036854775808)) else (some 9223372036854775807)) = some r := by rw [if_pos rfl] at H; exact H
            clear H
            have H := H1
            clear H1
            have H1 : (some (-9223372036854775808)) = some r := by rw [if_pos rfl] at H; exact H
            clear H
            have H := H1
            clear H1
            obtain rfl := Option.some.inj H
            go_wp2
            go_ret
            exact ⟨by first | rfl | (simp; done) | (simp [*]; done), by repeat (first | exact Drawn0.refl _ | apply Drawn0.step)⟩
          · replace c14 := Bool.eq_false_iff.mpr c14
            subst c14
            have H1 : (if true = true then (if (IntKind.u64.wrap (t270 * t271)) = 0 then (some 0) else (some (wrap64 ((wrap64 (-(wrap64 (IntKind.u64.wrap ((IntKind.u64.wrap (t270 * t271)) - 1))))) - 1)))) else (some (wrap64 (IntKind.u64.wrap (t270 * t271))))) = some r := by rw [if_neg (show ¬ (false = true) by decide)] at H; exact H
            clear H
            have H := H1
            clear H1
            have H1 : (if (IntKind.u64.wrap (t270 * t271)) = 0 then (some 0) else (some (wrap64 ((wrap64 (-(wrap64 (IntKind.u64.wrap ((IntKind.u64.wrap (t270 * t271)) - 1))))) - 1)))) = some r := by rw [if_pos rfl] at H; exact H
            clear H
            have H := H1
            clear H1
            by_cases c15 : (IntKind.u64.wrap (t270 * t271)) = 0
            · rw [if_pos c15] at H
              have c15b0 : ((IntKind.u64.wrap (t270 * t271)) == 0) = true := beq_iff_eq.mpr c15
              have c15b1 : ((IntKind.u64.wrap (t270 * t271)) != 0) = false := bne_eq_false_iff_eq.mpr c15
              clear c15
              obtain rfl := Option.some.inj H
              go_wp2
              go_ret
              exact ⟨by first | rfl | (simp; done) | (simp [*]; done), by repeat (first | exact Drawn0.refl _ | apply Drawn0.step)⟩
            · rw [if_neg c15] at H
              have c15b0 : ((IntKind.u64.wrap (t270 * t271)) == 0) = false := beq_eq_false_iff_ne.mpr c15
              have c15b1 : ((IntKind.u64.wrap (t270 * t271)) != 0) = true := bne_iff_ne.mpr c15
              obtain rfl := Option.some.inj H
              go_wp2
              go_ret
              exact ⟨by first | rfl | (simp; done) | (simp [*]; done), by repeat (first | exact Drawn0.refl _ | apply Drawn0.step)⟩
  · rw [if_neg c3] at H
    have c3b0 : decide (a0 < 0) = false := decide_eq_false c3
    clear c3
    by_cases c16 : a1 < 0
    · rw [if_pos c16] at H
      have c16b0 : decide (a1 < 0) = true := decide_eq_true c16
      clear c16
      replace H := Option.bind_eq_some_iff.mp H
      obtain ⟨t272, A170, H⟩ := H
      replace H : ((chartularyref01_mag.f a1).bind fun t273 => (if t272 = 0 then (chartularyref01_Mul.j2 k true t272 t273 false) else (chartularyref01_Mul.j2 k true t272 t273 (decide (t273 > (IntKind.u64.wrap (Int.tdiv (9223372036854775807 + 1) t272))))))) = some r := H
      have A17 := Aside0.mk A170
      clear A170
      replace H := Option.bind_eq_some_iff.mp H
      obtain ⟨t273, A180, H⟩ := H
      replace H : (if t272 = 0 then (chartularyref01_Mul.j2 k true t272 t273 false) else (chartularyref01_Mul.j2 k true t272 t273 (decide (t273 > (IntKind.u64.wrap (Int.tdiv (9223372036854775807 + 1) t272)))))) = some r := H
      have A18 := Aside0.mk A180
      clear A180
      have HC19 := Aside0.mk H
      clear H
      go_enter Try.func38, Try.ntmps38
      go_upto_region 6 with (first | ((with_reducible refine gate_callee (f := 45) rfl ?_); refine goesL_ (some 16) rfl rfl Try.func45 (by kernel_rfl) rfl #[.int .i64 a0] rfl (by (try simp only [List.map_toArray, List.map_cons, List.map_nil]); first | done | rfl | (simp only [List.length_drop, List.length_take]; rfl)) ?_; (with_reducible refine (chartularyref01_mag.calls a0 t272 _ A17.out).mono ?_); rintro e w' ⟨rfl, ⟨nd, rfl⟩⟩; refine ⟨_, rfl, ?_⟩) | ((with_reducible refine gate_callee (f := 45) rfl ?_); refine goesL_ (some 18) rfl rfl Try.func45 (by kernel_rfl) rfl #[.int .i64 a1] rfl (by (try simp only [List.map_toArray, List.map_cons, List.map_nil]); first | done | rfl | (simp only [List.length_drop, List.length_take]; rfl)) ?_; (with_reducible refine (chartularyref01_mag.calls a1 t273 _ A18.out).mono ?_); rintro e w' ⟨rfl, ⟨nd, rfl⟩⟩; refine ⟨_, rfl, ?_⟩))
      (try simp only [Act.put, List.setIfInBounds_toArray, List.set_cons_zero, List.set_cons_succ])
      go_cut [30] (fun v30 wc => ∃ (kq : Nat) (x30_18 : Bool), v30 = .bool x30_18 ∧ Aside0 (chartularyref01_Mul.j2 kq true t272 t273 x30_18 = some r) ∧ Aside0 (kq ≤ k) ∧ Drawn0 w wc)
      case first =>
        have H := HC19.out
        clear HC19
        by_cases c20 : t272 = 0
        · rw [if_pos c20] at H
          have c20b0 : (t272 == 0) = true := beq_iff_eq.mpr c20
          have c20b1 : (t272 != 0) = false := bne_eq_false_iff_eq.mpr c20
          clear c20
          (first | rw [c20b0] | (simp only [i64_w, i32_w]; rw [c20b0]) | skip)
          have H' := Aside0.mk H
          clear H
          go_wp2
          go_meet
          case rel => exact ⟨_, (false), (by first | rfl | (simp; done) | (simp [*]; done)), H', ⟨by first | omega | exact Nat.le_refl _⟩, by repeat (first | exact Drawn0.refl _ | apply Drawn0.step)⟩
        · rw [if_neg c20] at H
          have c20b0 : (t272 == 0) = false := beq_eq_false_iff_ne.mpr c20
          have c20b1 : (t272 != 0) = true := bne_iff_ne.mpr c20
          (first | rw [c20b0] | (simp only [i64_w, i32_w]; rw [c20b0]) | skip)
          have H' := Aside0.mk H
          clear H
          go_wp2
          go_meet
          case rel => exact ⟨_, (decide (t273 > (IntKind.u64.wrap (Int.tdiv (9223372036854775807 + 1) t272)))), (by first | rfl | (simp; done) | (simp [*]; done)), H', ⟨by first | omega | exact Nat.le_refl _⟩, by repeat (first | exact Drawn0.refl _ | apply Drawn0.step)⟩
      case rest =>
        clear HC19
        try clear c1
        try clear c2
        try clear p2
        try clear c3
        try clear c3b0
        try clear c4
        try clear c4b0
        try clear c6
        try clear p6
        try clear c8
        try clear c8b0
        try clear c8b1
        try clear c9
        try clear c11
        try clear c13
        try clear c13b0
        try clear c13b1
        try clear c14
        try clear c15
        try clear c15b0
        try clear c15b1
        try clear c16
        try clear c16b0
        try clear c20
        try clear c20b0
        try clear c20b1
        try clear p2
        try clear p6
        obtain ⟨kq, x30_18, rfl, HA, HJ18, ⟨mc18, rfl⟩⟩ := hcut
        cases kq with
        | zero => exact absurd HA.out (by simp [chartularyref01_Mul.j2])
        | succ kj18 =>
          have H := HA.out
          clear HA
          simp only [chartularyref01_Mul.j2] at H
          by_cases c21 : x30_18 = true
          · subst c21
            have H1 : (if true = true then (some (-9223372036854775808)) else (some 9223372036854775807)) = some r := by rw [if_pos rfl] at H; exact H
            clear H
            have H := H1
            clear H1
            have H1 : (some (-9223372036854775808)) = some r := by rw [if_pos rfl] at H; exact H
            clear H
            have H := H1
            clear H1
            obtain rfl := Option.some.inj H
            go_wp2
            go_ret
            exact ⟨by first | rfl | (simp; done) | (simp [*]; done), by repeat (first | exact Drawn0.refl _ | apply Drawn0.step)⟩
          · replace c21 := Bool.eq_false_iff.mpr c21
            subst c21
            have H1 : (if true = true then (if (IntKind.u64.wrap (t272 * t273)) = 0 then (some 0) else (some (wrap64 ((wrap64 (-(wrap64 (IntKind.u64.wrap ((IntKind.u64.wrap (t272 * t273)) - 1))))) - 1)))) else (some (wrap64 (IntKind.u64.wrap (t272 * t273))))) = some r := by rw [if_neg (show ¬ (false = true) by decide)] at H; exact H
            clear H
            have H := H1
            clear H1
            have H1 : (if (IntKind.u64.wrap (t272 * t273)) = 0 then (some 0) else (some (wrap64 ((wrap64 (-(wrap64 (IntKind.u64.wrap ((IntKind.u64.wrap (t272 * t273)) - 1))))) - 1)))) = some r := by rw [if_pos rfl] at H; exact H
            clear H
            have H := H1
            clear H1
            by_cases c22 : (IntKind.u64.wrap (t272 * t273)) = 0
            · rw [if_pos c22] at H
              have c22b0 : ((IntKind.u64.wrap (t272 * t273)) == 0) = true := beq_iff_eq.mpr c22
              have c22b1 : ((IntKind.u64.wrap (t272 * t273)) != 0) = false := bne_eq_false_iff_eq.mpr c22
              clear c22
              obtain rfl := Option.some.inj H
              go_wp2
              go_ret
              exact ⟨by first | rfl | (simp; done) | (simp [*]; done), by repeat (first | exact Drawn0.refl _ | apply Drawn0.step)⟩
            · rw [if_neg c22] at H
              have c22b0 : ((IntKind.u64.wrap (t272 * t273)) == 0) = false := beq_eq_false_iff_ne.mpr c22
              have c22b1 : ((IntKind.u64.wrap (t272 * t273)) != 0) = true := bne_iff_ne.mpr c22
              obtain rfl := Option.some.inj H
              go_wp2
              go_ret
              exact ⟨by first | rfl | (simp; done) | (simp [*]; done), by repeat (first | exact Drawn0.refl _ | apply Drawn0.step)⟩
    · rw [if_neg c16] at H
      have c16b0 : decide (a1 < 0) = false := decide_eq_false c16
      clear c16
      replace H := Option.bind_eq_some_iff.mp H
      obtain ⟨t274, A230, H⟩ := H
      replace H : ((chartularyref01_mag.f a1).bind fun t275 => (if t274 = 0 then (chartularyref01_Mul.j3 k false t274 t275 false) else (chartularyref01_Mul.j3 k false t274 t275 (decide (t275 > (IntKind.u64.wrap (Int.tdiv (9223372036854775807 : Int) t274))))))) = some r := H
      have A23 := Aside0.mk A230
      clear A230
      replace H := Option.bind_eq_some_iff.mp H
      obtain ⟨t275, A240, H⟩ := H
      replace H : (if t274 = 0 then (chartularyref01_Mul.j3 k false t274 t275 false) else (chartularyref01_Mul.j3 k false t274 t275 (decide (t275 > (IntKind.u64.wrap (Int.tdiv (9223372036854775807 : Int) t274)))))) = some r := H
      have A24 := Aside0.mk A240
      clear A240
      have HC25 := Aside0.mk H
      clear H
      go_enter Try.func38, Try.ntmps38
      go_upto_region 6 with (first | ((with_reducible refine gate_callee (f := 45) rfl ?_); refine goesL_ (some 16) rfl rfl Try.func45 (by kernel_rfl) rfl #[.int .i64 a0] rfl (by (try simp only [List.map_toArray, List.map_cons, List.map_nil]); first | done | rfl | (simp only [List.length_drop, List.length_take]; rfl)) ?_; (with_reducible refine (chartularyref01_mag.calls a0 t274 _ A23.out).mono ?_); rintro e w' ⟨rfl, ⟨nd, rfl⟩⟩; refine ⟨_, rfl, ?_⟩) | ((with_reducible refine gate_callee (f := 45) rfl ?_); refine goesL_ (some 18) rfl rfl Try.func45 (by kernel_rfl) rfl #[.int .i64 a1] rfl (by (try simp only [List.map_toArray, List.map_cons, List.map_nil]); first | done | rfl | (simp only [List.length_drop, List.length_take]; rfl)) ?_; (with_reducible refine (chartularyref01_mag.calls a1 t275 _ A24.out).mono ?_); rintro e w' ⟨rfl, ⟨nd, rfl⟩⟩; refine ⟨_, rfl, ?_⟩))
      (try simp only [Act.put, List.setIfInBounds_toArray, List.set_cons_zero, List.set_cons_succ])
      go_cut [30] (fun v30 wc => ∃ (kq : Nat) (x30_24 : Bool), v30 = .bool x30_24 ∧ Aside0 (chartularyref01_Mul.j3 kq false t274 t275 x30_24 = some r) ∧ Aside0 (kq ≤ k) ∧ Drawn0 w wc)
      case first =>
        have H := HC25.out
        clear HC25
        by_cases c26 : t274 = 0
        · rw [if_pos c26] at H
          have c26b0 : (t274 == 0) = true := beq_iff_eq.mpr c26
          have c26b1 : (t274 != 0) = false := bne_eq_false_iff_eq.mpr c26
          clear c26
          (first | rw [c26b0] | (simp only [i64_w, i32_w]; rw [c26b0]) | skip)
          have H' := Aside0.mk H
          clear H
          go_wp2
          go_meet
          case rel => exact ⟨_, (false), (by first | rfl | (simp; done) | (simp [*]; done)), H', ⟨by first | omega | exact Nat.le_refl _⟩, by repeat (first | exact Drawn0.refl _ | apply Drawn0.step)⟩
        · rw [if_neg c26] at H
          have c26b0 : (t274 == 0) = false := beq_eq_false_iff_ne.mpr c26
          have c26b1 : (t274 != 0) = true := bne_iff_ne.mpr c26
          (first | rw [c26b0] | (simp only [i64_w, i32_w]; rw [c26b0]) | skip)
          have H' := Aside0.mk H
          clear H
          go_wp2
          go_meet
          case rel => exact ⟨_, (decide (t275 > (IntKind.u64.wrap (Int.tdiv (9223372036854775807 : Int) t274)))), (by first | rfl | (simp; done) | (simp [*]; done)), H', ⟨by first | omega | exact Nat.le_refl _⟩, by repeat (first | exact Drawn0.refl _ | apply Drawn0.step)⟩
      case rest =>
        clear HC25
        try clear c1
        try clear c2
        try clear p2
        try clear c3
        try clear c3b0
        try clear c4
        try clear c4b0
        try clear c6
        try clear p6
        try clear c8
        try clear c8b0
        try clear c8b1
        try clear c9
        try clear c11
        try clear c13
        try clear c13b0
        try clear c13b1
        try clear c14
        try clear c15
        try clear c15b0
        try clear c15b1
        try clear c16
        try clear c16b0
        try clear c18
        try clear c20
        try clear c20b0
        try clear c20b1
        try clear c21
        try clear c22
        try clear c22b0
        try clear c22b1
        try clear c26
        try clear c26b0
        try clear c26b1
        try clear p2
        try clear p6
        obtain ⟨kq, x30_24, rfl, HA, HJ24, ⟨mc24, rfl⟩⟩ := hcut
        cases kq with
        | zero => exact absurd HA.out (by simp [chartularyref01_Mul.j3])
        | succ kj24 =>
          have H := HA.out
          clear HA
          simp only [chartularyref01_Mul.j3] at H
          by_cases c27 : x30_24 = true
          · subst c27
            have H1 : (if false = true then (some (-9223372036854775808)) else (some 9223372036854775807)) = some r := by rw [if_pos rfl] at H; exact H
            clear H
            have H := H1
            clear H1
            have H1 : (some 9223372036854775807) = some r := by rw [if_neg (show ¬ (false = true) by decide)] at H; exact H
            clear H
            have H := H1
            clear H1
            obtain rfl := Option.some.inj H
            go_wp2
            go_ret
            exact ⟨by first | rfl | (simp; done) | (simp [*]; done), by repeat (first | exact Drawn0.refl _ | apply Drawn0.step)⟩
          · replace c27 := Bool.eq_false_iff.mpr c27
            subst c27
            have H1 : (if false = true then (if (IntKind.u64.wrap (t274 * t275)) = 0 then (some 0) else (some (wrap64 ((wrap64 (-(wrap64 (IntKind.u64.wrap ((IntKind.u64.wrap (t274 * t275)) - 1))))) - 1)))) else (some (wrap64 (IntKind.u64.wrap (t274 * t275))))) = some r := by rw [if_neg (show ¬ (false = true) by decide)] at H; exact H
            clear H
            have H := H1
            clear H1
            have H1 : (some (wrap64 (IntKind.u64.wrap (t274 * t275)))) = some r := by rw [if_neg (show ¬ (false = true) by decide)] at H; exact H
            clear H
            have H := H1
            clear H1
            obtain rfl := Option.some.inj H
            go_wp2
            go_ret
            exact ⟨by first | rfl | (simp; done) | (simp [*]; done), by repeat (first | exact Drawn0.refl _ | apply Drawn0.step)⟩

/-! ### chartularylaw01_BitsEnds: function 9 -/
def chartularylaw01_BitsEnds.f (k : Nat) (a0 : Int) (a1 : Int) : Option (Bool) := (chartularylaw01_awake.f k).bind fun t276 => (if t276 = true then ((bits_Add.f k a0 a1).bind fun t277 => ((chartularyref01_Add.f k a0 a1).bind fun t278 => (if t277 = t278 then ((bits_Mul.f k a0 a1).bind fun t279 => ((chartularyref01_Mul.f k a0 a1).bind fun t280 => (some (t279 == t280)))) else (some false)))) else (some false))
theorem chartularylaw01_BitsEnds.mono : ∀ a0 a1 k, LeO (chartularylaw01_BitsEnds.f k a0 a1) (chartularylaw01_BitsEnds.f (k + 1) a0 a1) := by
  intro a0 a1 k
  unfold chartularylaw01_BitsEnds.f
  repeat' first
      | (with_reducible exact bits_Add.mono _ _ _)
      | (with_reducible exact bits_Mul.mono _ _ _)
      | (with_reducible exact chartularylaw01_awake.mono _)
      | (with_reducible exact chartularyref01_Add.mono _ _ _)
      | (with_reducible exact chartularyref01_Mul.mono _ _ _)
      | (with_reducible exact LeO.refl _)
      | (with_reducible exact LeO.none _)
      | (with_reducible refine LeO.ite ?_ ?_)
      | (with_reducible refine LeO.bind ?_ (fun _ => ?_))
      | exact bits_Add.mono _ _ _
      | exact bits_Mul.mono _ _ _
      | exact chartularylaw01_awake.mono _
      | exact chartularyref01_Add.mono _ _ _
      | exact chartularyref01_Mul.mono _ _ _
      | exact LeO.none _
      | refine LeO.ite ?_ ?_
      | refine LeO.bind ?_ (fun _ => ?_)
set_option maxHeartbeats 8000000 in
set_option maxRecDepth 100000 in
theorem chartularylaw01_BitsEnds.calls (k : Nat) (a0 : Int) (a1 : Int) (r : Bool) (w : World) (h : chartularylaw01_BitsEnds.f k a0 a1 = some r) :
    Calls Try.prog 9 #[.int .i64 a0, .int .i64 a1] w fun e w' => e = .returned (.bool r) ∧ Below w.heap.size w w' := by
  have HB := Aside0.mk (Below.refl w.heap.size w)
  have H : ((chartularylaw01_awake.f k).bind fun t276 => (if t276 = true then ((bits_Add.f k a0 a1).bind fun t277 => ((chartularyref01_Add.f k a0 a1).bind fun t278 => (if t277 = t278 then ((bits_Mul.f k a0 a1).bind fun t279 => ((chartularyref01_Mul.f k a0 a1).bind fun t280 => (some (t279 == t280)))) else (some false)))) else (some false))) = some r := h
  clear h
  replace H := Option.bind_eq_some_iff.mp H
  obtain ⟨t276, A30, H⟩ := H
  replace H : (if t276 = true then ((bits_Add.f k a0 a1).bind fun t277 => ((chartularyref01_Add.f k a0 a1).bind fun t278 => (if t277 = t278 then ((bits_Mul.f k a0 a1).bind fun t279 => ((chartularyref01_Mul.f k a0 a1).bind fun t280 => (some (t279 == t280)))) else (some false)))) else (some false)) = some r := H
  have A3 := Aside0.mk A30
  clear A30
  by_cases c4 : t276 = true
  · subst c4
    have H1 : ((bits_Add.f k a0 a1).bind fun t277 => ((chartularyref01_Add.f k a0 a1).bind fun t278 => (if t277 = t278 then ((bits_Mul.f k a0 a1).bind fun t279 => ((chartularyref01_Mul.f k a0 a1).bind fun t280 => (some (t279 == t280)))) else (some false)))) = some r := by rw [if_pos rfl] at H; exact H
    clear H
    have H := H1
    clear H1
    replace H := Option.bind_eq_some_iff.mp H
    obtain ⟨t277, A50, H⟩ := H
    replace H : ((chartularyref01_Add.f k a0 a1).bind fun t278 => (if t277 = t278 then ((bits_Mul.f k a0 a1).bind fun t279 => ((chartularyref01_Mul.f k a0 a1).bind fun t280 => (some (t279 == t280)))) else (some false))) = some r := H
    have A5 := Aside0.mk A50
    clear A50
    replace H := Option.bind_eq_some_iff.mp H
    obtain ⟨t278, A60, H⟩ := H
    replace H : (if t277 = t278 then ((bits_Mul.f k a0 a1).bind fun t279 => ((chartularyref01_Mul.f k a0 a1).bind fun t280 => (some (t279 == t280)))) else (some false)) = some r := H
    have A6 := Aside0.mk A60
    clear A60
    by_cases c7 : t277 = t278
    · rw [if_pos c7] at H
      have c7b0 : (t277 == t278) = true := beq_iff_eq.mpr c7
      have c7b1 : (t277 != t278) = false := bne_eq_false_iff_eq.mpr c7
      clear c7
      replace H := Option.bind_eq_some_iff.mp H
      obtain ⟨t279, A80, H⟩ := H
      replace H : ((chartularyref01_Mul.f k a0 a1).bind fun t280 => (some (t279 == t280))) = some r := H
      have A8 := Aside0.mk A80
      clear A80
      replace H := Option.bind_eq_some_iff.mp H
      obtain ⟨t280, A90, H⟩ := H
      replace H : (some (t279 == t280)) = some r := H
      have A9 := Aside0.mk A90
      clear A90
      obtain rfl := Option.some.inj H
      go_enter Try.func9, Try.ntmps9
      go_wp2_with (first | ((with_reducible refine gate_callee (f := 13) rfl ?_); refine goesL_ (some 5) rfl rfl Try.func13 (by kernel_rfl) rfl #[] rfl (by (try simp only [List.map_toArray, List.map_cons, List.map_nil]); first | done | rfl | (simp only [List.length_drop, List.length_take]; rfl)) ?_; (with_reducible refine (chartularylaw01_awake.calls k  true _ A3.out).mono ?_); rintro e w10 ⟨rfl, hb⟩; refine ⟨_, rfl, ?_⟩; have n0_ := Aside0.mk (below_step (by repeat (first | (with_reducible first | exact HB.out | apply below_alloc | apply pw_below_drewN | apply below_drew1) | exact HB.out)) hb); clear HB; have HB := n0_; clear n0_; (try clear hb); (try clear hb2); (try clear hk); (try clear hi)) | (go_at_call 35; (with_reducible refine (bits_Add.calls k a0 a1 t277 _ A5.out).mono ?_); rintro e w' ⟨rfl, ⟨nd, rfl⟩⟩) | (go_at_call 36; (with_reducible refine (chartularyref01_Add.calls k a0 a1 t278 _ A6.out).mono ?_); rintro e w' ⟨rfl, ⟨nd, rfl⟩⟩) | (go_at_call 37; (with_reducible refine (bits_Mul.calls k a0 a1 t279 _ A8.out).mono ?_); rintro e w' ⟨rfl, ⟨nd, rfl⟩⟩) | (go_at_call 38; (with_reducible refine (chartularyref01_Mul.calls k a0 a1 t280 _ A9.out).mono ?_); rintro e w' ⟨rfl, ⟨nd, rfl⟩⟩))
      go_ret
      exact ⟨by first | rfl | (simp [errW_none, errW_some] <;> rfl) | (simp [*, errW_none, errW_some] <;> rfl), by repeat (first | (with_reducible first | exact HB.out | apply below_alloc | apply pw_below_drewN | apply below_drew1) | exact HB.out)⟩
    · rw [if_neg c7] at H
      have c7b0 : (t277 == t278) = false := beq_eq_false_iff_ne.mpr c7
      have c7b1 : (t277 != t278) = true := bne_iff_ne.mpr c7
      obtain rfl := Option.some.inj H
      go_enter Try.func9, Try.ntmps9
      go_wp2_with (first | ((with_reducible refine gate_callee (f := 13) rfl ?_); refine goesL_ (some 5) rfl rfl Try.func13 (by kernel_rfl) rfl #[] rfl (by (try simp only [List.map_toArray, List.map_cons, List.map_nil]); first | done | rfl | (simp only [List.length_drop, List.length_take]; rfl)) ?_; (with_reducible refine (chartularylaw01_awake.calls k  true _ A3.out).mono ?_); rintro e w11 ⟨rfl, hb⟩; refine ⟨_, rfl, ?_⟩; have n0_ := Aside0.mk (below_step (by repeat (first | (with_reducible first | exact HB.out | apply below_alloc | apply pw_below_drewN | apply below_drew1) | exact HB.out)) hb); clear HB; have HB := n0_; clear n0_; (try clear hb); (try clear hb2); (try clear hk); (try clear hi)) | (go_at_call 35; (with_reducible refine (bits_Add.calls k a0 a1 t277 _ A5.out).mono ?_); rintro e w' ⟨rfl, ⟨nd, rfl⟩⟩) | (go_at_call 36; (with_reducible refine (chartularyref01_Add.calls k a0 a1 t278 _ A6.out).mono ?_); rintro e w' ⟨rfl, ⟨nd, rfl⟩⟩))
      go_ret
      exact ⟨by first | rfl | (simp [errW_none, errW_some] <;> rfl) | (simp [*, errW_none, errW_some] <;> rfl), by repeat (first | (with_reducible first | exact HB.out | apply below_alloc | apply pw_below_drewN | apply below_drew1) | exact HB.out)⟩
  · replace c4 := Bool.eq_false_iff.mpr c4
    subst c4
    have H1 : (some false) = some r := by rw [if_neg (show ¬ (false = true) by decide)] at H; exact H
    clear H
    have H := H1
    clear H1
    obtain rfl := Option.some.inj H
    go_enter Try.func9, Try.ntmps9
    go_wp2_with (first | ((with_reducible refine gate_callee (f := 13) rfl ?_); refine goesL_ (some 5) rfl rfl Try.func13 (by kernel_rfl) rfl #[] rfl (by (try simp only [List.map_toArray, List.map_cons, List.map_nil]); first | done | rfl | (simp only [List.length_drop, List.length_take]; rfl)) ?_; (with_reducible refine (chartularylaw01_awake.calls k  false _ A3.out).mono ?_); rintro e w12 ⟨rfl, hb⟩; refine ⟨_, rfl, ?_⟩; have n0_ := Aside0.mk (below_step (by repeat (first | (with_reducible first | exact HB.out | apply below_alloc | apply pw_below_drewN | apply below_drew1) | exact HB.out)) hb); clear HB; have HB := n0_; clear n0_; (try clear hb); (try clear hb2); (try clear hk); (try clear hi)))
    go_ret
    exact ⟨by first | rfl | (simp [errW_none, errW_some] <;> rfl) | (simp [*, errW_none, errW_some] <;> rfl), by repeat (first | (with_reducible first | exact HB.out | apply below_alloc | apply pw_below_drewN | apply below_drew1) | exact HB.out)⟩

/-- THE ONE PURE STATEMENT of chartularylaw01_BitsEnds: yours. -/
def chartularylaw01_BitsEnds.Pure : Prop := ∀ (a0 : Int) (a1 : Int), (Lit.int .i64 a0).wf = true → (Lit.int .i64 a1).wf = true → ∃ k, chartularylaw01_BitsEnds.f k a0 a1 = some true
theorem chartularylaw01_BitsEnds.walk (P : chartularylaw01_BitsEnds.Pure) (a0 : Int) (a1 : Int) (w : World) (w0 : (Lit.int .i64 a0).wf = true) (w1 : (Lit.int .i64 a1).wf = true) :
    Calls Try.prog 9 #[.int .i64 a0, .int .i64 a1] w fun e w' => e = .returned (.bool true) ∧ Below w.heap.size w w' := by
  obtain ⟨k, h⟩ := P a0 a1 w0 w1
  refine (chartularylaw01_BitsEnds.calls k a0 a1 true w h).mono ?_
  rintro e w' ⟨rfl, hd⟩
  exact ⟨rfl, hd⟩

end Go.Proofs.Ytgfclffalgielaa.PAll
