-- Ytbohofdffjlloaa: functions of the translation, their Lean counterparts and contracts (laid by a program of this claim's session)
import Derived.Test.YtbohofdffjlloaaPAllx0
import Derived.Test.YtbohofdffjlloaaPAllx3
namespace Go.Proofs.Ytbohofdffjlloaa.PAll
open Go.RowKit Go.Proofs.YtbohofdffjlloaaW.PrintWords Go.Proofs.YtbohofdffjlloaaW.PrintLast Go.Proofs.YtbohofdffjlloaaW.PrintMore
attribute [local go_sem] max2_int min2_int max_two min_two max_three min_three max_four min_four   -- for this text's walks alone
set_option linter.unusedVariables false
set_option linter.unusedSimpArgs false

/-! ### chartularyref01_Add: function 33 -/
def chartularyref01_Add.j0 : Nat → Int → Int → Bool → Option (Int)
  | 0, _, _, _ => none
  | k + 1, x0, x1, x12 => if x12 = true then (some 9223372036854775807) else (if x1 < 0 then (if x0 < (wrap64 ((-9223372036854775808) - x1)) then (some (-9223372036854775808)) else (some (wrap64 (x0 + x1)))) else (some (wrap64 (x0 + x1))))
def chartularyref01_Add.f (k : Nat) (a0 : Int) (a1 : Int) : Option (Int) := if a1 > 0 then (chartularyref01_Add.j0 k a0 a1 (decide (a0 > (wrap64 (9223372036854775807 - a1))))) else (chartularyref01_Add.j0 k a0 a1 false)
theorem chartularyref01_Add.mono_l : ∀ k, (∀ y0 y1 y2, LeO (chartularyref01_Add.j0 k y0 y1 y2) (chartularyref01_Add.j0 (k + 1) y0 y1 y2))
  | 0 => fun _ _ _ r h => by simp [chartularyref01_Add.j0] at h
  | k + 1 => by
    have ih0 := chartularyref01_Add.mono_l k
    · intro y0 y1 y2
      unfold chartularyref01_Add.j0
      repeat' first
      | (with_reducible exact ih0 _ _ _)
      | (with_reducible exact LeO.refl _)
      | (with_reducible exact LeO.none _)
      | (with_reducible refine LeO.ite ?_ ?_)
      | (with_reducible refine LeO.bind ?_ (fun _ => ?_))
      | exact ih0 _ _ _
      | exact LeO.none _
      | refine LeO.ite ?_ ?_
      | refine LeO.bind ?_ (fun _ => ?_)
theorem chartularyref01_Add.mono : ∀ a0 a1 k, LeO (chartularyref01_Add.f k a0 a1) (chartularyref01_Add.f (k + 1) a0 a1) := by
  intro a0 a1 k
  have ih0 := chartularyref01_Add.mono_l k
  unfold chartularyref01_Add.f
  repeat' first
      | (with_reducible exact ih0 _ _ _)
      | (with_reducible exact LeO.refl _)
      | (with_reducible exact LeO.none _)
      | (with_reducible refine LeO.ite ?_ ?_)
      | (with_reducible refine LeO.bind ?_ (fun _ => ?_))
      | exact ih0 _ _ _
      | exact LeO.none _
      | refine LeO.ite ?_ ?_
      | refine LeO.bind ?_ (fun _ => ?_)
set_option maxHeartbeats 8000000 in
set_option maxRecDepth 100000 in
theorem chartularyref01_Add.calls (k : Nat) (a0 : Int) (a1 : Int) (r : Int) (w : World) (h : chartularyref01_Add.f k a0 a1 = some r) :
    Calls Try.prog 33 #[.int .i64 a0, .int .i64 a1] w fun e w' => e = .returned (.int .i64 r) ∧ Drawn0 w w' := by
  have H : (if a1 > 0 then (chartularyref01_Add.j0 k a0 a1 (decide (a0 > (wrap64 (9223372036854775807 - a1))))) else (chartularyref01_Add.j0 k a0 a1 false)) = some r := h
  clear h
  have HC3 := Aside0.mk H
  clear H
  go_enter Try.func33, Try.ntmps33
  go_upto_region 1 with (fail)
  go_cut [12] (fun v12 wc => ∃ (kq : Nat) (x12_2 : Bool), v12 = .bool x12_2 ∧ Aside0 (chartularyref01_Add.j0 kq a0 a1 x12_2 = some r) ∧ Aside0 (kq ≤ k) ∧ Drawn0 w wc)
  case first =>
    have H := HC3.out
    clear HC3
    by_cases c4 : a1 > 0
    · rw [if_pos c4] at H
      have c4b0 : decide (0 < a1) = true := decide_eq_true c4
      clear c4
      (first | rw [c4b0] | (simp only [i64_w, i32_w]; rw [c4b0]) | skip)
      have H' := Aside0.mk H
      clear H
      go_wp2
      go_meet
      case rel => exact ⟨_, (decide (a0 > (wrap64 (9223372036854775807 - a1)))), (by first | rfl | (simp; done) | (simp [*]; done)), H', ⟨by first | omega | exact Nat.le_refl _⟩, by repeat (first | exact Drawn0.refl _ | apply Drawn0.step)⟩
    · rw [if_neg c4] at H
      have c4b0 : decide (0 < a1) = false := decide_eq_false c4
      clear c4
      (first | rw [c4b0] | (simp only [i64_w, i32_w]; rw [c4b0]) | skip)
      have H' := Aside0.mk H
      clear H
      go_wp2
      go_meet
      case rel => exact ⟨_, (false), (by first | rfl | (simp; done) | (simp [*]; done)), H', ⟨by first | omega | exact Nat.le_refl _⟩, by repeat (first | exact Drawn0.refl _ | apply Drawn0.step)⟩
  case rest =>
    clear HC3
    try clear p2
    try clear c3
    try clear c4
    try clear c4b0
    obtain ⟨kq, x12_2, rfl, HA, HJ2, ⟨mc2, rfl⟩⟩ := hcut
    cases kq with
    | zero => exact absurd HA.out (by simp [chartularyref01_Add.j0])
    | succ kj2 =>
      have H := HA.out
      clear HA
      simp only [chartularyref01_Add.j0] at H
      by_cases c5 : x12_2 = true
      · subst c5
        have H1 : (some 9223372036854775807) = some r := by rw [if_pos rfl] at H; exact H
        clear H
        have H := H1
        clear H1
        obtain rfl := Option.some.inj H
        go_wp2
        go_ret
        exact ⟨by first | rfl | (simp; done) | (simp [*]; done), by repeat (first | exact Drawn0.refl _ | apply Drawn0.step)⟩
      · replace c5 := Bool.eq_false_iff.mpr c5
        subst c5
        have H1 : (if a1 < 0 then (if a0 < (wrap64 ((-9223372036854775808) - a1)) then (some (-9223372036854775808)) else (some (wrap64 (a0 + a1)))) else (some (wrap64 (a0 + a1)))) = some r := by rw [if_neg (show ¬ (false = true) by decide)] at H; exact H
        clear H
        have H := H1
        clear H1
        by_cases c6 : a1 < 0
        · rw [if_pos c6] at H
          have c6b0 : decide (a1 < 0) = true := decide_eq_true c6
          clear c6
          by_cases c7 : a0 < (wrap64 ((-9223372036854775808) - a1))
          · rw [if_pos c7] at H
            have c7b0 : decide (a0 < (wrap64 ((-9223372036854775808) - a1))) = true := decide_eq_true c7
            clear c7
            obtain rfl := Option.some.inj H
            go_wp2
            go_ret
            exact ⟨by first | rfl | (simp; done) | (simp [*]; done), by repeat (first | exact Drawn0.refl _ | apply Drawn0.step)⟩
          · rw [if_neg c7] at H
            have c7b0 : decide (a0 < (wrap64 ((-9223372036854775808) - a1))) = false := decide_eq_false c7
            clear c7
            obtain rfl := Option.some.inj H
            go_wp2
            go_ret
            exact ⟨by first | rfl | (simp; done) | (simp [*]; done), by repeat (first | exact Drawn0.refl _ | apply Drawn0.step)⟩
        · rw [if_neg c6] at H
          have c6b0 : decide (a1 < 0) = false := decide_eq_false c6
          clear c6
          obtain rfl := Option.some.inj H
          go_wp2
          go_ret
          exact ⟨by first | rfl | (simp; done) | (simp [*]; done), by repeat (first | exact Drawn0.refl _ | apply Drawn0.step)⟩

/-! ### chartularyref01_mag: function 37 -/
def chartularyref01_mag.f (a0 : Int) : Option (Int) := if a0 ≥ 0 then (some (IntKind.u64.wrap (a0))) else (some (IntKind.u64.wrap ((IntKind.u64.wrap (wrap64 (-(wrap64 (a0 + 1))))) + 1)))
set_option maxHeartbeats 8000000 in
set_option maxRecDepth 100000 in
theorem chartularyref01_mag.calls (a0 : Int) (r : Int) (w : World) (h : chartularyref01_mag.f a0 = some r) :
    Calls Try.prog 37 #[.int .i64 a0] w fun e w' => e = .returned (.int .u64 r) ∧ Drawn0 w w' := by
  have H : (if a0 ≥ 0 then (some (IntKind.u64.wrap (a0))) else (some (IntKind.u64.wrap ((IntKind.u64.wrap (wrap64 (-(wrap64 (a0 + 1))))) + 1)))) = some r := h
  clear h
  by_cases c2 : a0 ≥ 0
  · rw [if_pos c2] at H
    have c2b0 : decide (0 ≤ a0) = true := decide_eq_true c2
    clear c2
    obtain rfl := Option.some.inj H
    go_enter Try.func37, Try.ntmps37
    go_wp2
    go_ret
    exact ⟨by first | rfl | (simp; done) | (simp [*]; done), by repeat (first | exact Drawn0.refl _ | apply Drawn0.step)⟩
  · rw [if_neg c2] at H
    have c2b0 : decide (0 ≤ a0) = false := decide_eq_false c2
    clear c2
    obtain rfl := Option.some.inj H
    go_enter Try.func37, Try.ntmps37
    go_wp2
    go_ret
    exact ⟨by first | rfl | (simp; done) | (simp [*]; done), by repeat (first | exact Drawn0.refl _ | apply Drawn0.step)⟩

/-! ### chartularyref01_Mul: function 34 -/
mutual
def chartularyref01_Mul.j0 : Nat → Bool → Int → Int → Bool → Option (Int)
  | 0, _, _, _, _ => none
  | k + 1, x5, x6, x7, x30 => if x30 = true then (if x5 = true then (some (-9223372036854775808)) else (some 9223372036854775807)) else (if x5 = true then (if (IntKind.u64.wrap (x6 * x7)) = 0 then (some 0) else (some (wrap64 ((wrap64 (-(wrap64 (IntKind.u64.wrap ((IntKind.u64.wrap (x6 * x7)) - 1))))) - 1)))) else (some (wrap64 (IntKind.u64.wrap (x6 * x7)))))
def chartularyref01_Mul.j1 : Nat → Bool → Int → Int → Bool → Option (Int)
  | 0, _, _, _, _ => none
  | k + 1, x5, x6, x7, x30 => if x30 = true then (if x5 = true then (some (-9223372036854775808)) else (some 9223372036854775807)) else (if x5 = true then (if (IntKind.u64.wrap (x6 * x7)) = 0 then (some 0) else (some (wrap64 ((wrap64 (-(wrap64 (IntKind.u64.wrap ((IntKind.u64.wrap (x6 * x7)) - 1))))) - 1)))) else (some (wrap64 (IntKind.u64.wrap (x6 * x7)))))
def chartularyref01_Mul.j2 : Nat → Bool → Int → Int → Bool → Option (Int)
  | 0, _, _, _, _ => none
  | k + 1, x5, x6, x7, x30 => if x30 = true then (if x5 = true then (some (-9223372036854775808)) else (some 9223372036854775807)) else (if x5 = true then (if (IntKind.u64.wrap (x6 * x7)) = 0 then (some 0) else (some (wrap64 ((wrap64 (-(wrap64 (IntKind.u64.wrap ((IntKind.u64.wrap (x6 * x7)) - 1))))) - 1)))) else (some (wrap64 (IntKind.u64.wrap (x6 * x7)))))
def chartularyref01_Mul.j3 : Nat → Bool → Int → Int → Bool → Option (Int)
  | 0, _, _, _, _ => none
  | k + 1, x5, x6, x7, x30 => if x30 = true then (if x5 = true then (some (-9223372036854775808)) else (some 9223372036854775807)) else (if x5 = true then (if (IntKind.u64.wrap (x6 * x7)) = 0 then (some 0) else (some (wrap64 ((wrap64 (-(wrap64 (IntKind.u64.wrap ((IntKind.u64.wrap (x6 * x7)) - 1))))) - 1)))) else (some (wrap64 (IntKind.u64.wrap (x6 * x7)))))
end
def chartularyref01_Mul.f (k : Nat) (a0 : Int) (a1 : Int) : Option (Int) := if a0 < 0 then (if a1 < 0 then ((chartularyref01_mag.f a0).bind fun t215 => ((chartularyref01_mag.f a1).bind fun t216 => (if t215 = 0 then (chartularyref01_Mul.j0 k false t215 t216 false) else (chartularyref01_Mul.j0 k false t215 t216 (decide (t216 > (IntKind.u64.wrap (Int.tdiv (9223372036854775807 : Int) t215)))))))) else ((chartularyref01_mag.f a0).bind fun t217 => ((chartularyref01_mag.f a1).bind fun t218 => (if t217 = 0 then (chartularyref01_Mul.j1 k true t217 t218 false) else (chartularyref01_Mul.j1 k true t217 t218 (decide (t218 > (IntKind.u64.wrap (Int.tdiv (9223372036854775807 + 1) t217))))))))) else (if a1 < 0 then ((chartularyref01_mag.f a0).bind fun t219 => ((chartularyref01_mag.f a1).bind fun t220 => (if t219 = 0 then (chartularyref01_Mul.j2 k true t219 t220 false) else (chartularyref01_Mul.j2 k true t219 t220 (decide (t220 > (IntKind.u64.wrap (Int.tdiv (9223372036854775807 + 1) t219)))))))) else ((chartularyref01_mag.f a0).bind fun t221 => ((chartularyref01_mag.f a1).bind fun t222 => (if t221 = 0 then (chartularyref01_Mul.j3 k false t221 t222 false) else (chartularyref01_Mul.j3 k false t221 t222 (decide (t222 > (IntKind.u64.wrap (Int.tdiv (9223372036854775807 : Int) t221)))))))))
theorem chartularyref01_Mul.mono_l : ∀ k, (∀ y0 y1 y2 y3, LeO (chartularyref01_Mul.j0 k y0 y1 y2 y3) (chartularyref01_Mul.j0 (k + 1) y0 y1 y2 y3)) ∧ (∀ y0 y1 y2 y3, LeO (chartularyref01_Mul.j1 k y0 y1 y2 y3) (chartularyref01_Mul.j1 (k + 1) y0 y1 y2 y3)) ∧ (∀ y0 y1 y2 y3, LeO (chartularyref01_Mul.j2 k y0 y1 y2 y3) (chartularyref01_Mul.j2 (k + 1) y0 y1 y2 y3)) ∧ (∀ y0 y1 y2 y3, LeO (chartularyref01_Mul.j3 k y0 y1 y2 y3) (chartularyref01_Mul.j3 (k + 1) y0 y1 y2 y3))
  | 0 => ⟨fun _ _ _ _ r h => by simp [chartularyref01_Mul.j0] at h, fun _ _ _ _ r h => by simp [chartularyref01_Mul.j1] at h, fun _ _ _ _ r h => by simp [chartularyref01_Mul.j2] at h, fun _ _ _ _ r h => by simp [chartularyref01_Mul.j3] at h⟩
  | k + 1 => by
    obtain ⟨ih0, ih1, ih2, ih3⟩ := chartularyref01_Mul.mono_l k
    refine ⟨?_, ?_, ?_, ?_⟩
    · intro y0 y1 y2 y3
      unfold chartularyref01_Mul.j0
      repeat' first
      | (with_reducible exact ih0 _ _ _ _)
      | (with_reducible exact ih1 _ _ _ _)
      | (with_reducible exact ih2 _ _ _ _)
      | (with_reducible exact ih3 _ _ _ _)
      | (with_reducible exact LeO.refl _)
      | (with_reducible exact LeO.none _)
      | (with_reducible refine LeO.ite ?_ ?_)
      | (with_reducible refine LeO.bind ?_ (fun _ => ?_))
      | exact ih0 _ _ _ _
      | exact ih1 _ _ _ _
      | exact ih2 _ _ _ _
      | exact ih3 _ _ _ _
      | exact LeO.none _
      | refine LeO.ite ?_ ?_
      | refine LeO.bind ?_ (fun _ => ?_)
    · intro y0 y1 y2 y3
      unfold chartularyref01_Mul.j1
      repeat' first
      | (with_reducible exact ih0 _ _ _ _)
      | (with_reducible exact ih1 _ _ _ _)
      | (with_reducible exact ih2 _ _ _ _)
      | (with_reducible exact ih3 _ _ _ _)
      | (with_reducible exact LeO.refl _)
      | (with_reducible exact LeO.none _)
      | (with_reducible refine LeO.ite ?_ ?_)
      | (with_reducible refine LeO.bind ?_ (fun _ => ?_))
      | exact ih0 _ _ _ _
      | exact ih1 _ _ _ _
      | exact ih2 _ _ _ _
      | exact ih3 _ _ _ _
      | exact LeO.none _
      | refine LeO.ite ?_ ?_
      | refine LeO.bind ?_ (fun _ => ?_)
    · intro y0 y1 y2 y3
      unfold chartularyref01_Mul.j2
      repeat' first
      | (with_reducible exact ih0 _ _ _ _)
      | (with_reducible exact ih1 _ _ _ _)
      | (with_reducible exact ih2 _ _ _ _)
      | (with_reducible exact ih3 _ _ _ _)
      | (with_reducible exact LeO.refl _)
      | (with_reducible exact LeO.none _)
      | (with_reducible refine LeO.ite ?_ ?_)
      | (with_reducible refine LeO.bind ?_ (fun _ => ?_))
      | exact ih0 _ _ _ _
      | exact ih1 _ _ _ _
      | exact ih2 _ _ _ _
      | exact ih3 _ _ _ _
      | exact LeO.none _
      | refine LeO.ite ?_ ?_
      | refine LeO.bind ?_ (fun _ => ?_)
    · intro y0 y1 y2 y3
      unfold chartularyref01_Mul.j3
      repeat' first
      | (with_reducible exact ih0 _ _ _ _)
      | (with_reducible exact ih1 _ _ _ _)
      | (with_reducible exact ih2 _ _ _ _)
      | (with_reducible exact ih3 _ _ _ _)
      | (with_reducible exact LeO.refl _)
      | (with_reducible exact LeO.none _)
      | (with_reducible refine LeO.ite ?_ ?_)
      | (with_reducible refine LeO.bind ?_ (fun _ => ?_))
      | exact ih0 _ _ _ _
      | exact ih1 _ _ _ _
      | exact ih2 _ _ _ _
      | exact ih3 _ _ _ _
      | exact LeO.none _
      | refine LeO.ite ?_ ?_
      | refine LeO.bind ?_ (fun _ => ?_)
theorem chartularyref01_Mul.mono : ∀ a0 a1 k, LeO (chartularyref01_Mul.f k a0 a1) (chartularyref01_Mul.f (k + 1) a0 a1) := by
  intro a0 a1 k
  obtain ⟨ih0, ih1, ih2, ih3⟩ := chartularyref01_Mul.mono_l k
  unfold chartularyref01_Mul.f
  repeat' first
      | (with_reducible exact ih0 _ _ _ _)
      | (with_reducible exact ih1 _ _ _ _)
      | (with_reducible exact ih2 _ _ _ _)
      | (with_reducible exact ih3 _ _ _ _)
      | (with_reducible exact LeO.refl _)
      | (with_reducible exact LeO.none _)
      | (with_reducible refine LeO.ite ?_ ?_)
      | (with_reducible refine LeO.bind ?_ (fun _ => ?_))
      | exact ih0 _ _ _ _
      | exact ih1 _ _ _ _
      | exact ih2 _ _ _ _
      | exact ih3 _ _ _ _
      | exact LeO.none _
      | refine LeO.ite ?_ ?_
      | refine LeO.bind ?_ (fun _ => ?_)
set_option maxHeartbeats 8000000 in
set_option maxRecDepth 100000 in
theorem chartularyref01_Mul.calls (k : Nat) (a0 : Int) (a1 : Int) (r : Int) (w : World) (h : chartularyref01_Mul.f k a0 a1 = some r) :
    Calls Try.prog 34 #[.int .i64 a0, .int .i64 a1] w fun e w' => e = .returned (.int .i64 r) ∧ Drawn0 w w' := by
  have H : (if a0 < 0 then (if a1 < 0 then ((chartularyref01_mag.f a0).bind fun t215 => ((chartularyref01_mag.f a1).bind fun t216 => (if t215 = 0 then (chartularyref01_Mul.j0 k false t215 t216 false) else (chartularyref01_Mul.j0 k false t215 t216 (decide (t216 > (IntKind.u64.wrap (Int.tdiv (9223372036854775807 : Int) t215)))))))) else ((chartularyref01_mag.f a0).bind fun t217 => ((chartularyref01_mag.f a1).bind fun t218 => (if t217 = 0 then (chartularyref01_Mul.j1 k true t217 t218 false) else (chartularyref01_Mul.j1 k true t217 t218 (decide (t218 > (IntKind.u64.wrap (Int.tdiv (9223372036854775807 + 1) t217))))))))) else (if a1 < 0 then ((chartularyref01_mag.f a0).bind fun t219 => ((chartularyref01_mag.f a1).bind fun t220 => (if t219 = 0 then (chartularyref01_Mul.j2 k true t219 t220 false) else (chartularyref01_Mul.j2 k true t219 t220 (decide (t220 > (IntKind.u64.wrap (Int.tdiv (9223372036854775807 + 1) t219)))))))) else ((chartularyref01_mag.f a0).bind fun t221 => ((chartularyref01_mag.f a1).bind fun t222 => (if t221 = 0 then (chartularyref01_Mul.j3 k false t221 t222 false) else (chartularyref01_Mul.j3 k false t221 t222 (decide (t222 > (IntKind.u64.wrap (Int.tdiv (9223372036854775807 : Int) t221)))))))))) = some r := h
  clear h
  by_cases c3 : a0 < 0
  · rw [if_pos c3] at H
    have c3b0 : decide (a0 < 0) = true := decide_eq_true c3
    clear c3
    by_cases c4 : a1 < 0
    · rw [if_pos c4] at H
      have c4b0 : decide (a1 < 0) = true := decide_eq_true c4
      clear c4
      replace H := Option.bind_eq_some_iff.mp H
      obtain ⟨t215, A50, H⟩ := H
      replace H : ((chartularyref01_mag.f a1).bind fun t216 => (if t215 = 0 then (chartularyref01_Mul.j0 k false t215 t216 false) else (chartularyref01_Mul.j0 k false t215 t216 (decide (t216 > (IntKind.u64.wrap (Int.tdiv (9223372036854775807 : Int) t215))))))) = some r := H
      have A5 := Aside0.mk A50
      clear A50
      replace H := Option.bind_eq_some_iff.mp H
      obtain ⟨t216, A60, H⟩ := H
      replace H : (if t215 = 0 then (chartularyref01_Mul.j0 k false t215 t216 false) else (chartularyref01_Mul.j0 k false t215 t216 (decide (t216 > (IntKind.u64.wrap (Int.tdiv (9223372036854775807 : Int) t215)))))) = some r := H
      have A6 := Aside0.mk A60
      clear A60
      have HC7 := Aside0.mk H
      clear H
      go_enter Try.func34, Try.ntmps34
      go_upto_region 6 with (first | ((with_reducible refine gate_callee (f := 37) rfl ?_); refine goesL_ (some 16) rfl rfl Try.func37 (by kernel_rfl) rfl #[.int .i64 a0] rfl (by (try simp only [List.map_toArray, List.map_cons, List.map_nil]); first | done | rfl | (simp only [List.length_drop, List.length_take]; rfl)) ?_; (with_reducible refine (chartularyref01_mag.calls a0 t215 _ A5.out).mono ?_); rintro e w' ⟨rfl, ⟨nd, rfl⟩⟩; refine ⟨_, rfl, ?_⟩) | ((with_reducible refine gate_callee (f := 37) rfl ?_); refine goesL_ (some 18) rfl rfl Try.func37 (by kernel_rfl) rfl #[.int .i64 a1] rfl (by (try simp only [List.map_toArray, List.map_cons, List.map_nil]); first | done | rfl | (simp only [List.length_drop, List.length_take]; rfl)) ?_; (with_reducible refine (chartularyref01_mag.calls a1 t216 _ A6.out).mono ?_); rintro e w' ⟨rfl, ⟨nd, rfl⟩⟩; refine ⟨_, rfl, ?_⟩))
      (try simp only [Act.put, List.setIfInBounds_toArray, List.set_cons_zero, List.set_cons_succ])
      go_cut [30] (fun v30 wc => ∃ (kq : Nat) (x30_6 : Bool), v30 = .bool x30_6 ∧ Aside0 (chartularyref01_Mul.j0 kq false t215 t216 x30_6 = some r) ∧ Aside0 (kq ≤ k) ∧ Drawn0 w wc)
      case first =>
        have H := HC7.out
        clear HC7
        by_cases c8 : t215 = 0
        · rw [if_pos c8] at H
          have c8b0 : (t215 == 0) = true := beq_iff_eq.mpr c8
          have c8b1 : (t215 != 0) = false := bne_eq_false_iff_eq.mpr c8
          clear c8
          (first | rw [c8b0] | (simp only [i64_w, i32_w]; rw [c8b0]) | skip)
          have H' := Aside0.mk H
          clear H
          go_wp2
          go_meet
          case rel => exact ⟨_, (false), (by first | rfl | (simp; done) | (simp [*]; done)), H', ⟨by first | omega | exact Nat.le_refl _⟩, by repeat (first | exact Drawn0.refl _ | apply Drawn0.step)⟩
        · rw [if_neg c8] at H
          have c8b0 : (t215 == 0) = false := beq_eq_false_iff_ne.mpr c8
          have c8b1 : (t215 != 0) = true := bne_iff_ne.mpr c8
          (first | rw [c8b0] | (simp only [i64_w, i32_w]; rw [c8b0]) | skip)
          have H' := Aside0.mk H
          clear H
          go_wp2
          go_meet
          case rel => exact ⟨_, (decide (t216 > (IntKind.u64.wrap (Int.tdiv (9223372036854775807 : Int) t215)))), (by first | rfl | (simp; done) | (simp [*]; done)), H', ⟨by first | omega | exact Nat.le_refl _⟩, by repeat (first | exact Drawn0.refl _ | apply Drawn0.step)⟩
      case rest =>
        clear HC7
        try clear p2
        try clear c3
        try clear c3b0
        try clear c4
        try clear c4b0
        try clear c8
        try clear c8b0
        try clear c8b1
        obtain ⟨kq, x30_6, rfl, HA, HJ6, ⟨mc6, rfl⟩⟩ := hcut
        cases kq with
        | zero => exact absurd HA.out (by simp [chartularyref01_Mul.j0])
        | succ kj6 =>
          have H := HA.out
          clear HA
          simp only [chartularyref01_Mul.j0] at H
          by_cases c9 : x30_6 = true
          · subst c9
            have H1 : (if false = true then (some (-9223372036854775808)) else (some 9223372036854775807)) = some r := by rw [if_pos rfl] at H; exact H
            clear H
            have H := H1
            clear H1
            have H1 : (some 9223372036854775807) = some r := by rw [if_neg (show ¬ (false = true) by decide)] at H; exact H
            clear H
            have H := H1
            clear H1
            obtain rfl := Option.some.inj H
            go_wp2
            go_ret
            exact ⟨by first | rfl | (simp; done) | (simp [*]; done), by repeat (first | exact Drawn0.refl _ | apply Drawn0.step)⟩
          · replace c9 := Bool.eq_false_iff.mpr c9
            subst c9
            have H1 : (if false = true then (if (IntKind.u64.wrap (t215 * t216)) = 0 then (some 0) else (some (wrap64 ((wrap64 (-(wrap64 (IntKind.u64.wrap ((IntKind.u64.wrap (t215 * t216)) - 1))))) - 1)))) else (some (wrap64 (IntKind.u64.wrap (t215 * t216))))) = some r := by rw [if_neg (show ¬ (false = true) by decide)] at H; exact H
            clear H
            have H := H1
            clear H1
            have H1 : (some (wrap64 (IntKind.u64.wrap (t215 * t216)))) = some r := by rw [if_neg (show ¬ (false = true) by decide)] at H; exact H
            clear H
            have H := H1
            clear H1
            obtain rfl := Option.some.inj H
            go_wp2
            go_ret
            exact ⟨by first | rfl | (simp; done) | (simp [*]; done), by repeat (first | exact Drawn0.refl _ | apply Drawn0.step)⟩
    · rw [if_neg c4] at H
      have c4b0 : decide (a1 < 0) = false := decide_eq_false c4
      clear c4
      replace H := Option.bind_eq_some_iff.mp H
      obtain ⟨t217, A100, H⟩ := H
      replace H : ((chartularyref01_mag.f a1).bind fun t218 => (if t217 = 0 then (chartularyref01_Mul.j1 k true t217 t218 false) else (chartularyref01_Mul.j1 k true t217 t218 (decide (t218 > (IntKind.u64.wrap (Int.tdiv (9223372036854775807 + 1) t217))))))) = some r := H
      have A10 := Aside0.mk A100
      clear A100
      replace H := Option.bind_eq_some_iff.mp H
      obtain ⟨t218, A110, H⟩ := H
      replace H : (if t217 = 0 then (chartularyref01_Mul.j1 k true t217 t218 false) else (chartularyref01_Mul.j1 k true t217 t218 (decide (t218 > (IntKind.u64.wrap (Int.tdiv (9223372036854775807 + 1) t217)))))) = some r := H
      have A11 := Aside0.mk A110
      clear A110
      have HC12 := Aside0.mk H
      clear H
      go_enter Try.func34, Try.ntmps34
      go_upto_region 6 with (first | ((with_reducible refine gate_callee (f := 37) rfl ?_); refine goesL_ (some 16) rfl rfl Try.func37 (by kernel_rfl) rfl #[.int .i64 a0] rfl (by (try simp only [List.map_toArray, List.map_cons, List.map_nil]); first | done | rfl | (simp only [List.length_drop, List.length_take]; rfl)) ?_; (with_reducible refine (chartularyref01_mag.calls a0 t217 _ A10.out).mono ?_); rintro e w' ⟨rfl, ⟨nd, rfl⟩⟩; refine ⟨_, rfl, ?_⟩) | ((with_reducible refine gate_callee (f := 37) rfl ?_); refine goesL_ (some 18) rfl rfl Try.func37 (by kernel_rfl) rfl #[.int .i64 a1] rfl (by (try simp only [List.map_toArray, List.map_cons, List.map_nil]); first | done | rfl | (simp only [List.length_drop, List.length_take]; rfl)) ?_; (with_reducible refine (chartularyref01_mag.calls a1 t218 _ A11.out).mono ?_); rintro e w' ⟨rfl, ⟨nd, rfl⟩⟩; refine ⟨_, rfl, ?_⟩))
      (try simp only [Act.put, List.setIfInBounds_toArray, List.set_cons_zero, List.set_cons_succ])
      go_cut [30] (fun v30 wc => ∃ (kq : Nat) (x30_11 : Bool), v30 = .bool x30_11 ∧ Aside0 (chartularyref01_Mul.j1 kq true t217 t218 x30_11 = some r) ∧ Aside0 (kq ≤ k) ∧ Drawn0 w wc)
      case first =>
        have H := HC12.out
        clear HC12
        by_cases c13 : t217 = 0
        · rw [if_pos c13] at H
          have c13b0 : (t217 == 0) = true := beq_iff_eq.mpr c13
          have c13b1 : (t217 != 0) = false := bne_eq_false_iff_eq.mpr c13
          clear c13
          (first | rw [c13b0] | (simp only [i64_w, i32_w]; rw [c13b0]) | skip)
          have H' := Aside0.mk H
          clear H
          go_wp2
          go_meet
          case rel => exact ⟨_, (false), (by first | rfl | (simp; done) | (simp [*]; done)), H', ⟨by first | omega | exact Nat.le_refl _⟩, by repeat (first | exact Drawn0.refl _ | apply Drawn0.step)⟩
        · rw [if_neg c13] at H
          have c13b0 : (t217 == 0) = false := beq_eq_false_iff_ne.mpr c13
          have c13b1 : (t217 != 0) = true := bne_iff_ne.mpr c13
          (first | rw [c13b0] | (simp only [i64_w, i32_w]; rw [c13b0]) | skip)
          have H' := Aside0.mk H
          clear H
          go_wp2
          go_meet
          case rel => exact ⟨_, (decide (t218 > (IntKind.u64.wrap (Int.tdiv (9223372036854775807 + 1) t217)))), (by first | rfl | (simp; done) | (simp [*]; done)), H', ⟨by first | omega | exact Nat.le_refl _⟩, by repeat (first | exact Drawn0.refl _ | apply Drawn0.step)⟩
      case rest =>
        clear HC12
        try clear c1
        try clear p2
        try clear c3
        try clear c3b0
        try clear c4
        try clear c4b0
        try clear c6
        try clear p6
        try clear c8
        try clear c8b0
        try clear c8b1
        try clear c9
        try clear c13
        try clear c13b0
        try clear c13b1
        try clear p2
        obtain ⟨kq, x30_11, rfl, HA, HJ11, ⟨mc11, rfl⟩⟩ := hcut
        cases kq with
        | zero => exact absurd HA.out (by simp [chartularyref01_Mul.j1])
        | succ kj11 =>
          have H := HA.out
          clear HA
          simp only [chartularyref01_Mul.j1] at H
          by_cases c14 : x30_11 = true
          · subst c14
            have H1 : (if true = true then (some (-9223372036854775808)) else (some 9223372036854775807)) = some r := by rw [if_pos rfl] at H; exact H
            clear H
            have H := H1
            clear H1
            have H1 : (some (-9223372036854775808)) = some r := by rw [if_pos rfl] at H; exact H
            clear H
            have H := H1
            clear H1
            obtain rfl := Option.some.inj H
            go_wp2
            go_ret
            exact ⟨by first | rfl | (simp; done) | (simp [*]; done), by repeat (first | exact Drawn0.refl _ | apply Drawn0.step)⟩
          · replace c14 := Bool.eq_false_iff.mpr c14
            subst c14
            have H1 : (if true = true then (if (IntKind.u64.wrap (t217 * t218)) = 0 then (some 0) else (some (wrap64 ((wrap64 (-(wrap64 (IntKind.u64.wrap ((IntKind.u64.wrap (t217 * t218)) - 1))))) - 1)))) else (some (wrap64 (IntKind.u64.wrap (t217 * t218))))) = some r := by rw [if_neg (show ¬ (false = true) by decide)] at H; exact H
            clear H
            have H := H1
            clear H1
            have H1 : (if (IntKind.u64.wrap (t217 * t218)) = 0 then (some 0) else (some (wrap64 ((wrap64 (-(wrap64 (IntKind.u64.wrap ((IntKind.u64.wrap (t217 * t218)) - 1))))) - 1)))) = some r := by rw [if_pos rfl] at H; exact H
            clear H
            have H := H1
            clear H1
            by_cases c15 : (IntKind.u64.wrap (t217 * t218)) = 0
            · rw [if_pos c15] at H
              have c15b0 : ((IntKind.u64.wrap (t217 * t218)) == 0) = true := beq_iff_eq.mpr c15
              have c15b1 : ((IntKind.u64.wrap (t217 * t218)) != 0) = false := bne_eq_false_iff_eq.mpr c15
              clear c15
              obtain rfl := Option.some.inj H
              go_wp2
              go_ret
              exact ⟨by first | rfl | (simp; done) | (simp [*]; done), by repeat (first | exact Drawn0.refl _ | apply Drawn0.step)⟩
            · rw [if_neg c15] at H
              have c15b0 : ((IntKind.u64.wrap (t217 * t218)) == 0) = false := beq_eq_false_iff_ne.mpr c15
              have c15b1 : ((IntKind.u64.wrap (t217 * t218)) != 0) = true := bne_iff_ne.mpr c15
              obtain rfl := Option.some.inj H
              go_wp2
              go_ret
              exact ⟨by first | rfl | (simp; done) | (simp [*]; done), by repeat (first | exact Drawn0.refl _ | apply Drawn0.step)⟩
  · rw [if_neg c3] at H
    have c3b0 : decide (a0 < 0) = false := decide_eq_false c3
    clear c3
    by_cases c16 : a1 < 0
    · rw [if_pos c16] at H
      have c16b0 : decide (a1 < 0) = true := decide_eq_true c16
      clear c16
      replace H := Option.bind_eq_some_iff.mp H
      obtain ⟨t219, A170, H⟩ := H
      replace H : ((chartularyref01_mag.f a1).bind fun t220 => (if t219 = 0 then (chartularyref01_Mul.j2 k true t219 t220 false) else (chartularyref01_Mul.j2 k true t219 t220 (decide (t220 > (IntKind.u64.wrap (Int.tdiv (9223372036854775807 + 1) t219))))))) = some r := H
      have A17 := Aside0.mk A170
      clear A170
      replace H := Option.bind_eq_some_iff.mp H
      obtain ⟨t220, A180, H⟩ := H
      replace H : (if t219 = 0 then (chartularyref01_Mul.j2 k true t219 t220 false) else (chartularyref01_Mul.j2 k true t219 t220 (decide (t220 > (IntKind.u64.wrap (Int.tdiv (9223372036854775807 + 1) t219)))))) = some r := H
      have A18 := Aside0.mk A180
      clear A180
      have HC19 := Aside0.mk H
      clear H
      go_enter Try.func34, Try.ntmps34
      go_upto_region 6 with (first | ((with_reducible refine gate_callee (f := 37) rfl ?_); refine goesL_ (some 16) rfl rfl Try.func37 (by kernel_rfl) rfl #[.int .i64 a0] rfl (by (try simp only [List.map_toArray, List.map_cons, List.map_nil]); first | done | rfl | (simp only [List.length_drop, List.length_take]; rfl)) ?_; (with_reducible refine (chartularyref01_mag.calls a0 t219 _ A17.out).mono ?_); rintro e w' ⟨rfl, ⟨nd, rfl⟩⟩; refine ⟨_, rfl, ?_⟩) | ((with_reducible refine gate_callee (f := 37) rfl ?_); refine goesL_ (some 18) rfl rfl Try.func37 (by kernel_rfl) rfl #[.int .i64 a1] rfl (by (try simp only [List.map_toArray, List.map_cons, List.map_nil]); first | done | rfl | (simp only [List.length_drop, List.length_take]; rfl)) ?_; (with_reducible refine (chartularyref01_mag.calls a1 t220 _ A18.out).mono ?_); rintro e w' ⟨rfl, ⟨nd, rfl⟩⟩; refine ⟨_, rfl, ?_⟩))
      (try simp only [Act.put, List.setIfInBounds_toArray, List.set_cons_zero, List.set_cons_succ])
      go_cut [30] (fun v30 wc => ∃ (kq : Nat) (x30_18 : Bool), v30 = .bool x30_18 ∧ Aside0 (chartularyref01_Mul.j2 kq true t219 t220 x30_18 = some r) ∧ Aside0 (kq ≤ k) ∧ Drawn0 w wc)
      case first =>
        have H := HC19.out
        clear HC19
        by_cases c20 : t219 = 0
        · rw [if_pos c20] at H
          have c20b0 : (t219 == 0) = true := beq_iff_eq.mpr c20
          have c20b1 : (t219 != 0) = false := bne_eq_false_iff_eq.mpr c20
          clear c20
          (first | rw [c20b0] | (simp only [i64_w, i32_w]; rw [c20b0]) | skip)
          have H' := Aside0.mk H
          clear H
          go_wp2
          go_meet
          case rel => exact ⟨_, (false), (by first | rfl | (simp; done) | (simp [*]; done)), H', ⟨by first | omega | exact Nat.le_refl _⟩, by repeat (first | exact Drawn0.refl _ | apply Drawn0.step)⟩
        · rw [if_neg c20] at H
          have c20b0 : (t219 == 0) = false := beq_eq_false_iff_ne.mpr c20
          have c20b1 : (t219 != 0) = true := bne_iff_ne.mpr c20
          (first | rw [c20b0] | (simp only [i64_w, i32_w]; rw [c20b0]) | skip)
          have H' := Aside0.mk H
          clear H
          go_wp2
          go_meet
          case rel => exact ⟨_, (decide (t220 > (IntKind.u64.wrap (Int.tdiv (9223372036854775807 + 1) t219)))), (by first | rfl | (simp; done) | (simp [*]; done)), H', ⟨by first | omega | exact Nat.le_refl _⟩, by repeat (first | exact Drawn0.refl _ | apply Drawn0.step)⟩
      case rest =>
        clear HC19
        try clear c1
        try clear c2
        try clear p2
        try clear c3
        try clear c3b0
        try clear c4
        try clear c4b0
        try clear c6
        try clear p6
        try clear c8
        try clear c8b0
        try clear c8b1
        try clear c9
        try clear c11
        try clear c13
        try clear c13b0
        try clear c13b1
        try clear c14
        try clear c15
        try clear c15b0
        try clear c15b1
        try clear c16
        try clear c16b0
        try clear c20
        try clear c20b0
        try clear c20b1
        try clear p2
        try clear p6
        obtain ⟨kq, x30_18, rfl, HA, HJ18, ⟨mc18, rfl⟩⟩ := hcut
        cases kq with
        | zero => exact absurd HA.out (by simp [chartularyref01_Mul.j2])
        | succ kj18 =>
          have H := HA.out
          clear HA
          simp only [chartularyref01_Mul.j2] at H
          by_cases c21 : x30_18 = true
          · subst c21
            have H1 : (if true = true then (some (-9223372036854775808)) else (some 9223372036854775807)) = some r := by rw [if_pos rfl] at H; exact H
            clear H
            have H := H1
            clear H1
            have H1 : (some (-9223372036854775808)) = some r := by rw [if_pos rfl] at H; exact H
            clear H
            have H := H1
            clear H1
            obtain rfl := Option.some.inj H
            go_wp2
            go_ret
            exact ⟨by first | rfl | (simp; done) | (simp [*]; done), by repeat (first | exact Drawn0.refl _ | apply Drawn0.step)⟩
          · replace c21 := Bool.eq_false_iff.mpr c21
            subst c21
            have H1 : (if true = true then (if (IntKind.u64.wrap (t219 * t220)) = 0 then (some 0) else (some (wrap64 ((wrap64 (-(wrap64 (IntKind.u64.wrap ((IntKind.u64.wrap (t219 * t220)) - 1))))) - 1)))) else (some (wrap64 (IntKind.u64.wrap (t219 * t220))))) = some r := by rw [if_neg (show ¬ (false = true) by decide)] at H; exact H
            clear H
            have H := H1
            clear H1
            have H1 : (if (IntKind.u64.wrap (t219 * t220)) = 0 then (some 0) else (some (wrap64 ((wrap64 (-(wrap64 (IntKind.u64.wrap ((IntKind.u64.wrap (t219 * t220)) - 1))))) - 1)))) = some r := by rw [if_pos rfl] at H; exact H
            clear H
            have H := H1
            clear H1
            by_cases c22 : (IntKind.u64.wrap (t219 * t220)) = 0
            · rw [if_pos c22] at H
              have c22b0 : ((IntKind.u64.wrap (t219 * t220)) == 0) = true := beq_iff_eq.mpr c22
              have c22b1 : ((IntKind.u64.wrap (t219 * t220)) != 0) = false := bne_eq_false_iff_eq.mpr c22
              clear c22
              obtain rfl := Option.some.inj H
              go_wp2
              go_ret
              exact ⟨by first | rfl | (simp; done) | (simp [*]; done), by repeat (first | exact Drawn0.refl _ | apply Drawn0.step)⟩
            · rw [if_neg c22] at H
              have c22b0 : ((IntKind.u64.wrap (t219 * t220)) == 0) = false := beq_eq_false_iff_ne.mpr c22
              have c22b1 : ((IntKind.u64.wrap (t219 * t220)) != 0) = true := bne_iff_ne.mpr c22
              obtain rfl := Option.some.inj H
              go_wp2
              go_ret
              exact ⟨by first | rfl | (simp; done) | (simp [*]; done), by repeat (first | exact Drawn0.refl _ | apply Drawn0.step)⟩
    · rw [if_neg c16] at H
      have c16b0 : decide (a1 < 0) = false := decide_eq_false c16
      clear c16
      replace H := Option.bind_eq_some_iff.mp H
      obtain ⟨t221, A230, H⟩ := H
      replace H : ((chartularyref01_mag.f a1).bind fun t222 => (if t221 = 0 then (chartularyref01_Mul.j3 k false t221 t222 false) else (chartularyref01_Mul.j3 k false t221 t222 (decide (t222 > (IntKind.u64.wrap (Int.tdiv (9223372036854775807 : Int) t221))))))) = some r := H
      have A23 := Aside0.mk A230
      clear A230
      replace H := Option.bind_eq_some_iff.mp H
      obtain ⟨t222, A240, H⟩ := H
      replace H : (if t221 = 0 then (chartularyref01_Mul.j3 k false t221 t222 false) else (chartularyref01_Mul.j3 k false t221 t222 (decide (t222 > (IntKind.u64.wrap (Int.tdiv (9223372036854775807 : Int) t221)))))) = some r := H
      have A24 := Aside0.mk A240
      clear A240
      have HC25 := Aside0.mk H
      clear H
      go_enter Try.func34, Try.ntmps34
      go_upto_region 6 with (first | ((with_reducible refine gate_callee (f := 37) rfl ?_); refine goesL_ (some 16) rfl rfl Try.func37 (by kernel_rfl) rfl #[.int .i64 a0] rfl (by (try simp only [List.map_toArray, List.map_cons, List.map_nil]); first | done | rfl | (simp only [List.length_drop, List.length_take]; rfl)) ?_; (with_reducible refine (chartularyref01_mag.calls a0 t221 _ A23.out).mono ?_); rintro e w' ⟨rfl, ⟨nd, rfl⟩⟩; refine ⟨_, rfl, ?_⟩) | ((with_reducible refine gate_callee (f := 37) rfl ?_); refine goesL_ (some 18) rfl rfl Try.func37 (by kernel_rfl) rfl #[.int .i64 a1] rfl (by (try simp only [List.map_toArray, List.map_cons, List.map_nil]); first | done | rfl | (simp only [List.length_drop, List.length_take]; rfl)) ?_; (with_reducible refine (chartularyref01_mag.calls a1 t222 _ A24.out).mono ?_); rintro e w' ⟨rfl, ⟨nd, rfl⟩⟩; refine ⟨_, rfl, ?_⟩))
      (try simp only [Act.put, List.setIfInBounds_toArray, List.set_cons_zero, List.set_cons_succ])
      go_cut [30] (fun v30 wc => ∃ (kq : Nat) (x30_24 : Bool), v30 = .bool x30_24 ∧ Aside0 (chartularyref01_Mul.j3 kq false t221 t222 x30_24 = some r) ∧ Aside0 (kq ≤ k) ∧ Drawn0 w wc)
      case first =>
        have H := HC25.out
        clear HC25
        by_cases c26 : t221 = 0
        · rw [if_pos c26] at H
          have c26b0 : (t221 == 0) = true := beq_iff_eq.mpr c26
          have c26b1 : (t221 != 0) = false := bne_eq_false_iff_eq.mpr c26
          clear c26
          (first | rw [c26b0] | (simp only [i64_w, i32_w]; rw [c26b0]) | skip)
          have H' := Aside0.mk H
          clear H
          go_wp2
          go_meet
          case rel => exact ⟨_, (false), (by first | rfl | (simp; done) | (simp [*]; done)), H', ⟨by first | omega | exact Nat.le_refl _⟩, by repeat (first | exact Drawn0.refl _ | apply Drawn0.step)⟩
        · rw [if_neg c26] at H
          have c26b0 : (t221 == 0) = false := beq_eq_false_iff_ne.mpr c26
          have c26b1 : (t221 != 0) = true := bne_iff_ne.mpr c26
          (first | rw [c26b0] | (simp only [i64_w, i32_w]; rw [c26b0]) | skip)
          have H' := Aside0.mk H
          clear H
          go_wp2
          go_meet
          case rel => exact ⟨_, (decide (t222 > (IntKind.u64.wrap (Int.tdiv (9223372036854775807 : Int) t221)))), (by first | rfl | (simp; done) | (simp [*]; done)), H', ⟨by first | omega | exact Nat.le_refl _⟩, by repeat (first | exact Drawn0.refl _ | apply Drawn0.step)⟩
      case rest =>
        clear HC25
        try clear c1
        try clear c2
        try clear p2
        try clear c3
        try clear c3b0
        try clear c4
        try clear c4b0
        try clear c6
        try clear p6
        try clear c8
        try clear c8b0
        try clear c8b1
        try clear c9
        try clear c11
        try clear c13
        try clear c13b0
        try clear c13b1
        try clear c14
        try clear c15
        try clear c15b0
        try clear c15b1
        try clear c16
        try clear c16b0
        try clear c18
        try clear c20
        try clear c20b0
        try clear c20b1
        try clear c21
        try clear c22
        try clear c22b0
        try clear c22b1
        try clear c26
        try clear c26b0
        try clear c26b1
        try clear p2
        try clear p6
        obtain ⟨kq, x30_24, rfl, HA, HJ24, ⟨mc24, rfl⟩⟩ := hcut
        cases kq with
        | zero => exact absurd HA.out (by simp [chartularyref01_Mul.j3])
        | succ kj24 =>
          have H := HA.out
          clear HA
          simp only [chartularyref01_Mul.j3] at H
          by_cases c27 : x30_24 = true
          · subst c27
            have H1 : (if false = true then (some (-9223372036854775808)) else (some 9223372036854775807)) = some r := by rw [if_pos rfl] at H; exact H
            clear H
            have H := H1
            clear H1
            have H1 : (some 9223372036854775807) = some r := by rw [if_neg (show ¬ (false = true) by decide)] at H; exact H
            clear H
            have H := H1
            clear H1
            obtain rfl := Option.some.inj H
            go_wp2
            go_ret
            exact ⟨by first | rfl | (simp; done) | (simp [*]; done), by repeat (first | exact Drawn0.refl _ | apply Drawn0.step)⟩
          · replace c27 := Bool.eq_false_iff.mpr c27
            subst c27
            have H1 : (if false = true then (if (IntKind.u64.wrap (t221 * t222)) = 0 then (some 0) else (some (wrap64 ((wrap64 (-(wrap64 (IntKind.u64.wrap ((IntKind.u64.wrap (t221 * t222)) - 1))))) - 1)))) else (some (wrap64 (IntKind.u64.wrap (t221 * t222))))) = some r := by rw [if_neg (show ¬ (false = true) by decide)] at H; exact H
            clear H
            have H := H1
            clear H1
            have H1 : (some (wrap64 (IntKind.u64.wrap (t221 * t222)))) = some r := by rw [if_neg (show ¬ (false = true) by decide)] at H; exact H
            clear H
            have H := H1
            clear H1
            obtain rfl := Option.some.inj H
            go_wp2
            go_ret
            exact ⟨by first | rfl | (simp; done) | (simp [*]; done), by repeat (first | exact Drawn0.refl _ | apply Drawn0.step)⟩

/-! ### chartularyref05_Days: function 30 -/
def chartularyref05_Days.f (k : Nat) (a0 : Int) (a1 : Int) : Option (Int) := (chartularyref05_Clamp.f a0).bind fun t223 => ((chartularyref01_Mul.f k a1 86400).bind fun t224 => ((chartularyref01_Add.f k t223 t224).bind fun t225 => ((chartularyref05_Clamp.f t225).bind fun t226 => (some t226))))
theorem chartularyref05_Days.mono : ∀ a0 a1 k, LeO (chartularyref05_Days.f k a0 a1) (chartularyref05_Days.f (k + 1) a0 a1) := by
  intro a0 a1 k
  unfold chartularyref05_Days.f
  repeat' first
      | (with_reducible exact chartularyref01_Add.mono _ _ _)
      | (with_reducible exact chartularyref01_Mul.mono _ _ _)
      | (with_reducible exact LeO.refl _)
      | (with_reducible exact LeO.none _)
      | (with_reducible refine LeO.ite ?_ ?_)
      | (with_reducible refine LeO.bind ?_ (fun _ => ?_))
      | exact chartularyref01_Add.mono _ _ _
      | exact chartularyref01_Mul.mono _ _ _
      | exact LeO.none _
      | refine LeO.ite ?_ ?_
      | refine LeO.bind ?_ (fun _ => ?_)
set_option maxHeartbeats 8000000 in
set_option maxRecDepth 100000 in
theorem chartularyref05_Days.calls (k : Nat) (a0 : Int) (a1 : Int) (r : Int) (w : World) (h : chartularyref05_Days.f k a0 a1 = some r) :
    Calls Try.prog 30 #[.int .i64 a0, .int .i64 a1] w fun e w' => e = .returned (.int .i64 r) ∧ Drawn0 w w' := by
  have H : ((chartularyref05_Clamp.f a0).bind fun t223 => ((chartularyref01_Mul.f k a1 86400).bind fun t224 => ((chartularyref01_Add.f k t223 t224).bind fun t225 => ((chartularyref05_Clamp.f t225).bind fun t226 => (some t226))))) = some r := h
  clear h
  replace H := Option.bind_eq_some_iff.mp H
  obtain ⟨t223, A30, H⟩ := H
  replace H : ((chartularyref01_Mul.f k a1 86400).bind fun t224 => ((chartularyref01_Add.f k t223 t224).bind fun t225 => ((chartularyref05_Clamp.f t225).bind fun t226 => (some t226)))) = some r := H
  have A3 := Aside0.mk A30
  clear A30
  replace H := Option.bind_eq_some_iff.mp H
  obtain ⟨t224, A40, H⟩ := H
  replace H : ((chartularyref01_Add.f k t223 t224).bind fun t225 => ((chartularyref05_Clamp.f t225).bind fun t226 => (some t226))) = some r := H
  have A4 := Aside0.mk A40
  clear A40
  replace H := Option.bind_eq_some_iff.mp H
  obtain ⟨t225, A50, H⟩ := H
  replace H : ((chartularyref05_Clamp.f t225).bind fun t226 => (some t226)) = some r := H
  have A5 := Aside0.mk A50
  clear A50
  replace H := Option.bind_eq_some_iff.mp H
  obtain ⟨t226, A60, H⟩ := H
  replace H : (some t226) = some r := H
  have A6 := Aside0.mk A60
  clear A60
  obtain rfl := Option.some.inj H
  go_enter Try.func30, Try.ntmps30
  go_wp2_with (first | ((with_reducible refine gate_callee (f := 16) rfl ?_); refine goesL_ (some 6) rfl rfl Try.func16 (by kernel_rfl) rfl #[.int .i64 a0] rfl (by (try simp only [List.map_toArray, List.map_cons, List.map_nil]); first | done | rfl | (simp only [List.length_drop, List.length_take]; rfl)) ?_; (with_reducible refine (chartularyref05_Clamp.calls a0 t223 _ A3.out).mono ?_); rintro e w' ⟨rfl, ⟨nd, rfl⟩⟩; refine ⟨_, rfl, ?_⟩) | ((with_reducible refine gate_callee (f := 34) rfl ?_); refine goesL_ (some 8) rfl rfl Try.func34 (by kernel_rfl) rfl #[.int .i64 a1, .int .i64 86400] rfl (by (try simp only [List.map_toArray, List.map_cons, List.map_nil]); first | done | rfl | (simp only [List.length_drop, List.length_take]; rfl)) ?_; (with_reducible refine (chartularyref01_Mul.calls k a1 86400 t224 _ A4.out).mono ?_); rintro e w' ⟨rfl, ⟨nd, rfl⟩⟩; refine ⟨_, rfl, ?_⟩) | ((with_reducible refine gate_callee (f := 33) rfl ?_); refine goesL_ (some 9) rfl rfl Try.func33 (by kernel_rfl) rfl #[.int .i64 t223, .int .i64 t224] rfl (by (try simp only [List.map_toArray, List.map_cons, List.map_nil]); first | done | rfl | (simp only [List.length_drop, List.length_take]; rfl)) ?_; (with_reducible refine (chartularyref01_Add.calls k t223 t224 t225 _ A5.out).mono ?_); rintro e w' ⟨rfl, ⟨nd, rfl⟩⟩; refine ⟨_, rfl, ?_⟩) | ((with_reducible refine gate_callee (f := 16) rfl ?_); refine goesL_ (some 10) rfl rfl Try.func16 (by kernel_rfl) rfl #[.int .i64 t225] rfl (by (try simp only [List.map_toArray, List.map_cons, List.map_nil]); first | done | rfl | (simp only [List.length_drop, List.length_take]; rfl)) ?_; (with_reducible refine (chartularyref05_Clamp.calls t225 t226 _ A6.out).mono ?_); rintro e w' ⟨rfl, ⟨nd, rfl⟩⟩; refine ⟨_, rfl, ?_⟩))
  go_ret
  exact ⟨by first | rfl | (simp; done) | (simp [*]; done), by repeat (first | exact Drawn0.refl _ | apply Drawn0.step)⟩

end Go.Proofs.Ytbohofdffjlloaa.PAll
