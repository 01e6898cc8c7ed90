-- Ythcebfjpgmkjjaa: functions of the translation, their Lean counterparts and contracts (laid by a program of this claim's session)
import Derived.Test.YthcebfjpgmkjjaaPAllx0
namespace Go.Proofs.Ythcebfjpgmkjjaa.PAll
open Go.RowKit Go.Proofs.YthcebfjpgmkjjaaW.PrintWords Go.Proofs.YthcebfjpgmkjjaaW.PrintLast Go.Proofs.YthcebfjpgmkjjaaW.PrintMore
attribute [local go_sem] max2_int min2_int max_two min_two max_three min_three max_four min_four   -- for this text's walks alone
set_option linter.unusedVariables false
set_option linter.unusedSimpArgs false

/-! ### crc_step: function 16 -/
def crc_step.l0 : Nat → Int → Int → Option (Int)
  | 0, _, _ => none
  | k + 1, x0, x3 => if x3 < 8 then (crc_step.l0 k (Go.bits .xor .u32 (x0 / 2) (Go.bits .and .u32 2197175160 ((-(Go.bits .and .u32 x0 1)) % 4294967296))) (wrap64 (x3 + 1))) else (some x0)
def crc_step.f (k : Nat) (a0 : Int) : Option (Int) := crc_step.l0 k a0 0
theorem crc_step.mono_l : ∀ k, (∀ y0 y1, LeO (crc_step.l0 k y0 y1) (crc_step.l0 (k + 1) y0 y1))
  | 0 => fun _ _ r h => by simp [crc_step.l0] at h
  | k + 1 => by
    have ih0 := crc_step.mono_l k
    · intro y0 y1
      unfold crc_step.l0
      repeat' first
      | (with_reducible exact ih0 _ _)
      | (with_reducible exact LeO.refl _)
      | (with_reducible exact LeO.none _)
      | (with_reducible refine LeO.ite ?_ ?_)
      | (with_reducible refine LeO.bind ?_ (fun _ => ?_))
      | exact ih0 _ _
      | exact LeO.none _
      | refine LeO.ite ?_ ?_
      | refine LeO.bind ?_ (fun _ => ?_)
theorem crc_step.mono : ∀ a0 k, LeO (crc_step.f k a0) (crc_step.f (k + 1) a0) := by
  intro a0 k
  have ih0 := crc_step.mono_l k
  unfold crc_step.f
  repeat' first
      | (with_reducible exact ih0 _ _)
      | (with_reducible exact LeO.refl _)
      | (with_reducible exact LeO.none _)
      | (with_reducible refine LeO.ite ?_ ?_)
      | (with_reducible refine LeO.bind ?_ (fun _ => ?_))
      | exact ih0 _ _
      | exact LeO.none _
      | refine LeO.ite ?_ ?_
      | refine LeO.bind ?_ (fun _ => ?_)
set_option maxHeartbeats 8000000 in
set_option maxRecDepth 100000 in
theorem crc_step.calls (k : Nat) (a0 : Int) (r : Int) (w : World) (h : crc_step.f k a0 = some r) :
    Calls Try.prog 16 #[.int .u32 a0] w fun e w' => e = .returned (.int .u32 r) ∧ Drawn0 w w' := by
  have H : (crc_step.l0 k a0 0) = some r := h
  clear h
  have H' := Aside0.mk H
  clear H
  go_enter Try.func16, Try.ntmps16
  go_wp2
  go_loopg [0, 3] k (fun kq v0 v3 w' => ∃ (x0_1 : Int) (x3_1 : Int), v0 = .int .u32 x0_1 ∧ v3 = .int .i64 x3_1 ∧ Aside0 (crc_step.l0 kq x0_1 x3_1 = some r) ∧ Aside0 (kq ≤ k) ∧ Drawn0 w w')
  case atStart => exact ⟨(a0), (0), (by first | rfl | (simp; done) | (simp [*]; done)), (by first | rfl | (simp; done) | (simp [*]; done)), H', ⟨Nat.le_refl _⟩, by repeat (first | exact Drawn0.refl _ | apply Drawn0.step)⟩
  case round =>
    clear H'
    try clear c1
    obtain ⟨x0_1, x3_1, rfl, rfl, HA, HK1, ⟨m1, rfl⟩⟩ := hrel
    cases gk with
    | zero => exact absurd HA.out (by simp [crc_step.l0])
    | succ k1 =>
      have H := HA.out
      clear HA
      simp only [crc_step.l0] at H
      by_cases c2 : x3_1 < 8
      · rw [if_pos c2] at H
        have c2b0 : decide (x3_1 < 8) = true := decide_eq_true c2
        clear c2
        have H' := Aside0.mk H
        clear H
        go_wp2
        go_roundg k1
        case measure => have := HK1.out; omega
        case rel => exact ⟨(Go.bits .xor .u32 (x0_1 / 2) (Go.bits .and .u32 2197175160 ((-(Go.bits .and .u32 x0_1 1)) % 4294967296))), (wrap64 (x3_1 + 1)), (by first | rfl | (simp; done) | (simp [*]; done)), (by first | rfl | (simp; done) | (simp [*]; done)), H', ⟨by have := HK1.out; omega⟩, by repeat (first | exact Drawn0.refl _ | apply Drawn0.step)⟩
      · rw [if_neg c2] at H
        have c2b0 : decide (x3_1 < 8) = false := decide_eq_false c2
        clear c2
        obtain rfl := Option.some.inj H
        go_wp2
        go_ret
        exact ⟨by first | rfl | (simp; done) | (simp [*]; done), by repeat (first | exact Drawn0.refl _ | apply Drawn0.step)⟩

/-! ### crc_More: function 12 -/
def crc_More.l0 : Nat → Int → List Int → Int → Int → Option (Int)
  | 0, _, _, _, _ => none
  | k + 1, x5, x10, x11, x12 => if x12 < x11 then (if 0 ≤ x12 then (if x12 < (x10.length : Int) then ((crc_step.f k (Go.bits .xor .u32 x5 ((rd x10 x12) % 4294967296))).bind fun t102 => (crc_More.l0 k t102 x10 x11 (wrap64 (x12 + 1)))) else (none)) else (none)) else (some (Go.bits .xor .u32 4294967295 x5))
def crc_More.f (k : Nat) (a0 : Int) (l1 : List Int) : Option (Int) := crc_More.l0 k (Go.bits .xor .u32 4294967295 a0) l1 (l1.length : Int) 0
theorem crc_More.mono_l : ∀ k, (∀ y0 y1 y2 y3, LeO (crc_More.l0 k y0 y1 y2 y3) (crc_More.l0 (k + 1) y0 y1 y2 y3))
  | 0 => fun _ _ _ _ r h => by simp [crc_More.l0] at h
  | k + 1 => by
    have ih0 := crc_More.mono_l k
    · intro y0 y1 y2 y3
      unfold crc_More.l0
      repeat' first
      | (with_reducible exact ih0 _ _ _ _)
      | (with_reducible exact crc_step.mono _ _)
      | (with_reducible exact LeO.refl _)
      | (with_reducible exact LeO.none _)
      | (with_reducible refine LeO.ite ?_ ?_)
      | (with_reducible refine LeO.bind ?_ (fun _ => ?_))
      | exact ih0 _ _ _ _
      | exact crc_step.mono _ _
      | exact LeO.none _
      | refine LeO.ite ?_ ?_
      | refine LeO.bind ?_ (fun _ => ?_)
theorem crc_More.mono : ∀ a0 a1 k, LeO (crc_More.f k a0 a1) (crc_More.f (k + 1) a0 a1) := by
  intro a0 a1 k
  have ih0 := crc_More.mono_l k
  unfold crc_More.f
  repeat' first
      | (with_reducible exact ih0 _ _ _ _)
      | (with_reducible exact crc_step.mono _ _)
      | (with_reducible exact LeO.refl _)
      | (with_reducible exact LeO.none _)
      | (with_reducible refine LeO.ite ?_ ?_)
      | (with_reducible refine LeO.bind ?_ (fun _ => ?_))
      | exact ih0 _ _ _ _
      | exact crc_step.mono _ _
      | exact LeO.none _
      | refine LeO.ite ?_ ?_
      | refine LeO.bind ?_ (fun _ => ?_)
set_option maxHeartbeats 8000000 in
set_option maxRecDepth 100000 in
theorem crc_More.calls (k : Nat) (a0 : Int) (A1 : Option Addr) (c1 : Nat) (l1 : List Int) (r : Int) (w : World) (hr1 : Kd.C (Kd.int .u8) w A1 l1.length l1) (hc1 : l1.length ≤ c1) (h : crc_More.f k a0 l1 = some r) :
    Calls Try.prog 12 #[.int .u32 a0, .slice A1 l1.length c1] w fun e w' => e = .returned (.int .u32 r) ∧ Drawn0 w w' := by
  have HR1 := Aside0.mk hr1
  have HC1 := Aside0.mk hc1
  clear hr1 hc1
  have H : (crc_More.l0 k (Go.bits .xor .u32 4294967295 a0) l1 (l1.length : Int) 0) = some r := h
  clear h
  have H' := Aside0.mk H
  clear H
  go_enter Try.func12, Try.ntmps12
  go_wp2
  go_loopg [5, 12] k (fun kq v5 v12 w' => ∃ (x5_1 : Int) (x12_1 : Int), v5 = .int .u32 x5_1 ∧ v12 = .int .i64 x12_1 ∧ Aside0 (crc_More.l0 kq x5_1 l1 (l1.length : Int) x12_1 = some r) ∧ Aside0 (kq ≤ k) ∧ Drawn0 w w')
  case atStart => exact ⟨(Go.bits .xor .u32 4294967295 a0), (0), (by first | rfl | (simp; done) | (simp [*]; done)), (by first | rfl | (simp; done) | (simp [*]; done)), H', ⟨Nat.le_refl _⟩, by repeat (first | exact Drawn0.refl _ | apply Drawn0.step)⟩
  case round =>
    clear H'
    try clear c1
    try clear p2
    obtain ⟨x5_1, x12_1, rfl, rfl, HA, HK1, ⟨m1, rfl⟩⟩ := hrel
    cases gk with
    | zero => exact absurd HA.out (by simp [crc_More.l0])
    | succ k1 =>
      have H := HA.out
      clear HA
      simp only [crc_More.l0] at H
      by_cases c3 : x12_1 < (l1.length : Int)
      · rw [if_pos c3] at H
        have c3b0 : decide (x12_1 < (l1.length : Int)) = true := decide_eq_true c3
        clear c3
        by_cases c4 : 0 ≤ x12_1
        · rw [if_pos c4] at H
          have c4b0 : decide (0 ≤ x12_1) = true := decide_eq_true c4
          clear c4
          by_cases c5 : x12_1 < (l1.length : Int)
          · rw [if_pos c5] at H
            have c5b0 : decide (x12_1 < (l1.length : Int)) = true := decide_eq_true c5
            clear c5
            replace H := Option.bind_eq_some_iff.mp H
            obtain ⟨t102, A60, H⟩ := H
            replace H : (crc_More.l0 k1 t102 l1 (l1.length : Int) (wrap64 (x12_1 + 1))) = some r := H
            have A6 := Aside0.mk A60
            clear A60
            have H' := Aside0.mk H
            clear H
            have p101 : 0 ≤ (x12_1 : Int) := of_decide_eq_true (by first | (with_reducible assumption) | assumption)
            have q101 : x12_1 < (l1.length : Int) := of_decide_eq_true (by first | (with_reducible assumption) | assumption)
            obtain ⟨ad101, e101, hx101_0⟩ := Kd.at_int HR1.out x12_1 p101 q101
            cases e101
            replace p101 := eq_true p101
            replace q101 := eq_true q101
            go_wp2_with (first | ((with_reducible refine gate_callee (f := 16) rfl ?_); refine goesL_ (some 20) rfl rfl Try.func16 (by kernel_rfl) rfl #[.int .u32 (Go.bits .xor .u32 x5_1 ((rd l1 x12_1) % 4294967296))] rfl (by (try simp only [List.map_toArray, List.map_cons, List.map_nil]); first | done | rfl | (simp only [List.length_drop, List.length_take]; rfl)) ?_; (with_reducible refine (crc_step.calls k1 (Go.bits .xor .u32 x5_1 ((rd l1 x12_1) % 4294967296)) t102 _ A6.out).mono ?_); rintro e w' ⟨rfl, ⟨nd, rfl⟩⟩; refine ⟨_, rfl, ?_⟩))
            go_roundg k1
            case measure => have := HK1.out; omega
            case rel => exact ⟨(t102), (wrap64 (x12_1 + 1)), (by first | rfl | (simp; done) | (simp [*]; done)), (by first | rfl | (simp; done) | (simp [*]; done)), H', ⟨by have := HK1.out; omega⟩, by repeat (first | exact Drawn0.refl _ | apply Drawn0.step)⟩
          · rw [if_neg c5] at H
            exact absurd H (by simp)
        · rw [if_neg c4] at H
          exact absurd H (by simp)
      · rw [if_neg c3] at H
        have c3b0 : decide (x12_1 < (l1.length : Int)) = false := decide_eq_false c3
        clear c3
        obtain rfl := Option.some.inj H
        go_wp2
        go_ret
        exact ⟨by first | rfl | (simp; done) | (simp [*]; done), by repeat (first | exact Drawn0.refl _ | apply Drawn0.step)⟩

/-! ### crc_Sum: function 9 -/
def crc_Sum.l0 : Nat → Int → List (List Int) → Int → Int → Option (Int)
  | 0, _, _, _, _ => none
  | k + 1, x3, x6, x7, x8 => if x8 < x7 then (if 0 ≤ x8 then (if x8 < (x6.length : Int) then ((crc_More.f k x3 (rd_L1 x6 x8)).bind fun t104 => (crc_Sum.l0 k t104 x6 x7 (wrap64 (x8 + 1)))) else (none)) else (none)) else (some x3)
def crc_Sum.f (k : Nat) (l0 : List (List Int)) : Option (Int) := crc_Sum.l0 k 0 l0 (l0.length : Int) 0
theorem crc_Sum.mono_l : ∀ k, (∀ y0 y1 y2 y3, LeO (crc_Sum.l0 k y0 y1 y2 y3) (crc_Sum.l0 (k + 1) y0 y1 y2 y3))
  | 0 => fun _ _ _ _ r h => by simp [crc_Sum.l0] at h
  | k + 1 => by
    have ih0 := crc_Sum.mono_l k
    · intro y0 y1 y2 y3
      unfold crc_Sum.l0
      repeat' first
      | (with_reducible exact ih0 _ _ _ _)
      | (with_reducible exact crc_More.mono _ _ _)
      | (with_reducible exact LeO.refl _)
      | (with_reducible exact LeO.none _)
      | (with_reducible refine LeO.ite ?_ ?_)
      | (with_reducible refine LeO.bind ?_ (fun _ => ?_))
      | exact ih0 _ _ _ _
      | exact crc_More.mono _ _ _
      | exact LeO.none _
      | refine LeO.ite ?_ ?_
      | refine LeO.bind ?_ (fun _ => ?_)
theorem crc_Sum.mono : ∀ a0 k, LeO (crc_Sum.f k a0) (crc_Sum.f (k + 1) a0) := by
  intro a0 k
  have ih0 := crc_Sum.mono_l k
  unfold crc_Sum.f
  repeat' first
      | (with_reducible exact ih0 _ _ _ _)
      | (with_reducible exact crc_More.mono _ _ _)
      | (with_reducible exact LeO.refl _)
      | (with_reducible exact LeO.none _)
      | (with_reducible refine LeO.ite ?_ ?_)
      | (with_reducible refine LeO.bind ?_ (fun _ => ?_))
      | exact ih0 _ _ _ _
      | exact crc_More.mono _ _ _
      | exact LeO.none _
      | refine LeO.ite ?_ ?_
      | refine LeO.bind ?_ (fun _ => ?_)
set_option maxHeartbeats 8000000 in
set_option maxRecDepth 100000 in
theorem crc_Sum.calls (k : Nat) (A0 : Option Addr) (c0 : Nat) (l0 : List (List Int)) (r : Int) (w : World) (hr0 : Kd.C (Kd.slice 5 (Kd.int .u8)) w A0 l0.length l0) (hc0 : l0.length ≤ c0) (h : crc_Sum.f k l0 = some r) :
    Calls Try.prog 9 #[.slice A0 l0.length c0] w fun e w' => e = .returned (.int .u32 r) ∧ Drawn0 w w' := by
  have HR0 := Aside0.mk hr0
  have HC0 := Aside0.mk hc0
  clear hr0 hc0
  have H : (crc_Sum.l0 k 0 l0 (l0.length : Int) 0) = some r := h
  clear h
  have H' := Aside0.mk H
  clear H
  go_enter Try.func9, Try.ntmps9
  go_wp2
  go_loopg [3, 8] k (fun kq v3 v8 w' => ∃ (x3_1 : Int) (x8_1 : Int), v3 = .int .u32 x3_1 ∧ v8 = .int .i64 x8_1 ∧ Aside0 (crc_Sum.l0 kq x3_1 l0 (l0.length : Int) x8_1 = some r) ∧ Aside0 (kq ≤ k) ∧ Drawn0 w w')
  case atStart => exact ⟨(0), (0), (by first | rfl | (simp; done) | (simp [*]; done)), (by first | rfl | (simp; done) | (simp [*]; done)), H', ⟨Nat.le_refl _⟩, by repeat (first | exact Drawn0.refl _ | apply Drawn0.step)⟩
  case round =>
    clear H'
    obtain ⟨x3_1, x8_1, rfl, rfl, HA, HK1, ⟨m1, rfl⟩⟩ := hrel
    cases gk with
    | zero => exact absurd HA.out (by simp [crc_Sum.l0])
    | succ k1 =>
      have H := HA.out
      clear HA
      simp only [crc_Sum.l0] at H
      by_cases c2 : x8_1 < (l0.length : Int)
      · rw [if_pos c2] at H
        have c2b0 : decide (x8_1 < (l0.length : Int)) = true := decide_eq_true c2
        clear c2
        by_cases c3 : 0 ≤ x8_1
        · rw [if_pos c3] at H
          have c3b0 : decide (0 ≤ x8_1) = true := decide_eq_true c3
          clear c3
          by_cases c4 : x8_1 < (l0.length : Int)
          · rw [if_pos c4] at H
            have c4b0 : decide (x8_1 < (l0.length : Int)) = true := decide_eq_true c4
            clear c4
            replace H := Option.bind_eq_some_iff.mp H
            obtain ⟨t104, A50, H⟩ := H
            replace H : (crc_Sum.l0 k1 t104 l0 (l0.length : Int) (wrap64 (x8_1 + 1))) = some r := H
            have A5 := Aside0.mk A50
            clear A50
            have H' := Aside0.mk H
            clear H
            have p103 : 0 ≤ (x8_1 : Int) := of_decide_eq_true (by first | (with_reducible assumption) | assumption)
            have q103 : x8_1 < (l0.length : Int) := of_decide_eq_true (by first | (with_reducible assumption) | assumption)
            obtain ⟨ad103, A103_0, c103_0, e103, hx103_0, hl103_0, hi103_0⟩ := at_L1 HR0.out x8_1 p103 q103
            cases e103
            have HR103_0 := Aside0.mk hi103_0
            have HC103_0 := Aside0.mk hl103_0
            clear hi103_0 hl103_0
            replace p103 := eq_true p103
            replace q103 := eq_true q103
            go_wp2_with (first | ((with_reducible refine gate_callee (f := 12) rfl ?_); refine goesL_ (some 14) rfl rfl Try.func12 (by kernel_rfl) rfl #[.int .u32 x3_1, .slice A103_0 (rd_L1 l0 x8_1).length c103_0] rfl (by (try simp only [List.map_toArray, List.map_cons, List.map_nil]); first | done | rfl | (simp only [List.length_drop, List.length_take]; rfl)) ?_; (with_reducible refine (crc_More.calls k1 x3_1 _ _ (rd_L1 l0 x8_1) t104 _ ?side1 ?side2 A5.out).mono ?_); (case side1 => repeat (first | exact HR103_0.out | (with_reducible refine Kd.C_alloc ?_ _) | (with_reducible refine Kd.C_drewN ?_ _) | (with_reducible refine Kd.C_drew ?_))); (case side2 => exact HC103_0.out); rintro e w' ⟨rfl, ⟨nd, rfl⟩⟩; refine ⟨_, rfl, ?_⟩))
            go_roundg k1
            case measure => have := HK1.out; omega
            case rel => exact ⟨(t104), (wrap64 (x8_1 + 1)), (by first | rfl | (simp; done) | (simp [*]; done)), (by first | rfl | (simp; done) | (simp [*]; done)), H', ⟨by have := HK1.out; omega⟩, by repeat (first | exact Drawn0.refl _ | apply Drawn0.step)⟩
          · rw [if_neg c4] at H
            exact absurd H (by simp)
        · rw [if_neg c3] at H
          exact absurd H (by simp)
      · rw [if_neg c2] at H
        have c2b0 : decide (x8_1 < (l0.length : Int)) = false := decide_eq_false c2
        clear c2
        obtain rfl := Option.some.inj H
        go_wp2
        go_ret
        exact ⟨by first | rfl | (simp; done) | (simp [*]; done), by repeat (first | exact Drawn0.refl _ | apply Drawn0.step)⟩

-- NOT PRINTED: function 18 (crc_byteStep)

-- NOT PRINTED: function 19 (crc_matrix_apply)

-- NOT PRINTED: function 20 (crc_matrix_twice)

-- given: function 17 (crc_shift)

/-! ### crc_Zeros: function 14 -/
def crc_Zeros.f (a0 : Int) (a1 : Int) : Option (Int) := (crc_shift.f (Go.bits .xor .u32 4294967295 a0) a1).bind fun t105 => (some (Go.bits .xor .u32 4294967295 t105))
set_option maxHeartbeats 8000000 in
set_option maxRecDepth 100000 in
theorem crc_Zeros.calls (a0 : Int) (a1 : Int) (r : Int) (w : World) (h : crc_Zeros.f a0 a1 = some r) :
    Calls Try.prog 14 #[.int .u32 a0, .int .i64 a1] w fun e w' => e = .returned (.int .u32 r) ∧ Below w.heap.size w w' := by
  have HB := Aside0.mk (Below.refl w.heap.size w)
  have H : ((crc_shift.f (Go.bits .xor .u32 4294967295 a0) a1).bind fun t105 => (some (Go.bits .xor .u32 4294967295 t105))) = some r := h
  clear h
  replace H := Option.bind_eq_some_iff.mp H
  obtain ⟨t105, A30, H⟩ := H
  replace H : (some (Go.bits .xor .u32 4294967295 t105)) = some r := H
  have A3 := Aside0.mk A30
  clear A30
  obtain rfl := Option.some.inj H
  go_enter Try.func14, Try.ntmps14
  go_wp2_with (first | ((with_reducible refine gate_callee (f := 17) rfl ?_); refine goesL_ (some 8) rfl rfl Try.func17 (by kernel_rfl) rfl #[.int .u32 (Go.bits .xor .u32 4294967295 a0), .int .i64 a1] rfl (by (try simp only [List.map_toArray, List.map_cons, List.map_nil]); first | done | rfl | (simp only [List.length_drop, List.length_take]; rfl)) ?_; (with_reducible refine (crc_shift.calls (Go.bits .xor .u32 4294967295 a0) a1 t105 _ A3.out).mono ?_); rintro e w4 ⟨rfl, hb⟩; refine ⟨_, rfl, ?_⟩; have n0_ := Aside0.mk (below_step (by repeat (first | (with_reducible first | exact HB.out | apply below_alloc | apply pw_below_drewN | apply below_drew1) | exact HB.out)) hb); clear HB; have HB := n0_; clear n0_; (try clear hb); (try clear hb2); (try clear hk); (try clear hi)))
  go_ret
  exact ⟨by first | rfl | (simp [errW_none, errW_some] <;> rfl) | (simp [*, errW_none, errW_some] <;> rfl), by repeat (first | (with_reducible first | exact HB.out | apply below_alloc | apply pw_below_drewN | apply below_drew1) | exact HB.out)⟩

/-! ### crc_Join: function 15 -/
def crc_Join.f (a0 : Int) (a1 : Int) (a2 : Int) : Option (Int) := (crc_shift.f a0 a2).bind fun t106 => (some (Go.bits .xor .u32 t106 a1))
set_option maxHeartbeats 8000000 in
set_option maxRecDepth 100000 in
theorem crc_Join.calls (a0 : Int) (a1 : Int) (a2 : Int) (r : Int) (w : World) (h : crc_Join.f a0 a1 a2 = some r) :
    Calls Try.prog 15 #[.int .u32 a0, .int .u32 a1, .int .i64 a2] w fun e w' => e = .returned (.int .u32 r) ∧ Below w.heap.size w w' := by
  have HB := Aside0.mk (Below.refl w.heap.size w)
  have H : ((crc_shift.f a0 a2).bind fun t106 => (some (Go.bits .xor .u32 t106 a1))) = some r := h
  clear h
  replace H := Option.bind_eq_some_iff.mp H
  obtain ⟨t106, A40, H⟩ := H
  replace H : (some (Go.bits .xor .u32 t106 a1)) = some r := H
  have A4 := Aside0.mk A40
  clear A40
  obtain rfl := Option.some.inj H
  go_enter Try.func15, Try.ntmps15
  go_wp2_with (first | ((with_reducible refine gate_callee (f := 17) rfl ?_); refine goesL_ (some 9) rfl rfl Try.func17 (by kernel_rfl) rfl #[.int .u32 a0, .int .i64 a2] rfl (by (try simp only [List.map_toArray, List.map_cons, List.map_nil]); first | done | rfl | (simp only [List.length_drop, List.length_take]; rfl)) ?_; (with_reducible refine (crc_shift.calls a0 a2 t106 _ A4.out).mono ?_); rintro e w5 ⟨rfl, hb⟩; refine ⟨_, rfl, ?_⟩; have n0_ := Aside0.mk (below_step (by repeat (first | (with_reducible first | exact HB.out | apply below_alloc | apply pw_below_drewN | apply below_drew1) | exact HB.out)) hb); clear HB; have HB := n0_; clear n0_; (try clear hb); (try clear hb2); (try clear hk); (try clear hi)))
  go_ret
  exact ⟨by first | rfl | (simp [errW_none, errW_some] <;> rfl) | (simp [*, errW_none, errW_some] <;> rfl), by repeat (first | (with_reducible first | exact HB.out | apply below_alloc | apply pw_below_drewN | apply below_drew1) | exact HB.out)⟩

/-! ### chartularyref02_Sum: function 11 -/
mutual
def chartularyref02_Sum.l0 : Nat → List (List Int) → Int → Int → Int → Option (Int)
  | 0, _, _, _, _ => none
  | k + 1, x0, x3, x4, x5 => if x5 < (x0.length : Int) then (chartularyref02_Sum.l1 k x0 x3 x4 x5 0) else (some (Go.bits .xor .u32 x4 4294967295))
def chartularyref02_Sum.l1 : Nat → List (List Int) → Int → Int → Int → Int → Option (Int)
  | 0, _, _, _, _, _ => none
  | k + 1, x0, x3, x4, x5, x6 => if 0 ≤ x5 then (if x5 < (x0.length : Int) then (if x6 < ((rd_L1 x0 x5).length : Int) then (chartularyref02_Sum.l2 k x0 x3 x4 x5 x6 0) else (chartularyref02_Sum.l0 k x0 x3 x4 (wrap64 (x5 + 1)))) else (none)) else (none)
def chartularyref02_Sum.l2 : Nat → List (List Int) → Int → Int → Int → Int → Int → Option (Int)
  | 0, _, _, _, _, _, _ => none
  | k + 1, x0, x3, x4, x5, x6, x7 => if x7 < 8 then (if 0 ≤ x5 then (if x5 < (x0.length : Int) then (if 0 ≤ x6 then (if x6 < ((rd_L1 x0 x5).length : Int) then (if 0 ≤ (IntKind.u64.wrap (x7)) then (if ((shr .u32 ((rd (rd_L1 x0 x5) x6) % 4294967296) (IntKind.u64.wrap (x7))) % 2) = (Int.tmod x4 2) then (chartularyref02_Sum.l2 k x0 x3 ((Int.tdiv x4 2) % 4294967296) x5 x6 (wrap64 (x7 + 1))) else (chartularyref02_Sum.l2 k x0 x3 (Go.bits .xor .u32 ((Int.tdiv x4 2) % 4294967296) x3) x5 x6 (wrap64 (x7 + 1)))) else (none)) else (none)) else (none)) else (none)) else (none)) else (chartularyref02_Sum.l1 k x0 x3 x4 x5 (wrap64 (x6 + 1)))
end
def chartularyref02_Sum.f (k : Nat) (l0 : List (List Int)) : Option (Int) := chartularyref02_Sum.l0 k l0 2197175160 4294967295 0
theorem chartularyref02_Sum.mono_l : ∀ k, (∀ y0 y1 y2 y3, LeO (chartularyref02_Sum.l0 k y0 y1 y2 y3) (chartularyref02_Sum.l0 (k + 1) y0 y1 y2 y3)) ∧ (∀ y0 y1 y2 y3 y4, LeO (chartularyref02_Sum.l1 k y0 y1 y2 y3 y4) (chartularyref02_Sum.l1 (k + 1) y0 y1 y2 y3 y4)) ∧ (∀ y0 y1 y2 y3 y4 y5, LeO (chartularyref02_Sum.l2 k y0 y1 y2 y3 y4 y5) (chartularyref02_Sum.l2 (k + 1) y0 y1 y2 y3 y4 y5))
  | 0 => ⟨fun _ _ _ _ r h => by simp [chartularyref02_Sum.l0] at h, fun _ _ _ _ _ r h => by simp [chartularyref02_Sum.l1] at h, fun _ _ _ _ _ _ r h => by simp [chartularyref02_Sum.l2] at h⟩
  | k + 1 => by
    obtain ⟨ih0, ih1, ih2⟩ := chartularyref02_Sum.mono_l k
    refine ⟨?_, ?_, ?_⟩
    · intro y0 y1 y2 y3
      unfold chartularyref02_Sum.l0
      repeat' first
      | (with_reducible exact ih0 _ _ _ _)
      | (with_reducible exact ih1 _ _ _ _ _)
      | (with_reducible exact ih2 _ _ _ _ _ _)
      | (with_reducible exact LeO.refl _)
      | (with_reducible exact LeO.none _)
      | (with_reducible refine LeO.ite ?_ ?_)
      | (with_reducible refine LeO.bind ?_ (fun _ => ?_))
      | exact ih0 _ _ _ _
      | exact ih1 _ _ _ _ _
      | exact ih2 _ _ _ _ _ _
      | exact LeO.none _
      | refine LeO.ite ?_ ?_
      | refine LeO.bind ?_ (fun _ => ?_)
    · intro y0 y1 y2 y3 y4
      unfold chartularyref02_Sum.l1
      repeat' first
      | (with_reducible exact ih0 _ _ _ _)
      | (with_reducible exact ih1 _ _ _ _ _)
      | (with_reducible exact ih2 _ _ _ _ _ _)
      | (with_reducible exact LeO.refl _)
      | (with_reducible exact LeO.none _)
      | (with_reducible refine LeO.ite ?_ ?_)
      | (with_reducible refine LeO.bind ?_ (fun _ => ?_))
      | exact ih0 _ _ _ _
      | exact ih1 _ _ _ _ _
      | exact ih2 _ _ _ _ _ _
      | exact LeO.none _
      | refine LeO.ite ?_ ?_
      | refine LeO.bind ?_ (fun _ => ?_)
    · intro y0 y1 y2 y3 y4 y5
      unfold chartularyref02_Sum.l2
      repeat' first
      | (with_reducible exact ih0 _ _ _ _)
      | (with_reducible exact ih1 _ _ _ _ _)
      | (with_reducible exact ih2 _ _ _ _ _ _)
      | (with_reducible exact LeO.refl _)
      | (with_reducible exact LeO.none _)
      | (with_reducible refine LeO.ite ?_ ?_)
      | (with_reducible refine LeO.bind ?_ (fun _ => ?_))
      | exact ih0 _ _ _ _
      | exact ih1 _ _ _ _ _
      | exact ih2 _ _ _ _ _ _
      | exact LeO.none _
      | refine LeO.ite ?_ ?_
      | refine LeO.bind ?_ (fun _ => ?_)
theorem chartularyref02_Sum.mono : ∀ a0 k, LeO (chartularyref02_Sum.f k a0) (chartularyref02_Sum.f (k + 1) a0) := by
  intro a0 k
  obtain ⟨ih0, ih1, ih2⟩ := chartularyref02_Sum.mono_l k
  unfold chartularyref02_Sum.f
  repeat' first
      | (with_reducible exact ih0 _ _ _ _)
      | (with_reducible exact ih1 _ _ _ _ _)
      | (with_reducible exact ih2 _ _ _ _ _ _)
      | (with_reducible exact LeO.refl _)
      | (with_reducible exact LeO.none _)
      | (with_reducible refine LeO.ite ?_ ?_)
      | (with_reducible refine LeO.bind ?_ (fun _ => ?_))
      | exact ih0 _ _ _ _
      | exact ih1 _ _ _ _ _
      | exact ih2 _ _ _ _ _ _
      | exact LeO.none _
      | refine LeO.ite ?_ ?_
      | refine LeO.bind ?_ (fun _ => ?_)
set_option maxHeartbeats 8000000 in
set_option maxRecDepth 100000 in
theorem chartularyref02_Sum.calls (k : Nat) (A0 : Option Addr) (c0 : Nat) (l0 : List (List Int)) (r : Int) (w : World) (hr0 : Kd.C (Kd.slice 5 (Kd.int .u8)) w A0 l0.length l0) (hc0 : l0.length ≤ c0) (h : chartularyref02_Sum.f k l0 = some r) :
    Calls Try.prog 11 #[.slice A0 l0.length c0] w fun e w' => e = .returned (.int .u32 r) ∧ Drawn0 w w' := by
  have HR0 := Aside0.mk hr0
  have HC0 := Aside0.mk hc0
  clear hr0 hc0
  have H : (chartularyref02_Sum.l0 k l0 2197175160 4294967295 0) = some r := h
  clear h
  have H' := Aside0.mk H
  clear H
  go_enter Try.func11, Try.ntmps11
  go_wp2
  go_loopg [4, 5] k (fun kq v4 v5 w' => ∃ (x4_1 : Int) (x5_1 : Int), v4 = .int .u32 x4_1 ∧ v5 = .int .i64 x5_1 ∧ Aside0 (chartularyref02_Sum.l0 kq l0 2197175160 x4_1 x5_1 = some r) ∧ Aside0 (kq ≤ k) ∧ Drawn0 w w')
  case atStart => exact ⟨(4294967295), (0), (by first | rfl | (simp; done) | (simp [*]; done)), (by first | rfl | (simp; done) | (simp [*]; done)), H', ⟨Nat.le_refl _⟩, by repeat (first | exact Drawn0.refl _ | apply Drawn0.step)⟩
  case round =>
    clear H'
    try clear c1
    obtain ⟨x4_1, x5_1, rfl, rfl, HA, HK1, ⟨m1, rfl⟩⟩ := hrel
    cases gk with
    | zero => exact absurd HA.out (by simp [chartularyref02_Sum.l0])
    | succ k1 =>
      have H := HA.out
      clear HA
      simp only [chartularyref02_Sum.l0] at H
      by_cases c2 : x5_1 < (l0.length : Int)
      · rw [if_pos c2] at H
        have c2b0 : decide (x5_1 < (l0.length : Int)) = true := decide_eq_true c2
        clear c2
        have H' := Aside0.mk H
        clear H
        go_wp2
        go_loopg [4, 6] k1 (fun kq v4 v6 w' => ∃ (x4_2 : Int) (x6_2 : Int), v4 = .int .u32 x4_2 ∧ v6 = .int .i64 x6_2 ∧ Aside0 (chartularyref02_Sum.l1 kq l0 2197175160 x4_2 x5_1 x6_2 = some r) ∧ Aside0 (kq ≤ k1) ∧ Drawn0 w w')
        case atStart => exact ⟨(x4_1), (0), (by first | rfl | (simp; done) | (simp [*]; done)), (by first | rfl | (simp; done) | (simp [*]; done)), H', ⟨Nat.le_refl _⟩, by repeat (first | exact Drawn0.refl _ | apply Drawn0.step)⟩
        case round =>
          clear H'
          try clear c1
          try clear c2
          try clear c2b0
          try clear p2
          obtain ⟨x4_2, x6_2, rfl, rfl, HA, HK2, ⟨m2, rfl⟩⟩ := hrel
          cases gk with
          | zero => exact absurd HA.out (by simp [chartularyref02_Sum.l1])
          | succ k2 =>
            have H := HA.out
            clear HA
            simp only [chartularyref02_Sum.l1] at H
            by_cases c3 : 0 ≤ x5_1
            · rw [if_pos c3] at H
              have c3b0 : decide (0 ≤ x5_1) = true := decide_eq_true c3
              clear c3
              by_cases c4 : x5_1 < (l0.length : Int)
              · rw [if_pos c4] at H
                have c4b0 : decide (x5_1 < (l0.length : Int)) = true := decide_eq_true c4
                clear c4
                by_cases c5 : x6_2 < ((rd_L1 l0 x5_1).length : Int)
                · rw [if_pos c5] at H
                  have c5b0 : decide (x6_2 < ((rd_L1 l0 x5_1).length : Int)) = true := decide_eq_true c5
                  clear c5
                  have H' := Aside0.mk H
                  clear H
                  have p107 : 0 ≤ (x5_1 : Int) := of_decide_eq_true (by first | (with_reducible assumption) | assumption)
                  have q107 : x5_1 < (l0.length : Int) := of_decide_eq_true (by first | (with_reducible assumption) | assumption)
                  obtain ⟨ad107, A107_0, c107_0, e107, hx107_0, hl107_0, hi107_0⟩ := at_L1 HR0.out x5_1 p107 q107
                  cases e107
                  have HR107_0 := Aside0.mk hi107_0
                  have HC107_0 := Aside0.mk hl107_0
                  clear hi107_0 hl107_0
                  replace p107 := eq_true p107
                  replace q107 := eq_true q107
                  go_wp2
                  go_loopg [4, 7] k2 (fun kq v4 v7 w' => ∃ (x4_3 : Int) (x7_3 : Int), v4 = .int .u32 x4_3 ∧ v7 = .int .i64 x7_3 ∧ Aside0 (chartularyref02_Sum.l2 kq l0 2197175160 x4_3 x5_1 x6_2 x7_3 = some r) ∧ Aside0 (kq ≤ k2) ∧ Drawn0 w w')
                  case atStart => exact ⟨(x4_2), (0), (by first | rfl | (simp; done) | (simp [*]; done)), (by first | rfl | (simp; done) | (simp [*]; done)), H', ⟨Nat.le_refl _⟩, by repeat (first | exact Drawn0.refl _ | apply Drawn0.step)⟩
                  case round =>
                    clear H'
                    try clear c1
                    try clear p1
                    try clear q1
                    try clear hx1
                    try clear c2
                    try clear c2b0
                    try clear p2
                    try clear c3
                    try clear c3b0
                    try clear c4
                    try clear c4b0
                    try clear c5
                    try clear c5b0
                    try clear hx107_0
                    try clear p107
                    try clear p2
                    try clear q107
                    obtain ⟨x4_3, x7_3, rfl, rfl, HA, HK3, ⟨m3, rfl⟩⟩ := hrel
                    cases gk with
                    | zero => exact absurd HA.out (by simp [chartularyref02_Sum.l2])
                    | succ k3 =>
                      have H := HA.out
                      clear HA
                      simp only [chartularyref02_Sum.l2] at H
                      by_cases c6 : x7_3 < 8
                      · rw [if_pos c6] at H
                        have c6b0 : decide (x7_3 < 8) = true := decide_eq_true c6
                        clear c6
                        by_cases c7 : 0 ≤ x5_1
                        · rw [if_pos c7] at H
                          have c7b0 : decide (0 ≤ x5_1) = true := decide_eq_true c7
                          clear c7
                          by_cases c8 : x5_1 < (l0.length : Int)
                          · rw [if_pos c8] at H
                            have c8b0 : decide (x5_1 < (l0.length : Int)) = true := decide_eq_true c8
                            clear c8
                            by_cases c9 : 0 ≤ x6_2
                            · rw [if_pos c9] at H
                              have c9b0 : decide (0 ≤ x6_2) = true := decide_eq_true c9
                              clear c9
                              by_cases c10 : x6_2 < ((rd_L1 l0 x5_1).length : Int)
                              · rw [if_pos c10] at H
                                have c10b0 : decide (x6_2 < ((rd_L1 l0 x5_1).length : Int)) = true := decide_eq_true c10
                                clear c10
                                obtain ⟨ji11, hji11⟩ : ∃ j_ : Int, (IntKind.u64.wrap (x7_3)) = j_ := ⟨_, rfl⟩
                                replace H : (if 0 ≤ (ji11) then (if ((shr .u32 ((rd (rd_L1 l0 x5_1) x6_2) % 4294967296) (ji11)) % 2) = (Int.tmod x4_3 2) then (chartularyref02_Sum.l2 k3 l0 2197175160 ((Int.tdiv x4_3 2) % 4294967296) x5_1 x6_2 (wrap64 (x7_3 + 1))) else (chartularyref02_Sum.l2 k3 l0 2197175160 (Go.bits .xor .u32 ((Int.tdiv x4_3 2) % 4294967296) 2197175160) x5_1 x6_2 (wrap64 (x7_3 + 1)))) else (none)) = some r := by first | (rw [hji11] at H; exact H) | (simp only [hji11] at H ⊢; exact H)
                                by_cases c12 : 0 ≤ (ji11)
                                · rw [if_pos c12] at H
                                  have c12b0 := eq_true c12
                                  have c12b1 : decide (0 ≤ (ji11)) = true := decide_eq_true c12
                                  clear c12
                                  obtain ⟨ji13, hji13⟩ : ∃ j_ : Int, (shr .u32 ((rd (rd_L1 l0 x5_1) x6_2) % 4294967296) (ji11)) = j_ := ⟨_, rfl⟩
                                  replace H : (if ((ji13) % 2) = (Int.tmod x4_3 2) then (chartularyref02_Sum.l2 k3 l0 2197175160 ((Int.tdiv x4_3 2) % 4294967296) x5_1 x6_2 (wrap64 (x7_3 + 1))) else (chartularyref02_Sum.l2 k3 l0 2197175160 (Go.bits .xor .u32 ((Int.tdiv x4_3 2) % 4294967296) 2197175160) x5_1 x6_2 (wrap64 (x7_3 + 1)))) = some r := by first | (rw [hji13] at H; exact H) | (simp only [hji13] at H ⊢; exact H)
                                  have hji13_ : (((rd (rd_L1 l0 x5_1) x6_2) % 4294967296) / 2 ^ min (ji11).toNat 32) = ji13 := hji13
                                  (try have hji13n : 0 ≤ ji13 := by rw [← hji13_]; exact Int.ediv_nonneg (by omega) (Int.le_of_lt (Int.pow_pos (by decide))))
                                  have hji13z : (ji11) ≤ 32 → (((rd (rd_L1 l0 x5_1) x6_2) % 4294967296) / 2 ^ (ji11).toNat) = ji13 := shr_small hji13
                                  by_cases c14 : ((ji13) % 2) = (Int.tmod x4_3 2)
                                  · rw [if_pos c14] at H
                                    have c14b0 : (((ji13) % 2) == (Int.tmod x4_3 2)) = true := beq_iff_eq.mpr c14
                                    have c14b1 : (((ji13) % 2) != (Int.tmod x4_3 2)) = false := bne_eq_false_iff_eq.mpr c14
                                    clear c14
                                    have H' := Aside0.mk H
                                    clear H
                                    have p108 : 0 ≤ (x5_1 : Int) := of_decide_eq_true (by first | (with_reducible assumption) | assumption)
                                    have q108 : x5_1 < (l0.length : Int) := of_decide_eq_true (by first | (with_reducible assumption) | assumption)
                                    obtain ⟨ad108, A108_0, c108_0, e108, hx108_0, hl108_0, hi108_0⟩ := at_L1 HR0.out x5_1 p108 q108
                                    obtain rfl : ad107 = ad108 := (by injection e108)
                                    have HR108_0 := Aside0.mk hi108_0
                                    have HC108_0 := Aside0.mk hl108_0
                                    clear hi108_0 hl108_0
                                    replace p108 := eq_true p108
                                    replace q108 := eq_true q108
                                    have p109 : 0 ≤ (x6_2 : Int) := of_decide_eq_true (by first | (with_reducible assumption) | assumption)
                                    have q109 : x6_2 < ((rd_L1 l0 x5_1).length : Int) := of_decide_eq_true (by first | (with_reducible assumption) | assumption)
                                    obtain ⟨ad109, e109, hx109_0⟩ := Kd.at_int HR108_0.out x6_2 p109 q109
                                    cases e109
                                    replace p109 := eq_true p109
                                    replace q109 := eq_true q109
                                    go_wp2
                                    go_roundg k3
                                    case measure => have := HK1.out; have := HK2.out; have := HK3.out; omega
                                    case rel => exact ⟨((Int.tdiv x4_3 2) % 4294967296), (wrap64 (x7_3 + 1)), (by first | rfl | (simp; done) | (simp [*]; done)), (by first | rfl | (simp; done) | (simp [*]; done)), H', ⟨by have := HK1.out; have := HK2.out; have := HK3.out; omega⟩, by repeat (first | exact Drawn0.refl _ | apply Drawn0.step)⟩
                                  · rw [if_neg c14] at H
                                    have c14b0 : (((ji13) % 2) == (Int.tmod x4_3 2)) = false := beq_eq_false_iff_ne.mpr c14
                                    have c14b1 : (((ji13) % 2) != (Int.tmod x4_3 2)) = true := bne_iff_ne.mpr c14
                                    have H' := Aside0.mk H
                                    clear H
                                    have p108 : 0 ≤ (x5_1 : Int) := of_decide_eq_true (by first | (with_reducible assumption) | assumption)
                                    have q108 : x5_1 < (l0.length : Int) := of_decide_eq_true (by first | (with_reducible assumption) | assumption)
                                    obtain ⟨ad108, A108_0, c108_0, e108, hx108_0, hl108_0, hi108_0⟩ := at_L1 HR0.out x5_1 p108 q108
                                    obtain rfl : ad107 = ad108 := (by injection e108)
                                    have HR108_0 := Aside0.mk hi108_0
                                    have HC108_0 := Aside0.mk hl108_0
                                    clear hi108_0 hl108_0
                                    replace p108 := eq_true p108
                                    replace q108 := eq_true q108
                                    have p109 : 0 ≤ (x6_2 : Int) := of_decide_eq_true (by first | (with_reducible assumption) | assumption)
                                    have q109 : x6_2 < ((rd_L1 l0 x5_1).length : Int) := of_decide_eq_true (by first | (with_reducible assumption) | assumption)
                                    obtain ⟨ad109, e109, hx109_0⟩ := Kd.at_int HR108_0.out x6_2 p109 q109
                                    cases e109
                                    replace p109 := eq_true p109
                                    replace q109 := eq_true q109
                                    go_wp2
                                    go_roundg k3
                                    case measure => have := HK1.out; have := HK2.out; have := HK3.out; omega
                                    case rel => exact ⟨(Go.bits .xor .u32 ((Int.tdiv x4_3 2) % 4294967296) 2197175160), (wrap64 (x7_3 + 1)), (by first | rfl | (simp; done) | (simp [*]; done)), (by first | rfl | (simp; done) | (simp [*]; done)), H', ⟨by have := HK1.out; have := HK2.out; have := HK3.out; omega⟩, by repeat (first | exact Drawn0.refl _ | apply Drawn0.step)⟩
                                · rw [if_neg c12] at H
                                  exact absurd H (by simp)
                              · rw [if_neg c10] at H
                                exact absurd H (by simp)
                            · rw [if_neg c9] at H
                              exact absurd H (by simp)
                          · rw [if_neg c8] at H
                            exact absurd H (by simp)
                        · rw [if_neg c7] at H
                          exact absurd H (by simp)
                      · rw [if_neg c6] at H
                        have c6b0 : decide (x7_3 < 8) = false := decide_eq_false c6
                        clear c6
                        have H' := Aside0.mk H
                        clear H
                        go_wp2
                        go_roundg k3
                        case measure => have := HK1.out; have := HK2.out; have := HK3.out; omega
                        case rel => exact ⟨(x4_3), (wrap64 (x6_2 + 1)), (by first | rfl | (simp; done) | (simp [*]; done)), (by first | rfl | (simp; done) | (simp [*]; done)), H', ⟨by have := HK1.out; have := HK2.out; have := HK3.out; omega⟩, by repeat (first | exact Drawn0.refl _ | apply Drawn0.step)⟩
                · rw [if_neg c5] at H
                  have c5b0 : decide (x6_2 < ((rd_L1 l0 x5_1).length : Int)) = false := decide_eq_false c5
                  clear c5
                  have H' := Aside0.mk H
                  clear H
                  have p107 : 0 ≤ (x5_1 : Int) := of_decide_eq_true (by first | (with_reducible assumption) | assumption)
                  have q107 : x5_1 < (l0.length : Int) := of_decide_eq_true (by first | (with_reducible assumption) | assumption)
                  obtain ⟨ad107, A107_0, c107_0, e107, hx107_0, hl107_0, hi107_0⟩ := at_L1 HR0.out x5_1 p107 q107
                  cases e107
                  have HR107_0 := Aside0.mk hi107_0
                  have HC107_0 := Aside0.mk hl107_0
                  clear hi107_0 hl107_0
                  replace p107 := eq_true p107
                  replace q107 := eq_true q107
                  go_wp2
                  go_roundg k2
                  case measure => have := HK1.out; have := HK2.out; omega
                  case rel => exact ⟨(x4_2), (wrap64 (x5_1 + 1)), (by first | rfl | (simp; done) | (simp [*]; done)), (by first | rfl | (simp; done) | (simp [*]; done)), H', ⟨by have := HK1.out; have := HK2.out; omega⟩, by repeat (first | exact Drawn0.refl _ | apply Drawn0.step)⟩
              · rw [if_neg c4] at H
                exact absurd H (by simp)
            · rw [if_neg c3] at H
              exact absurd H (by simp)
      · rw [if_neg c2] at H
        have c2b0 : decide (x5_1 < (l0.length : Int)) = false := decide_eq_false c2
        clear c2
        obtain rfl := Option.some.inj H
        go_wp2
        go_ret
        exact ⟨by first | rfl | (simp; done) | (simp [*]; done), by repeat (first | exact Drawn0.refl _ | apply Drawn0.step)⟩

/-! ### chartularyref02_More: function 13 -/
mutual
def chartularyref02_More.l0 : Nat → List Int → Int → Int → Int → Option (Int)
  | 0, _, _, _, _ => none
  | k + 1, x1, x5, x6, x7 => if x7 < (x1.length : Int) then (chartularyref02_More.l1 k x1 x5 x6 x7 0) else (some (Go.bits .xor .u32 x6 4294967295))
def chartularyref02_More.l1 : Nat → List Int → Int → Int → Int → Int → Option (Int)
  | 0, _, _, _, _, _ => none
  | k + 1, x1, x5, x6, x7, x8 => if x8 < 8 then (if 0 ≤ x7 then (if x7 < (x1.length : Int) then (if 0 ≤ (IntKind.u64.wrap (x8)) then (if ((shr .u32 ((rd x1 x7) % 4294967296) (IntKind.u64.wrap (x8))) % 2) = (Int.tmod x6 2) then (chartularyref02_More.l1 k x1 x5 ((Int.tdiv x6 2) % 4294967296) x7 (wrap64 (x8 + 1))) else (chartularyref02_More.l1 k x1 x5 (Go.bits .xor .u32 ((Int.tdiv x6 2) % 4294967296) x5) x7 (wrap64 (x8 + 1)))) else (none)) else (none)) else (none)) else (chartularyref02_More.l0 k x1 x5 x6 (wrap64 (x7 + 1)))
end
def chartularyref02_More.f (k : Nat) (a0 : Int) (l1 : List Int) : Option (Int) := chartularyref02_More.l0 k l1 2197175160 (Go.bits .xor .u32 a0 4294967295) 0
theorem chartularyref02_More.mono_l : ∀ k, (∀ y0 y1 y2 y3, LeO (chartularyref02_More.l0 k y0 y1 y2 y3) (chartularyref02_More.l0 (k + 1) y0 y1 y2 y3)) ∧ (∀ y0 y1 y2 y3 y4, LeO (chartularyref02_More.l1 k y0 y1 y2 y3 y4) (chartularyref02_More.l1 (k + 1) y0 y1 y2 y3 y4))
  | 0 => ⟨fun _ _ _ _ r h => by simp [chartularyref02_More.l0] at h, fun _ _ _ _ _ r h => by simp [chartularyref02_More.l1] at h⟩
  | k + 1 => by
    obtain ⟨ih0, ih1⟩ := chartularyref02_More.mono_l k
    refine ⟨?_, ?_⟩
    · intro y0 y1 y2 y3
      unfold chartularyref02_More.l0
      repeat' first
      | (with_reducible exact ih0 _ _ _ _)
      | (with_reducible exact ih1 _ _ _ _ _)
      | (with_reducible exact LeO.refl _)
      | (with_reducible exact LeO.none _)
      | (with_reducible refine LeO.ite ?_ ?_)
      | (with_reducible refine LeO.bind ?_ (fun _ => ?_))
      | exact ih0 _ _ _ _
      | exact ih1 _ _ _ _ _
      | exact LeO.none _
      | refine LeO.ite ?_ ?_
      | refine LeO.bind ?_ (fun _ => ?_)
    · intro y0 y1 y2 y3 y4
      unfold chartularyref02_More.l1
      repeat' first
      | (with_reducible exact ih0 _ _ _ _)
      | (with_reducible exact ih1 _ _ _ _ _)
      | (with_reducible exact LeO.refl _)
      | (with_reducible exact LeO.none _)
      | (with_reducible refine LeO.ite ?_ ?_)
      | (with_reducible refine LeO.bind ?_ (fun _ => ?_))
      | exact ih0 _ _ _ _
      | exact ih1 _ _ _ _ _
      | exact LeO.none _
      | refine LeO.ite ?_ ?_
      | refine LeO.bind ?_ (fun _ => ?_)
theorem chartularyref02_More.mono : ∀ a0 a1 k, LeO (chartularyref02_More.f k a0 a1) (chartularyref02_More.f (k + 1) a0 a1) := by
  intro a0 a1 k
  obtain ⟨ih0, ih1⟩ := chartularyref02_More.mono_l k
  unfold chartularyref02_More.f
  repeat' first
      | (with_reducible exact ih0 _ _ _ _)
      | (with_reducible exact ih1 _ _ _ _ _)
      | (with_reducible exact LeO.refl _)
      | (with_reducible exact LeO.none _)
      | (with_reducible refine LeO.ite ?_ ?_)
      | (with_reducible refine LeO.bind ?_ (fun _ => ?_))
      | exact ih0 _ _ _ _
      | exact ih1 _ _ _ _ _
      | exact LeO.none _
      | refine LeO.ite ?_ ?_
      | refine LeO.bind ?_ (fun _ => ?_)
set_option maxHeartbeats 8000000 in
set_option maxRecDepth 100000 in
theorem chartularyref02_More.calls (k : Nat) (a0 : Int) (A1 : Option Addr) (c1 : Nat) (l1 : List Int) (r : Int) (w : World) (hr1 : Kd.C (Kd.int .u8) w A1 l1.length l1) (hc1 : l1.length ≤ c1) (h : chartularyref02_More.f k a0 l1 = some r) :
    Calls Try.prog 13 #[.int .u32 a0, .slice A1 l1.length c1] w fun e w' => e = .returned (.int .u32 r) ∧ Drawn0 w w' := by
  have HR1 := Aside0.mk hr1
  have HC1 := Aside0.mk hc1
  clear hr1 hc1
  have H : (chartularyref02_More.l0 k l1 2197175160 (Go.bits .xor .u32 a0 4294967295) 0) = some r := h
  clear h
  have H' := Aside0.mk H
  clear H
  go_enter Try.func13, Try.ntmps13
  go_wp2
  go_loopg [6, 7] k (fun kq v6 v7 w' => ∃ (x6_1 : Int) (x7_1 : Int), v6 = .int .u32 x6_1 ∧ v7 = .int .i64 x7_1 ∧ Aside0 (chartularyref02_More.l0 kq l1 2197175160 x6_1 x7_1 = some r) ∧ Aside0 (kq ≤ k) ∧ Drawn0 w w')
  case atStart => exact ⟨(Go.bits .xor .u32 a0 4294967295), (0), (by first | rfl | (simp; done) | (simp [*]; done)), (by first | rfl | (simp; done) | (simp [*]; done)), H', ⟨Nat.le_refl _⟩, by repeat (first | exact Drawn0.refl _ | apply Drawn0.step)⟩
  case round =>
    clear H'
    try clear c1
    try clear p2
    obtain ⟨x6_1, x7_1, rfl, rfl, HA, HK1, ⟨m1, rfl⟩⟩ := hrel
    cases gk with
    | zero => exact absurd HA.out (by simp [chartularyref02_More.l0])
    | succ k1 =>
      have H := HA.out
      clear HA
      simp only [chartularyref02_More.l0] at H
      by_cases c3 : x7_1 < (l1.length : Int)
      · rw [if_pos c3] at H
        have c3b0 : decide (x7_1 < (l1.length : Int)) = true := decide_eq_true c3
        clear c3
        have H' := Aside0.mk H
        clear H
        go_wp2
        go_loopg [6, 8] k1 (fun kq v6 v8 w' => ∃ (x6_2 : Int) (x8_2 : Int), v6 = .int .u32 x6_2 ∧ v8 = .int .i64 x8_2 ∧ Aside0 (chartularyref02_More.l1 kq l1 2197175160 x6_2 x7_1 x8_2 = some r) ∧ Aside0 (kq ≤ k1) ∧ Drawn0 w w')
        case atStart => exact ⟨(x6_1), (0), (by first | rfl | (simp; done) | (simp [*]; done)), (by first | rfl | (simp; done) | (simp [*]; done)), H', ⟨Nat.le_refl _⟩, by repeat (first | exact Drawn0.refl _ | apply Drawn0.step)⟩
        case round =>
          clear H'
          try clear c1
          try clear p2
          try clear c3
          try clear c3b0
          try clear p2
          obtain ⟨x6_2, x8_2, rfl, rfl, HA, HK2, ⟨m2, rfl⟩⟩ := hrel
          cases gk with
          | zero => exact absurd HA.out (by simp [chartularyref02_More.l1])
          | succ k2 =>
            have H := HA.out
            clear HA
            simp only [chartularyref02_More.l1] at H
            by_cases c4 : x8_2 < 8
            · rw [if_pos c4] at H
              have c4b0 : decide (x8_2 < 8) = true := decide_eq_true c4
              clear c4
              by_cases c5 : 0 ≤ x7_1
              · rw [if_pos c5] at H
                have c5b0 : decide (0 ≤ x7_1) = true := decide_eq_true c5
                clear c5
                by_cases c6 : x7_1 < (l1.length : Int)
                · rw [if_pos c6] at H
                  have c6b0 : decide (x7_1 < (l1.length : Int)) = true := decide_eq_true c6
                  clear c6
                  obtain ⟨ji7, hji7⟩ : ∃ j_ : Int, (IntKind.u64.wrap (x8_2)) = j_ := ⟨_, rfl⟩
                  replace H : (if 0 ≤ (ji7) then (if ((shr .u32 ((rd l1 x7_1) % 4294967296) (ji7)) % 2) = (Int.tmod x6_2 2) then (chartularyref02_More.l1 k2 l1 2197175160 ((Int.tdiv x6_2 2) % 4294967296) x7_1 (wrap64 (x8_2 + 1))) else (chartularyref02_More.l1 k2 l1 2197175160 (Go.bits .xor .u32 ((Int.tdiv x6_2 2) % 4294967296) 2197175160) x7_1 (wrap64 (x8_2 + 1)))) else (none)) = some r := by first | (rw [hji7] at H; exact H) | (simp only [hji7] at H ⊢; exact H)
                  by_cases c8 : 0 ≤ (ji7)
                  · rw [if_pos c8] at H
                    have c8b0 := eq_true c8
                    have c8b1 : decide (0 ≤ (ji7)) = true := decide_eq_true c8
                    clear c8
                    obtain ⟨ji9, hji9⟩ : ∃ j_ : Int, (shr .u32 ((rd l1 x7_1) % 4294967296) (ji7)) = j_ := ⟨_, rfl⟩
                    replace H : (if ((ji9) % 2) = (Int.tmod x6_2 2) then (chartularyref02_More.l1 k2 l1 2197175160 ((Int.tdiv x6_2 2) % 4294967296) x7_1 (wrap64 (x8_2 + 1))) else (chartularyref02_More.l1 k2 l1 2197175160 (Go.bits .xor .u32 ((Int.tdiv x6_2 2) % 4294967296) 2197175160) x7_1 (wrap64 (x8_2 + 1)))) = some r := by first | (rw [hji9] at H; exact H) | (simp only [hji9] at H ⊢; exact H)
                    have hji9_ : (((rd l1 x7_1) % 4294967296) / 2 ^ min (ji7).toNat 32) = ji9 := hji9
                    (try have hji9n : 0 ≤ ji9 := by rw [← hji9_]; exact Int.ediv_nonneg (by omega) (Int.le_of_lt (Int.pow_pos (by decide))))
                    have hji9z : (ji7) ≤ 32 → (((rd l1 x7_1) % 4294967296) / 2 ^ (ji7).toNat) = ji9 := shr_small hji9
                    by_cases c10 : ((ji9) % 2) = (Int.tmod x6_2 2)
                    · rw [if_pos c10] at H
                      have c10b0 : (((ji9) % 2) == (Int.tmod x6_2 2)) = true := beq_iff_eq.mpr c10
                      have c10b1 : (((ji9) % 2) != (Int.tmod x6_2 2)) = false := bne_eq_false_iff_eq.mpr c10
                      clear c10
                      have H' := Aside0.mk H
                      clear H
                      have p110 : 0 ≤ (x7_1 : Int) := of_decide_eq_true (by first | (with_reducible assumption) | assumption)
                      have q110 : x7_1 < (l1.length : Int) := of_decide_eq_true (by first | (with_reducible assumption) | assumption)
                      obtain ⟨ad110, e110, hx110_0⟩ := Kd.at_int HR1.out x7_1 p110 q110
                      cases e110
                      replace p110 := eq_true p110
                      replace q110 := eq_true q110
                      go_wp2
                      go_roundg k2
                      case measure => have := HK1.out; have := HK2.out; omega
                      case rel => exact ⟨((Int.tdiv x6_2 2) % 4294967296), (wrap64 (x8_2 + 1)), (by first | rfl | (simp; done) | (simp [*]; done)), (by first | rfl | (simp; done) | (simp [*]; done)), H', ⟨by have := HK1.out; have := HK2.out; omega⟩, by repeat (first | exact Drawn0.refl _ | apply Drawn0.step)⟩
                    · rw [if_neg c10] at H
                      have c10b0 : (((ji9) % 2) == (Int.tmod x6_2 2)) = false := beq_eq_false_iff_ne.mpr c10
                      have c10b1 : (((ji9) % 2) != (Int.tmod x6_2 2)) = true := bne_iff_ne.mpr c10
                      have H' := Aside0.mk H
                      clear H
                      have p110 : 0 ≤ (x7_1 : Int) := of_decide_eq_true (by first | (with_reducible assumption) | assumption)
                      have q110 : x7_1 < (l1.length : Int) := of_decide_eq_true (by first | (with_reducible assumption) | assumption)
                      obtain ⟨ad110, e110, hx110_0⟩ := Kd.at_int HR1.out x7_1 p110 q110
                      cases e110
                      replace p110 := eq_true p110
                      replace q110 := eq_true q110
                      go_wp2
                      go_roundg k2
                      case measure => have := HK1.out; have := HK2.out; omega
                      case rel => exact ⟨(Go.bits .xor .u32 ((Int.tdiv x6_2 2) % 4294967296) 2197175160), (wrap64 (x8_2 + 1)), (by first | rfl | (simp; done) | (simp [*]; done)), (by first | rfl | (simp; done) | (simp [*]; done)), H', ⟨by have := HK1.out; have := HK2.out; omega⟩, by repeat (first | exact Drawn0.refl _ | apply Drawn0.step)⟩
                  · rw [if_neg c8] at H
                    exact absurd H (by simp)
                · rw [if_neg c6] at H
                  exact absurd H (by simp)
              · rw [if_neg c5] at H
                exact absurd H (by simp)
            · rw [if_neg c4] at H
              have c4b0 : decide (x8_2 < 8) = false := decide_eq_false c4
              clear c4
              have H' := Aside0.mk H
              clear H
              go_wp2
              go_roundg k2
              case measure => have := HK1.out; have := HK2.out; omega
              case rel => exact ⟨(x6_2), (wrap64 (x7_1 + 1)), (by first | rfl | (simp; done) | (simp [*]; done)), (by first | rfl | (simp; done) | (simp [*]; done)), H', ⟨by have := HK1.out; have := HK2.out; omega⟩, by repeat (first | exact Drawn0.refl _ | apply Drawn0.step)⟩
      · rw [if_neg c3] at H
        have c3b0 : decide (x7_1 < (l1.length : Int)) = false := decide_eq_false c3
        clear c3
        obtain rfl := Option.some.inj H
        go_wp2
        go_ret
        exact ⟨by first | rfl | (simp; done) | (simp [*]; done), by repeat (first | exact Drawn0.refl _ | apply Drawn0.step)⟩

end Go.Proofs.Ythcebfjpgmkjjaa.PAll
