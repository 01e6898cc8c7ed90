/- What the printed functions of locks come to, each as one Bool or number: plain Lean. No condition. -/
import Derived.Test.YtbohofdffjlloaaPAllx3
import Derived.Test.YtbohofdffjlloaaPAllx4
namespace Go.Proofs.Ytbohofdffjlloaa.Pure
set_option linter.unusedSimpArgs false
open Go.RowKit Go.Proofs.Ytbohofdffjlloaa.PAll Go.Proofs.YtbohofdffjlloaaW.PrintWords Go.Proofs.YtbohofdffjlloaaW.PrintLast Go.Proofs.YtbohofdffjlloaaW.PrintMore
/-- Is it a lock? -/
def sB (a b : Int) : Bool := decide ((a = 0 ∧ b = 0) ∨ ((a = 1 ∨ a = 2) ∧ -62135596800 ≤ b ∧ b ≤ 253402300799))
def bB (a b t : Int) : Bool := decide (a ≠ 0 ∧ t < b)
def eI (a b : Int) (c : Bool) (t : Int) (y : Bool) : Int := if sB a b = false then 2 else if c = true ∨ (bB a b t = true ∧ (a = 2 ∨ y = false)) then 13 else 0
def wB (a b m u : Int) : Bool := decide ((a = 2 ∧ m ≠ 2) ∨ m = 0 ∨ u < b)
def cB (a0 a1 : Int) (a2 : Bool) (b0 b1 : Int) (b2 : Bool) (t : Int) : Bool := decide (¬ (b2 = true ∧ a2 = false) ∧ (bB b0 b1 t = true → b0 ≤ a0 ∧ b1 ≤ a1))
theorem sound_eq (a b : Int) (c : Bool) : mode_Sound.f a b c = some (sB a b) := by
  unfold mode_Sound.f when_Clamp.f sB mx mn
  by_cases h0 : a = 0
  · subst h0; simp only [if_true, Option.some.injEq]; rw [Bool.eq_iff_iff]; simp
  · rw [if_neg h0]
    by_cases h1 : a = 1
    · subst h1; simp only [if_true, Option.bind_some, Option.some.injEq]; rw [Bool.eq_iff_iff]; simp; split <;> split <;> omega
    · rw [if_neg h1]
      by_cases h2 : a = 2
      · subst h2; simp only [if_true, Option.bind_some, Option.some.injEq]; rw [Bool.eq_iff_iff]; simp; split <;> split <;> omega
      · rw [if_neg h2]; simp [h0, h1, h2]
theorem clamp_iff (b : Int) : ∃ c, chartularyref05_Clamp.f b = some c ∧ (c = b ↔ -62135596800 ≤ b ∧ b ≤ 253402300799) := by
  unfold chartularyref05_Clamp.f
  split
  · exact ⟨_, rfl, by omega⟩
  · split
    · exact ⟨_, rfl, by omega⟩
    · exact ⟨_, rfl, by omega⟩
theorem rsound_eq (a b : Int) (c : Bool) : chartularyref12_Sound.f a b c = some (sB a b) := by
  unfold chartularyref12_Sound.f sB
  obtain ⟨x, hx, hc⟩ := clamp_iff b
  rw [hx]
  by_cases h0 : a = 0
  · subst h0; simp only [if_true, Option.some.injEq]; rw [Bool.eq_iff_iff]; simp
  · rw [if_neg h0]
    by_cases h1 : a = 1
    · subst h1; simp only [if_true, Option.bind_some, Option.some.injEq]; rw [Bool.eq_iff_iff]; simp [hc]
    · rw [if_neg h1]
      by_cases h2 : a = 2
      · subst h2; simp only [if_true, Option.bind_some, Option.some.injEq]; rw [Bool.eq_iff_iff]; simp [hc]
      · rw [if_neg h2]; simp [h0, h1, h2]
theorem good_eq (a b : Int) : mode_Good.f a b = chartularyref12_Good.f a b := by
  unfold mode_Good.f chartularyref12_Good.f; rfl
theorem binds_eq (a b : Int) (c : Bool) (t : Int) : mode_binds.f a b c t = some (bB a b t) := by
  unfold mode_binds.f bB; by_cases h : a = 0 <;> simp [h]
theorem rbinds_eq (a b : Int) (c : Bool) (t : Int) : chartularyref12_Binds.f a b c t = some (bB a b t) := by
  unfold chartularyref12_Binds.f bB; by_cases h : a = 0 <;> simp [h]
theorem held_eq (a b : Int) (c : Bool) (t : Int) : mode_Held.f a b c t = some (c || bB a b t) := by
  unfold mode_Held.f; rw [binds_eq]; cases c <;> simp
theorem rheld_eq (a b : Int) (c : Bool) (t : Int) : chartularyref12_Held.f a b c t = some (c || bB a b t) := by
  unfold chartularyref12_Held.f; rw [rbinds_eq]; cases c <;> simp
theorem erase_eq (a b : Int) (c : Bool) (t : Int) (y : Bool) : mode_Erase.f a b c t y = some (eI a b c t y) := by
  unfold mode_Erase.f eI; rw [sound_eq, binds_eq]
  cases sB a b <;> cases c <;> cases bB a b t <;> cases y <;> by_cases h : a = 2 <;> simp [h]
theorem rerase_eq (a b : Int) (c : Bool) (t : Int) (y : Bool) : chartularyref12_Erase.f a b c t y = some (eI a b c t y) := by
  unfold chartularyref12_Erase.f eI; rw [rsound_eq, rbinds_eq]
  cases sB a b <;> cases c <;> cases bB a b t <;> cases y <;> by_cases h : a = 2 <;> simp [h]
theorem weaker_eq (a b : Int) (c : Bool) (m u : Int) : mode_weaker.f a b c m u = some (wB a b m u) := by
  unfold mode_weaker.f wB
  by_cases h : a = 2 <;> by_cases h1 : m = 2 <;> by_cases h2 : m = 0 <;> simp [h, h1, h2]
  all_goals omega
theorem covers_eq (a0 a1 : Int) (a2 : Bool) (b0 b1 : Int) (b2 : Bool) (t : Int) : mode_Covers.f a0 a1 a2 b0 b1 b2 t = some (cB a0 a1 a2 b0 b1 b2 t) := by
  unfold mode_Covers.f cB; rw [binds_eq]
  cases a2 <;> cases b2 <;> cases bB b0 b1 t <;> by_cases h : a0 ≥ b0 <;> by_cases h1 : a1 ≥ b1 <;> simp [h, h1] <;> omega
/-- What Retain answers: the lock's mode, time and hold, and the error. -/
def rT (a b : Int) (c : Bool) (m u t : Int) (y : Bool) : Int × Int × Bool × Int :=
  if sB a b = false ∨ sB m u = false then (0, 0, false, 2) else if m ≠ 0 ∧ u ≤ t then (0, 0, false, 4)
  else if bB a b t = true ∧ wB a b m u = true ∧ (a = 2 ∨ y = false) then (0, 0, false, 13) else (m, u, c, 0)
theorem retain_eq (k : Nat) (a b : Int) (c : Bool) (m u t : Int) (y : Bool) : mode_Retain.f (k + 2) a b c m u t y = some (rT a b c m u t y) := by
  unfold mode_Retain.f rT; rw [sound_eq, sound_eq]
  simp only [Option.bind_some, mode_Retain.j0, mode_Retain.j1, binds_eq, weaker_eq]
  cases sB a b <;> cases sB m u <;> cases bB a b t <;> cases wB a b m u <;> cases y <;> by_cases h : a = 2 <;> by_cases h1 : m = 0 <;> by_cases h2 : u ≤ t <;> simp [h, h1, h2]
theorem awake_eq (k : Nat) : chartularylaw12_awake.f (k + 2) = some true := by
  unfold chartularylaw12_awake.f; rw [retain_eq]
  simp only [held_eq, erase_eq, covers_eq]
  decide +kernel
theorem good_some (a b : Int) : ∃ g, chartularyref12_Good.f a b = some g := by
  unfold chartularyref12_Good.f; repeat' split
  all_goals exact ⟨_, rfl⟩
end Go.Proofs.Ytbohofdffjlloaa.Pure
