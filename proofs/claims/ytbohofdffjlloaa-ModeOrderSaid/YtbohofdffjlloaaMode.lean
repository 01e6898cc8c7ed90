/- What the printed functions of locks come to, each as one Bool or number: plain Lean. No condition. -/
import Derived.Test.YtbohofdffjlloaaPAllx4
import Derived.Test.YtbohofdffjlloaaPAllx5
import Derived.Test.YtbohofdffjlloaaPAllx6
import Derived.Test.YtbohofdffjlloaaPAllx7
import Derived.Test.YtbohofdffjlloaaPAllx8
namespace Go.Proofs.Ytbohofdffjlloaa.Pure
set_option linter.unusedSimpArgs false
open Go.RowKit Go.Proofs.Ytbohofdffjlloaa.PAll Go.Proofs.YtbohofdffjlloaaW.PrintWords Go.Proofs.YtbohofdffjlloaaW.PrintLast Go.Proofs.YtbohofdffjlloaaW.PrintMore
/-- Is it a lock? -/
def sB (a b : Int) : Bool := decide ((a = 0 ∧ b = 0) ∨ ((a = 1 ∨ a = 2) ∧ -62135596800 ≤ b ∧ b ≤ 253402300799))
def bB (a b t : Int) : Bool := decide (a ≠ 0 ∧ t < b)
def eI (a b : Int) (c : Bool) (t : Int) (y : Bool) : Int := if sB a b = false then 2 else if c = true ∨ (bB a b t = true ∧ (a = 2 ∨ y = false)) then 13 else 0
def wB (a b m u : Int) : Bool := decide ((a = 2 ∧ m ≠ 2) ∨ m = 0 ∨ u < b)
def cB (a0 a1 : Int) (a2 : Bool) (b0 b1 : Int) (b2 : Bool) (t : Int) : Bool := decide (¬ (b2 = true ∧ a2 = false) ∧ (bB b0 b1 t = true → b0 ≤ a0 ∧ b1 ≤ a1))
theorem sound_eq (a b : Int) (c : Bool) : mode_Sound.f a b c = some (sB a b) := by
  unfold mode_Sound.f when_Clamp.f sB mx mn
  by_cases h0 : a = 0
  · subst h0; simp only [if_true, Option.some.injEq]; rw [Bool.eq_iff_iff]; simp
  · rw [if_neg h0]
    by_cases h1 : a = 1
    · subst h1; simp only [if_true, Option.bind_some, Option.some.injEq]; rw [Bool.eq_iff_iff]; simp; split <;> split <;> omega
    · rw [if_neg h1]
      by_cases h2 : a = 2
      · subst h2; simp only [if_true, Option.bind_some, Option.some.injEq]; rw [Bool.eq_iff_iff]; simp; split <;> split <;> omega
      · rw [if_neg h2]; simp [h0, h1, h2]
theorem clamp_iff (b : Int) : ∃ c, chartularyref05_Clamp.f b = some c ∧ (c = b ↔ -62135596800 ≤ b ∧ b ≤ 253402300799) := by
  unfold chartularyref05_Clamp.f
  split
  · exact ⟨_, rfl, by omega⟩
  · split
    · exact ⟨_, rfl, by omega⟩
    · exact ⟨_, rfl, by omega⟩
theorem rsound_eq (a b : Int) (c : Bool) : chartularyref12_Sound.f a b c = some (sB a b) := by
  unfold chartularyref12_Sound.f sB
  obtain ⟨x, hx, hc⟩ := clamp_iff b
  rw [hx]
  by_cases h0 : a = 0
  · subst h0; simp only [if_true, Option.some.injEq]; rw [Bool.eq_iff_iff]; simp
  · rw [if_neg h0]
    by_cases h1 : a = 1
    · subst h1; simp only [if_true, Option.bind_some, Option.some.injEq]; rw [Bool.eq_iff_iff]; simp [hc]
    · rw [if_neg h1]
      by_cases h2 : a = 2
      · subst h2; simp only [if_true, Option.bind_some, Option.some.injEq]; rw [Bool.eq_iff_iff]; simp [hc]
      · rw [if_neg h2]; simp [h0, h1, h2]
theorem good_eq (a b : Int) : mode_Good.f a b = chartularyref12_Good.f a b := by
  unfold mode_Good.f chartularyref12_Good.f; rfl
theorem binds_eq (a b : Int) (c : Bool) (t : Int) : mode_binds.f a b c t = some (bB a b t) := by
  unfold mode_binds.f bB; by_cases h : a = 0 <;> simp [h]
theorem rbinds_eq (a b : Int) (c : Bool) (t : Int) : chartularyref12_Binds.f a b c t = some (bB a b t) := by
  unfold chartularyref12_Binds.f bB; by_cases h : a = 0 <;> simp [h]
theorem held_eq (a b : Int) (c : Bool) (t : Int) : mode_Held.f a b c t = some (c || bB a b t) := by
  unfold mode_Held.f; rw [binds_eq]; cases c <;> simp
theorem rheld_eq (a b : Int) (c : Bool) (t : Int) : chartularyref12_Held.f a b c t = some (c || bB a b t) := by
  unfold chartularyref12_Held.f; rw [rbinds_eq]; cases c <;> simp
theorem erase_eq (a b : Int) (c : Bool) (t : Int) (y : Bool) : mode_Erase.f a b c t y = some (eI a b c t y) := by
  unfold mode_Erase.f eI; rw [sound_eq, binds_eq]
  cases sB a b <;> cases c <;> cases bB a b t <;> cases y <;> by_cases h : a = 2 <;> simp [h]
theorem rerase_eq (a b : Int) (c : Bool) (t : Int) (y : Bool) : chartularyref12_Erase.f a b c t y = some (eI a b c t y) := by
  unfold chartularyref12_Erase.f eI; rw [rsound_eq, rbinds_eq]
  cases sB a b <;> cases c <;> cases bB a b t <;> cases y <;> by_cases h : a = 2 <;> simp [h]
theorem weaker_eq (a b : Int) (c : Bool) (m u : Int) : mode_weaker.f a b c m u = some (wB a b m u) := by
  unfold mode_weaker.f wB
  by_cases h : a = 2 <;> by_cases h1 : m = 2 <;> by_cases h2 : m = 0 <;> simp [h, h1, h2]
  all_goals omega
theorem covers_eq (a0 a1 : Int) (a2 : Bool) (b0 b1 : Int) (b2 : Bool) (t : Int) : mode_Covers.f a0 a1 a2 b0 b1 b2 t = some (cB a0 a1 a2 b0 b1 b2 t) := by
  unfold mode_Covers.f cB; rw [binds_eq]
  cases a2 <;> cases b2 <;> cases bB b0 b1 t <;> by_cases h : a0 ≥ b0 <;> by_cases h1 : a1 ≥ b1 <;> simp [h, h1] <;> omega
/-- What Retain answers: the lock's mode, time and hold, and the error. -/
def rT (a b : Int) (c : Bool) (m u t : Int) (y : Bool) : Int × Int × Bool × Int :=
  if sB a b = false ∨ sB m u = false then (0, 0, false, 2) else if m ≠ 0 ∧ u ≤ t then (0, 0, false, 4)
  else if bB a b t = true ∧ wB a b m u = true ∧ (a = 2 ∨ y = false) then (0, 0, false, 13) else (m, u, c, 0)
theorem retain_eq (k : Nat) (a b : Int) (c : Bool) (m u t : Int) (y : Bool) : mode_Retain.f (k + 2) a b c m u t y = some (rT a b c m u t y) := by
  unfold mode_Retain.f rT; rw [sound_eq, sound_eq]
  simp only [Option.bind_some, mode_Retain.j0, mode_Retain.j1, binds_eq, weaker_eq]
  cases sB a b <;> cases sB m u <;> cases bB a b t <;> cases wB a b m u <;> cases y <;> by_cases h : a = 2 <;> by_cases h1 : m = 0 <;> by_cases h2 : u ≤ t <;> simp [h, h1, h2]
theorem awake_eq (k : Nat) : chartularylaw12_awake.f (k + 2) = some true := by
  unfold chartularylaw12_awake.f; rw [retain_eq]
  simp only [held_eq, erase_eq, covers_eq]
  decide +kernel
theorem ModeErases (a0 a1 : Int) (a2 : Bool) (d0 d1 t : Int) (y : Bool) : ∃ k, chartularylaw12_ModeErases.f k a0 a1 a2 d0 d1 t y = some true := by
  refine ⟨2, ?_⟩
  unfold chartularylaw12_ModeErases.f
  rw [awake_eq 0, good_eq]
  simp only [Option.bind_some, if_true, sound_eq, rsound_eq, held_eq, rheld_eq, erase_eq, rerase_eq, beq_self_eq_true]
  have hg : ∃ g, chartularyref12_Good.f d0 d1 = some g := by
    unfold chartularyref12_Good.f; repeat' split
    all_goals exact ⟨_, rfl⟩
  obtain ⟨g, hg⟩ := hg
  rw [hg]; simp
theorem ModeTells (a0 a1 : Int) (a2 : Bool) (t : Int) : ∃ k, chartularylaw12_ModeTells.f k a0 a1 a2 t = some true := by
  refine ⟨3, ?_⟩
  unfold chartularylaw12_ModeTells.f
  rw [awake_eq 1]
  simp only [Option.bind_some, if_true, sound_eq, held_eq, erase_eq, chartularylaw12_ModeTells.j0, awake_eq 0]
  unfold eI
  cases h : sB a0 a1 <;> cases a2 <;> cases bB a0 a1 t <;> by_cases h2 : a0 = 2 <;> simp [h2]
theorem rT_code (a b : Int) (c : Bool) (m u t : Int) (y : Bool) (hs : sB a b = true) (h : (rT a b c m u t y).2.2.2 = 0) :
    rT a b c m u t y = (m, u, c, 0) ∧ sB m u = true ∧ (m = 0 ∨ t < u) ∧ (bB a b t = true → a = 2 ∨ y = false → wB a b m u = false) := by
  unfold rT at h ⊢
  rw [hs] at h ⊢
  cases h1 : sB m u
  · rw [h1] at h; simp at h
  · rw [h1] at h
    simp only [reduceCtorEq, or_self, if_false] at h ⊢
    by_cases h2 : m ≠ 0 ∧ u ≤ t
    · rw [if_pos h2] at h; simp at h
    · rw [if_neg h2] at h ⊢
      by_cases h3 : bB a b t = true ∧ wB a b m u = true ∧ (a = 2 ∨ y = false)
      · rw [if_pos h3] at h; simp at h
      · rw [if_neg h3]
        refine ⟨rfl, by simp, by omega, fun hb hy => ?_⟩
        cases hw : wB a b m u
        · rfl
        · exact absurd ⟨hb, hw, hy⟩ h3
theorem ModeStays (a0 a1 : Int) (a2 : Bool) (m u t : Int) (y : Bool) : ∃ k, chartularylaw12_ModeStays.f k a0 a1 a2 m u t y = some true := by
  refine ⟨5, ?_⟩
  unfold chartularylaw12_ModeStays.f
  rw [awake_eq 3, retain_eq 3]
  simp only [Option.bind_some, if_true, sound_eq, held_eq, erase_eq, chartularylaw12_ModeStays.j0, chartularylaw12_ModeStays.j1, awake_eq]
  cases hs : sB a0 a1
  · simp
  · simp only [if_true]
    by_cases ht : t ≥ a1
    · simp [ht]
    · have hs' := hs
      unfold sB at hs'
      rw [decide_eq_true_eq] at hs'
      have e13 : ∀ q : Bool, (a0 = 2 ∨ q = false) → a0 ≠ 0 → eI a0 a1 a2 t q = 13 := by
        intro q hq h0
        unfold eI bB; rw [hs]; simp only [reduceCtorEq, if_false]
        rw [if_pos (Or.inr ⟨by rw [decide_eq_true_eq]; omega, hq⟩)]
      have hd : decide (t ≥ a1) = false := by simpa using ht
      rw [hd]
      simp only [reduceCtorEq, if_false]
      by_cases hc : (rT a0 a1 a2 m u t y).2.2.2 = 0
      · obtain ⟨hr, hm, hu, hw⟩ := rT_code a0 a1 a2 m u t y hs hc
        rw [hr]
        have hb : a0 ≠ 0 → bB a0 a1 t = true := fun h => by unfold bB; rw [decide_eq_true_eq]; omega
        simp only [bne_self_eq_false, reduceCtorEq, if_true, if_false]
        by_cases h2 : a0 = 2
        · rw [if_pos h2, e13 y (Or.inl h2) (by omega)]
          have hw := hw (hb (by omega)) (Or.inl h2)
          unfold wB at hw
          rw [decide_eq_false_iff_not] at hw
          simp only [if_true]
          rw [if_pos (by omega)]; simp; omega
        · rw [if_neg h2]
          by_cases h1 : a0 = 1
          · rw [if_pos h1]
            cases y
            · have hw := hw (hb (by omega)) (Or.inr rfl)
              unfold wB at hw
              rw [decide_eq_false_iff_not] at hw
              rw [e13 false (Or.inr rfl) (by omega)]
              simp only [reduceCtorEq, if_true, if_false]
              rw [if_neg (by omega)]; simp; omega
            · simp
          · rw [if_neg h1]
      · rw [if_neg hc]
        by_cases h2 : a0 = 2
        · rw [if_pos h2, e13 y (Or.inl h2) (by omega)]; simp [hc]
        · rw [if_neg h2]
          by_cases h1 : a0 = 1
          · rw [if_pos h1]
            cases y
            · rw [e13 false (Or.inr rfl) (by omega)]; simp [hc]
            · simp
          · rw [if_neg h1]
theorem ModeOrder (a0 a1 : Int) (a2 : Bool) (b0 b1 : Int) (b2 : Bool) (t l : Int) : ∃ k, chartularylaw12_ModeOrder.f k a0 a1 a2 b0 b1 b2 t l = some true := by
  refine ⟨5, ?_⟩
  unfold chartularylaw12_ModeOrder.f
  rw [awake_eq 3]
  simp only [Option.bind_some, if_true, sound_eq, held_eq, covers_eq, chartularylaw12_ModeOrder.j0, chartularylaw12_ModeOrder.j1, awake_eq]
  have h0 : cB a0 a1 a2 a0 a1 a2 t = true := by unfold cB; rw [decide_eq_true_eq]; cases a2 <;> simp
  rw [h0]
  simp only [Bool.not_true, reduceCtorEq, if_false, if_true]
  cases ha : sB a0 a1
  · simp
  · cases hb : sB b0 b1
    · simp
    · cases hc : cB a0 a1 a2 b0 b1 b2 t
      · simp
      · simp only [if_true]
        by_cases hl : l < t
        · simp [hl]
        · have hd : decide (l < t) = false := by simpa using hl
          rw [hd]
          simp only [reduceCtorEq, if_false]
          obtain ⟨x, hx, hxc⟩ := clamp_iff a1
          have hxe : x = a1 := by
            unfold sB at ha
            rw [decide_eq_true_eq] at ha
            exact hxc.2 (by omega)
          rw [hx, hxe]
          unfold cB bB at hc
          rw [decide_eq_true_eq] at hc
          simp only [decide_eq_true_eq] at hc
          unfold bB
          cases hbh : (b2 || decide (b0 ≠ 0 ∧ l < b1))
          · simp
          · have : (a2 || decide (a0 ≠ 0 ∧ l < a1)) = true := by
              unfold sB at ha hb
              rw [decide_eq_true_eq] at ha hb
              rw [Bool.or_eq_true, decide_eq_true_eq] at hbh ⊢
              rcases hbh with hbh | hbh
              · left; cases a2 with
                | true => rfl
                | false => exact absurd ⟨hbh, rfl⟩ hc.1
              · right; have := hc.2 ⟨hbh.1, by omega⟩; omega
            rw [this]; simp
theorem good_some (a b : Int) : ∃ g, chartularyref12_Good.f a b = some g := by
  unfold chartularyref12_Good.f; repeat' split
  all_goals exact ⟨_, rfl⟩
end Go.Proofs.Ytbohofdffjlloaa.Pure
