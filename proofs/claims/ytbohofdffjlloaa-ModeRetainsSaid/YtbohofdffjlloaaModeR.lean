/- The plain law of ModeRetains: any lock with any other mode and time, at any moment; and that of a new version. No condition. -/
import Derived.Test.YtbohofdffjlloaaModeK
import Derived.Test.YtbohofdffjlloaaEndM
import Derived.Test.YtbohofdffjlloaaPAllx9
import Derived.Test.YtbohofdffjlloaaPAllx12
namespace Go.Proofs.Ytbohofdffjlloaa.Pure
set_option linter.unusedSimpArgs false
open Go Go.RowKit Go.Proofs.Ytbohofdffjlloaa.PAll Go.Proofs.Ytbohofdffjlloaa.Nums Go.Proofs.Ytbohofdffjlloaa.EndM Go.Proofs.YtbohofdffjlloaaW.PrintWords Go.Proofs.YtbohofdffjlloaaW.PrintLast Go.Proofs.YtbohofdffjlloaaW.PrintMore
theorem rretain_eq (k : Nat) (a b : Int) (c : Bool) (m u t : Int) (y : Bool) : chartularyref12_Retain.f (k + 3) a b c m u t y = some (rT a b c m u t y) := by
  unfold chartularyref12_Retain.f rT; rw [rsound_eq, rsound_eq]
  simp only [Option.bind_some, chartularyref12_Retain.j0, chartularyref12_Retain.j1, chartularyref12_Retain.j2, rbinds_eq]
  have hb : bB a b t = true → a ≠ 0 := by unfold bB; rw [decide_eq_true_eq]; omega
  have hs : sB a b = true → a = 0 ∨ a = 1 ∨ a = 2 := by unfold sB; rw [decide_eq_true_eq]; omega
  unfold wB
  cases h0 : sB a b <;> cases h3 : sB m u <;> cases h4 : bB a b t <;> cases y <;> by_cases h1 : m = 0 <;> by_cases h2 : u ≤ t <;> by_cases h5 : u < b <;> by_cases h6 : m = 2 <;> by_cases h7 : a = 2 <;> by_cases h8 : a = 1 <;> simp [h0, h1, h2, h5, h6, h7, h8] <;> (have := hs h0; have := hb; simp_all; try omega)
theorem clamp_eq (x : Int) : when_Clamp.f x = chartularyref05_Clamp.f x := by
  unfold when_Clamp.f chartularyref05_Clamp.f mx mn
  split <;> split <;> (try split) <;> simp_all <;> omega
theorem clamp_R {x y : Int} (h : chartularyref05_Clamp.f x = some y) : R y := by
  unfold chartularyref05_Clamp.f at h
  unfold R
  split at h
  · cases h; omega
  · split at h
    · cases h; omega
    · cases h; omega
theorem days_eq {t d : Int} (hd : R d) (k : Nat) (hk : 2 ≤ k) : ∃ r, when_Days.f k t d = some r ∧ chartularyref05_Days.f k t d = some r := by
  unfold when_Days.f chartularyref05_Days.f
  obtain ⟨c, hc, _⟩ := clamp_iff t
  have r8 : R 86400 := by unfold R; omega
  have rc := clamp_R hc
  have rm : R (mulS d 86400) := by
    unfold mulS mulP R
    split
    · split <;> omega
    · split <;> omega
  rw [clamp_eq, hc, mul_eq hd r8 k hk, rmul_eq hd r8 k hk]
  simp only [Option.bind_some]
  rw [add_eq rc rm k hk, radd_eq rc rm k hk]
  simp only [Option.bind_some]
  rw [clamp_eq]
  obtain ⟨z, hz, _⟩ := clamp_iff (addS c (mulS d 86400))
  rw [hz]
  exact ⟨z, rfl, rfl⟩
theorem begin_eq {d0 d1 t : Int} (hd : R d1) (k : Nat) (hk : 2 ≤ k) : ∃ r, mode_Begin.f k d0 d1 t = some r ∧ chartularyref12_Begin.f k d0 d1 t = some r := by
  unfold mode_Begin.f chartularyref12_Begin.f
  rw [good_eq]
  obtain ⟨g, hg⟩ := good_some d0 d1
  obtain ⟨r, h1, h2⟩ := days_eq (t := t) hd k hk
  rw [hg, h1, h2]
  simp only [Option.bind_some]
  cases g
  · exact ⟨_, rfl, rfl⟩
  · by_cases h : d0 = 0
    · simp only [h, if_true]; exact ⟨_, rfl, rfl⟩
    · simp only [h, if_true, if_false]; exact ⟨_, rfl, rfl⟩
theorem ModeRetains (a0 a1 : Int) (a2 : Bool) (m u t : Int) (y : Bool) (d0 d1 : Int) (_ : (Lit.int .i64 a0).wf = true) (_ : (Lit.int .i64 a1).wf = true) (_ : (Lit.int .i64 m).wf = true) (_ : (Lit.int .i64 u).wf = true) (_ : (Lit.int .i64 t).wf = true)
    (_ : (Lit.int .i64 d0).wf = true) (hd : (Lit.int .i64 d1).wf = true) : ∃ k, chartularylaw12_ModeRetains.f k a0 a1 a2 m u t y d0 d1 = some true := by
  refine ⟨9, ?_⟩
  obtain ⟨r, h1, h2⟩ := begin_eq (d0 := d0) (t := t) (wf_i64 hd) 9 (by omega)
  unfold chartularylaw12_ModeRetains.f
  rw [retain_eq 7, rretain_eq 6, h1, h2, awake_eq 7]
  simp
end Go.Proofs.Ytbohofdffjlloaa.Pure
