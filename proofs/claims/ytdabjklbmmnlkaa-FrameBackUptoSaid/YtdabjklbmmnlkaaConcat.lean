/- slices.Concat of three rows of bytes, walked. No condition. -/
import Derived.Test.YtdabjklbmmnlkaaLibs
import Derived.LoopN
namespace Go.Proofs.Ytdabjklbmmnlkaa.Concat
set_option linter.unusedVariables false
set_option linter.unusedSimpArgs false
open Go.RowKit Go.Proofs.Ytdabjklbmmnlkaa.PAll Go.Proofs.Ytdabjklbmmnlkaa.Nums Go.Proofs.Ytdabjklbmmnlkaa.Libs Go.Proofs.YtdabjklbmmnlkaaW.PrintWords Go.Proofs.YtdabjklbmmnlkaaW.PrintLast Go.Proofs.YtdabjklbmmnlkaaW.PrintMore
theorem add_at (b i : Nat) : (⟨b, 0, none⟩ : Addr).add i = ⟨b, i, none⟩ := by unfold Addr.add; split <;> simp_all
set_option maxHeartbeats 4000000 in
set_option maxRecDepth 100000 in
theorem concat3_calls (b : Nat) (A0 : Option Addr) (c0 : Nat) (l0 : List Int) (A1 : Option Addr) (c1 : Nat) (l1 : List Int) (A2 : Option Addr) (c2 : Nat) (l2 : List Int) (W : World)
    (hb : W.heap[b]? = some (.cells #[.slice A0 l0.length c0, .slice A1 l1.length c1, .slice A2 l2.length c2] 22 (0, 0)))
    (h0 : (Kd.int .u8).C W A0 l0.length l0) (h1 : (Kd.int .u8).C W A1 l1.length l1) (h2 : (Kd.int .u8).C W A2 l2.length l2) (e0 : A0 = none → c0 = 0) (e1 : A1 = none → c1 = 0) (e2 : A2 = none → c2 = 0)
    (hs : l0.length + l1.length + l2.length ≤ 140737488355328) :
    Calls Try.prog 17 #[.slice (some ⟨b, 0, none⟩) 3 3] W fun e w' => ∃ v, e = .returned v ∧ OwnB w' W.heap.size v (l0 ++ l1 ++ l2) ∧ Below W.heap.size W w' := by
  have H0 := Aside0.mk h0
  have H1 := Aside0.mk h1
  have H2 := Aside0.mk h2
  have E0 := Aside0.mk e0
  have E1 := Aside0.mk e1
  have E2 := Aside0.mk e2
  have HB := Aside0.mk hb
  have HS := Aside0.mk hs
  clear h0 h1 h2 e0 e1 e2 hb
  have k0 : W.cell? ⟨b, 0, none⟩ = some (.slice A0 l0.length c0) := by rw [blk_cell HB.out]; rfl
  have k1 : W.cell? ⟨b, 1, none⟩ = some (.slice A1 l1.length c1) := by rw [blk_cell HB.out]; rfl
  have k2 : W.cell? ⟨b, 2, none⟩ = some (.slice A2 l2.length c2) := by rw [blk_cell HB.out]; rfl
  go_enter Try.func17, Try.ntmps17
  have GR := fun (W : World) => grow_calls (l0.length + l1.length + l2.length) W HS.out
  simp only [Int.natCast_add] at GR
  go_wp2_with fail
  refine wp_loop_rounds 4 ?_
  simp only [Code.rounds]
  go_wp2_with fail
  refine (GR W).mono ?_
  rintro e w1 ⟨v, rfl, ho, hb1⟩
  have B1 := Aside0.mk hb1
  have O1 : Aside0 (OwnB w1 W.heap.size v []) := ⟨ho⟩
  have q0 : w1.cell? ⟨b, 0, none⟩ = some (.slice A0 l0.length c0) := pw_cell_below B1.out k0
  have q1 : w1.cell? ⟨b, 1, none⟩ = some (.slice A1 l1.length c1) := pw_cell_below B1.out k1
  have q2 : w1.cell? ⟨b, 2, none⟩ = some (.slice A2 l2.length c2) := pw_cell_below B1.out k2
  clear ho hb1 GR
  go_wp2_with fail
  refine wp_loop_rounds 4 ?_
  simp only [Code.rounds]
  go_wp2_with (at_builtin; refine wpList_append_bytes rfl (.tmp 31) (.tmp 32) rfl W.heap.size _ _ rfl O1.out A0 c0 l0 rfl (Kd.C_below H0.out B1.out) E0.out (by have := HS.out; simp; omega) B1.out.size ?_)
  intro v2 w2 ho2 hb2
  have B2 : Aside0 (Below W.heap.size W w2) := ⟨hb2 W B1.out⟩
  have O2 := Aside0.mk ho2
  have q0 : w2.cell? ⟨b, 0, none⟩ = some (.slice A0 l0.length c0) := pw_cell_below B2.out k0
  have q1 : w2.cell? ⟨b, 1, none⟩ = some (.slice A1 l1.length c1) := pw_cell_below B2.out k1
  have q2 : w2.cell? ⟨b, 2, none⟩ = some (.slice A2 l2.length c2) := pw_cell_below B2.out k2
  clear ho2 hb2 O1
  go_wp2_with (at_builtin; refine wpList_append_bytes rfl (.tmp 31) (.tmp 32) rfl W.heap.size _ _ rfl O2.out A1 c1 l1 rfl (Kd.C_below H1.out B2.out) E1.out (by have := HS.out; simp; omega) B2.out.size ?_)
  intro v3 w3 ho3 hb3
  have B3 : Aside0 (Below W.heap.size W w3) := ⟨hb3 W B2.out⟩
  have O3 := Aside0.mk ho3
  have q0 : w3.cell? ⟨b, 0, none⟩ = some (.slice A0 l0.length c0) := pw_cell_below B3.out k0
  have q1 : w3.cell? ⟨b, 1, none⟩ = some (.slice A1 l1.length c1) := pw_cell_below B3.out k1
  have q2 : w3.cell? ⟨b, 2, none⟩ = some (.slice A2 l2.length c2) := pw_cell_below B3.out k2
  clear ho3 hb3 O2
  go_wp2_with (at_builtin; refine wpList_append_bytes rfl (.tmp 31) (.tmp 32) rfl W.heap.size _ _ rfl O3.out A2 c2 l2 rfl (Kd.C_below H2.out B3.out) E2.out (by have := HS.out; simp; omega) B3.out.size ?_)
  intro v4 w4 ho4 hb4
  have B4 : Aside0 (Below W.heap.size W w4) := ⟨hb4 W B3.out⟩
  have O4 := Aside0.mk ho4
  clear ho4 hb4 O3
  go_wp2_with fail
  go_ret
  exact ⟨_, rfl, by have := O4.out; simpa using this, B4.out⟩
end Go.Proofs.Ytdabjklbmmnlkaa.Concat
