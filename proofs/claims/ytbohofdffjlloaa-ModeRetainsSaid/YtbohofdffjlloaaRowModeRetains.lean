/- The law ModeRetains: for every input the call returns true and each argument reads as before. No condition. -/
import Derived.Test.YtbohofdffjlloaaRows
import Derived.Test.YtbohofdffjlloaaPAllx12
import Derived.Test.YtbohofdffjlloaaModeR
import Derived.WalkKit
import Derived.ProofKit
import Derived.OpenShut
import Derived.ShutString
import Derived.ChangeOld
import Derived.Below
import Derived.SizedLaws
import Derived.Lib.SmallJoins
namespace Go.Proofs.Ytbohofdffjlloaa.modeRetains
open Go.ChangeShapes Go.WideShapes Go.ChangeAt Go.RowKit
open Go.ChangeMaps (open_string shut_string)
open Go.Joins (open_agg2 open_agg3 open_agg4 shut_agg2 shut_agg3 shut_agg4 field_of_Trod)
open Go.Proofs.YtbohofdffjlloaaW.PrintWords Go.Proofs.YtbohofdffjlloaaW.PrintMore
set_option linter.unusedVariables false
theorem own : ownKnob Try.prog.godebug = none := by kernel_rfl
theorem walk (a0_0 : Int) (a0_1 : Int) (a0_2 : Bool) (a1 : Int) (a2 : Int) (a3 : Int) (a4 : Bool) (a5_0 : Int) (a5_1 : Int) (W : World) (w0_0 : (Lit.int .i64 a0_0).wf = true) (w0_1 : (Lit.int .i64 a0_1).wf = true) (w1 : (Lit.int .i64 a1).wf = true) (w2 : (Lit.int .i64 a2).wf = true) (w3 : (Lit.int .i64 a3).wf = true) (w5_0 : (Lit.int .i64 a5_0).wf = true) (w5_1 : (Lit.int .i64 a5_1).wf = true) :
    Calls Try.prog 8 #[.agg #[.int .i64 a0_0, .int .i64 a0_1, .bool a0_2], .int .i64 a1, .int .i64 a2, .int .i64 a3, .bool a4, .agg #[.int .i64 a5_0, .int .i64 a5_1]] W fun e W' => e = .returned (.bool true) ∧ Below W.heap.size W W' := by
  obtain ⟨k, h⟩ := Pure.ModeRetains a0_0 a0_1 a0_2 a1 a2 a3 a4 a5_0 a5_1 w0_0 w0_1 w1 w2 w3 w5_0 w5_1
  refine (PAll.chartularylaw12_ModeRetains.calls k a0_0 a0_1 a0_2 a1 a2 a3 a4 a5_0 a5_1 true W h).mono ?_
  rintro e w' ⟨rfl, hd⟩
  exact ⟨rfl, by first | exact hd | exact hd.below⟩
set_option maxRecDepth 100000 in
theorem lifted (os : Os) (started : os.Started) (H : Type) (enc : TypeId × Value → H) :
    ReturnsInHanded {} Try.checked os 8 .any (Rows.modeRetainsSpec.pre6 enc Try.prog Try.f8 Rows.modeRetainsRow.domain false) (Rows.modeRetainsSpec.post enc Try.prog Try.f8 false true false false) := by
  refine returnsInHanded_of_change_sized (C := Try.checked) own started (by kernel_rfl) Try.func8
    (ChangeSpec.witness6 (enc := enc) (C := Try.checked) false ⟨#[], #[.agg #[.int .i64 0, .int .i64 0, .bool false], .int .i64 0, .int .i64 0, .int .i64 0, .bool false, .agg #[.int .i64 0, .int .i64 0]], []⟩ 8 (by kernel_rfl) (by kernel_rfl) (by kernel_rfl) (by kernel_rfl)) ?_
  intro W base args ds gs before hval0 hW hcnd hsz0 _
  have hsz : (DataW.weightsEach Try.prog (Try.f8.params.toList ++ Rows.modeRetainsSpec.plain.varTypes Try.prog) (ds ++ gs)).all (· ≤ reachBytes) = true := hsz0
  have hval : ∀ (j : Nat) t v, Try.f8.params[j]? = some t → args[j]? = some v → Value.okWide Try.prog W .any base t v := hval0
  have hW' := hW
  obtain ⟨p, q, hA0, hV, rfl, hfz, hnd⟩ := hW
  have hA : DataW.TrodAll enc Try.prog W 0 (fun _ => true) true Try.f8.params.toList args.toList ds p := hA0
  rw [Try.params8] at hA hval hsz
  obtain ⟨v0, vs0, d0, ds0, p0, q0, hargs, rfl, rfl, h0, r0⟩ := trodAll_cons hA
  obtain ⟨v1, vs1, d1, ds1, p1, q1, rfl, rfl, rfl, h1, r1⟩ := trodAll_cons r0
  obtain ⟨v2, vs2, d2, ds2, p2, q2, rfl, rfl, rfl, h2, r2⟩ := trodAll_cons r1
  obtain ⟨v3, vs3, d3, ds3, p3, q3, rfl, rfl, rfl, h3, r3⟩ := trodAll_cons r2
  obtain ⟨v4, vs4, d4, ds4, p4, q4, rfl, rfl, rfl, h4, r4⟩ := trodAll_cons r3
  obtain ⟨v5, vs5, d5, ds5, p5, q5, rfl, rfl, rfl, h5, r5⟩ := trodAll_cons r4
  obtain ⟨rfl, rfl, rfl⟩ := trodAll_nil r5
  obtain rfl : args = #[v0, v1, v2, v3, v4, v5] := by cases args; simp_all
  obtain ⟨rfl, rfl⟩ := trodVars_none hV
  obtain ⟨c0_0, c0_1, c0_2, y0_0, y0_1, y0_2, m0, rfl, rfl, rfl, g0_0, g0_1, g0_2⟩ := open_agg3 Try.underlying23 (by kernel_rfl) (by kernel_rfl) (hval 0 23 v0 rfl rfl) h0
  obtain ⟨a0_0, e0_0, rfl, w0_0⟩ := DataW.trod_int Try.underlying3 g0_0
  obtain ⟨a0_1, e0_1, rfl, w0_1⟩ := DataW.trod_int Try.underlying2 g0_1
  obtain ⟨a0_2, e0_2, rfl⟩ := DataW.trod_bool Try.underlying4 g0_2
  simp only [List.cons.injEq, and_true] at e0_0 e0_1 e0_2
  subst e0_0 e0_1 e0_2
  obtain ⟨a1, rfl, rfl, rfl, w1⟩ := open_int Try.underlying3 (hval 1 3 v1 rfl rfl) h1
  obtain ⟨a2, rfl, rfl, rfl, w2⟩ := open_int Try.underlying2 (hval 2 2 v2 rfl rfl) h2
  obtain ⟨a3, rfl, rfl, rfl, w3⟩ := open_int Try.underlying2 (hval 3 2 v3 rfl rfl) h3
  obtain ⟨a4, rfl, rfl, rfl⟩ := open_bool Try.underlying4 (hval 4 4 v4 rfl rfl) h4
  obtain ⟨c5_0, c5_1, y5_0, y5_1, m5, rfl, rfl, rfl, g5_0, g5_1⟩ := open_agg2 Try.underlying36 (by kernel_rfl) (by kernel_rfl) (hval 5 36 v5 rfl rfl) h5
  obtain ⟨a5_0, e5_0, rfl, w5_0⟩ := DataW.trod_int Try.underlying3 g5_0
  obtain ⟨a5_1, e5_1, rfl, w5_1⟩ := DataW.trod_int Try.underlying3 g5_1
  simp only [List.cons.injEq, and_true] at e5_0 e5_1
  subst e5_0 e5_1
  clear hA0 hval0 hsz0 hsz
  refine (walk a0_0 a0_1 a0_2 a1 a2 a3 a4 a5_0 a5_1 W w0_0 w0_1 w1 w2 w3 w5_0 w5_1).mono fun e W' ⟨he, bel⟩ => ?_
  subst he
  exact ⟨_, rfl, _, _, _, [], _, [], hW', trodAll_mk1 (shut_bool Try.underlying4 _), (trodAll_cons_mk (shut_agg3 Try.underlying23 (by kernel_rfl) (by kernel_rfl) (field_of_Trod (shut_int Try.underlying3 w0_0) rfl) (field_of_Trod (shut_int Try.underlying2 w0_1) rfl) (field_of_Trod (shut_bool Try.underlying4 _) rfl)) (trodAll_cons_mk (shut_int Try.underlying3 w1) (trodAll_cons_mk (shut_int Try.underlying2 w2) (trodAll_cons_mk (shut_int Try.underlying2 w3) (trodAll_cons_mk (shut_bool Try.underlying4 _) (trodAll_cons_mk (shut_agg2 Try.underlying36 (by kernel_rfl) (by kernel_rfl) (field_of_Trod (shut_int Try.underlying3 w5_0) rfl) (field_of_Trod (shut_int Try.underlying3 w5_1) rfl)) trodAll_mk0)))))), rfl, bel.frame _, fun h => by cases h⟩
theorem over : Rows.modeRetainsRow.holds Try.pinned (OpenSpec.ofChange Rows.modeRetainsSpec) :=
  OpenClaim.holds_of_wide 8 Try.f8 rfl rfl rfl rfl rfl rfl rfl ⟨rfl, rfl, rfl, rfl, rfl⟩ rfl rfl rfl rfl rfl (by kernel_rfl) Try.func8 (by kernel_rfl)
    (of_decide_eq_true (by kernel_rfl)) (by unfold Func.isWrapper; first | (rw [if_pos (by decide +kernel)]; kernel_rfl) | (rw [if_neg (by decide +kernel)]; exact ⟨rfl, rfl⟩))
    (fun os started H enc _ => lifted os started H enc)
theorem proved : Rows.ModeRetainsSaid := over
#print axioms proved
end Go.Proofs.Ytbohofdffjlloaa.modeRetains
namespace Go.Proofs.Ytbohofdffjlloaa
/-- The row, under a short name, for the claim. -/
theorem modeRetains_holds : Rows.ModeRetainsSaid := modeRetains.proved
end Go.Proofs.Ytbohofdffjlloaa
