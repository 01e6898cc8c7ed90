/- The law PackBack: for every input the call returns true and each argument reads as before. No condition. -/
import Derived.Test.YtnfajlnpmndkdaaRows
import Derived.Test.YtnfajlnpmndkdaaBulk
import Derived.Test.YtnfajlnpmndkdaaBackX
import Derived.WalkKit
import Derived.ProofKit
import Derived.OpenShut
import Derived.ShutString
import Derived.ChangeOld
import Derived.Below
import Derived.SizedLaws
import Derived.Lib.SmallJoins
import Derived.Deep.CondSized
import Derived.Test.YtnfajlnpmndkdaaWSized
namespace Go.Proofs.Ytnfajlnpmndkdaa.packBack
open Go.ChangeShapes Go.WideShapes Go.ChangeAt Go.RowKit
open Go.ChangeMaps (open_string shut_string)
open Go.Joins (open_agg2 open_agg3 open_agg4 shut_agg2 shut_agg3 shut_agg4 field_of_Trod)
open Go.Proofs.YtnfajlnpmndkdaaW.PrintWords Go.Proofs.YtnfajlnpmndkdaaW.PrintMore
set_option linter.unusedVariables false
set_option linter.unusedSimpArgs false
theorem own : ownKnob Try.prog.godebug = none := by kernel_rfl
theorem laidOut : laidOutB Try.prog = true := by kernel_rfl
def IsRow (k : IntKind) (w : World) (a : Option Addr) (len cap : Nat) (zs : List Int) : Prop :=
  (a = none ∧ len = 0 ∧ cap = 0 ∧ zs = []) ∨
  ∃ x, a = some x ∧ len ≤ cap ∧ cap ≤ maxLen ∧ zs.length = cap ∧ (∀ i, i < zs.length → w.cell? (x.add i) = some (.int k (zs.getD i 0))) ∧ ∀ n ∈ zs, (Lit.int k n).wf = true
theorem walk (a0 : Option Addr) (cap0 : Nat) (fs0 : List FieldIn.Fld) (W : World) (g0a : fs0.length ≤ cap0) (g0b : a0 = none → cap0 = 0) (g0c : fs0.length ≤ 9223372036854775807) (g0d : FieldIn.FieldsIn W a0 fs0) (u0 : (fs0.map fun F => F.s.size).sum + fs0.length ≤ 1048576) :
    Calls Try.prog 6 #[.slice a0 fs0.length cap0] W fun e W' => e = .returned (.bool true) ∧ Below W.heap.size W W' := by
  exact Hand.PackBack a0 cap0 fs0 W g0a g0b g0c g0d u0
set_option maxRecDepth 100000 in
theorem lifted (os : Os) (started : os.Started) (H : Type) (enc : TypeId × Value → H) (F : Stop.Interp) :
    ReturnsInHanded {} Try.checked os 6 .any ((Rows.OpenSpec.upto Rows.packBackSpec).pre6 enc Try.prog Try.f6 Rows.packBackUptoRow.domain false) (((Rows.OpenSpec.upto Rows.packBackSpec).at F).post enc Try.prog Try.f6 false true false false) := by
  refine returnsInHanded_of_cond_sized (C := Try.checked) (s := (Rows.OpenSpec.upto Rows.packBackSpec)) (k := Rows.uptoSmall) rfl own started (by kernel_rfl) Try.func6
    (OpenSpec.witness (enc := enc) (C := Try.checked) (s := (Rows.OpenSpec.upto Rows.packBackSpec)) (k := Rows.uptoSmall) rfl false ⟨#[], #[.slice none 0 0], []⟩ 8 (by kernel_rfl) (by kernel_rfl) (by kernel_rfl) (x := ([.nil], [], [])) (by kernel_rfl) rfl (by kernel_rfl)) ?_
  intro W base args ds gs before hval0 hW hcnd hkk hsz0 _
  have bd := Bulk.bound hkk
  clear hkk hcnd
  have hsz : (DataW.weightsEach Try.prog (Try.f6.params.toList ++ Rows.packBackSpec.plain.varTypes Try.prog) (ds ++ gs)).all (· ≤ reachBytes) = true := hsz0
  have hval : ∀ (j : Nat) t v, Try.f6.params[j]? = some t → args[j]? = some v → Value.okWide Try.prog W .any base t v := hval0
  have hW' := hW
  obtain ⟨p, q, hA0, hV, rfl, hfz, hnd⟩ := hW
  have hA : DataW.TrodAll enc Try.prog W 0 (fun _ => true) true Try.f6.params.toList args.toList ds p := hA0
  rw [Try.params6] at hA hval hsz
  obtain ⟨v0, vs0, d0, ds0, p0, q0, hargs, rfl, rfl, h0, r0⟩ := trodAll_cons hA
  obtain ⟨rfl, rfl, rfl⟩ := trodAll_nil r0
  obtain rfl : args = #[v0] := by cases args; simp_all
  obtain ⟨rfl, rfl⟩ := trodVars_none hV
  obtain ⟨a0, len0, cap0, rfl⟩ := okWide_slice Try.underlying39 (hval 0 39 v0 rfl rfl)
  have k0 := h0
  have lt0 : ∀ x ∈ p0, x.block < W.heap.size := by obtain ⟨m, hm⟩ := k0; exact DataW.trod_lt m _ _ _ hm
  obtain ⟨fs0, rfl, g0a, g0b, g0c, g0d, b0⟩ := FieldIn.open_fields Try.underlying39 h0
  have u0 : (fs0.map fun F => F.s.size).sum + fs0.length ≤ 1048576 := by have := bd; simp only [List.cons_append, List.nil_append, List.append_nil, Rows.uptoBulkAll] at this; omega
  clear hA0 hval0 hsz0 hsz
  refine (walk a0 cap0 fs0 W g0a g0b g0c g0d u0).mono fun e W' ⟨he, bel⟩ => ?_
  subst he
  exact ⟨_, rfl, _, _, _, [], _, [], hW', trodAll_mk1 (shut_bool Try.underlying4 _), (trodAll_cons_mk (Below.trod laidOut (by kernel_rfl) (of_decide_eq_true (by kernel_rfl)) k0 bel lt0) trodAll_mk0), rfl, bel.frame _, fun h => by cases h⟩
theorem over : Rows.packBackUptoRow.holds Try.pinned (Rows.OpenSpec.upto Rows.packBackSpec) :=
  OpenClaim.holds_of_cond 6 Try.f6 rfl rfl rfl rfl rfl rfl rfl ⟨rfl, rfl, rfl, rfl, rfl⟩ rfl rfl rfl rfl rfl (by kernel_rfl) Try.func6 (by kernel_rfl)
    (of_decide_eq_true (by kernel_rfl)) (by unfold Func.isWrapper; first | (rw [if_pos (by decide +kernel)]; kernel_rfl) | (rw [if_neg (by decide +kernel)]; exact ⟨rfl, rfl⟩))
    (fun os started H enc _ F => lifted os started H enc F)
theorem proved : Rows.PackBackUptoSaid := over
#print axioms proved
end Go.Proofs.Ytnfajlnpmndkdaa.packBack
namespace Go.Proofs.Ytnfajlnpmndkdaa
/-- The row, under a short name, for the claim. -/
theorem packBackUpto_holds : Rows.PackBackUptoSaid := packBack.proved
end Go.Proofs.Ytnfajlnpmndkdaa
