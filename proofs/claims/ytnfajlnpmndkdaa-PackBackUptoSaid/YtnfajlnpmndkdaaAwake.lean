/- awake of law 10, walked. No condition. -/
import Derived.Test.YtnfajlnpmndkdaaDigW
namespace Go.Proofs.Ytnfajlnpmndkdaa.Awake
set_option linter.unusedVariables false
set_option linter.unusedSimpArgs false
open Go.RowKit Go.Proofs.Ytnfajlnpmndkdaa.Nums Go.Proofs.Ytnfajlnpmndkdaa.PackM Go.Proofs.Ytnfajlnpmndkdaa.TurnM Go.Proofs.Ytnfajlnpmndkdaa.Libs Go.Proofs.Ytnfajlnpmndkdaa.StrW Go.Proofs.Ytnfajlnpmndkdaa.WriteW Go.Proofs.Ytnfajlnpmndkdaa.ReadX Go.Proofs.Ytnfajlnpmndkdaa.DigW Go.Proofs.YtnfajlnpmndkdaaW.PrintWords Go.Proofs.YtnfajlnpmndkdaaW.PrintLast Go.Proofs.YtnfajlnpmndkdaaW.PrintMore
def L : List Int := [172, 2, 1, 1, 2, 97, 98]
def ab : ByteArray := { data := #[97, 98] }
theorem L_eq : ((([] ++ packN 300) ++ packN (zig (-1)).toNat) ++ flagN true) ++ textN ab = L := by decide +kernel
theorem L_bytes : Bytes L := by unfold Bytes L; simp
theorem str_L : strOfNums L = { data := #[172, 2, 1, 1, 2, 97, 98] } := by decide +kernel
theorem n1 : ReadW.numR L 0 = (300, [1, 1, 2, 97, 98], 0) := by decide +kernel
theorem n2 : ReadW.numR [1, 1, 2, 97, 98] 0 = (1, [1, 2, 97, 98], 0) := by decide +kernel
theorem n3 : flagR [1, 2, 97, 98] 0 = (true, [2, 97, 98], 0) := by decide +kernel
theorem n4 : textR [2, 97, 98] 0 = ([97, 98], [], 0) := by decide +kernel
theorem n5 : endR [] 0 = 0 := rfl
theorem s4 : strOfNums [97, 98] = { data := #[97, 98] } := by decide +kernel
theorem sub_bytes {l m : List Int} (h : Bytes l) (hs : ∀ x ∈ m, x ∈ l) : Bytes m := fun x hx => h x (hs x hx)
set_option maxHeartbeats 4000000 in
set_option maxRecDepth 100000 in
theorem awake_calls (w : World) : Calls Try.prog 13 #[] w fun e w' => e = .returned (.bool true) ∧ Below w.heap.size w w' := by
  go_enter Try.func13, Try.ntmps13
  go_wp2_with fail
  (with_reducible refine (new_calls w).mono ?_)
  rintro e w1 ⟨rfl, hW1, hb1⟩
  have B1 := Aside0.mk hb1
  have K2 := Aside0.mk (num_calls w.heap.size [] 300 w1 hW1 (by omega) (by simp))
  clear hb1 hW1
  go_wp2_with fail
  (refine K2.out.mono ?_)
  rintro e w2 ⟨rfl, hW2, hb2⟩
  have B2 := Aside0.mk (B1.out.trans hb2)
  have K3 := Aside0.mk (WriteW.int_calls w.heap.size _ (-1) w2 hW2 (by omega) (by omega) (by decide +kernel))
  clear hb2 hW2 K2
  go_wp2_with fail
  (with_reducible refine K3.out.mono ?_)
  rintro e w3 ⟨rfl, hW3, hb3⟩
  have B3 := Aside0.mk (B2.out.trans hb3)
  have K4 := Aside0.mk (WriteW.flag_calls w.heap.size _ true w3 hW3 (by decide +kernel))
  clear hb3 hW3 K3
  go_wp2_with fail
  (with_reducible refine K4.out.mono ?_)
  rintro e w4 ⟨rfl, hW4, hb4⟩
  have B4 := Aside0.mk (B3.out.trans hb4)
  have K5 := Aside0.mk (WriteW.text_calls w.heap.size _ ab w4 hW4 (by decide +kernel))
  clear hb4 hW4 K4
  go_wp2_with fail
  (refine K5.out.mono ?_)
  rintro e w5 ⟨rfl, hW5, hb5⟩
  rw [L_eq] at hW5
  have B5 := Aside0.mk (B4.out.trans hb5)
  have K6 := Aside0.mk (out_calls w.heap.size L w5 hW5 (by decide))
  clear hb5 hW5 K5
  go_wp2_with fail
  (with_reducible refine K6.out.mono ?_)
  rintro e w6 ⟨A, rfl, hC6, hz6, hb6⟩
  have B6 := Aside0.mk (below_step B5.out hb6)
  have K7 := Aside0.mk (ReadW.read_calls A L.length L w6 hC6 (fun e => hz6 e) (by decide))
  have C6 := Aside0.mk hC6
  clear hb6 hC6 hz6 K6
  go_wp2_with fail
  (with_reducible refine K7.out.mono ?_)
  rintro e w7 ⟨g, rfl, hg, hR7, hb7⟩
  have B7 := Aside0.mk (below_step B6.out hb7)
  have HG := Aside0.mk (Nat.le_trans B6.out.size hg)
  have cv : (convert 24 9 (.slice A L.length L.length)).run Try.prog w7 = .ok (.string { data := #[172, 2, 1, 1, 2, 97, 98] }) w7 := by
    have := string_of_reads (P := Try.prog) Try.underlying24 Try.underlying5 Try.underlying9 (c := L.length) (Kd.reads_of_C (d := (0 : Int)) (h1 := fun _ => rfl) (Kd.C_below C6.out hb7))
    rw [str_L] at this
    exact this
  have K8 := ReadW.num_calls g L 0 w7 hR7 L_bytes (by decide)
  rw [n1] at K8
  replace K8 := Aside0.mk K8
  clear hb7 hR7 K7 hg
  go_wp2_with fail
  (with_reducible refine K8.out.mono ?_)
  rintro e w8 ⟨rfl, hR8, hg8⟩
  have B8 := Aside0.mk (B7.out.grown hg8 B7.out.size (fun k hk => by injection hk with hk; subst hk; exact HG.out))
  have K9 := ReadW.int_calls g _ _ w8 hR8 (sub_bytes L_bytes (by decide)) (by decide)
  rw [n2] at K9
  replace K9 := Aside0.mk K9
  clear hR8 hg8 K8 cv
  go_wp2_with fail
  (with_reducible refine K9.out.mono ?_)
  rintro e w9 ⟨rfl, hR9, hg9⟩
  have hz : zag 1 = -1 := rfl
  have B9 := Aside0.mk (B8.out.grown hg9 B8.out.size (fun k hk => by injection hk with hk; subst hk; exact HG.out))
  have K10 := ReadX.flag_calls g _ _ w9 hR9 (sub_bytes L_bytes (by decide)) (by decide)
  rw [n3] at K10
  replace K10 := Aside0.mk K10
  clear hR9 hg9 K9
  go_wp2_with fail
  (with_reducible refine K10.out.mono ?_)
  rintro e w10 ⟨rfl, hR10, hg10⟩
  have B10 := Aside0.mk (B9.out.grown hg10 B9.out.size (fun k hk => by injection hk with hk; subst hk; exact HG.out))
  have K11 := ReadX.text_calls g _ _ w10 hR10 (sub_bytes L_bytes (by decide)) (by decide)
  rw [n4, s4] at K11
  replace K11 := Aside0.mk K11
  clear hR10 hg10 K10
  go_wp2_with fail
  (with_reducible refine K11.out.mono ?_)
  rintro e w11 ⟨rfl, hR11, hg11⟩
  have B11 := Aside0.mk (B10.out.grown hg11 B10.out.size (fun k hk => by injection hk with hk; subst hk; exact HG.out))
  have K12 := ReadX.end_calls g _ _ w11 hR11 (by decide)
  rw [n5] at K12
  replace K12 := Aside0.mk K12
  clear hR11 hg11 K11
  go_wp2_with fail
  (with_reducible refine K12.out.mono ?_)
  rintro e w12 ⟨rfl, hR12, hg12⟩
  have B12 := Aside0.mk (B11.out.grown hg12 B11.out.size (fun k hk => by injection hk with hk; subst hk; exact HG.out))
  clear hR12 hg12 K12
  go_wp2_with fail
  go_ret
  exact ⟨by simp, B12.out⟩
end Go.Proofs.Ytnfajlnpmndkdaa.Awake
