/- The reader of fields, walked. No condition. -/
import Derived.Test.YtnfajlnpmndkdaaWriteW
import Derived.Outline
namespace Go.Proofs.Ytnfajlnpmndkdaa.ReadW
set_option linter.unusedVariables false
set_option linter.unusedSimpArgs false
open Go.RowKit Go.Proofs.Ytnfajlnpmndkdaa.PAll Go.Proofs.Ytnfajlnpmndkdaa.Nums Go.Proofs.Ytnfajlnpmndkdaa.PackM Go.Proofs.Ytnfajlnpmndkdaa.TurnM Go.Proofs.Ytnfajlnpmndkdaa.Libs Go.Proofs.Ytnfajlnpmndkdaa.StrW Go.Proofs.Ytnfajlnpmndkdaa.WriteW Go.Proofs.YtnfajlnpmndkdaaW.PrintWords Go.Proofs.YtnfajlnpmndkdaaW.PrintLast Go.Proofs.YtnfajlnpmndkdaaW.PrintMore
theorem grown_of_below {w w' : World} (h : Below w.heap.size w w') (row : Option Nat) : w.grownBy w' row := ⟨h.os, h.tape, h.output, h.size, fun k hk _ => h.block k hk⟩
theorem grown_trans {w w1 w2 : World} {row : Option Nat} (h : w.grownBy w1 row) (k : w1.grownBy w2 row) : w.grownBy w2 row :=
  ⟨k.os.trans h.os, k.tape.trans h.tape, k.output.trans h.output, Nat.le_trans h.size k.size, fun i hi hn => (k.block i (Nat.lt_of_lt_of_le hi h.size) hn).trans (h.block i hi hn)⟩
theorem grown_set (w : World) (g i : Nat) (u : Value) : w.grownBy (w.setCell ⟨g, i, none⟩ u) (some g) :=
  ⟨rfl, rfl, rfl, by simp [World.setCell], fun k hk hn => Below.heap_setCell _ _ _ _ (fun e => hn (by rw [e]))⟩
/-- A reader at a block: what is left, and what has been wrong. -/
def Rdr (w : World) (g : Nat) (l : List Int) (e : Int) : Prop :=
  ∃ A c, w.heap[g]? = some (.cells #[.slice A l.length c, .int .i64 e] 67 (0, 0)) ∧ l.length ≤ c ∧ (Kd.int .u8).C w A l.length l ∧ (A = none → c = 0) ∧ ∀ ad, A = some ad → ad.block ≠ g ∧ ad.block < w.heap.size
theorem Rdr.lt {w : World} {g : Nat} {l : List Int} {e : Int} (h : Rdr w g l e) : g < w.heap.size := by obtain ⟨A, c, h1, _⟩ := h; exact heap_lt h1
theorem C_moved {W W' : World} {A : Option Addr} {l : List Int} (h : (Kd.int .u8).C W A l.length l) (hb : ∀ ad, A = some ad → W'.heap[ad.block]? = W.heap[ad.block]?) : (Kd.int .u8).C W' A l.length l := by
  refine ⟨h.1, h.2.1, fun hp => ?_⟩
  obtain ⟨ad, e, hc⟩ := h.2.2 hp
  refine ⟨ad, e, fun j p hj => ?_⟩
  obtain ⟨cs, h1, h2, h3⟩ := hc j p hj
  refine ⟨cs, h1, h2, fun i u hu => ?_⟩
  have hblk : (ad.add (j * (Kd.int .u8).sz + i)).block = ad.block := by unfold Addr.add; split <;> rfl
  rw [World.cell?_of_block (w := W) (by rw [hblk]; exact hb ad e)]
  exact h3 i u hu
theorem Rdr.grown {w w' : World} {g : Nat} {l : List Int} {e : Int} {row : Option Nat} (h : Rdr w g l e) (hg : w.grownBy w' row) (hr : ∀ k, row = some k → k ≠ g ∧ ∀ A c, w.heap[g]? = some (.cells #[.slice A l.length c, .int .i64 e] 67 (0, 0)) → ∀ ad, A = some ad → ad.block ≠ k) : Rdr w' g l e := by
  obtain ⟨A, c, h1, h2, h3, h4, h5⟩ := h
  refine ⟨A, c, by rw [hg.block g (heap_lt h1) (fun x => (hr g x.symm).1 rfl)]; exact h1, h2, C_moved h3 fun ad ha => hg.block _ (h5 ad ha).2 fun x => (hr _ x.symm).2 A c h1 ad ha rfl, h4, fun ad ha => ⟨(h5 ad ha).1, Nat.lt_of_lt_of_le (h5 ad ha).2 hg.size⟩⟩
theorem Rdr.below {w w' : World} {g : Nat} {l : List Int} {e : Int} (h : Rdr w g l e) (hb : Below w.heap.size w w') : Rdr w' g l e := h.grown (grown_of_below hb none) (fun k hk => by simp at hk)
theorem read_calls (A : Option Addr) (c : Nat) (l : List Int) (w : World) (hC : (Kd.int .u8).C w A l.length l) (hcap : A = none → c = 0) (hl : l.length ≤ 140737488355328) :
    Calls Try.prog 14 #[.slice A l.length c] w fun e w' => ∃ g, e = .returned (.pointer (some ⟨g, 0, none⟩)) ∧ w.heap.size ≤ g ∧ Rdr w' g l 0 ∧ Below w.heap.size w w' := by
  have K := Aside0.mk (clone_calls A c l w hC hcap hl)
  clear hC hcap
  go_enter Try.func14, Try.ntmps14
  go_wp2_with fail
  (with_reducible refine K.out.mono ?_)
  rintro e w2 ⟨v2, rfl, ho2, hb2⟩
  have HL := Aside0.mk ho2.lt
  obtain ⟨A2, c2, rfl, hcc2, hC2, hz2⟩ := OwnB.reads ho2 (by omega)
  have B2 := Aside0.mk hb2
  have C2 := Aside0.mk hC2
  have Z2 := Aside0.mk hz2
  have HC2 := Aside0.mk hcc2
  clear ho2 hb2 hC2 hz2 K hcc2
  go_wp2_with fail
  go_ret
  refine ⟨w2.heap.size, by simp, B2.out.size, ⟨A2, c2, blk_new w2 _, HC2.out, Kd.C_below C2.out (below_alloc (Below.refl _ _) _), Z2.out, fun ad ha => ?_⟩, below_alloc B2.out _⟩
  have := HL.out ad.block (by rw [ha]; rfl)
  refine ⟨by omega, ?_⟩
  have h2 : (w2.alloc (.cells #[.slice A2 l.length c2, .int .i64 0] 67)).heap.size = w2.heap.size + 1 := by
    show (w2.heap.push _).size = _
    simp
  rw [h2]
  omega
/-- The number of what is wrong, written. -/
theorem rdr_err {w : World} {g : Nat} {l : List Int} {e : Int} (h : Rdr w g l e) (er : Int) : Rdr (w.setCell ⟨g, 1, none⟩ (.int .i64 er)) g l er := by
  obtain ⟨A, c, h1, h2, h3, h4, h5⟩ := h
  refine ⟨A, c, blk_set h1 1 _, h2, C_moved h3 fun ad ha => Below.heap_setCell _ _ _ _ (h5 ad ha).1, h4, fun ad ha => ⟨(h5 ad ha).1, by simpa [World.setCell] using (h5 ad ha).2⟩⟩
theorem fail_calls (g : Nat) (l : List Int) (er : Int) (w : World) (hR : Rdr w g l 0) :
    Calls Try.prog 40 #[.pointer (some ⟨g, 0, none⟩), .int .i64 er] w fun x w' => x = .returned (.tuple #[]) ∧ Rdr w' g l er ∧ w.grownBy w' (some g) := by
  have HR := Aside0.mk hR
  obtain ⟨A, c, h1, h2, h3, h4, h5⟩ := hR
  have c2 : w.cell? ⟨g, 1, none⟩ = some (.int .i64 0) := by simpa using blk_cell h1 1
  have hfr := blk_frozen h1 1
  clear h1 h3 h4 h5
  go_enter Try.func40, Try.ntmps40
  go_wp2_with fail
  go_end0
  exact ⟨rfl, rdr_err HR.out er, grown_set _ _ _ _⟩
/-- The same, the block of what is left below a number. -/
def RdrN (N : Nat) (w : World) (g : Nat) (l : List Int) (e : Int) : Prop :=
  ∃ A c, w.heap[g]? = some (.cells #[.slice A l.length c, .int .i64 e] 67 (0, 0)) ∧ l.length ≤ c ∧ (Kd.int .u8).C w A l.length l ∧ (A = none → c = 0) ∧ ∀ ad, A = some ad → ad.block ≠ g ∧ ad.block < N
theorem RdrN.rdr {N : Nat} {w : World} {g : Nat} {l : List Int} {e : Int} (h : RdrN N w g l e) (hN : N ≤ w.heap.size) : Rdr w g l e := by
  obtain ⟨A, c, h1, h2, h3, h4, h5⟩ := h
  exact ⟨A, c, h1, h2, h3, h4, fun ad ha => ⟨(h5 ad ha).1, Nat.lt_of_lt_of_le (h5 ad ha).2 hN⟩⟩
theorem Rdr.rdrN {w : World} {g : Nat} {l : List Int} {e : Int} (h : Rdr w g l e) : RdrN w.heap.size w g l e := h
/-- It stands where what it needs stands. -/
theorem RdrN.move {N : Nat} {w w' : World} {g : Nat} {l : List Int} {e : Int} (h : RdrN N w g l e) (hg : w'.heap[g]? = w.heap[g]?) (hb : ∀ k, k < N → w'.heap[k]? = w.heap[k]?) : RdrN N w' g l e := by
  obtain ⟨A, c, h1, h2, h3, h4, h5⟩ := h
  exact ⟨A, c, by rw [hg]; exact h1, h2, C_moved h3 fun ad ha => hb _ (h5 ad ha).2, h4, h5⟩
theorem rdrN_err {N : Nat} {w : World} {g : Nat} {l : List Int} {e : Int} (h : RdrN N w g l e) (er : Int) : RdrN N (w.setCell ⟨g, 1, none⟩ (.int .i64 er)) g l er := by
  obtain ⟨A, c, h1, h2, h3, h4, h5⟩ := h
  refine ⟨A, c, blk_set h1 1 _, h2, C_moved h3 fun ad ha => Below.heap_setCell _ _ _ _ (h5 ad ha).1, h4, fun ad ha => h5 ad ha⟩
theorem failN_calls (N : Nat) (g : Nat) (l : List Int) (er : Int) (w : World) (hR : RdrN N w g l 0) :
    Calls Try.prog 40 #[.pointer (some ⟨g, 0, none⟩), .int .i64 er] w fun x w' => x = .returned (.tuple #[]) ∧ RdrN N w' g l er ∧ w.grownBy w' (some g) := by
  have HR := Aside0.mk hR
  obtain ⟨A, c, h1, h2, h3, h4, h5⟩ := hR
  have c2 : w.cell? ⟨g, 1, none⟩ = some (.int .i64 0) := by simpa using blk_cell h1 1
  have hfr := blk_frozen h1 1
  clear h1 h3 h4 h5
  go_enter Try.func40, Try.ntmps40
  go_wp2_with fail
  go_end0
  exact ⟨rfl, rdrN_err HR.out er, grown_set _ _ _ _⟩
/-- What 'take' takes, and what it leaves. -/
def takeR (n : Nat) (l : List Int) (e : Int) : List Int × List Int × Int :=
  if e = 0 then (if n ≤ l.length then (l.take n, l.drop n, 0) else ([], l, 3)) else ([], l, e)
theorem takeR_short {n : Nat} {l : List Int} (h : ¬ n ≤ l.length) : takeR n l 0 = ([], l, 3) := by unfold takeR; rw [if_pos rfl, if_neg h]
theorem takeR_ok {n : Nat} {l : List Int} (h : n ≤ l.length) : takeR n l 0 = (l.take n, l.drop n, 0) := by unfold takeR; rw [if_pos rfl, if_pos h]
theorem takeR_bad {n : Nat} {l : List Int} {e : Int} (h : e ≠ 0) : takeR n l e = ([], l, e) := by unfold takeR; rw [if_neg h]
/-- What is told of a row that a call hands back. -/
def Got (w : World) (g : Nat) (x : Ending) (m : List Int) : Prop := ∃ A c, x = .returned (.slice A m.length c) ∧ m.length ≤ c ∧ (Kd.int .u8).C w A m.length m ∧ (A = none → c = 0) ∧ ∀ ad, A = some ad → ad.block ≠ g ∧ ad.block < w.heap.size
theorem got_nil (w : World) (g : Nat) : Got w g (.returned (.slice none 0 0)) [] := ⟨none, 0, rfl, by simp, Kd.C_nil _ _, fun _ => rfl, fun ad h => by simp at h⟩
def GotN (N : Nat) (w : World) (g : Nat) (x : Ending) (m : List Int) : Prop := ∃ A c, x = .returned (.slice A m.length c) ∧ m.length ≤ c ∧ (Kd.int .u8).C w A m.length m ∧ (A = none → c = 0) ∧ ∀ ad, A = some ad → ad.block ≠ g ∧ ad.block < N
theorem gotN_nil (N : Nat) (w : World) (g : Nat) : GotN N w g (.returned (.slice none 0 0)) [] := ⟨none, 0, rfl, by simp, Kd.C_nil _ _, fun _ => rfl, fun ad h => by simp at h⟩
set_option maxHeartbeats 2000000 in
set_option maxRecDepth 100000 in
theorem takeN_calls (N : Nat) (g n : Nat) (l : List Int) (e : Int) (w : World) (hR : RdrN N w g l e) (hn : n ≤ 140737488355328) (hl : l.length ≤ 140737488355328) :
    Calls Try.prog 41 #[.pointer (some ⟨g, 0, none⟩), .int .i64 (n : Int)] w fun x w' => GotN N w' g x (takeR n l e).1 ∧ RdrN N w' g (takeR n l e).2.1 (takeR n l e).2.2 ∧ w.grownBy w' (some g) := by
  have HR := Aside0.mk hR
  obtain ⟨A, c, h1, h2, h3, h4, h5⟩ := hR
  have c1 : w.cell? ⟨g, 0, none⟩ = some (.slice A l.length c) := by simpa using blk_cell h1 0
  have c2 : w.cell? ⟨g, 1, none⟩ = some (.int .i64 e) := by simpa using blk_cell h1 1
  have hfr := blk_frozen h1 0
  have H1 := Aside0.mk h1
  have H3 := Aside0.mk h3
  have H4 := Aside0.mk h4
  have H5 := Aside0.mk h5
  clear h1 h3 h4 h5
  by_cases he : e = 0
  · subst he
    by_cases hs : n ≤ l.length
    · obtain ⟨i0, hi0, _, hsz, _⟩ := info_parts Libs.info5
      have cut1 : ∀ w : World, (Instr.slice 24 (.slice A l.length c) none (some (.int .i64 (n : Int))) none).run Try.prog w = .ok (.slice A n c) w := by
        have := cut_to (P := Try.prog) 24 5 .i64 Try.underlying24 hi0 A l.length c (n : Int) (by omega) (by omega) h2
        simpa using this
      have cut2 : ∀ w : World, (Instr.slice 24 (.slice A l.length c) (some (.int .i64 (n : Int))) none none).run Try.prog w = .ok (.slice (if c = n then A else A.map (·.add (n * 1))) (l.length - n) (c - n)) w := by
        have := cut_from (P := Try.prog) 24 5 .i64 Try.underlying24 hi0 1 hsz A l.length c (n : Int) (by omega) (by omega)
        simpa using this
      have D := Aside0.mk (Kd.C_drop (m := n) H3.out hs h2)
      have E := Aside0.mk (Kd.C_take (m := n) H3.out hs)
      have hAn : Aside0 ((if c = n then A else A.map (·.add (n * 1))) = none → c - n = 0) := ⟨fun e => by
        split at e
        · omega
        · cases A with
          | none => have := H4.out rfl; omega
          | some ad => simp at e⟩
      have hAb : Aside0 (∀ ad, (if c = n then A else A.map (·.add (n * 1))) = some ad → ad.block ≠ g ∧ ad.block < N) := ⟨fun ad e => by
        split at e
        · exact H5.out ad e
        · cases A with
          | none => simp at e
          | some a0 =>
            simp at e
            subst e
            have : (a0.add n).block = a0.block := by unfold Addr.add; split <;> rfl
            rw [this]
            exact H5.out a0 rfl⟩
      rw [show n * (Kd.int .u8).sz = n * 1 from rfl] at D
      generalize (if c = n then A else A.map (·.add (n * 1))) = A2 at D cut2 hAn hAb
      have L1 : (l.take n).length = n := by rw [List.length_take]; omega
      have L2 : (l.drop n).length = l.length - n := List.length_drop
      have HL1 := Aside0.mk L1
      have HL2 := Aside0.mk L2
      rw [L2] at D
      have T := Aside0.mk (takeR_ok hs)
      have hs' : ¬ ((n : Int) > (l.length : Int)) := by omega
      clear L1 L2 hi0 hsz
      go_enter Try.func41, Try.ntmps41
      go_wp2_with fail
      go_ret
      rw [T.out]
      have hmv : ∀ ad : Addr, ad.block ≠ g → (w.setCell ⟨g, 0, none⟩ (.slice A2 (l.length - n) (c - n))).heap[ad.block]? = w.heap[ad.block]? := fun ad ha => Below.heap_setCell _ _ _ _ ha
      refine ⟨⟨A, c, by simp; omega, by rw [HL1.out]; omega, ?_, H4.out, H5.out⟩, ⟨A2, c - n, ?_, ?_, ?_, hAn.out, hAb.out⟩, grown_set _ _ _ _⟩
      · exact C_moved E.out fun ad ha => hmv ad (H5.out ad ha).1
      · show _ = some (Obj.cells #[.slice A2 (l.drop n).length (c - n), .int .i64 0] 67 (0, 0))
        rw [HL2.out]
        exact blk_set H1.out 0 _
      · show (l.drop n).length ≤ c - n
        rw [HL2.out]; omega
      · show (Kd.int .u8).C _ A2 (l.drop n).length (l.drop n)
        have := D.out
        rw [← HL2.out] at this
        exact C_moved this fun ad ha => hmv ad (hAb.out ad ha).1
    · have hs' : ((n : Int) > (l.length : Int)) := by omega
      have F := Aside0.mk (failN_calls N g l 3 w HR.out)
      have T := Aside0.mk (takeR_short hs)
      go_enter Try.func41, Try.ntmps41
      go_wp2_with fail
      (with_reducible refine F.out.mono ?_)
      rintro x w1 ⟨rfl, hR1, hg1⟩
      have R1 := Aside0.mk hR1
      have G1 := Aside0.mk hg1
      have c3 : w1.cell? ⟨g, 1, none⟩ = some (.int .i64 3) := by obtain ⟨A', c', h1, _⟩ := hR1; simpa using blk_cell h1 1
      clear hR1 hg1 c1 c2 hfr F
      go_wp2_with fail
      go_ret
      rw [T.out]
      exact ⟨gotN_nil _ _ _, R1.out, G1.out⟩
  · have T := Aside0.mk (takeR_bad (n := n) (l := l) he)
    go_enter Try.func41, Try.ntmps41
    go_wp2_with fail
    go_ret
    rw [T.out]
    exact ⟨gotN_nil _ _ _, HR.out, World.grownBy.refl _ _⟩
theorem take_calls (g n : Nat) (l : List Int) (e : Int) (w : World) (hR : Rdr w g l e) (hn : n ≤ 140737488355328) (hl : l.length ≤ 140737488355328) :
    Calls Try.prog 41 #[.pointer (some ⟨g, 0, none⟩), .int .i64 (n : Int)] w fun x w' => Got w' g x (takeR n l e).1 ∧ Rdr w' g (takeR n l e).2.1 (takeR n l e).2.2 ∧ w.grownBy w' (some g) := by
  refine (takeN_calls w.heap.size g n l e w hR hn hl).mono ?_
  rintro x w' ⟨⟨A, c, h1, h2, h3, h4, h5⟩, h6, h7⟩
  exact ⟨⟨A, c, h1, h2, h3, h4, fun ad ha => ⟨(h5 ad ha).1, Nat.lt_of_lt_of_le (h5 ad ha).2 h7.size⟩⟩, h6.rdr h7.size, h7⟩
theorem specU_ok {b : List Int} (hb : Bytes b) : ∀ d, d ≤ 9 → (specU b d).2.2 = 0 → ∃ n u : Nat, (specU b d).1 = (n : Int) ∧ (specU b d).2.1 = (u : Int) ∧ 1 ≤ u ∧ u ≤ b.length ∧ n < 18446744073709551616
  | 0, _, h => by
    rw [specU] at *
    by_cases h1 : b.length ≤ 9
    · rw [if_pos h1] at h; simp at h
    · rw [if_neg h1] at h ⊢
      by_cases h2 : rd b 9 > 1
      · rw [if_pos h2] at h; simp at h
      · rw [if_neg h2] at h ⊢
        unfold lastU at *
        by_cases h3 : 0 < 9 ∧ rd b ((9 : Nat) : Int) = 0
        · rw [if_pos h3] at h; simp at h
        · rw [if_neg h3]
          have hz := rd_byte hb 9
          have h1' : (rd b ((9 : Nat) : Int)).toNat ≤ 1 := by
            have : rd b ((9 : Nat) : Int) ≤ 1 := by simpa using h2
            omega
          have hd := dec_u64 (b := b) (i := 9) (by omega) (by omega) fun _ => h1'
          exact ⟨_, 10, rfl, rfl, by omega, by omega, hd⟩
  | d + 1, hd, h => by
    have ih := specU_ok hb d (by omega)
    rw [specU] at *
    by_cases h1 : b.length ≤ 8 - d
    · rw [if_pos h1] at h; simp at h
    · rw [if_neg h1] at h ⊢
      by_cases h2 : rd b ((8 - d : Nat) : Int) ≥ 128
      · rw [if_pos h2] at h ⊢
        exact ih h
      · rw [if_neg h2] at h ⊢
        unfold lastU at *
        by_cases h3 : 0 < 8 - d ∧ rd b ((8 - d : Nat) : Int) = 0
        · rw [if_pos h3] at h; simp at h
        · rw [if_neg h3]
          have hd' := dec_u64 (b := b) (i := 8 - d) (by omega) (by omega) fun h => by omega
          exact ⟨_, 8 - d + 1, rfl, by simp, by omega, by omega, hd'⟩
/-- What 'Num' reads. -/
def numR (l : List Int) (e : Int) : Int × List Int × Int :=
  if e = 0 then (if (specU l 9).2.2 = 0 then ((specU l 9).1, l.drop (specU l 9).2.1.toNat, 0) else (0, l, (specU l 9).2.2)) else (0, l, e)
theorem numR_bad {l : List Int} {e : Int} (h : e ≠ 0) : numR l e = (0, l, e) := by unfold numR; rw [if_neg h]
theorem numR_len (l : List Int) (e : Int) : (numR l e).2.1.length ≤ l.length := by
  unfold numR
  split
  · split
    · simp
    · exact Nat.le_refl _
  · exact Nat.le_refl _
theorem numR_bytes {l : List Int} (h : Bytes l) (e : Int) : Bytes (numR l e).2.1 := by
  unfold numR
  split
  · split
    · exact fun x hx => h x (List.mem_of_mem_drop hx)
    · exact h
  · exact h
theorem numR_range {l : List Int} (hb : Bytes l) (e : Int) : 0 ≤ (numR l e).1 ∧ (numR l e).1 < 18446744073709551616 := by
  unfold numR
  split
  · split
    · rename_i h
      obtain ⟨n, u, h1, _, _, _, h5⟩ := specU_ok hb 9 (by omega) h
      show 0 ≤ (specU l 9).1 ∧ _
      rw [h1]
      omega
    · show (0 : Int) ≤ 0 ∧ (0 : Int) < _
      omega
  · show (0 : Int) ≤ 0 ∧ (0 : Int) < _
    omega
theorem err_cell {w : World} {g : Nat} {l : List Int} {e : Int} (h : Rdr w g l e) : w.cell? ⟨g, 1, none⟩ = some (.int .i64 e) := by obtain ⟨A', c', h1, _⟩ := h; simpa using blk_cell h1 1
theorem num_calls (g : Nat) (l : List Int) (e : Int) (w : World) (hR : Rdr w g l e) (hB : Bytes l) (hl : l.length ≤ 140737488355328) :
    Calls Try.prog 15 #[.pointer (some ⟨g, 0, none⟩)] w fun x w' => x = .returned (.int .u64 (numR l e).1) ∧ Rdr w' g (numR l e).2.1 (numR l e).2.2 ∧ w.grownBy w' (some g) := by
  have HR := Aside0.mk hR
  have c2 := err_cell hR
  by_cases he : e = 0
  · subst he
    obtain ⟨A, c, h1, h2, h3, h4, h5⟩ := hR
    have c1 : w.cell? ⟨g, 0, none⟩ = some (.slice A l.length c) := by simpa using blk_cell h1 0
    have U := Aside0.mk (unpack_eq hB (by omega) 30 (by omega))
    have C := Aside0.mk h3
    have H2 := Aside0.mk h2
    have HN : Aside0 (numR l 0 = if (specU l 9).2.2 = 0 then ((specU l 9).1, l.drop (specU l 9).2.1.toNat, 0) else (0, l, (specU l 9).2.2)) := ⟨by unfold numR; rw [if_pos rfl]⟩
    have hok := fun h => specU_ok hB 9 (by omega) h
    clear h1 h3 h4 h5 h2
    generalize specU l 9 = s at *
    obtain ⟨n, u, er⟩ := s
    by_cases her : er = 0
    · subst her
      obtain ⟨n', u', rfl, rfl, hu1, hu2, hn⟩ := hok rfl
      clear hok
      rw [if_pos rfl] at HN
      have HT := Aside0.mk (takeR_ok hu2)
      go_enter Try.func15, Try.ntmps15
      go_wp2_with fail
      (with_reducible refine (bits_Unpack.calls 30 A c l _ _ _ w C.out H2.out U.out).mono ?_)
      rintro x w1 ⟨rfl, hb1⟩
      have G1 := Aside0.mk (grown_of_below hb1 (some g))
      have T := Aside0.mk (take_calls g u' l 0 w1 (HR.out.below hb1) (by omega) hl)
      rw [HT.out] at T
      clear hb1
      go_wp2_with fail
      (with_reducible refine T.out.mono ?_)
      rintro x w2 ⟨⟨A2, c2', rfl, _⟩, hR2, hg2⟩
      have R2 := Aside0.mk hR2
      have G2 := Aside0.mk (grown_trans G1.out hg2)
      clear hR2 hg2
      go_wp2_with fail
      go_ret
      rw [HN.out]
      exact ⟨by simp, by simpa using R2.out, G2.out⟩
    · clear hok
      rw [if_neg her] at HN
      go_enter Try.func15, Try.ntmps15
      go_wp2_with fail
      (with_reducible refine (bits_Unpack.calls 30 A c l _ _ _ w C.out H2.out U.out).mono ?_)
      rintro x w1 ⟨rfl, hb1⟩
      have G1 := Aside0.mk (grown_of_below hb1 (some g))
      have T := Aside0.mk (fail_calls g l er w1 (HR.out.below hb1))
      clear hb1
      go_wp2_with fail
      (with_reducible refine T.out.mono ?_)
      rintro x w2 ⟨rfl, hR2, hg2⟩
      have R2 := Aside0.mk hR2
      have G2 := Aside0.mk (grown_trans G1.out hg2)
      clear hR2 hg2
      go_wp2_with fail
      go_ret
      rw [HN.out]
      exact ⟨by simp, R2.out, G2.out⟩
  · have HN := Aside0.mk (numR_bad (l := l) he)
    clear hR
    go_enter Try.func15, Try.ntmps15
    go_wp2_with fail
    go_ret
    rw [HN.out]
    exact ⟨by simp, HR.out, World.grownBy.refl _ _⟩
theorem num_none (w : World) : Calls Try.prog 15 #[.pointer none] w fun x w' => x = .returned (.int .u64 0) ∧ w' = w := by
  go_enter Try.func15, Try.ntmps15
  go_wp2
  go_ret
  exact ⟨rfl, rfl⟩
theorem int_calls (g : Nat) (l : List Int) (e : Int) (w : World) (hR : Rdr w g l e) (hB : Bytes l) (hl : l.length ≤ 140737488355328) :
    Calls Try.prog 27 #[.pointer (some ⟨g, 0, none⟩)] w fun x w' => x = .returned (.int .i64 (zag (numR l e).1)) ∧ Rdr w' g (numR l e).2.1 (numR l e).2.2 ∧ w.grownBy w' (some g) := by
  have K := Aside0.mk (num_calls g l e w hR hB hl)
  have hz := numR_range hB e
  generalize numR l e = s at *
  obtain ⟨n, l', e'⟩ := s
  have Z := Aside0.mk (zag_eq hz.1 hz.2)
  clear hR hz
  go_enter Try.func27, Try.ntmps27
  go_wp2_with fail
  (with_reducible refine K.out.mono ?_)
  rintro x w1 ⟨rfl, hR1, hg1⟩
  have R1 := Aside0.mk hR1
  have G1 := Aside0.mk hg1
  clear hR1 hg1
  go_wp2_with fail
  (with_reducible refine (bits_Zag.calls n (zag n) w1 Z.out).mono ?_)
  rintro x w2 ⟨rfl, ⟨nd, rfl⟩⟩
  go_wp2_with fail
  go_ret
  exact ⟨by simp, R1.out.below (pw_below_drewN (Below.refl _ _) nd), grown_trans G1.out (grown_of_below (pw_below_drewN (Below.refl _ _) nd) _)⟩
theorem int_none (w : World) : Calls Try.prog 27 #[.pointer none] w fun x w' => x = .returned (.int .i64 0) ∧ Below w.heap.size w w' := by
  have Z := Aside0.mk (zag_eq (u := 0) (by omega) (by omega))
  go_enter Try.func27, Try.ntmps27
  go_wp2_with fail
  (with_reducible refine (num_none _).mono ?_)
  rintro x w1 ⟨rfl, rfl⟩
  go_wp2_with fail
  (with_reducible refine (bits_Zag.calls 0 (zag 0) _ Z.out).mono ?_)
  rintro x w2 ⟨rfl, ⟨nd, rfl⟩⟩
  go_wp2_with fail
  go_ret
  exact ⟨by simp [zag], pw_below_drewN (Below.refl _ _) nd⟩
end Go.Proofs.Ytnfajlnpmndkdaa.ReadW
