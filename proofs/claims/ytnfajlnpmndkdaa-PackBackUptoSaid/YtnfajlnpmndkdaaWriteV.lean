/- The writer of fields, walked once more: what it does not touch. No condition. -/
import Derived.Test.YtnfajlnpmndkdaaWriteW
namespace Go.Proofs.Ytnfajlnpmndkdaa.WriteV
set_option linter.unusedVariables false
set_option linter.unusedSimpArgs false
open Go.RowKit Go.Proofs.Ytnfajlnpmndkdaa.PAll Go.Proofs.Ytnfajlnpmndkdaa.Nums Go.Proofs.Ytnfajlnpmndkdaa.PackM Go.Proofs.Ytnfajlnpmndkdaa.TurnM Go.Proofs.Ytnfajlnpmndkdaa.Libs Go.Proofs.Ytnfajlnpmndkdaa.StrW Go.Proofs.Ytnfajlnpmndkdaa.WriteW Go.Proofs.YtnfajlnpmndkdaaW.PrintWords Go.Proofs.YtnfajlnpmndkdaaW.PrintLast Go.Proofs.YtnfajlnpmndkdaaW.PrintMore
/-- Blocks that are neither the writer's nor rows of bytes are as they were. -/
def Other (g : Nat) (w w' : World) : Prop := ∀ k, k < w.heap.size → k ≠ g → (∀ cs fr, w.heap[k]? ≠ some (.cells cs 5 fr)) → w'.heap[k]? = w.heap[k]?
theorem Other.trans {g : Nat} {w w1 w2 : World} (h : Other g w w1) (hs : w.heap.size ≤ w1.heap.size) (k : Other g w1 w2) : Other g w w2 := fun i hi hn h5 =>
  (k i (Nat.lt_of_lt_of_le hi hs) hn (fun cs fr => by rw [h i hi hn h5]; exact h5 cs fr)).trans (h i hi hn h5)
theorem other_below {g : Nat} {w w' : World} (h : Below w.heap.size w w') : Other g w w' := fun k hk _ _ => h.block k hk
set_option maxHeartbeats 2000000 in
set_option maxRecDepth 100000 in
theorem putV (g : Nat) (l : List Int) (A : Option Addr) (c : Nat) (m : List Int) (w : World) (hW : Wtr w g l) (hC : (Kd.int .u8).C w A m.length m) (hcap : A = none → c = 0) (hs : l.length + m.length ≤ 140737488355328) :
    Calls Try.prog 35 #[.pointer (some ⟨g, 0, none⟩), .slice A m.length c] w fun e w' => e = .returned (.pointer (some ⟨g, 0, none⟩)) ∧ Wtr w' g (l ++ m) ∧ Below g w w' ∧ Other g w w' := by
  obtain ⟨v, hv, ho⟩ := hW
  have hc1 := blk_cell hv 0
  have O := Aside0.mk ho
  have HV := Aside0.mk hv
  have HC := Aside0.mk hC
  have HZ := Aside0.mk hcap
  have hlt := heap_lt hv
  have hc2 : w.cell? ⟨g, 0, none⟩ = some v := by simpa using hc1
  clear hv ho hC hcap hc1
  go_enter Try.func35, Try.ntmps35
  go_wp2_with (at_builtin; refine wpList_append_bytes2 rfl (.tmp 11) (.tmp 12) rfl (g + 1) v l rfl O.out A c m rfl HC.out HZ.out hs (by omega) ?_)
  intro v' w' ho' hg' _ hb'
  have hne : ∀ k, v.ownBlock = some k → g + 1 ≤ k := fun k hk => (O.out.lt k hk).1
  have hblk : w'.heap[g]? = some (.cells #[v] 62 (0, 0)) := by
    rw [hg'.block g hlt (fun e => by have := hne g e.symm; omega)]
    exact HV.out
  have hfr := blk_frozen hblk 0
  have hc3 : w'.cell? ⟨g, 0, none⟩ = some v := by simpa using blk_cell hblk 0
  have B := Aside0.mk (hb' w (Below.refl _ _))
  obtain ⟨A', c', hv', _, _, _⟩ := OwnB.reads ho' (by rw [List.length_append]; omega)
  subst hv'
  have O' := Aside0.mk ho'
  have HB := Aside0.mk hblk
  have OT : Aside0 (Other g w w') := ⟨fun k hk hkg h5 => hg'.block k hk fun e => by
    rcases O.out.2 with ⟨h0, _⟩ | ⟨g', cap, cur, h0, _, hh, _⟩
    · rw [h0] at e; simp [Value.ownBlock] at e
    · rw [h0] at e
      simp [Value.ownBlock] at e
      subst e
      exact h5 _ _ hh⟩
  clear ho' hg' hb' hblk
  go_wp2_with fail
  go_ret
  refine ⟨by simp, ⟨_, ?_, own_move O'.out fun k hk => Below.heap_setCell _ _ _ _ ?_⟩, ?_, ?_⟩
  · rw [List.length_append]
    exact blk_set HB.out 0 _
  · have := (O'.out.lt k hk).1
    show k ≠ g
    omega
  · exact (B.out.mono (by omega)).setCell (Nat.le_refl g) _
  · exact fun k hk hkg h5 => (Below.heap_setCell _ _ _ _ hkg).trans (OT.out k hk hkg h5)
theorem numV (g : Nat) (l : List Int) (n : Nat) (w : World) (hW : Wtr w g l) (hn : n < 18446744073709551616) (hs : l.length + 10 ≤ 140737488355328) :
    Calls Try.prog 9 #[.pointer (some ⟨g, 0, none⟩), .int .u64 n] w fun e w' => e = .returned (.pointer (some ⟨g, 0, none⟩)) ∧ Wtr w' g (l ++ packN n) ∧ Below g w w' ∧ Other g w w' := by
  have P := Aside0.mk (pack_eq 12 n hn (by omega))
  have HW := Aside0.mk hW
  have hl := packN_length hn
  clear hW
  go_enter Try.func9, Try.ntmps9
  go_wp2_with fail
  refine (bits_Pack.calls 12 n _ w P.out).mono ?_
  rintro e w1 ⟨v, rfl, hR, hb1⟩
  obtain ⟨A, c, rfl, hc, hC⟩ := Kd.R_reads hR
  have hz : A = none → c = 0 := fun e => by
    subst e
    obtain ⟨inner, ho⟩ := Kd.R_own hR
    rcases ho.2 with ⟨h1, _⟩ | ⟨g, cap, cur, h1, _⟩
    · injection h1
    · simp at h1
  have K := Aside0.mk (putV g l A c (packN n) w1 (HW.out.below hb1) hC hz (by omega))
  have hb1S := Aside0.mk hb1.size
  have OT1 := Aside0.mk (other_below (g := g) hb1)
  have B1 := Aside0.mk (hb1.mono (Nat.le_of_lt HW.out.lt))
  clear hR hb1 hC hz
  go_wp2_with fail
  (with_reducible refine K.out.mono ?_)
  rintro e w2 ⟨rfl, hW2, hb2, ho2⟩
  have W2 := Aside0.mk hW2
  have B2 := Aside0.mk (B1.out.trans hb2)
  have OT2 := Aside0.mk (OT1.out.trans hb1S.out ho2)
  clear hW2 hb2 ho2
  go_wp2_with fail
  go_ret
  exact ⟨by simp, W2.out, B2.out, OT2.out⟩
theorem intV (g : Nat) (l : List Int) (a : Int) (w : World) (hW : Wtr w g l) (a0 : -9223372036854775808 ≤ a) (a1 : a < 9223372036854775808) (hs : l.length + 10 ≤ 140737488355328) :
    Calls Try.prog 20 #[.pointer (some ⟨g, 0, none⟩), .int .i64 a] w fun e w' => e = .returned (.pointer (some ⟨g, 0, none⟩)) ∧ Wtr w' g (l ++ packN (zig a).toNat) ∧ Below g w w' ∧ Other g w w' := by
  have hz := zig_range a0 a1
  refine int_any _ a w a0 a1 fun nd => (numV g l (zig a).toNat (w.drewN nd) (hW.below (pw_below_drewN (Below.refl _ _) nd)) (by omega) hs).mono ?_
  rintro e w' ⟨h1, h2, h3, h4⟩
  exact ⟨h1, h2, (pw_below_drewN (Below.refl _ _) nd).trans h3, h4⟩
theorem flagV (g : Nat) (l : List Int) (b : Bool) (w : World) (hW : Wtr w g l) (hs : l.length + 1 ≤ 140737488355328) :
    Calls Try.prog 11 #[.pointer (some ⟨g, 0, none⟩), .bool b] w fun e w' => e = .returned (.pointer (some ⟨g, 0, none⟩)) ∧ Wtr w' g (l ++ flagN b) ∧ Below g w w' ∧ Other g w w' := by
  have HW := Aside0.mk hW
  have hlt := hW.lt
  clear hW
  have K := Aside0.mk (fun (x : Int) => putV g l (some ⟨w.heap.size, 0, none⟩) 1 [x] (w.alloc (.cells #[.int .u8 x] 5)) (HW.out.below (below_alloc (Below.refl _ _) _)) (C_lit (by simp) (blk_new w _)) (by simp) (by simpa using hs))
  cases b
  all_goals
    go_enter Try.func11, Try.ntmps11
    go_wp2_with fail
    refine (K.out _).mono ?_
    rintro e w2 ⟨rfl, hW2, hb2, ho2⟩
    have OT2 := Aside0.mk ((other_below (g := g) (below_alloc (Below.refl _ _) _)).trans (below_alloc (Below.refl w.heap.size w) _).size ho2)
    have W2 := Aside0.mk hW2
    have B2 := Aside0.mk (((Below.refl g w).alloc (Nat.le_of_lt hlt) _).trans hb2)
    clear hW2 hb2 ho2
    go_wp2_with fail
    go_ret
    exact ⟨by simp, W2.out, B2.out, OT2.out⟩
theorem textV (g : Nat) (l : List Int) (s : ByteArray) (w : World) (hW : Wtr w g l) (hs : l.length + 10 + s.size ≤ 140737488355328) :
    Calls Try.prog 10 #[.pointer (some ⟨g, 0, none⟩), .string s] w fun e w' => e = .returned (.pointer (some ⟨g, 0, none⟩)) ∧ Wtr w' g (l ++ textN s) ∧ Below g w w' ∧ Other g w w' := by
  have K := Aside0.mk (numV g l s.size w hW (by omega) (by omega))
  have w1 : IntKind.u64.wrap (s.size : Int) = (s.size : Int) := u64_in (by omega) (by omega)
  have hl := packN_length (n := s.size) (by omega)
  clear hW
  go_enter Try.func10, Try.ntmps10
  go_wp2_with fail
  (with_reducible refine K.out.mono ?_)
  rintro e w2 ⟨rfl, hW2, hb2, ho2⟩
  obtain ⟨c2, w3, hcv, hc2, hC3, hb3, _⟩ := conv_bytes w2 s
  have W3 := hW2.below hb3
  have B3 := Aside0.mk (hb2.trans (hb3.mono (Nat.le_of_lt hW2.lt)))
  have OT3 := Aside0.mk (ho2.trans hb2.size (other_below (g := g) hb3))
  have SZ3 := Aside0.mk B3.out.size
  have P := putV g (l ++ packN s.size) (some ⟨w2.heap.size, 0, none⟩) c2 (numsOf s) w3 W3 (by rw [numsOf_length]; exact hC3 (by omega)) (by simp) (by rw [numsOf_length, List.length_append]; omega)
  rw [numsOf_length] at P
  have P' := Aside0.mk P
  clear P W3 hW2 hb2 hb3 hC3 hc2 K ho2
  go_wp2_with fail
  (with_reducible refine P'.out.mono ?_)
  rintro e w4 ⟨rfl, hW4, hb4, ho4⟩
  have OT4 := Aside0.mk (OT3.out.trans SZ3.out ho4)
  have W4 := Aside0.mk hW4
  have B4 := Aside0.mk (B3.out.trans hb4)
  clear hW4 hb4 ho4
  go_wp2_with fail
  go_ret
  exact ⟨by simp, by unfold textN; rw [← List.append_assoc]; exact W4.out, B4.out, OT4.out⟩
theorem digestV (g : Nat) (l : List Int) (D : List Int) (w : World) (hW : Wtr w g l) (hD : D.length = 32) (hs : l.length + 32 ≤ 140737488355328) :
    Calls Try.prog 24 #[.pointer (some ⟨g, 0, none⟩), digV D] w fun e w' => e = .returned (.pointer (some ⟨g, 0, none⟩)) ∧ Wtr w' g (l ++ D) ∧ Below g w w' ∧ Other g w w' := by
  have K := putV g l (some ⟨w.heap.size, 0, none⟩) 32 D (w.alloc (.cells (nums .u8 D).toArray 41)) (hW.below (below_alloc (Below.refl _ _) _)) (C_lit (by omega) (blk_new w _)) (by simp) (by omega)
  rw [hD] at K
  have K' := Aside0.mk K
  have hlt := hW.lt
  clear K hW
  unfold digV
  go_enter Try.func24, Try.ntmps24
  go_wp2_with fail
  (with_reducible refine K'.out.mono ?_)
  rintro e w2 ⟨rfl, hW2, hb2, ho2⟩
  have OT2 := Aside0.mk ((other_below (g := g) (below_alloc (Below.refl _ _) _)).trans (below_alloc (Below.refl w.heap.size w) _).size ho2)
  have W2 := Aside0.mk hW2
  have B2 := Aside0.mk (((Below.refl g w).alloc (Nat.le_of_lt hlt) _).trans hb2)
  clear hW2 hb2 ho2
  go_wp2_with fail
  go_ret
  exact ⟨by simp, W2.out, B2.out, OT2.out⟩
end Go.Proofs.Ytnfajlnpmndkdaa.WriteV
