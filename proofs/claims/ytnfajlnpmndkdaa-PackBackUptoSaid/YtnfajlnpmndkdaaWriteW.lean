/- The writer of fields, walked. No condition. -/
import Derived.Test.YtnfajlnpmndkdaaStrW
import Derived.Maps.AppendAt
namespace Go.Proofs.Ytnfajlnpmndkdaa.WriteW
set_option linter.unusedVariables false
set_option linter.unusedSimpArgs false
open Go.RowKit Go.Proofs.Ytnfajlnpmndkdaa.PAll Go.Proofs.Ytnfajlnpmndkdaa.Nums Go.Proofs.Ytnfajlnpmndkdaa.PackM Go.Proofs.Ytnfajlnpmndkdaa.TurnM Go.Proofs.Ytnfajlnpmndkdaa.Libs Go.Proofs.Ytnfajlnpmndkdaa.StrW Go.Proofs.YtnfajlnpmndkdaaW.PrintWords Go.Proofs.YtnfajlnpmndkdaaW.PrintLast Go.Proofs.YtnfajlnpmndkdaaW.PrintMore
/-- 'append' of bytes that are read to a row of the call's own: what else there is stays. -/
theorem wpList_append_bytes2 {ops : Array Oper} {rest : List Oper} {o : Oper} {a : Act} {w : World} {Q : Exit → Act → World → Prop} (hgd : o.guard = none) (s x : Operand)
    (ho : o.op = .call { callee := .builtin .append, args := #[s, x], argTypes := #[24, 24] }) (base : Nat) (v : Value) (l1 : List Int) (hs : a.eval s = v) (hown : OwnB w base v l1)
    (A : Option Addr) (c : Nat) (l : List Int) (hx : a.eval x = .slice A l.length c) (hC : (Kd.int .u8).C w A l.length l) (hcap : A = none → c = 0) (h63 : l1.length + l.length ≤ 140737488355328) (hbase : base ≤ w.heap.size)
    (h : ∀ v' w', OwnB w' base v' (l1 ++ l) → w.grownBy w' v.ownBlock → (v'.ownBlock = v.ownBlock ∨ ∃ b, v'.ownBlock = some b ∧ w.heap.size ≤ b) → (∀ W0, Below base W0 w → Below base W0 w') → wpList Try.prog ops Q rest (a.put o.dst v') w') : wpList Try.prog ops Q (o :: rest) a w := by
  cases A with
  | none =>
    obtain rfl := C_none hC
    obtain rfl := hcap rfl
    obtain ⟨i0, hi, hz0, hz1, hz2⟩ := info_parts Libs.info5
    exact wpList_append_own_none hgd s x 24 ho base 5 i0 1 Try.underlying24 hi v _ _ hs hown hx (h v w (by rw [List.append_nil]; exact hown) (World.grownBy.refl w _) (.inl rfl) fun _ hb => hb)
  | some ad =>
    obtain ⟨i0, hi, hz0, hz1, hz2⟩ := info_parts Libs.info5
    refine wpList_append_own_at w hgd s x 24 ho base 5 i0 (.int .u8 0) 1 1 Try.underlying24 hi hz0 hz1 hz2 rfl (by decide) v l1.length _ hs hown ad l.length c (nums .u8 l) hx (by simp [nums_length]) (C_cells hC) (nums_one l) (by unfold maxLen; omega) (by omega) hbase fun v' w' h1 h2 _ h4 => ?_
    refine h v' w' ?_ h2 (h4.imp id fun e => ⟨_, e, Nat.le_refl _⟩) fun W0 hb => hb.grown h2 hbase fun k hk => (hown.lt k hk).1
    unfold OwnB
    rw [nums_append, List.length_append]
    exact h1
/-- A writer at a block, and what has been written. -/
def Wtr (w : World) (g : Nat) (l : List Int) : Prop := ∃ v, w.heap[g]? = some (.cells #[v] 62 (0, 0)) ∧ OwnB w (g + 1) v l
theorem heap_lt {w : World} {g : Nat} {o : Obj} (h : w.heap[g]? = some o) : g < w.heap.size := (Array.getElem?_eq_some_iff.1 h).1
theorem Wtr.lt {w : World} {g : Nat} {l : List Int} (h : Wtr w g l) : g < w.heap.size := by obtain ⟨v, h1, _⟩ := h; exact heap_lt h1
theorem Wtr.below {w w' : World} {g : Nat} {l : List Int} (h : Wtr w g l) (hb : Below w.heap.size w w') : Wtr w' g l := by
  obtain ⟨v, h1, h2⟩ := h
  exact ⟨v, by rw [hb.block _ (heap_lt h1)]; exact h1, own_move h2 fun k hk => hb.block k (h2.lt k hk).2⟩
theorem new_calls (w : World) : Calls Try.prog 8 #[] w fun e w' => e = .returned (.pointer (some ⟨w.heap.size, 0, none⟩)) ∧ Wtr w' w.heap.size [] ∧ Below w.heap.size w w' := by
  go_enter Try.func8, Try.ntmps8
  go_wp2
  go_ret
  refine ⟨rfl, ⟨.slice none 0 0, ?_, ?_⟩, below_alloc (Below.refl _ _) _⟩
  · exact blk_new w _
  · exact ⟨rfl, .inl ⟨rfl, rfl⟩⟩
theorem put_nil (A : Option Addr) (n c : Nat) (w : World) : Calls Try.prog 35 #[.pointer none, .slice A n c] w fun e w' => e = .returned (.pointer none) ∧ w' = w := by
  go_enter Try.func35, Try.ntmps35
  go_wp2
  go_ret
  exact ⟨rfl, rfl⟩
set_option maxHeartbeats 2000000 in
set_option maxRecDepth 100000 in
theorem put_calls (g : Nat) (l : List Int) (A : Option Addr) (c : Nat) (m : List Int) (w : World) (hW : Wtr w g l) (hC : (Kd.int .u8).C w A m.length m) (hcap : A = none → c = 0) (hs : l.length + m.length ≤ 140737488355328) :
    Calls Try.prog 35 #[.pointer (some ⟨g, 0, none⟩), .slice A m.length c] w fun e w' => e = .returned (.pointer (some ⟨g, 0, none⟩)) ∧ Wtr w' g (l ++ m) ∧ Below g w w' := by
  obtain ⟨v, hv, ho⟩ := hW
  have hc1 := blk_cell hv 0
  have O := Aside0.mk ho
  have HV := Aside0.mk hv
  have HC := Aside0.mk hC
  have HZ := Aside0.mk hcap
  have hlt := heap_lt hv
  have hc2 : w.cell? ⟨g, 0, none⟩ = some v := by simpa using hc1
  clear hv ho hC hcap hc1
  go_enter Try.func35, Try.ntmps35
  go_wp2_with (at_builtin; refine wpList_append_bytes2 rfl (.tmp 11) (.tmp 12) rfl (g + 1) v l rfl O.out A c m rfl HC.out HZ.out hs (by omega) ?_)
  intro v' w' ho' hg' _ hb'
  have hne : ∀ k, v.ownBlock = some k → g + 1 ≤ k := fun k hk => (O.out.lt k hk).1
  have hblk : w'.heap[g]? = some (.cells #[v] 62 (0, 0)) := by
    rw [hg'.block g hlt (fun e => by have := hne g e.symm; omega)]
    exact HV.out
  have hfr := blk_frozen hblk 0
  have hc3 : w'.cell? ⟨g, 0, none⟩ = some v := by simpa using blk_cell hblk 0
  have B := Aside0.mk (hb' w (Below.refl _ _))
  obtain ⟨A', c', hv', _, _, _⟩ := OwnB.reads ho' (by rw [List.length_append]; omega)
  subst hv'
  have O' := Aside0.mk ho'
  have HB := Aside0.mk hblk
  clear ho' hg' hb' hblk
  go_wp2_with fail
  go_ret
  refine ⟨by simp, ⟨_, ?_, own_move O'.out fun k hk => Below.heap_setCell _ _ _ _ ?_⟩, ?_⟩
  · rw [List.length_append]
    exact blk_set HB.out 0 _
  · have := (O'.out.lt k hk).1
    show k ≠ g
    omega
  · exact (B.out.mono (by omega)).setCell (Nat.le_refl g) _
theorem num_calls (g : Nat) (l : List Int) (n : Nat) (w : World) (hW : Wtr w g l) (hn : n < 18446744073709551616) (hs : l.length + 10 ≤ 140737488355328) :
    Calls Try.prog 9 #[.pointer (some ⟨g, 0, none⟩), .int .u64 n] w fun e w' => e = .returned (.pointer (some ⟨g, 0, none⟩)) ∧ Wtr w' g (l ++ packN n) ∧ Below g w w' := by
  have P := Aside0.mk (pack_eq 12 n hn (by omega))
  have HW := Aside0.mk hW
  have hl := packN_length hn
  clear hW
  go_enter Try.func9, Try.ntmps9
  go_wp2_with fail
  refine (bits_Pack.calls 12 n _ w P.out).mono ?_
  rintro e w1 ⟨v, rfl, hR, hb1⟩
  obtain ⟨A, c, rfl, hc, hC⟩ := Kd.R_reads hR
  have hz : A = none → c = 0 := fun e => by
    subst e
    obtain ⟨inner, ho⟩ := Kd.R_own hR
    rcases ho.2 with ⟨h1, _⟩ | ⟨g, cap, cur, h1, _⟩
    · injection h1
    · simp at h1
  have K := Aside0.mk (put_calls g l A c (packN n) w1 (HW.out.below hb1) hC hz (by omega))
  have B1 := Aside0.mk (hb1.mono (Nat.le_of_lt HW.out.lt))
  clear hR hb1 hC hz
  go_wp2_with fail
  (with_reducible refine K.out.mono ?_)
  rintro e w2 ⟨rfl, hW2, hb2⟩
  have W2 := Aside0.mk hW2
  have B2 := Aside0.mk (B1.out.trans hb2)
  clear hW2 hb2
  go_wp2_with fail
  go_ret
  exact ⟨by simp, W2.out, B2.out⟩
theorem num_nil (n : Nat) (w : World) (hn : n < 18446744073709551616) : Calls Try.prog 9 #[.pointer none, .int .u64 n] w fun e w' => e = .returned (.pointer none) ∧ Below w.heap.size w w' := by
  have P := Aside0.mk (pack_eq 12 n hn (by omega))
  go_enter Try.func9, Try.ntmps9
  go_wp2_with fail
  refine (bits_Pack.calls 12 n _ w P.out).mono ?_
  rintro e w1 ⟨v, rfl, hR, hb1⟩
  obtain ⟨A, c, rfl, _, _⟩ := Kd.R_reads hR
  have B1 := Aside0.mk hb1
  clear hR hb1
  go_wp2_with fail
  (with_reducible refine (put_nil _ _ _ _).mono ?_)
  rintro e w2 ⟨rfl, rfl⟩
  go_wp2_with fail
  go_ret
  exact ⟨by simp, B1.out⟩
theorem int_any (p : Option Addr) (a : Int) (w : World) (a0 : -9223372036854775808 ≤ a) (a1 : a < 9223372036854775808) {R : World → Prop} (K : ∀ nd, Calls Try.prog 9 #[.pointer p, .int .u64 ((zig a).toNat : Int)] (w.drewN nd) fun e w' => e = .returned (.pointer p) ∧ R w') :
    Calls Try.prog 20 #[.pointer p, .int .i64 a] w fun e w' => e = .returned (.pointer p) ∧ R w' := by
  have hz := zig_range a0 a1
  rw [show ((zig a).toNat : Int) = zig a by omega] at K
  have HK := Aside0.mk K
  have Z := Aside0.mk (zig_eq a0 a1)
  clear K hz
  go_enter Try.func20, Try.ntmps20
  go_wp2_with fail
  (with_reducible refine (bits_Zig.calls a (zig a) w Z.out).mono ?_)
  rintro e w1 ⟨rfl, ⟨nd, rfl⟩⟩
  go_wp2_with fail
  (with_reducible refine (HK.out nd).mono ?_)
  rintro e w2 ⟨rfl, hr⟩
  have HR := Aside0.mk hr
  clear hr
  go_wp2_with fail
  go_ret
  exact ⟨by simp, HR.out⟩
theorem int_calls (g : Nat) (l : List Int) (a : Int) (w : World) (hW : Wtr w g l) (a0 : -9223372036854775808 ≤ a) (a1 : a < 9223372036854775808) (hs : l.length + 10 ≤ 140737488355328) :
    Calls Try.prog 20 #[.pointer (some ⟨g, 0, none⟩), .int .i64 a] w fun e w' => e = .returned (.pointer (some ⟨g, 0, none⟩)) ∧ Wtr w' g (l ++ packN (zig a).toNat) ∧ Below g w w' := by
  have hz := zig_range a0 a1
  refine int_any _ a w a0 a1 fun nd => (num_calls g l (zig a).toNat (w.drewN nd) (hW.below (pw_below_drewN (Below.refl _ _) nd)) (by omega) hs).mono ?_
  rintro e w' ⟨h1, h2, h3⟩
  exact ⟨h1, h2, (pw_below_drewN (Below.refl _ _) nd).trans h3⟩
theorem int_nil (a : Int) (w : World) (a0 : -9223372036854775808 ≤ a) (a1 : a < 9223372036854775808) :
    Calls Try.prog 20 #[.pointer none, .int .i64 a] w fun e w' => e = .returned (.pointer none) ∧ Below w.heap.size w w' := by
  have hz := zig_range a0 a1
  refine int_any _ a w a0 a1 fun nd => (num_nil (zig a).toNat (w.drewN nd) (by omega)).mono ?_
  rintro e w' ⟨h1, h3⟩
  exact ⟨h1, below_step (pw_below_drewN (Below.refl _ _) nd) h3⟩
/-- A row that a text lays. -/
theorem C_lit {w : World} {g : Nat} {l : List Int} {t : TypeId} {fr : Nat × Nat} (hl : l.length ≤ 9223372036854775807) (h : w.heap[g]? = some (.cells (nums .u8 l).toArray t fr)) : (Kd.int .u8).C w (some ⟨g, 0, none⟩) l.length l := by
  refine C_bytes hl fun i hi => ?_
  rw [cell_of_row w g i _ t fr h]
  unfold nums; simp [hi]
def flagN (b : Bool) : List Int := if b then [1] else [0]
theorem flag_calls (g : Nat) (l : List Int) (b : Bool) (w : World) (hW : Wtr w g l) (hs : l.length + 1 ≤ 140737488355328) :
    Calls Try.prog 11 #[.pointer (some ⟨g, 0, none⟩), .bool b] w fun e w' => e = .returned (.pointer (some ⟨g, 0, none⟩)) ∧ Wtr w' g (l ++ flagN b) ∧ Below g w w' := by
  have HW := Aside0.mk hW
  have hlt := hW.lt
  clear hW
  have K := Aside0.mk (fun (x : Int) => put_calls g l (some ⟨w.heap.size, 0, none⟩) 1 [x] (w.alloc (.cells #[.int .u8 x] 5)) (HW.out.below (below_alloc (Below.refl _ _) _)) (C_lit (by simp) (blk_new w _)) (by simp) (by simpa using hs))
  cases b
  all_goals
    go_enter Try.func11, Try.ntmps11
    go_wp2_with fail
    refine (K.out _).mono ?_
    rintro e w2 ⟨rfl, hW2, hb2⟩
    have W2 := Aside0.mk hW2
    have B2 := Aside0.mk (((Below.refl g w).alloc (Nat.le_of_lt hlt) _).trans hb2)
    clear hW2 hb2
    go_wp2_with fail
    go_ret
    exact ⟨by simp, W2.out, B2.out⟩
theorem flag_nil (b : Bool) (w : World) : Calls Try.prog 11 #[.pointer none, .bool b] w fun e w' => e = .returned (.pointer none) ∧ Below w.heap.size w w' := by
  cases b
  all_goals
    go_enter Try.func11, Try.ntmps11
    go_wp2_with fail
    (with_reducible refine (put_nil _ _ _ _).mono ?_)
    rintro e w2 ⟨rfl, rfl⟩
    go_wp2_with fail
    go_ret
    exact ⟨by simp, below_alloc (Below.refl _ _) _⟩
def textN (s : ByteArray) : List Int := packN s.size ++ numsOf s
theorem text_calls (g : Nat) (l : List Int) (s : ByteArray) (w : World) (hW : Wtr w g l) (hs : l.length + 10 + s.size ≤ 140737488355328) :
    Calls Try.prog 10 #[.pointer (some ⟨g, 0, none⟩), .string s] w fun e w' => e = .returned (.pointer (some ⟨g, 0, none⟩)) ∧ Wtr w' g (l ++ textN s) ∧ Below g w w' := by
  have K := Aside0.mk (num_calls g l s.size w hW (by omega) (by omega))
  have w1 : IntKind.u64.wrap (s.size : Int) = (s.size : Int) := u64_in (by omega) (by omega)
  have hl := packN_length (n := s.size) (by omega)
  clear hW
  go_enter Try.func10, Try.ntmps10
  go_wp2_with fail
  (with_reducible refine K.out.mono ?_)
  rintro e w2 ⟨rfl, hW2, hb2⟩
  obtain ⟨c2, w3, hcv, hc2, hC3, hb3, _⟩ := conv_bytes w2 s
  have W3 := hW2.below hb3
  have B3 := Aside0.mk (hb2.trans (hb3.mono (Nat.le_of_lt hW2.lt)))
  have P := put_calls g (l ++ packN s.size) (some ⟨w2.heap.size, 0, none⟩) c2 (numsOf s) w3 W3 (by rw [numsOf_length]; exact hC3 (by omega)) (by simp) (by rw [numsOf_length, List.length_append]; omega)
  rw [numsOf_length] at P
  have P' := Aside0.mk P
  clear P W3 hW2 hb2 hb3 hC3 hc2 K
  go_wp2_with fail
  (with_reducible refine P'.out.mono ?_)
  rintro e w4 ⟨rfl, hW4, hb4⟩
  have W4 := Aside0.mk hW4
  have B4 := Aside0.mk (B3.out.trans hb4)
  clear hW4 hb4
  go_wp2_with fail
  go_ret
  exact ⟨by simp, by unfold textN; rw [← List.append_assoc]; exact W4.out, B4.out⟩
theorem text_nil (s : ByteArray) (w : World) (hs : s.size ≤ 140737488355328) : Calls Try.prog 10 #[.pointer none, .string s] w fun e w' => e = .returned (.pointer none) ∧ Below w.heap.size w w' := by
  have K := Aside0.mk (num_nil s.size w (by omega))
  have w1 : IntKind.u64.wrap (s.size : Int) = (s.size : Int) := u64_in (by omega) (by omega)
  go_enter Try.func10, Try.ntmps10
  go_wp2_with fail
  (with_reducible refine K.out.mono ?_)
  rintro e w2 ⟨rfl, hb2⟩
  obtain ⟨c2, w3, hcv, hc2, hC3, hb3, _⟩ := conv_bytes w2 s
  have B3 := Aside0.mk (below_step hb2 hb3)
  clear hb2 hb3 hC3 K
  go_wp2_with fail
  (with_reducible refine (put_nil _ _ _ _).mono ?_)
  rintro e w4 ⟨rfl, rfl⟩
  go_wp2_with fail
  go_ret
  exact ⟨by simp, B3.out⟩
/-- A digest as a value. -/
def digV (D : List Int) : Value := .agg (nums .u8 D).toArray
theorem digest_calls (g : Nat) (l : List Int) (D : List Int) (w : World) (hW : Wtr w g l) (hD : D.length = 32) (hs : l.length + 32 ≤ 140737488355328) :
    Calls Try.prog 24 #[.pointer (some ⟨g, 0, none⟩), digV D] w fun e w' => e = .returned (.pointer (some ⟨g, 0, none⟩)) ∧ Wtr w' g (l ++ D) ∧ Below g w w' := by
  have K := put_calls g l (some ⟨w.heap.size, 0, none⟩) 32 D (w.alloc (.cells (nums .u8 D).toArray 41)) (hW.below (below_alloc (Below.refl _ _) _)) (C_lit (by omega) (blk_new w _)) (by simp) (by omega)
  rw [hD] at K
  have K' := Aside0.mk K
  have hlt := hW.lt
  clear K hW
  unfold digV
  go_enter Try.func24, Try.ntmps24
  go_wp2_with fail
  (with_reducible refine K'.out.mono ?_)
  rintro e w2 ⟨rfl, hW2, hb2⟩
  have W2 := Aside0.mk hW2
  have B2 := Aside0.mk (((Below.refl g w).alloc (Nat.le_of_lt hlt) _).trans hb2)
  clear hW2 hb2
  go_wp2_with fail
  go_ret
  exact ⟨by simp, W2.out, B2.out⟩
theorem digest_nil (D : List Int) (w : World) (hD : D.length = 32) : Calls Try.prog 24 #[.pointer none, digV D] w fun e w' => e = .returned (.pointer none) ∧ Below w.heap.size w w' := by
  unfold digV
  go_enter Try.func24, Try.ntmps24
  go_wp2_with fail
  (with_reducible refine (put_nil _ _ _ _).mono ?_)
  rintro e w2 ⟨rfl, rfl⟩
  go_wp2_with fail
  go_ret
  exact ⟨by simp, below_alloc (Below.refl _ _) _⟩
theorem out_calls (g : Nat) (l : List Int) (w : World) (hW : Wtr w g l) (hs : l.length ≤ 140737488355328) :
    Calls Try.prog 12 #[.pointer (some ⟨g, 0, none⟩)] w fun e w' => ∃ A, e = .returned (.slice A l.length l.length) ∧ (Kd.int .u8).C w' A l.length l ∧ (A = none → l.length = 0) ∧ Below w.heap.size w w' := by
  obtain ⟨v, hv, ho⟩ := hW
  obtain ⟨A, c, rfl, hc, hC, hz⟩ := OwnB.reads ho (by omega)
  have hc2 : w.cell? ⟨g, 0, none⟩ = some (.slice A l.length c) := by simpa using blk_cell hv 0
  have K := Aside0.mk (clone_calls A c l w hC hz hs)
  clear hv ho hC hz
  go_enter Try.func12, Try.ntmps12
  go_wp2_with fail
  (with_reducible refine K.out.mono ?_)
  rintro e w2 ⟨v2, rfl, ho2, hb2⟩
  obtain ⟨A2, c2, rfl, hcc2, hC2, hz2⟩ := OwnB.reads ho2 (by omega)
  have B2 := Aside0.mk hb2
  have C2 := Aside0.mk hC2
  have Z2 : Aside0 (A2 = none → l.length = 0) := ⟨fun e => by have := hz2 e; omega⟩
  clear ho2 hb2 hC2 hz2
  go_wp2_with fail
  (with_reducible refine (clip_calls A2 l.length c2 w2 hcc2 Z2.out).mono ?_)
  rintro e w3 ⟨rfl, rfl⟩
  go_wp2_with fail
  go_ret
  exact ⟨A2, by simp, C2.out, Z2.out, B2.out⟩
theorem out_nil (w : World) : Calls Try.prog 12 #[.pointer none] w fun e w' => e = .returned (.slice none 0 0) ∧ w' = w := by
  go_enter Try.func12, Try.ntmps12
  go_wp2
  go_ret
  exact ⟨rfl, rfl⟩
end Go.Proofs.Ytnfajlnpmndkdaa.WriteW
