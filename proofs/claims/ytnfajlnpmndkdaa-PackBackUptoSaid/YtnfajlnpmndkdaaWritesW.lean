/- PackWrites, walked: any fields, one behind the other. Condition: what came in is of bulk at most 1048576. -/
import Derived.Test.YtnfajlnpmndkdaaRefD
import Derived.Test.YtnfajlnpmndkdaaFieldIn
import Derived.Test.YtnfajlnpmndkdaaWriteV
namespace Go.Proofs.Ytnfajlnpmndkdaa.WritesW
set_option linter.unusedVariables false
set_option linter.unusedSimpArgs false
open Go.RowKit Go.Proofs.Ytnfajlnpmndkdaa.Nums Go.Proofs.Ytnfajlnpmndkdaa.PackM Go.Proofs.Ytnfajlnpmndkdaa.TurnM Go.Proofs.Ytnfajlnpmndkdaa.Libs Go.Proofs.Ytnfajlnpmndkdaa.StrW Go.Proofs.Ytnfajlnpmndkdaa.WriteW Go.Proofs.Ytnfajlnpmndkdaa.WriteV Go.Proofs.Ytnfajlnpmndkdaa.ReadW Go.Proofs.Ytnfajlnpmndkdaa.DigW Go.Proofs.Ytnfajlnpmndkdaa.RefW Go.Proofs.Ytnfajlnpmndkdaa.FieldIn Go.Proofs.Ytnfajlnpmndkdaa.Awake Go.Proofs.YtnfajlnpmndkdaaW.PrintWords Go.Proofs.YtnfajlnpmndkdaaW.PrintLast Go.Proofs.YtnfajlnpmndkdaaW.PrintMore
section
variable {P : Program}
/-- A whole struct or array, read where it lies. -/
theorem run_loadVar_at (w : World) (p : Addr) (ty : TypeId) (cs : List Value) (d : TypeDesc) (hc : ∀ j v, cs[j]? = some v → w.cell? (p.add j) = some v)
    (hu : P.underlying ty = some d) (hd : (match d with | .struct _ | .array _ _ => true | _ => false) = true) (hi : (P.info? ty).map (·.size) = some cs.length) :
    (loadVar ty p).run P w = .ok (.agg cs.toArray) w := by
  have hl : (loadCells p cs.length).run P w = .ok cs.toArray w := run_loadCells_list (P := P) w p cs hc
  cases hq : P.info? ty with
  | none => simp [hq] at hi
  | some i =>
    have hs : i.size = cs.length := by simpa [hq] using hi
    have hagg : (isAgg ty).run P w = .ok true w := by
      unfold isAgg
      rw [Sem.run_bind, run_underlying hu w]
      cases d <;> simp_all
    simp [loadVar, Sem.run_bind, hagg, sizeOf, typeInfo, hq, hs, hl]
theorem wp_load_at {o : Oper} {a : Act} {w : World} {K : Act → World → Prop} {Q : Exit → Act → World → Prop} (ty : TypeId) (x : Operand) (ho : o.op = .load ty x)
    (p : Addr) (hx : a.eval x = .pointer (some p)) (cs : List Value) (d : TypeDesc) (hc : ∀ j v, cs[j]? = some v → w.cell? (p.add j) = some v)
    (hu : P.underlying ty = some d) (hd : (match d with | .struct _ | .array _ _ => true | _ => false) = true) (hi : (P.info? ty).map (·.size) = some cs.length)
    (h : K (a.put o.dst (.agg cs.toArray)) w) : o.wp P a w K Q := by
  unfold Oper.wp execOp
  simp only [ho, hx, Instr.loadAt, Instr.sureAddr, Sem.run_bind, Sem.run_pure, Result.andThen_ok, run_loadVar_at w p ty cs d hc hu hd hi]
  exact h
theorem wpList_load_at {ops : Array Oper} {rest : List Oper} {o : Oper} {a : Act} {w : World} {Q : Exit → Act → World → Prop} (hgd : o.guard = none) (ty : TypeId) (x : Operand) (ho : o.op = .load ty x)
    (p : Addr) (hx : a.eval x = .pointer (some p)) (cs : List Value) (d : TypeDesc) (hc : ∀ j v, cs[j]? = some v → w.cell? (p.add j) = some v)
    (hu : P.underlying ty = some d) (hd : (match d with | .struct _ | .array _ _ => true | _ => false) = true) (hi : (P.info? ty).map (·.size) = some cs.length)
    (h : wpList P ops Q rest (a.put o.dst (.agg cs.toArray)) w) : wpList P ops Q (o :: rest) a w :=
  wpList_plain hgd fun _ hK => wp_load_at ty x ho p hx cs d hc hu hd hi (hK _ _ h)
end
theorem info43 : (Try.prog.info? 43).map (·.size) = some 36 := by kernel_rfl
theorem fcells_length {F : Fld} (h : F.ok) : (fcells F).length = 36 := by unfold fcells; simp [nums_length, h.len]
theorem infoF {F : Fld} (h : F.ok) : (Try.prog.info? 43).map (·.size) = some (fcells F).toArray.size := by rw [List.size_toArray, fcells_length h]; exact info43
theorem infoFL {F : Fld} (h : F.ok) : (Try.prog.info? 43).map (·.size) = some (fcells F).length := by rw [fcells_length h]; exact info43
theorem fcells_one (F : Fld) : (fcells F).toArray.all (·.oneCell') = true := by
  rw [Array.all_eq_true_iff_forall_mem]
  intro u hu
  have hu' : u ∈ fcells F := by simpa using hu
  unfold fcells at hu'
  rcases List.mem_append.1 hu' with h | h
  · simp at h
    rcases h with rfl | rfl | rfl | rfl <;> rfl
  · exact nums_one _ u h
/-- What a struct variable's making and its first store leave. -/
theorem six_ (wr : World) (O C : Array Value) : ((wr.alloc (.cells O 43)).setRow wr.heap.size C).heap[wr.heap.size]? = some (.cells C 43 (0, 0)) ∧ Below wr.heap.size wr ((wr.alloc (.cells O 43)).setRow wr.heap.size C) ∧ ((wr.alloc (.cells O 43)).setRow wr.heap.size C).heap.size = wr.heap.size + 1 := by
  have hs : (wr.alloc (.cells O 43)).heap.size = wr.heap.size + 1 := by show (wr.heap.push _).size = _; simp
  have hb : Below wr.heap.size wr (wr.alloc (.cells O 43)) := below_alloc (Below.refl _ _) _
  have hz : ((wr.alloc (.cells O 43)).setRow wr.heap.size C).heap.size = wr.heap.size + 1 := by rw [← hs]; simp [World.setRow]
  exact ⟨setRow_heap _ _ _ _ _ _ (blk_new wr _), below_setRow hb (Nat.le_refl _) C, hz⟩
theorem fcell {w : World} {g : Nat} {F : Fld} (h : w.heap[g]? = some (.cells (fcells F).toArray 43 (0, 0))) :
    w.cell? ⟨g, 0, none⟩ = some (.int .i64 F.what) ∧ w.cell? ⟨g, 1, none⟩ = some (.int .u64 F.n) ∧ w.cell? ⟨g, 2, none⟩ = some (.int .i64 F.a) ∧ w.cell? ⟨g, 3, none⟩ = some (.string F.s) ∧
      ∀ j v, (nums .u8 F.D)[j]? = some v → w.cell? ((⟨g, 4, none⟩ : Addr).add j) = some v := by
  refine ⟨by rw [blk_cell h]; rfl, by rw [blk_cell h]; rfl, by rw [blk_cell h]; rfl, by rw [blk_cell h]; rfl, fun j v hj => ?_⟩
  rw [add_at, blk_cell h]
  unfold fcells
  rw [List.getElem?_toArray, List.getElem?_append_right (by simp)]
  simpa using hj
/-- What the loop holds. -/
def RelW (W : World) (n gw : Nat) (v4 v5 : Value) (wr : World) : Prop :=
  ∃ (i : Nat) (L : List Int), i ≤ n ∧ i ≤ 60 ∧ v5 = .int .i64 (i : Int) ∧ v4 = .string (strOfNums L) ∧ Aside0 (Bytes L) ∧ L.length ≤ i * 1048700 ∧ Aside0 (Wtr wr gw L) ∧ Aside0 (Below W.heap.size W wr)
set_option maxHeartbeats 4000000 in
set_option maxRecDepth 100000 in
theorem writes_calls (A : Option Addr) (c : Nat) (fs : List Fld) (W : World) (hc : fs.length ≤ c) (hl : fs.length ≤ 1048576) (hF : FieldsIn W A fs) (hs : ∀ F ∈ fs, F.s.size ≤ 1048576) :
    Calls Try.prog 4 #[.slice A fs.length c] W fun e w' => e = .returned (.bool true) ∧ Below W.heap.size W w' := by
  have HF := Aside0.mk hF
  have HS := Aside0.mk hs
  have Hc := Aside0.mk hc
  clear hF hs hc
  go_enter Try.func4, Try.ntmps4
  go_wp2_with fail
  (with_reducible refine (new_calls W).mono ?_)
  rintro e w1 ⟨rfl, hW1, hb1⟩
  have B1 := Aside0.mk hb1
  have W1 := Aside0.mk hW1
  clear hb1 hW1
  go_wp2_with fail
  obtain ⟨gw, hgw⟩ : ∃ gw, gw = W.heap.size := ⟨_, rfl⟩
  go_loopw [4, 5] (fun v4 v5 wr => RelW W fs.length W.heap.size v4 v5 wr) (fun _ v5 _ => 60 - (intOf v5).toNat)
  case atStart => exact ⟨0, [], by omega, by omega, rfl, rfl, ⟨by intro x hx; simp at hx⟩, by simp, W1, B1⟩
  case round =>
    obtain ⟨i, L, hi, hi60, rfl, rfl, HB, hLL, HW, HBe⟩ := hrel
    by_cases hgo : i < fs.length ∧ i < 60
    · obtain ⟨hlt, h60⟩ := hgo
      obtain ⟨adk, rfl, hck, hok⟩ := HF.out i hlt
      have hsz := HS.out fs[i] (List.getElem_mem hlt)
      generalize fs[i] = F at *
      have hcs : ∀ j v, (fcells F)[j]? = some v → wr.cell? ((adk.add (i * 36)).add j) = some v := fun j v hj => by
        have h1 := hck j v hj
        exact (HBe.out.cell (World.block_lt_of_cell? W _ h1)).trans h1
      have HCS := Aside0.mk hcs
      have IF := Aside0.mk (infoF hok)
      have IL := Aside0.mk (infoFL hok)
      have HN := Aside0.mk (blk_new wr (Obj.cells #[Value.int .i64 0, Value.int .u64 0, Value.int .i64 0, Value.string { data := #[] }, Value.int .u8 0, Value.int .u8 0, Value.int .u8 0, Value.int .u8 0, Value.int .u8 0, Value.int .u8 0, Value.int .u8 0, Value.int .u8 0, Value.int .u8 0, Value.int .u8 0, Value.int .u8 0, Value.int .u8 0, Value.int .u8 0, Value.int .u8 0, Value.int .u8 0, Value.int .u8 0, Value.int .u8 0, Value.int .u8 0, Value.int .u8 0, Value.int .u8 0, Value.int .u8 0, Value.int .u8 0, Value.int .u8 0, Value.int .u8 0, Value.int .u8 0, Value.int .u8 0, Value.int .u8 0, Value.int .u8 0, Value.int .u8 0, Value.int .u8 0, Value.int .u8 0, Value.int .u8 0] 43))
      have SZ : Aside0 ((#[Value.int .i64 0, Value.int .u64 0, Value.int .i64 0, Value.string { data := #[] }, Value.int .u8 0, Value.int .u8 0, Value.int .u8 0, Value.int .u8 0, Value.int .u8 0, Value.int .u8 0, Value.int .u8 0, Value.int .u8 0, Value.int .u8 0, Value.int .u8 0, Value.int .u8 0, Value.int .u8 0, Value.int .u8 0, Value.int .u8 0, Value.int .u8 0, Value.int .u8 0, Value.int .u8 0, Value.int .u8 0, Value.int .u8 0, Value.int .u8 0, Value.int .u8 0, Value.int .u8 0, Value.int .u8 0, Value.int .u8 0, Value.int .u8 0, Value.int .u8 0, Value.int .u8 0, Value.int .u8 0, Value.int .u8 0, Value.int .u8 0, Value.int .u8 0, Value.int .u8 0] : Array Value).size = (fcells F).toArray.size) := ⟨(show (#[Value.int .i64 0, Value.int .u64 0, Value.int .i64 0, Value.string { data := #[] }, Value.int .u8 0, Value.int .u8 0, Value.int .u8 0, Value.int .u8 0, Value.int .u8 0, Value.int .u8 0, Value.int .u8 0, Value.int .u8 0, Value.int .u8 0, Value.int .u8 0, Value.int .u8 0, Value.int .u8 0, Value.int .u8 0, Value.int .u8 0, Value.int .u8 0, Value.int .u8 0, Value.int .u8 0, Value.int .u8 0, Value.int .u8 0, Value.int .u8 0, Value.int .u8 0, Value.int .u8 0, Value.int .u8 0, Value.int .u8 0, Value.int .u8 0, Value.int .u8 0, Value.int .u8 0, Value.int .u8 0, Value.int .u8 0, Value.int .u8 0, Value.int .u8 0, Value.int .u8 0] : Array Value).size = 36 from rfl).trans (by rw [List.size_toArray, fcells_length hok])⟩
      have FO := Aside0.mk (fcells_one F)
      go_upto_region 7 with (first
        | (with_reducible refine wpList_load_at rfl 43 (.tmp 20) rfl (adk.add (i * 36)) rfl (fcells F) _ HCS.out Try.underlying43 rfl IL.out ?_)
        | (with_reducible refine wpList_store_row rfl 43 (.tmp 6) (.tmp 21) rfl wr.heap.size (fcells F).toArray rfl rfl 43 #[Value.int .i64 0, Value.int .u64 0, Value.int .i64 0, Value.string { data := #[] }, Value.int .u8 0, Value.int .u8 0, Value.int .u8 0, Value.int .u8 0, Value.int .u8 0, Value.int .u8 0, Value.int .u8 0, Value.int .u8 0, Value.int .u8 0, Value.int .u8 0, Value.int .u8 0, Value.int .u8 0, Value.int .u8 0, Value.int .u8 0, Value.int .u8 0, Value.int .u8 0, Value.int .u8 0, Value.int .u8 0, Value.int .u8 0, Value.int .u8 0, Value.int .u8 0, Value.int .u8 0, Value.int .u8 0, Value.int .u8 0, Value.int .u8 0, Value.int .u8 0, Value.int .u8 0, Value.int .u8 0, Value.int .u8 0, Value.int .u8 0, Value.int .u8 0, Value.int .u8 0] HN.out IF.out SZ.out FO.out ?_))
      obtain ⟨h61, h62, h63⟩ := six_ wr #[Value.int .i64 0, Value.int .u64 0, Value.int .i64 0, Value.string { data := #[] }, Value.int .u8 0, Value.int .u8 0, Value.int .u8 0, Value.int .u8 0, Value.int .u8 0, Value.int .u8 0, Value.int .u8 0, Value.int .u8 0, Value.int .u8 0, Value.int .u8 0, Value.int .u8 0, Value.int .u8 0, Value.int .u8 0, Value.int .u8 0, Value.int .u8 0, Value.int .u8 0, Value.int .u8 0, Value.int .u8 0, Value.int .u8 0, Value.int .u8 0, Value.int .u8 0, Value.int .u8 0, Value.int .u8 0, Value.int .u8 0, Value.int .u8 0, Value.int .u8 0, Value.int .u8 0, Value.int .u8 0, Value.int .u8 0, Value.int .u8 0, Value.int .u8 0, Value.int .u8 0] (fcells F).toArray
      generalize hw6 : (wr.alloc (Obj.cells #[Value.int .i64 0, Value.int .u64 0, Value.int .i64 0, Value.string { data := #[] }, Value.int .u8 0, Value.int .u8 0, Value.int .u8 0, Value.int .u8 0, Value.int .u8 0, Value.int .u8 0, Value.int .u8 0, Value.int .u8 0, Value.int .u8 0, Value.int .u8 0, Value.int .u8 0, Value.int .u8 0, Value.int .u8 0, Value.int .u8 0, Value.int .u8 0, Value.int .u8 0, Value.int .u8 0, Value.int .u8 0, Value.int .u8 0, Value.int .u8 0, Value.int .u8 0, Value.int .u8 0, Value.int .u8 0, Value.int .u8 0, Value.int .u8 0, Value.int .u8 0, Value.int .u8 0, Value.int .u8 0, Value.int .u8 0, Value.int .u8 0, Value.int .u8 0, Value.int .u8 0] 43)).setRow wr.heap.size (fcells F).toArray = w6 at *
      have W6 := Aside0.mk (HW.out.below h62)
      have H6 := Aside0.mk h61
      have B6 := Aside0.mk (below_step HBe.out h62)
      have GL : Aside0 (wr.heap.size ≠ W.heap.size) := ⟨by have := HW.out.lt; omega⟩
      have SL : Aside0 (wr.heap.size < w6.heap.size) := ⟨by omega⟩
      clear hw6 h61 h62 h63 HN SZ HCS IL IF FO
      generalize wr.heap.size = g6 at *
      obtain ⟨c0, c1, c2, c3, c4⟩ := fcell H6.out
      have OK := Aside0.mk hok
      have C4 := Aside0.mk c4
      have hsz' := hsz
      have LL : Aside0 (L.length ≤ 62922000) := ⟨by omega⟩
      have SL1 := strN_size L
      clear c4 hsz hok
      obtain ⟨what, n, a, s, D⟩ := F
      simp only at c0 c1 c2 c3
      by_cases hk0 : what = 0
      · subst hk0
        go_wp2_with (fail)
        (with_reducible refine (WriteV.numV W.heap.size L n w6 W6.out OK.out.n (by have h1 := LL.out; omega)).mono ?_)
        rintro x w7 ⟨rfl, hW7, hb7, ho7⟩
        have B7 : Aside0 (Below W.heap.size W w7) := ⟨B6.out.trans hb7⟩
        have W7 := Aside0.mk hW7
        have H7 : Aside0 (w7.heap[g6]? = some _) := ⟨(ho7 g6 SL.out GL.out (fun cs fr => by rw [H6.out]; simp)).trans H6.out⟩
        obtain ⟨d0, d1, d2, d3, d4⟩ := fcell H7.out
        have D4 := Aside0.mk d4
        simp only at d0 d1 d2 d3
        clear hW7 hb7 ho7 c0 c1 c2 c3 C4 d4 d0
        have PL : Aside0 ((packN n).length ≤ 10) := ⟨by exact packN_length OK.out.n⟩
        have PB : Aside0 (Bytes (packN n)) := ⟨by exact packN_bytes n⟩
        have hsum : ¬ 9223372036854775807 < (strOfNums L).size + (strOfNums (packN n)).size := by rw [strN_size, strN_size]; have h1 := LL.out; have h2 := PL.out; omega
        have HSUM := Aside0.mk hsum
        clear hsum SL1
        go_wp2_with (fail)
        (with_reducible refine (rnum_calls n w7 OK.out.n).mono ?_)
        rintro x w8 ⟨rfl, hb8⟩
        have W8 := Aside0.mk (W7.out.below hb8)
        have B8 := Aside0.mk (below_step B7.out hb8)
        clear hb8
        have hsum := HSUM.out
        have hap : Aside0 (strOfNums L ++ strOfNums (packN n) = strOfNums (L ++ (packN n))) := ⟨str_append _ _⟩
        go_wp2_with fail
        go_roundw
        case rel => exact ⟨i + 1, L ++ (packN n), by omega, by omega, by go_num, by rw [← hap.out], ⟨fun x hx => (List.mem_append.1 hx).elim (HB.out x) (PB.out x)⟩, by have h2 := PL.out; rw [List.length_append]; omega, ⟨W8.out⟩, ⟨B8.out⟩⟩
        case measure => simp [intOf]; omega
      by_cases hk1 : what = 1
      · subst hk1
        go_wp2_with (fail)
        (with_reducible refine (WriteV.intV W.heap.size L a w6 W6.out OK.out.a0 OK.out.a1 (by have h1 := LL.out; omega)).mono ?_)
        rintro x w7 ⟨rfl, hW7, hb7, ho7⟩
        have B7 : Aside0 (Below W.heap.size W w7) := ⟨B6.out.trans hb7⟩
        have W7 := Aside0.mk hW7
        have H7 : Aside0 (w7.heap[g6]? = some _) := ⟨(ho7 g6 SL.out GL.out (fun cs fr => by rw [H6.out]; simp)).trans H6.out⟩
        obtain ⟨d0, d1, d2, d3, d4⟩ := fcell H7.out
        have D4 := Aside0.mk d4
        simp only at d0 d1 d2 d3
        clear hW7 hb7 ho7 c0 c1 c2 c3 C4 d4 d0
        have PL : Aside0 ((packN (zig a).toNat).length ≤ 10) := ⟨by have h0 := OK.out.a0; have h1 := OK.out.a1; have := zig_range (a := a) h0 h1; exact packN_length (by omega)⟩
        have PB : Aside0 (Bytes (packN (zig a).toNat)) := ⟨by exact packN_bytes _⟩
        have hsum : ¬ 9223372036854775807 < (strOfNums L).size + (strOfNums (packN (zig a).toNat)).size := by rw [strN_size, strN_size]; have h1 := LL.out; have h2 := PL.out; omega
        have HSUM := Aside0.mk hsum
        clear hsum SL1
        go_wp2_with (fail)
        (with_reducible refine (rint_calls a w7 OK.out.a0 OK.out.a1).mono ?_)
        rintro x w8 ⟨rfl, hb8⟩
        have W8 := Aside0.mk (W7.out.below hb8)
        have B8 := Aside0.mk (below_step B7.out hb8)
        clear hb8
        have hsum := HSUM.out
        have hap : Aside0 (strOfNums L ++ strOfNums (packN (zig a).toNat) = strOfNums (L ++ (packN (zig a).toNat))) := ⟨str_append _ _⟩
        go_wp2_with fail
        go_roundw
        case rel => exact ⟨i + 1, L ++ (packN (zig a).toNat), by omega, by omega, by go_num, by rw [← hap.out], ⟨fun x hx => (List.mem_append.1 hx).elim (HB.out x) (PB.out x)⟩, by have h2 := PL.out; rw [List.length_append]; omega, ⟨W8.out⟩, ⟨B8.out⟩⟩
        case measure => simp [intOf]; omega
      by_cases hk2 : what = 2
      · subst hk2
        go_wp2_with (fail)
        (with_reducible refine (WriteV.flagV W.heap.size L (decide (0 < a)) w6 W6.out (by have h1 := LL.out; omega)).mono ?_)
        rintro x w7 ⟨rfl, hW7, hb7, ho7⟩
        have B7 : Aside0 (Below W.heap.size W w7) := ⟨B6.out.trans hb7⟩
        have W7 := Aside0.mk hW7
        have H7 : Aside0 (w7.heap[g6]? = some _) := ⟨(ho7 g6 SL.out GL.out (fun cs fr => by rw [H6.out]; simp)).trans H6.out⟩
        obtain ⟨d0, d1, d2, d3, d4⟩ := fcell H7.out
        have D4 := Aside0.mk d4
        simp only at d0 d1 d2 d3
        clear hW7 hb7 ho7 c0 c1 c2 c3 C4 d4 d0
        have PL : Aside0 ((flagN (decide (0 < a))).length ≤ 1) := ⟨by unfold flagN; split <;> simp⟩
        have PB : Aside0 (Bytes (flagN (decide (0 < a)))) := ⟨by unfold flagN; intro x hx; split at hx <;> simp at hx <;> omega⟩
        have hsum : ¬ 9223372036854775807 < (strOfNums L).size + (strOfNums (flagN (decide (0 < a)))).size := by rw [strN_size, strN_size]; have h1 := LL.out; have h2 := PL.out; omega
        have HSUM := Aside0.mk hsum
        clear hsum SL1
        go_wp2_with (fail)
        (with_reducible refine (rflag_calls (decide (0 < a)) w7).mono ?_)
        rintro x w8 ⟨rfl, hb8⟩
        subst hb8
        have W8 := W7
        have B8 := B7
        have hsum := HSUM.out
        have hap : Aside0 (strOfNums L ++ strOfNums (flagN (decide (0 < a))) = strOfNums (L ++ (flagN (decide (0 < a))))) := ⟨str_append _ _⟩
        go_wp2_with fail
        go_roundw
        case rel => exact ⟨i + 1, L ++ (flagN (decide (0 < a))), by omega, by omega, by go_num, by rw [← hap.out], ⟨fun x hx => (List.mem_append.1 hx).elim (HB.out x) (PB.out x)⟩, by have h2 := PL.out; rw [List.length_append]; omega, ⟨W8.out⟩, ⟨B8.out⟩⟩
        case measure => simp [intOf]; omega
      by_cases hk3 : what = 3
      · subst hk3
        go_wp2_with (fail)
        (with_reducible refine (WriteV.textV W.heap.size L s w6 W6.out (by have h1 := LL.out; have h2 : s.size ≤ 1048576 := hsz'; omega)).mono ?_)
        rintro x w7 ⟨rfl, hW7, hb7, ho7⟩
        have B7 : Aside0 (Below W.heap.size W w7) := ⟨B6.out.trans hb7⟩
        have W7 := Aside0.mk hW7
        have H7 : Aside0 (w7.heap[g6]? = some _) := ⟨(ho7 g6 SL.out GL.out (fun cs fr => by rw [H6.out]; simp)).trans H6.out⟩
        obtain ⟨d0, d1, d2, d3, d4⟩ := fcell H7.out
        have D4 := Aside0.mk d4
        simp only at d0 d1 d2 d3
        clear hW7 hb7 ho7 c0 c1 c2 c3 C4 d4 d0
        have PL : Aside0 ((textN s).length ≤ 1048600) := ⟨by unfold textN; rw [List.length_append, numsOf_length]; have h2 : s.size ≤ 1048576 := hsz'; have := packN_length (n := s.size) (by omega); omega⟩
        have PB : Aside0 (Bytes (textN s)) := ⟨by unfold textN; intro x hx; exact (List.mem_append.1 hx).elim (packN_bytes _ x) (numsOf_bytes s x)⟩
        have hsum : ¬ 9223372036854775807 < (strOfNums L).size + (strOfNums (textN s)).size := by rw [strN_size, strN_size]; have h1 := LL.out; have h2 := PL.out; omega
        have HSUM := Aside0.mk hsum
        clear hsum SL1
        go_wp2_with (fail)
        (with_reducible refine (rtext_calls s w7 (by have h2 : s.size ≤ 1048576 := hsz'; omega)).mono ?_)
        rintro x w8 ⟨rfl, hb8⟩
        have W8 := Aside0.mk (W7.out.below hb8)
        have B8 := Aside0.mk (below_step B7.out hb8)
        clear hb8
        have hsum := HSUM.out
        have hap : Aside0 (strOfNums L ++ strOfNums (textN s) = strOfNums (L ++ (textN s))) := ⟨str_append _ _⟩
        go_wp2_with fail
        go_roundw
        case rel => exact ⟨i + 1, L ++ (textN s), by omega, by omega, by go_num, by rw [← hap.out], ⟨fun x hx => (List.mem_append.1 hx).elim (HB.out x) (PB.out x)⟩, by have h2 := PL.out; rw [List.length_append]; omega, ⟨W8.out⟩, ⟨B8.out⟩⟩
        case measure => simp [intOf]; omega
      by_cases hk4 : what = 4
      · subst hk4
        have ID : Aside0 ((Try.prog.info? 41).map (·.size) = some (nums .u8 D).length) := ⟨by rw [nums_length, show D.length = 32 from OK.out.len]; exact info41⟩
        go_wp2_with (with_reducible refine wpList_load_at rfl 41 (.tmp 73) rfl ⟨g6, 4, none⟩ rfl (nums .u8 D) _ C4.out Try.underlying41 rfl ID.out ?_)
        (refine (WriteV.digestV W.heap.size L D w6 W6.out OK.out.len (by have h1 := LL.out; omega)).mono ?_)
        rintro x w7 ⟨rfl, hW7, hb7, ho7⟩
        have B7 : Aside0 (Below W.heap.size W w7) := ⟨B6.out.trans hb7⟩
        have W7 := Aside0.mk hW7
        have H7 : Aside0 (w7.heap[g6]? = some _) := ⟨(ho7 g6 SL.out GL.out (fun cs fr => by rw [H6.out]; simp)).trans H6.out⟩
        obtain ⟨d0, d1, d2, d3, d4⟩ := fcell H7.out
        have D4 := Aside0.mk d4
        simp only at d0 d1 d2 d3
        clear hW7 hb7 ho7 c0 c1 c2 c3 C4 d4 d0
        have PL : Aside0 ((D).length ≤ 32) := ⟨by have := OK.out.len; show D.length ≤ 32; have h : D.length = 32 := this; omega⟩
        have PB : Aside0 (Bytes (D)) := ⟨by exact OK.out.bytes⟩
        have hsum : ¬ 9223372036854775807 < (strOfNums L).size + (strOfNums (D)).size := by rw [strN_size, strN_size]; have h1 := LL.out; have h2 := PL.out; omega
        have HSUM := Aside0.mk hsum
        clear hsum SL1
        go_wp2_with (with_reducible refine wpList_load_at rfl 41 (.tmp 77) rfl ⟨g6, 4, none⟩ rfl (nums .u8 D) _ D4.out Try.underlying41 rfl ID.out ?_)
        (refine (rdig_calls D OK.out.len OK.out.bytes w7).mono ?_)
        rintro x w8 ⟨rfl, hb8⟩
        have W8 := Aside0.mk (W7.out.below hb8)
        have B8 := Aside0.mk (below_step B7.out hb8)
        clear hb8
        have hsum := HSUM.out
        have hap : Aside0 (strOfNums L ++ strOfNums (D) = strOfNums (L ++ (D))) := ⟨str_append _ _⟩
        go_wp2_with fail
        go_roundw
        case rel => exact ⟨i + 1, L ++ (D), by omega, by omega, by go_num, by rw [← hap.out], ⟨fun x hx => (List.mem_append.1 hx).elim (HB.out x) (PB.out x)⟩, by have h2 := PL.out; rw [List.length_append]; omega, ⟨W8.out⟩, ⟨B8.out⟩⟩
        case measure => simp [intOf]; omega
      go_wp2_with fail
      go_roundw
      case rel => exact ⟨i + 1, L, by omega, by omega, by go_num, rfl, HB, Nat.le_trans hLL (Nat.mul_le_mul_right _ (Nat.le_succ i)), W6, B6⟩
      case measure => simp [intOf]; omega
    · have hsplit : ¬ (i < fs.length) ∨ (i < fs.length ∧ ¬ (i < 60)) := by omega
      have LL : Aside0 (L.length ≤ 62922000) := ⟨by omega⟩
      clear hgo
      rcases hsplit with hge | ⟨hlt, hge⟩
      all_goals
        go_wp2_with fail
        (with_reducible refine (awake_calls _).mono ?_)
        rintro x w6 ⟨rfl, hb6⟩
        have B6 := Aside0.mk (below_step HBe.out hb6)
        have K := Aside0.mk (out_calls W.heap.size L w6 (HW.out.below hb6) (by have := LL.out; omega))
        clear hb6
        go_wp2_with fail
        (with_reducible refine K.out.mono ?_)
        rintro x w7 ⟨A7, rfl, hC7, _, hb7⟩
        have cv : (convert 24 9 (.slice A7 L.length L.length)).run Try.prog w7 = .ok (.string (strOfNums L)) w7 := string_of_reads (P := Try.prog) Try.underlying24 Try.underlying5 Try.underlying9 (c := L.length) (Kd.reads_of_C (d := (0 : Int)) (h1 := fun _ => rfl) hC7)
        have B7 := Aside0.mk (below_step B6.out hb7)
        clear hb7 hC7 K
        go_wp2_with fail
        go_ret
        exact ⟨by simp, B7.out⟩
end Go.Proofs.Ytnfajlnpmndkdaa.WritesW
namespace Go.Proofs.Ytnfajlnpmndkdaa.Hand
set_option linter.unusedVariables false
open Go.RowKit Go.Proofs.Ytnfajlnpmndkdaa.Nums Go.Proofs.Ytnfajlnpmndkdaa.FieldIn Go.Proofs.YtnfajlnpmndkdaaW.PrintWords
theorem size_le : ∀ (fs : List Fld) (F : Fld), F ∈ fs → F.s.size ≤ (fs.map fun F => F.s.size).sum
  | [], F, h => by simp at h
  | x :: fs, F, h => by
    simp only [List.map_cons, List.sum_cons]
    rcases List.mem_cons.1 h with rfl | h
    · omega
    · have := size_le fs F h; omega
theorem PackWrites (A0 : Option Addr) (c0 : Nat) (fs : List Fld) (W : World) (hc0 : fs.length ≤ c0) (hz0 : A0 = none → c0 = 0) (hl0 : fs.length ≤ 9223372036854775807) (hF : FieldsIn W A0 fs) (u0 : (fs.map fun F => F.s.size).sum + fs.length ≤ 1048576) :
    Calls Try.prog 4 #[.slice A0 fs.length c0] W fun e W' => e = .returned (.bool true) ∧ Below W.heap.size W W' :=
  WritesW.writes_calls A0 c0 fs W hc0 (by omega) hF fun F hF' => by have := size_le fs F hF'; omega
end Go.Proofs.Ytnfajlnpmndkdaa.Hand
