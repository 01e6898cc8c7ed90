/- A block mixed into the eight words, in plain Lean. No condition. -/
import Derived.Test.YtbkocnclaobabaaDoorNewW
namespace Go.Proofs.YtbkocnclaobabaaDoor.ShaM
set_option linter.unusedVariables false
open Go Go.RowKit Go.Proofs.YtbkocnclaobabaaDoor.Nums Go.Proofs.YtbkocnclaobabaaDoor.PutM Go.Proofs.YtbkocnclaobabaaDoor.Arr Go.Proofs.YtbkocnclaobabaaDoorW.PrintWords Go.Proofs.YtbkocnclaobabaaDoorW.PrintLast Go.Proofs.YtbkocnclaobabaaDoorW.PrintMore
/-- The factors, one for each round. -/
def FA : List Int := [1116352408, 1899447441, 3049323471, 3921009573, 961987163, 1508970993, 2453635748, 2870763221, 3624381080, 310598401, 607225278, 1426881987, 1925078388, 2162078206, 2614888103, 3248222580, 3835390401, 4022224774, 264347078, 604807628, 770255983, 1249150122, 1555081692, 1996064986, 2554220882, 2821834349, 2952996808, 3210313671, 3336571891, 3584528711, 113926993, 338241895, 666307205, 773529912, 1294757372, 1396182291, 1695183700, 1986661051, 2177026350, 2456956037, 2730485921, 2820302411, 3259730800, 3345764771, 3516065817, 3600352804, 4094571909, 275423344, 430227734, 506948616, 659060556, 883997877, 958139571, 1322822218, 1537002063, 1747873779, 1955562222, 2024104815, 2227730452, 2361852424, 2428436474, 2756734187, 3204031479, 3329325298]
theorem FA_length : FA.length = 64 := rfl
def choose (e f g : Int) : Int := Go.bits .xor .u32 (Go.bits .and .u32 e f) (Go.bits .and .u32 (Go.bits .xor .u32 IntKind.u32.max e) g)
def most (a b c : Int) : Int := Go.bits .xor .u32 (Go.bits .xor .u32 (Go.bits .and .u32 a b) (Go.bits .and .u32 a c)) (Go.bits .and .u32 b c)
def oneR (v : List Int) (k w : Int) : Int := IntKind.u32.wrap (IntKind.u32.wrap (IntKind.u32.wrap (IntKind.u32.wrap (v.getD 7 0 + spr (v.getD 4 0) 6 11 25) + choose (v.getD 4 0) (v.getD 5 0) (v.getD 6 0)) + k) + w)
def twoR (v : List Int) : Int := IntKind.u32.wrap (spr (v.getD 0 0) 2 13 22 + most (v.getD 0 0) (v.getD 1 0) (v.getD 2 0))
def step (v : List Int) (k w : Int) : List Int := [IntKind.u32.wrap (oneR v k w + twoR v), v.getD 0 0, v.getD 1 0, v.getD 2 0, IntKind.u32.wrap (v.getD 3 0 + oneR v k w), v.getD 4 0, v.getD 5 0, v.getD 6 0]
theorem step_length (v : List Int) (k w : Int) : (step v k w).length = 8 := rfl
def rnds (ws : List Int) : Nat → List Int → List Int
  | 0, v => v
  | n + 1, v => step (rnds ws n v) (FA.getD n 0) (ws.getD n 0)
theorem rnds_length (ws : List Int) : ∀ (n : Nat) (v : List Int), v.length = 8 → (rnds ws n v).length = 8
  | 0, v, h => h
  | n + 1, v, _ => rfl
/-- The first i words are added up. -/
def addTo (i : Nat) (s v : List Int) : List Int := (List.range s.length).map fun j => if j < i then IntKind.u32.wrap (s.getD j 0 + v.getD j 0) else s.getD j 0
theorem addTo_length (i : Nat) (s v : List Int) : (addTo i s v).length = s.length := by simp [addTo]
theorem addTo_zero (s v : List Int) : addTo 0 s v = s := by
  refine List.ext_getElem (addTo_length ..) fun j h1 h2 => ?_
  simp [addTo]
  rw [List.getElem?_eq_getElem h2]; rfl
theorem addTo_getD (i j : Nat) (s v : List Int) (h : j < s.length) : (addTo i s v).getD j 0 = if j < i then IntKind.u32.wrap (s.getD j 0 + v.getD j 0) else s.getD j 0 := by
  rw [List.getD_eq_getElem?_getD, List.getElem?_eq_getElem (by rw [addTo_length]; exact h)]
  simp [addTo]
theorem addTo_succ (i : Nat) (s v : List Int) (h : i < s.length) : addTo (i + 1) s v = (addTo i s v).set i (IntKind.u32.wrap ((addTo i s v).getD i 0 + v.getD i 0)) := by
  rw [addTo_getD i i s v h, if_neg (Nat.lt_irrefl _)]
  refine List.ext_getElem (by simp [addTo_length]) fun j h1 h2 => ?_
  rw [addTo_length] at h1
  rw [List.getElem_set]
  by_cases hj : i = j
  · subst hj; rw [if_pos rfl]; simp [addTo]
  · rw [if_neg hj]; simp [addTo]
    by_cases h3 : j < i
    · rw [if_pos (by omega), if_pos h3]
    · rw [if_neg (by omega), if_neg h3]
def mixR (s b : List Int) : List Int := addTo 8 s (rnds (sched b) 64 s)
theorem mixR_length (s b : List Int) : (mixR s b).length = s.length := addTo_length ..
/-- The factors, as they lie in the variable. -/
def Glob (w : World) : Prop := ∀ j u, (nums .u32 FA)[j]? = some u → w.cell? ⟨0, j, none⟩ = some u
theorem Glob.pos {w : World} (h : Glob w) : 0 < w.heap.size := block_lt_of_cell (h 0 _ rfl)
theorem Glob.below {w w' : World} (h : Glob w) (hb : Below w.heap.size w w') : Glob w' := fun j u hu => by rw [hb.cell (p := ⟨0, j, none⟩) h.pos]; exact h j u hu
/-- A row of cells is loaded whole, out of a variable of which the cells alone are known. -/
theorem wpList_load_cells {ops : Array Oper} {rest : List Oper} {o : Oper} {a : Act} {w : World} {Q : Exit → Act → World → Prop} {P : Program} (hgd : o.guard = none) (ty : TypeId) (x : Operand) (ho : o.op = .load ty x)
    (g : Nat) (hx : a.eval x = .pointer (some ⟨g, 0, none⟩)) (cs : List Value) (d : TypeDesc) (hg : ∀ j u, cs[j]? = some u → w.cell? ⟨g, j, none⟩ = some u)
    (hu : P.underlying ty = some d) (hd : (match d with | .struct _ | .array _ _ => true | _ => false) = true) (hi : (P.info? ty).map (·.size) = some cs.length)
    (h : wpList P ops Q rest (a.put o.dst (.agg cs.toArray)) w) : wpList P ops Q (o :: rest) a w := by
  refine wpList_plain hgd fun K hK => ?_
  have hl : (loadCells ⟨g, 0, none⟩ cs.length).run P w = .ok cs.toArray w :=
    run_loadCells_list (P := P) w ⟨g, 0, none⟩ cs (fun j v hv => by
      have hadd : (⟨g, 0, none⟩ : Addr).add j = ⟨g, j, none⟩ := by unfold Addr.add; split <;> simp_all
      rw [hadd]; exact hg j v hv)
  have hrun : (loadVar ty ⟨g, 0, none⟩).run P w = .ok (.agg cs.toArray) w := by
    cases hq : P.info? ty with
    | none => simp [hq] at hi
    | some i =>
      have hs : i.size = cs.length := by simpa [hq] using hi
      have hagg : (isAgg ty).run P w = .ok true w := by
        unfold isAgg
        rw [Sem.run_bind, run_underlying hu w]
        cases d <;> simp_all
      simp [loadVar, Sem.run_bind, hagg, sizeOf, typeInfo, hq, hs, hl]
  unfold Oper.wp execOp
  simp only [ho, hx, Instr.loadAt, Instr.sureAddr, Sem.run_bind, Sem.run_pure, Result.andThen_ok, hrun]
  exact hK _ _ h
end Go.Proofs.YtbkocnclaobabaaDoor.ShaM
