/- FrameBack, walked: frames, one behind the other, with something behind that is none, are told one by one. Condition: at most 1048576 bytes in all. -/
import Derived.Test.YtdabjklbmmnlkaaScansW
import Derived.Test.YtdabjklbmmnlkaaPutsW
import Derived.Test.YtdabjklbmmnlkaaBulk
namespace Go.Proofs.Ytdabjklbmmnlkaa.BackW
set_option linter.unusedVariables false
set_option linter.unusedSimpArgs false
open Go.RowKit Go.Proofs.Ytdabjklbmmnlkaa.PAll Go.Proofs.Ytdabjklbmmnlkaa.Nums Go.Proofs.Ytdabjklbmmnlkaa.CrcM Go.Proofs.Ytdabjklbmmnlkaa.SumM Go.Proofs.Ytdabjklbmmnlkaa.PutM Go.Proofs.Ytdabjklbmmnlkaa.Libs Go.Proofs.Ytdabjklbmmnlkaa.PutW Go.Proofs.Ytdabjklbmmnlkaa.FirstW Go.Proofs.Ytdabjklbmmnlkaa.ScanW Go.Proofs.Ytdabjklbmmnlkaa.Awake Go.Proofs.Ytdabjklbmmnlkaa.StrW Go.Proofs.Ytdabjklbmmnlkaa.ScansW Go.Proofs.Ytdabjklbmmnlkaa.PutsW Go.Proofs.YtdabjklbmmnlkaaW.PrintWords Go.Proofs.YtdabjklbmmnlkaaW.PrintLast Go.Proofs.YtdabjklbmmnlkaaW.PrintMore
/-! ### the plain law -/
/-- A frame with anything behind it is told. -/
theorem first_frame (l r : List Int) (hB : Bytes l) (hl : l.length ≤ 16384) : firstR (frameN l ++ r) = (l, l.length + 8, 0) := by
  have SL := sumN_lt (one_parts hB (by omega))
  have FL := frameN_length l
  have h4 := TornW.frame_take4 l hl
  have hm := TornW.frame_mid l SL
  have e4 : (frameN l ++ r).take 4 = (frameN l).take 4 := List.take_append_of_le_length (by omega)
  have e8 : (frameN l ++ r).take 8 = (frameN l).take 8 := List.take_append_of_le_length (by omega)
  have eb : body (frameN l ++ r) = l := by
    unfold body
    rw [e4, h4, List.take_append_of_le_length (by omega), List.take_of_length_le (by omega)]
    unfold frameN
    rw [List.drop_left' (by simp [T_length])]
  rw [firstR_eq _ (by rw [List.length_append]; omega), e4, h4, if_neg (by omega), if_neg (by rw [List.length_append]; omega), eb, e8, hm, if_pos rfl, Nat.add_comm]
theorem scan_frames : ∀ (ks : List (List Int)) (r : List Int), (∀ l ∈ ks, l.length ≤ 16384 ∧ Bytes l) → (firstR r).2.2 ≠ 0 → ∀ k, ((ks.map frameN).flatten ++ r).length < k → scanF k ((ks.map frameN).flatten ++ r) = (ks, (ks.map frameN).flatten.length)
  | [], r, _, hr, k, hk => by
    cases k with
    | zero => omega
    | succ k => simp only [List.map_nil, List.flatten_nil, List.nil_append]; rw [scanF, if_neg hr]; rfl
  | l :: ks, r, h, hr, k, hk => by
    have hl := h l (by simp)
    cases k with
    | zero => omega
    | succ k =>
      simp only [List.map_cons, List.flatten_cons, List.append_assoc] at hk ⊢
      have FL := frameN_length l
      rw [scanF, first_frame l _ hl.2 hl.1, if_pos rfl]
      have e : (frameN l ++ ((ks.map frameN).flatten ++ r)).drop (l.length + 8) = (ks.map frameN).flatten ++ r := List.drop_left' FL
      have := scan_frames ks r (fun x hx => h x (by simp [hx])) hr k (by rw [List.length_append] at hk; omega)
      simp only
      rw [e, this]
      simp [FL]
theorem frames_len : ∀ (ks : List (List Int)), (∀ l ∈ ks, l.length ≤ 16384 ∧ Bytes l) → (ks.map frameN).flatten.length ≤ 16392 * ks.length
  | [], _ => by simp
  | l :: ks, h => by
    have h1 := frames_len ks fun x hx => h x (by simp [hx])
    have h2 := (h l (by simp)).1
    simp only [List.map_cons, List.flatten_cons, List.length_append, List.length_cons, frameN_length]
    omega
theorem frames_bytes (ks : List (List Int)) (h : ∀ l ∈ ks, l.length ≤ 16384 ∧ Bytes l) : Bytes (ks.map frameN).flatten := by
  intro x hx
  obtain ⟨m, hm, hx⟩ := List.mem_flatten.1 hx
  obtain ⟨l, hl, rfl⟩ := List.mem_map.1 hm
  unfold frameN at hx
  exact bytes_app (bytes_app (T_bytes _ _) (T_bytes _ _)) (h l hl).2 x hx
/-! ### the rows of the call's own -/
/-- 'append' of bytes that are read to a row of the call's own: what else there is stays. -/
theorem wpList_append_bytes2 {ops : Array Oper} {rest : List Oper} {o : Oper} {a : Act} {w : World} {Q : Exit → Act → World → Prop} (hgd : o.guard = none) (s x : Operand)
    (ho : o.op = .call { callee := .builtin .append, args := #[s, x], argTypes := #[22, 22] }) (base : Nat) (v : Value) (l1 : List Int) (hs : a.eval s = v) (hown : OwnB w base v l1)
    (A : Option Addr) (c : Nat) (l : List Int) (hx : a.eval x = .slice A l.length c) (hC : (Kd.int .u8).C w A l.length l) (hcap : A = none → c = 0) (h63 : l1.length + l.length ≤ 140737488355328) (hbase : base ≤ w.heap.size)
    (h : ∀ v' w', OwnB w' base v' (l1 ++ l) → w.grownBy w' v.ownBlock → (v'.ownBlock = v.ownBlock ∨ ∃ b, v'.ownBlock = some b ∧ w.heap.size ≤ b) → (∀ W0, Below base W0 w → Below base W0 w') → wpList Try.prog ops Q rest (a.put o.dst v') w') : wpList Try.prog ops Q (o :: rest) a w := by
  cases A with
  | none =>
    obtain rfl := C_none hC
    obtain rfl := hcap rfl
    obtain ⟨i0, hi, hz0, hz1, hz2⟩ := info_parts Libs.info5
    exact wpList_append_own_none hgd s x 22 ho base 5 i0 1 Try.underlying22 hi v _ _ hs hown hx (h v w (by rw [List.append_nil]; exact hown) (World.grownBy.refl w _) (.inl rfl) fun _ hb => hb)
  | some ad =>
    obtain ⟨i0, hi, hz0, hz1, hz2⟩ := info_parts Libs.info5
    refine wpList_append_own_at w hgd s x 22 ho base 5 i0 (.int .u8 0) 1 1 Try.underlying22 hi hz0 hz1 hz2 rfl (by decide) v l1.length _ hs hown ad l.length c (nums .u8 l) hx (by simp [nums_length]) (C_cells hC) (nums_one l) (by unfold maxLen; omega) (by omega) hbase fun v' w' h1 h2 _ h4 => ?_
    refine h v' w' ?_ h2 (h4.imp id fun e => ⟨_, e, Nat.le_refl _⟩) fun W0 hb => hb.grown h2 hbase fun k hk => (hown.lt k hk).1
    unfold OwnB
    rw [nums_append, List.length_append]
    exact h1
/-- A row of the call's own whose elements are rows of bytes that came in. -/
def OwnW (W w : World) (base : Nat) (v : Value) (ks : List (List Int)) : Prop :=
  ∃ vs, w.ownsRow base 22 1 v ks.length vs ∧ ∀ (i : Nat) (l : List Int), ks[i]? = some l → ∃ (A : Option Addr) (c : Nat), vs[i]? = some (Value.slice A l.length c) ∧ l.length ≤ c ∧ (Kd.int .u8).C W A l.length l
theorem OwnW.more {W w w' : World} {base : Nat} {v v' : Value} {ks : List (List Int)} {vs : List Value} {A : Option Addr} {c : Nat} {l : List Int} (hv : w.ownsRow base 22 1 v ks.length vs)
    (hvs : ∀ (i : Nat) (l : List Int), ks[i]? = some l → ∃ (A : Option Addr) (c : Nat), vs[i]? = some (Value.slice A l.length c) ∧ l.length ≤ c ∧ (Kd.int .u8).C W A l.length l)
    (ho : w'.ownsRow base 22 1 v' (ks.length + 1) (vs ++ [.slice A l.length c])) (hc : l.length ≤ c) (hC : (Kd.int .u8).C W A l.length l) : OwnW W w' base v' (ks ++ [l]) := by
  refine ⟨vs ++ [.slice A l.length c], by rw [List.length_append]; exact ho, fun i y hy => ?_⟩
  by_cases hlt : i < ks.length
  · rw [List.getElem?_append_left hlt] at hy
    obtain ⟨A, c, e1, e2, e3⟩ := hvs i y hy
    exact ⟨A, c, by rw [List.getElem?_append_left (by rw [hv.1, Nat.mul_one]; exact hlt)]; exact e1, e2, e3⟩
  · have hil := (List.getElem?_eq_some_iff.1 hy).1
    simp at hil
    obtain rfl : i = ks.length := by omega
    rw [List.getElem?_append_right (Nat.le_refl _), Nat.sub_self] at hy
    obtain rfl : l = y := by simpa using hy
    exact ⟨A, c, by rw [List.getElem?_append_right (by rw [hv.1, Nat.mul_one]; exact Nat.le_refl _), hv.1, Nat.mul_one, Nat.sub_self]; rfl, hc, hC⟩
theorem OwnW.move {W w w' : World} {base : Nat} {v : Value} {ks : List (List Int)} (h : OwnW W w base v ks) (hm : ∀ k, v.ownBlock = some k → w'.heap[k]? = w.heap[k]?) : OwnW W w' base v ks := by
  obtain ⟨vs, h1, h2⟩ := h
  exact ⟨vs, own_move h1 hm, h2⟩
theorem OwnW.lt {W w : World} {base : Nat} {v : Value} {ks : List (List Int)} (h : OwnW W w base v ks) : ∀ k, v.ownBlock = some k → base ≤ k ∧ k < w.heap.size := by
  obtain ⟨vs, h1, h2⟩ := h
  exact h1.lt
/-- It reads as a row of rows. -/
theorem OwnW.reads {W w : World} {v : Value} {ks : List (List Int)} (h : OwnW W w W.heap.size v ks) (hb : Below W.heap.size W w) (hl : ks.length ≤ 9223372036854775807) :
    ∃ A c, v = .slice A ks.length c ∧ ks.length ≤ c ∧ (Kd.slice 5 (Kd.int .u8)).C w A ks.length ks := by
  obtain ⟨vs, ⟨h1, h2 | ⟨g, cap, cur, rfl, hg, hh, hnc, hcm, hsz, htk⟩⟩, hvs⟩ := h
  · obtain ⟨rfl, h0⟩ := h2
    obtain rfl : ks = [] := List.length_eq_zero_iff.1 h0
    exact ⟨none, 0, rfl, by simp, Kd.C_nil _ _⟩
  · refine ⟨_, cap, rfl, hnc, C_heaps hl hh (fun i l hi => ?_)⟩
    obtain ⟨A, c, e1, e2, e3⟩ := hvs i l hi
    refine ⟨A, c, ?_, e2, Kd.C_below e3 hb⟩
    rw [← htk, Nat.mul_one, List.getElem?_take] at e1
    split at e1
    · rw [← e1, Array.getElem?_toList]
    · simp at e1
theorem cell_lt {w : World} {p : Addr} {v : Value} (h : w.cell? p = some v) : p.block < w.heap.size := by
  apply Classical.byContradiction
  intro hn
  unfold World.cell? at h
  rw [Array.getElem?_eq_none (by omega)] at h
  simp at h
def RelB (W : World) (ls : List (List Int)) (v5 v6 v7 : Value) (wr : World) : Prop :=
  ∃ (i : Nat) (ks : List (List Int)), i ≤ ls.length ∧ i ≤ 20 ∧ v7 = .int .i64 (i : Int) ∧ ks.length ≤ i ∧ Aside0 (OwnB wr W.heap.size v5 (ks.map frameN).flatten) ∧ Aside0 (OwnW W wr W.heap.size v6 ks) ∧ Aside0 (v6.ownBlock = none ∨ v6.ownBlock ≠ v5.ownBlock) ∧
    Aside0 (∀ l ∈ ks, l.length ≤ 16384 ∧ Bytes l) ∧ Aside0 (Below W.heap.size W wr)
set_option maxHeartbeats 4000000 in
set_option maxRecDepth 100000 in
theorem back_calls (A0 : Option Addr) (c0 : Nat) (ls : List (List Int)) (A1 : Option Addr) (c1 : Nat) (s : List Int) (W : World) (hc0 : ls.length ≤ c0) (hz0 : A0 = none → c0 = 0) (hls : ls.length ≤ 1048576) (hR : Bulk.RowsIn W A0 ls)
    (hC1 : (Kd.int .u8).C W A1 s.length s) (hc1 : s.length ≤ c1) (hz1 : A1 = none → c1 = 0) (hBs : Bytes s) (hs : s.length ≤ 1048576) :
    Calls Try.prog 5 #[.slice A0 ls.length c0, .slice A1 s.length c1] W fun e w' => e = .returned (.bool true) ∧ Below W.heap.size W w' := by
  have HR := Aside0.mk hR
  have HC1 := Aside0.mk hC1
  have Hc1 := Aside0.mk hc1
  have Hz1 := Aside0.mk hz1
  have HBs := Aside0.mk hBs
  have Hc0 := Aside0.mk hc0
  clear hR hC1 hc1 hz1 hBs hz0 hc0
  go_enter Try.func5, Try.ntmps5
  go_wp2_with fail
  go_loopw [5, 6, 7] (fun v5 v6 v7 wr => RelB W ls v5 v6 v7 wr) (fun _ _ v7 _ => 20 - (intOf v7).toNat)
  case atStart =>
    refine ⟨0, [], by omega, by omega, rfl, by simp, ⟨?_⟩, ⟨[], ⟨rfl, .inl ⟨rfl, rfl⟩⟩, by simp⟩, ⟨.inl rfl⟩, ⟨by simp⟩, ⟨below_alloc (Below.refl _ _) _⟩⟩
    exact World.ownsRow_made (base := W.heap.size) (size := 1) (e := 5) W #[] 0 (Nat.le_refl _) (Nat.zero_le _) rfl
  case round =>
    obtain ⟨i, ks, hi, hi20, rfl, hki, HO, HW, HD, HK, HB⟩ := hrel
    by_cases hgo : i < ls.length ∧ i < 20
    · obtain ⟨hlt, h20⟩ := hgo
      obtain ⟨ad, AX, cX, rfl, hcellW, hcX, hCX, hzX, hmX, hwX⟩ := HR.out i hlt
      have HCW := Aside0.mk hcellW
      have hcell : wr.cell? (ad.add i) = some (.slice AX ls[i].length cX) := (HB.out.cell (cell_lt HCW.out)).trans HCW.out
      have HCX := Aside0.mk hCX
      have HcX := Aside0.mk hcX
      have HzX := Aside0.mk hzX
      have HBX := Aside0.mk (bytes_of_wf hwX)
      generalize hl : ls[i] = l at *
      clear hcX hCX hzX hwX hcellW hl
      have P := Aside0.mk (put_any AX cX l wr (Kd.C_below HCX.out HB.out) HcX.out HzX.out HBX.out)
      by_cases hsm : l.length ≤ 16384
      · have hpa : putA l = (frameN l, 0) := by unfold putA; rw [if_pos hsm]
        rw [hpa] at P
        clear hpa
        have hsm' : (l.length : Int) ≤ 16384 := by omega
        go_wp2_with fail
        refine P.out.mono ?_
        rintro e w1 ⟨v8, rfl, ho8, hb1⟩
        have B1 := Aside0.mk (below_step HB.out hb1)
        have O5 := Aside0.mk (show OwnB w1 W.heap.size u5 (ks.map frameN).flatten from own_move HO.out fun k hk => hb1.block k (HO.out.lt k hk).2)
        have W6 := Aside0.mk (HW.out.move fun k hk => hb1.block k (HW.out.lt k hk).2)
        have hcell1 : w1.cell? (ad.add i) = some (.slice AX l.length cX) := by rw [hb1.cell (cell_lt hcell)]; exact hcell
        obtain ⟨A8, c8, hv8, hcc8, hC8, hz8⟩ := OwnB.reads ho8 (by rw [frameN_length]; omega)
        subst hv8
        have C8 := Aside0.mk hC8
        have Z8 := Aside0.mk hz8
        have hsz := frames_len ks HK.out
        have HSZ : Aside0 ((ks.map frameN).flatten.length + (frameN l).length ≤ 140737488355328) := ⟨by rw [frameN_length]; omega⟩
        clear ho8 hb1 hC8 hz8 hcc8 hcell P HO HW hsz
        go_wp2_with (at_builtin; refine wpList_append_bytes2 rfl (.tmp 47) (.tmp 48) rfl W.heap.size u5 _ rfl O5.out A8 c8 (frameN l) rfl C8.out Z8.out HSZ.out B1.out.size ?_)
        intro v5 w2 ho2 hg2 hat2 hb2
        have B2 := Aside0.mk (hb2 W B1.out)
        have O2 := Aside0.mk ho2
        have W2 := Aside0.mk (W6.out.move fun k hk => hg2.block k (W6.out.lt k hk).2 (fun e => by
          rcases HD.out with h | h
          · rw [hk] at h; simp at h
          · exact h (hk.trans e)))
        have D2 : Aside0 (u6.ownBlock = none ∨ u6.ownBlock ≠ v5.ownBlock) := ⟨by
          rcases hat2 with h | ⟨b, h, hb⟩
          · rw [h]; exact HD.out
          · rw [h]
            cases hu : u6.ownBlock with
            | none => exact .inl rfl
            | some k => exact .inr (fun e => by injection e with e; have := (W6.out.lt k hu).2; omega)⟩
        have hcell2 : w2.cell? (ad.add i) = some (.slice AX l.length cX) := (B2.out.cell (cell_lt HCW.out)).trans HCW.out
        clear ho2 hg2 hat2 hb2 hcell1 O5 W6 HD C8 Z8
        obtain ⟨vs, hvs1, hvs2⟩ := W2.out
        have V1 := Aside0.mk hvs1
        have V2 := Aside0.mk hvs2
        have hcnt : Aside0 ((ks.length + 1) * 24 ≤ 140737488355328) := ⟨by omega⟩
        clear hvs1 hvs2
        go_wp2_with (at_builtin; refine print_append_cells (w0 := W) (W := w2) W.heap.size rfl (.tmp 50) (.tmp 55) 34 22 (.slice none 0 0) 1 24 rfl Try.underlying34 info22 rfl (by decide) (by decide) _ ks.length vs [.slice AX l.length cX] rfl rfl rfl (fun u hu => by rw [List.mem_singleton.1 hu]; rfl) V1.out B2.out B2.out.size hcnt.out ?_)
        intro v6 w3 ho3 hb3 hg3 hat3
        have B3 := Aside0.mk hb3
        have W3 := Aside0.mk (OwnW.more V1.out V2.out ho3 HcX.out HCX.out)
        have O3 := Aside0.mk (show OwnB w3 W.heap.size v5 _ from own_move O2.out fun k hk => hg3.block k (O2.out.lt k hk).2 (fun e => by
          rcases D2.out with h | h
          · rw [h] at e; simp at e
          · exact h (e.symm.trans hk.symm)))
        have D3 : Aside0 (v6.ownBlock = none ∨ v6.ownBlock ≠ v5.ownBlock) := ⟨by
          rcases hat3 with h | ⟨b, h, hb⟩
          · rw [h]; exact D2.out
          · rw [h]
            exact .inr (fun e => by have := (O2.out.lt b e.symm).2; omega)⟩
        clear ho3 hb3 hg3 hat3 V1 V2 O2 W2 D2
        go_wp2_with fail
        go_roundw
        case rel =>
          refine ⟨i + 1, ks ++ [l], by omega, by omega, by go_num, by simp; omega, ⟨?_⟩, W3, D3, ⟨?_⟩, B3⟩
          · rw [List.map_append, List.flatten_append]
            simpa using O3.out
          · intro x hx
            rcases List.mem_append.1 hx with h | h
            · exact HK.out x h
            · rw [List.mem_singleton.1 h]; exact ⟨hsm, HBX.out⟩
        case measure => simp [intOf]; omega
      · have hpa : putA l = ([], 17) := by unfold putA; rw [if_neg hsm]
        rw [hpa] at P
        clear hpa
        have hsm' : ¬ (l.length : Int) ≤ 16384 := by omega
        go_wp2_with fail
        refine P.out.mono ?_
        rintro e w1 ⟨v8, rfl, ho8, hb1⟩
        have B1 := Aside0.mk (below_step HB.out hb1)
        have O5 := Aside0.mk (show OwnB w1 W.heap.size u5 (ks.map frameN).flatten from own_move HO.out fun k hk => hb1.block k (HO.out.lt k hk).2)
        have W6 := Aside0.mk (HW.out.move fun k hk => hb1.block k (HW.out.lt k hk).2)
        have hcell1 : w1.cell? (ad.add i) = some (.slice AX l.length cX) := by rw [hb1.cell (cell_lt hcell)]; exact hcell
        clear ho8 hb1 hcell P HO HW
        go_wp2_with fail
        go_roundw
        case rel => exact ⟨i + 1, ks, by omega, by omega, by go_num, by omega, O5, W6, HD, HK, B1⟩
        case measure => simp [intOf]; omega
    · have hk20 : ks.length ≤ 20 := by omega
      have hsz := frames_len ks HK.out
      have hFB := Aside0.mk (frames_bytes ks HK.out)
      have LAWS := Aside0.mk (fun h => scan_frames ks s HK.out h (((ks.map frameN).flatten ++ s).length + 1) (by omega))
      have hO := HO.out
      clear HO
      generalize (ks.map frameN).flatten = al at *
      have hal : al.length ≤ 327840 := by omega
      obtain ⟨A5, c5, hv5, hcc5, hC5, hz5⟩ := OwnB.reads hO (by omega)
      subst hv5
      have O5 := Aside0.mk hO
      have F1 := Aside0.mk (first_any A1 c1 s wr (Kd.C_below HC1.out HB.out) Hc1.out HBs.out (by omega))
      clear hO hC5 hz5 hsz
      have hsplit : ¬ (i < ls.length) ∨ (i < ls.length ∧ ¬ (i < 20)) := by omega
      clear hgo
      rcases hsplit with hge | ⟨hlt, hge⟩
      all_goals
        generalize hf : firstR s = f at *
        obtain ⟨x, n, er⟩ := f
        go_wp2_with fail
        refine F1.out.mono ?_
        rintro e w1 ⟨AF, rfl, _, _, hb1⟩
        have B1 := Aside0.mk (below_step HB.out hb1)
        have O1 := Aside0.mk (show OwnB w1 W.heap.size _ al from own_move O5.out fun k hk => hb1.block k (O5.out.lt k hk).2)
        have W1 := Aside0.mk (HW.out.move fun k hk => hb1.block k (HW.out.lt k hk).2)
        clear hb1 F1 O5 HW
        by_cases her : er = 0
        · subst her
          go_wp2_with fail
          refine (awake_calls w1).mono ?_
          rintro e w2 ⟨rfl, hb2⟩
          have B2 := Aside0.mk (below_step B1.out hb2)
          clear hb2
          go_wp2_with fail
          go_ret
          exact ⟨by simp, B2.out⟩
        · have her' : ¬ ((er : Int) = 0) := by omega
          have LAW := LAWS.out her
          have HLAW : Aside0 (scanR (al ++ s) = (ks, al.length)) := ⟨LAW⟩
          have HSZ : Aside0 (al.length + s.length ≤ 140737488355328) := ⟨by omega⟩
          clear LAW LAWS
          go_wp2_with (at_builtin; refine wpList_append_bytes2 rfl (.tmp 69) (.tmp 70) rfl W.heap.size _ _ rfl O1.out A1 c1 s rfl (Kd.C_below HC1.out B1.out) Hz1.out HSZ.out B1.out.size ?_)
          intro v5 w2 ho2 hg2 _ hb2
          have B2 := Aside0.mk (hb2 W B1.out)
          have W2 := Aside0.mk (W1.out.move fun k hk => hg2.block k (W1.out.lt k hk).2 (fun e => by
            rcases HD.out with h | h
            · rw [hk] at h; simp at h
            · exact h (hk.trans e)))
          have hlen : (al ++ s).length ≤ 1400000 := by rw [List.length_append]; omega
          obtain ⟨A6, c6, hv6, hcc6, hC6, _⟩ := OwnB.reads ho2 (by omega)
          rw [List.length_append] at hv6
          subst hv6
          have S1 := Aside0.mk (scan_calls A6 c6 (al ++ s) w2 hC6 hcc6 (bytes_app hFB.out HBs.out) (by omega) (by rw [HLAW.out]; show ks.length ≤ _; omega))
          rw [HLAW.out, List.length_append] at S1
          clear ho2 hg2 hb2 hC6 W1 O1 HD
          go_wp2_with fail
          (with_reducible refine S1.out.mono ?_)
          rintro e w3 ⟨v14, rfl, ⟨A14, rfl, hC14⟩, hb3⟩
          have B3 := Aside0.mk (below_step B2.out hb3)
          have W3 := Aside0.mk (W2.out.move fun k hk => hb3.block k (W2.out.lt k hk).2)
          have C3 := Aside0.mk hC14
          clear hb3 hC14 S1 W2
          go_wp2_with fail
          refine (awake_calls w3).mono ?_
          rintro e w4 ⟨rfl, hb4⟩
          have B4 := Aside0.mk (below_step B3.out hb4)
          have W4 := W3.out.move fun k hk => hb4.block k (W3.out.lt k hk).2
          have C4 := Aside0.mk (Kd.C_below C3.out hb4)
          obtain ⟨A7, c7, hv7, hcc7, hC7⟩ := W4.reads B4.out (by omega)
          subst hv7
          have C7 := Aside0.mk hC7
          clear hb4 W4 C3 W3 hC7
          go_wp2_with fail
          go_loopw [16] (fun v16 wq => ∃ j nd : Nat, j ≤ ks.length ∧ v16 = .int .i64 (j : Int) ∧ wq = w4.drewN nd) (fun v16 _ => ks.length - (intOf v16).toNat)
          case atStart => exact ⟨0, 0, by omega, rfl, rfl⟩
          case round =>
            obtain ⟨j, nd, hj, rfl, rfl⟩ := hrel
            by_cases hjl : j < ks.length
            · obtain ⟨ad, AX, cX, rfl, hcell, _, hCx⟩ := row_at C4.out j hjl
              obtain ⟨ad2, AY, cY, rfl, hcell2, _, hCy⟩ := row_at C7.out j hjl
              have cv := fun q => string_of_reads (P := Try.prog) (w := w4.drewN q) Try.underlying22 Try.underlying5 Try.underlying9 (c := cX) (Kd.reads_of_C (d := (0 : Int)) (h1 := fun _ => rfl) (Kd.C_below hCx (pw_below_drewN (Below.refl _ _) q)))
              have cv2 := fun q => string_of_reads (P := Try.prog) (w := w4.drewN q) Try.underlying22 Try.underlying5 Try.underlying9 (c := cY) (Kd.reads_of_C (d := (0 : Int)) (h1 := fun _ => rfl) (Kd.C_below hCy (pw_below_drewN (Below.refl _ _) q)))
              clear hCx hCy
              go_wp2_with fail
              go_quiet (fail)
              go_wp2_with fail
              go_roundw
              case rel => exact ⟨j + 1, _, by omega, by go_num, rfl⟩
              case measure => simp [intOf]; omega
            · go_wp2_with fail
              go_ret
              exact ⟨by simp, pw_below_drewN B4.out nd⟩
end Go.Proofs.Ytdabjklbmmnlkaa.BackW
namespace Go.Proofs.Ytdabjklbmmnlkaa.Hand
set_option linter.unusedVariables false
open Go.RowKit Go.Proofs.Ytdabjklbmmnlkaa.Nums Go.Proofs.YtdabjklbmmnlkaaW.PrintWords
theorem FrameBack (A0 : Option Addr) (c0 : Nat) (ls : List (List Int)) (A1 : Option Addr) (c1 : Nat) (l1 : List Int) (W : World) (hc0 : ls.length ≤ c0) (hz0 : A0 = none → c0 = 0) (hl0 : ls.length ≤ 9223372036854775807) (hR : Bulk.RowsIn W A0 ls) (y0 : ls.length * 24 ≤ 140737488351232) (u0 : ls.flatten.length + ls.length ≤ 1048576)
    (hr1 : Kd.C (Kd.int .u8) W A1 l1.length l1) (hc1 : l1.length ≤ c1) (hz1 : A1 = none → c1 = 0) (hm1 : l1.length ≤ maxLen) (hb1 : ∀ x ∈ l1, (Lit.int .u8 x).wf = true) (u1 : l1.length ≤ 1048576) :
    Calls Try.prog 5 #[.slice A0 ls.length c0, .slice A1 l1.length c1] W fun e W' => e = .returned (.bool true) ∧ Below W.heap.size W W' :=
  BackW.back_calls A0 c0 ls A1 c1 l1 W hc0 hz0 (by omega) hR hr1 hc1 hz1 (bytes_of_wf hb1) u1
end Go.Proofs.Ytdabjklbmmnlkaa.Hand
