/- PackBack, walked: fields that were written are read as they were, and nothing is left. Condition: what came in is of bulk at most 1048576. -/
import Derived.Test.YtnfajlnpmndkdaaWritesW
import Derived.Deep.RegionHeld3
import Derived.Deep.MidRow
import Derived.Outline
namespace Go.Proofs.Ytnfajlnpmndkdaa.BackX
set_option linter.unusedVariables false
set_option linter.unusedSimpArgs false
open Go.RowKit Go.Proofs.Ytnfajlnpmndkdaa.Nums Go.Proofs.Ytnfajlnpmndkdaa.PackM Go.Proofs.Ytnfajlnpmndkdaa.TurnM Go.Proofs.Ytnfajlnpmndkdaa.Libs Go.Proofs.Ytnfajlnpmndkdaa.StrW Go.Proofs.Ytnfajlnpmndkdaa.WriteW Go.Proofs.Ytnfajlnpmndkdaa.WriteV Go.Proofs.Ytnfajlnpmndkdaa.ReadW Go.Proofs.Ytnfajlnpmndkdaa.ReadX Go.Proofs.Ytnfajlnpmndkdaa.DigW Go.Proofs.Ytnfajlnpmndkdaa.ShortW Go.Proofs.Ytnfajlnpmndkdaa.FieldIn Go.Proofs.Ytnfajlnpmndkdaa.WritesW Go.Proofs.Ytnfajlnpmndkdaa.Awake Go.Proofs.YtnfajlnpmndkdaaW.PrintWords Go.Proofs.YtnfajlnpmndkdaaW.PrintLast Go.Proofs.YtnfajlnpmndkdaaW.PrintMore
/-- A field as bytes. -/
def encF (F : Fld) : List Int := packN F.n ++ packN (zig F.a).toNat ++ flagN (((F.n : Int).tmod 2 == 1)) ++ textN F.s ++ F.D
theorem encF_len {F : Fld} (h : F.ok) (hs : F.s.size ≤ 1048576) : (encF F).length ≤ 1048700 := by
  have h0 := h.a0
  have h1 := h.a1
  have hz := zig_range h0 h1
  have p1 := packN_length h.n
  have p2 := packN_length (n := (zig F.a).toNat) (by omega)
  have p3 := packN_length (n := F.s.size) (by omega)
  have p4 : (flagN (((F.n : Int).tmod 2 == 1))).length = 1 := by unfold flagN; split <;> rfl
  have p5 := h.len
  unfold encF textN
  simp only [List.length_append, numsOf_length]
  omega
theorem encF_bytes {F : Fld} (h : F.ok) : Bytes (encF F) := by
  intro x hx
  unfold encF textN at hx
  rcases List.mem_append.1 hx with hx | hx
  · rcases List.mem_append.1 hx with hx | hx
    · rcases List.mem_append.1 hx with hx | hx
      · rcases List.mem_append.1 hx with hx | hx
        · exact packN_bytes _ x hx
        · exact packN_bytes _ x hx
      · unfold flagN at hx; split at hx <;> simp at hx <;> omega
    · rcases List.mem_append.1 hx with hx | hx
      · exact packN_bytes _ x hx
      · exact numsOf_bytes _ x hx
  · exact h.bytes x hx
/-- What lies at a place of a field's cells. -/
def Lies (w : World) (b o : Nat) (F : Fld) : Prop := w.cell? ⟨b, o + 1, none⟩ = some (.int .u64 F.n) ∧ w.cell? ⟨b, o + 2, none⟩ = some (.int .i64 F.a) ∧ w.cell? ⟨b, o + 3, none⟩ = some (.string F.s) ∧ w.rangeAt b (o + 4) (nums .u8 F.D)
theorem lies_of {w : World} {b o : Nat} {F : Fld} (h : ∀ j v, (fcells F)[j]? = some v → w.cell? ((⟨b, o, none⟩ : Addr).add j) = some v) : Lies w b o F := by
  have h' : ∀ j v, (fcells F)[j]? = some v → w.cell? ⟨b, o + j, none⟩ = some v := fun j v hj => by have := h j v hj; rwa [add_at] at this
  refine ⟨h' 1 _ rfl, h' 2 _ rfl, h' 3 _ rfl, fun j v hj => ?_⟩
  have := h' (4 + j) v (by unfold fcells; rw [List.getElem?_append_right (by simp)]; simpa using hj)
  rwa [show o + 4 + j = o + (4 + j) by omega]
theorem Lies.move {w w' : World} {b o : Nat} {F : Fld} (h : Lies w b o F) (hb : w'.heap[b]? = w.heap[b]?) : Lies w' b o F := by
  have hc : ∀ k, w'.cell? ⟨b, k, none⟩ = w.cell? ⟨b, k, none⟩ := fun k => World.cell?_of_block (w := w) hb
  exact ⟨by rw [hc]; exact h.1, by rw [hc]; exact h.2.1, by rw [hc]; exact h.2.2.1, fun j v hj => by rw [hc]; exact h.2.2.2 j v hj⟩
theorem fields_addr {W : World} {A : Option Addr} {fs : List Fld} (h : FieldsIn W A fs) (h0 : 0 < fs.length) : ∃ ab ao, A = some ⟨ab, ao, none⟩ := by
  obtain ⟨ad, rfl, hck, _⟩ := h 0 h0
  have h1 := hck 0 _ rfl
  rw [Nat.zero_mul, Addr.add_zero', Addr.add_zero'] at h1
  unfold World.cell? at h1
  split at h1
  · split at h1
    · simp at h1
    · rename_i hsp
      obtain ⟨b, o, s⟩ := ad
      cases s with
      | none => exact ⟨b, o, rfl⟩
      | some q => exact absurd rfl hsp
  · simp at h1
/-- What the first loop holds. -/
def RelA (W : World) (fs : List Fld) (N gw : Nat) (v4 : Value) (wr : World) : Prop :=
  ∃ i : Nat, i ≤ N ∧ v4 = .int .i64 (i : Int) ∧ Aside0 (Wtr wr gw ((fs.take i).map encF).flatten) ∧ Aside0 ((((fs.take i).map encF).flatten).length ≤ i * 1048700) ∧ Aside0 (Below W.heap.size W wr)
/-- What the second loop holds. -/
def RelB (W : World) (fs : List Fld) (N gr : Nat) (v6 : Value) (wr : World) : Prop :=
  ∃ i : Nat, i ≤ N ∧ v6 = .int .i64 (i : Int) ∧ Aside0 (Rdr wr gr ((fs.drop i).map encF).flatten 0) ∧ Aside0 (Below W.heap.size W wr)
def Ok (l : List Int) : Prop := Bytes l ∧ l.length ≤ 140737488355328
theorem Ok.right {a b : List Int} (h : Ok (a ++ b)) : Ok b := ⟨fun x hx => h.1 x (List.mem_append_right _ hx), by have := h.2; rw [List.length_append] at this; omega⟩
theorem enc_right (F : Fld) (R : List Int) : encF F ++ R = packN F.n ++ (packN (zig F.a).toNat ++ (flagN ((F.n : Int).tmod 2 == 1) ++ (textN F.s ++ (F.D ++ R)))) := by unfold encF; simp only [List.append_assoc]
theorem all_ok : ∀ fs : List Fld, (∀ F ∈ fs, F.ok ∧ F.s.size ≤ 1048576) → Bytes (fs.map encF).flatten ∧ ((fs.map encF).flatten).length ≤ fs.length * 1048700
  | [], _ => ⟨by intro x hx; simp at hx, by simp⟩
  | F :: fs, h => by
    have ih := all_ok fs fun G hG => h G (List.mem_cons_of_mem _ hG)
    have h0 := h F (List.mem_cons_self ..)
    have h1 := encF_bytes h0.1
    have h2 := encF_len h0.1 h0.2
    rw [List.map_cons, List.flatten_cons]
    refine ⟨fun x hx => (List.mem_append.1 hx).elim (h1 x) (ih.1 x), ?_⟩
    rw [List.length_append, List.length_cons]
    have := ih.2
    omega
theorem flag_law (b : Bool) (r : List Int) : flagR (flagN b ++ r) 0 = (b, r, 0) := by cases b <;> simp [flagR, flagN]
theorem take_law {n : Nat} (a r : List Int) (h : a.length = n) : takeR n (a ++ r) 0 = (a, r, 0) := by
  subst h
  unfold takeR
  rw [if_pos rfl, if_pos (by simp)]
  simp
theorem text_law {s : ByteArray} (hs : s.size ≤ 16384) (r : List Int) : textR (textN s ++ r) 0 = (numsOf s, r, 0) := by
  unfold textR textN countR
  rw [List.append_assoc, num_pack (by omega)]
  simp only [if_true]
  rw [if_neg (by omega)]
  simp only [Int.toNat_natCast]
  exact take_law _ _ (numsOf_length s)
theorem dig_law {D : List Int} (h : D.length = 32) (r : List Int) : digR (D ++ r) 0 = D := by
  unfold digR
  rw [take_law _ _ h, if_neg]
  intro hh
  simp only at hh
  rw [hh] at h
  simp at h
theorem r_num (g n : Nat) (R : List Int) (w : World) (hR : Rdr w g (packN n ++ R) 0) (hn : n < 18446744073709551616) (ho : Ok (packN n ++ R)) :
    Calls Try.prog 15 #[.pointer (some ⟨g, 0, none⟩)] w fun x w' => x = .returned (.int .u64 n) ∧ Rdr w' g R 0 ∧ w.grownBy w' (some g) := by
  have := ReadW.num_calls g _ 0 w hR ho.1 ho.2
  rw [num_pack hn] at this
  exact this
theorem r_int (g : Nat) (a : Int) (R : List Int) (w : World) (hR : Rdr w g (packN (zig a).toNat ++ R) 0) (a0 : -9223372036854775808 ≤ a) (a1 : a < 9223372036854775808) (ho : Ok (packN (zig a).toNat ++ R)) :
    Calls Try.prog 27 #[.pointer (some ⟨g, 0, none⟩)] w fun x w' => x = .returned (.int .i64 a) ∧ Rdr w' g R 0 ∧ w.grownBy w' (some g) := by
  have hz := zig_range a0 a1
  have := ReadW.int_calls g _ 0 w hR ho.1 ho.2
  rw [num_pack (by omega)] at this
  simp only at this
  rw [show (((zig a).toNat : Nat) : Int) = zig a by omega, zag_zig] at this
  exact this
theorem r_flag (g : Nat) (b : Bool) (R : List Int) (w : World) (hR : Rdr w g (flagN b ++ R) 0) (ho : Ok (flagN b ++ R)) :
    Calls Try.prog 17 #[.pointer (some ⟨g, 0, none⟩)] w fun x w' => x = .returned (.bool b) ∧ Rdr w' g R 0 ∧ w.grownBy w' (some g) := by
  have := ReadX.flag_calls g _ 0 w hR ho.1 ho.2
  rw [flag_law] at this
  exact this
theorem r_text (g : Nat) (s : ByteArray) (R : List Int) (w : World) (hR : Rdr w g (textN s ++ R) 0) (hs : s.size ≤ 16384) (ho : Ok (textN s ++ R)) :
    Calls Try.prog 16 #[.pointer (some ⟨g, 0, none⟩)] w fun x w' => x = .returned (.string s) ∧ Rdr w' g R 0 ∧ w.grownBy w' (some g) := by
  have := ReadX.text_calls g _ 0 w hR ho.1 ho.2
  rw [text_law hs] at this
  simp only at this
  rw [str_nums] at this
  exact this
theorem r_dig (g : Nat) (D : List Int) (R : List Int) (w : World) (hR : Rdr w g (D ++ R) 0) (hD : D.length = 32) (ho : Ok (D ++ R)) :
    Calls Try.prog 30 #[.pointer (some ⟨g, 0, none⟩)] w fun x w' => x = .returned (.agg (nums .u8 D).toArray) ∧ Rdr w' g R 0 ∧ w.grownBy w' (some g) := by
  have := dig_calls g _ 0 w hR ho.2
  rw [dig_law hD, take_law _ _ hD] at this
  exact this
theorem dig_same {D : List Int} (hD : D.length = 32) (bD : Bytes D) (w : World) : (Op.equalIn 10000 41 (.agg (nums .u8 D).toArray) (.agg (nums .u8 D).toArray)).run Try.prog w = .ok true w := by
  have := DigEq.dig_eq hD hD bD bD w
  rw [decide_eq_true rfl] at this
  exact this
theorem end_zero : endR [] 0 = 0 := by simp [endR]
set_option maxHeartbeats 4000000 in
set_option maxRecDepth 100000 in
theorem back_small (A : Option Addr) (c : Nat) (fs : List Fld) (W : World) (hc : fs.length ≤ c) (h60 : fs.length ≤ 60) (hF : FieldsIn W A fs) (hs : ∀ F ∈ fs, F.s.size ≤ 1048576) :
    Calls Try.prog 6 #[.slice A fs.length c] W fun e w' => e = .returned (.bool true) ∧ Below W.heap.size W w' := by
  have HF := Aside0.mk hF
  have HS := Aside0.mk hs
  have ALLF : Aside0 (∀ F ∈ fs, F.ok ∧ F.s.size ≤ 1048576) := ⟨fun F hF' => by
    obtain ⟨k, hk, rfl⟩ := List.getElem_of_mem hF'
    obtain ⟨_, _, _, ho⟩ := hF k hk
    exact ⟨ho, hs _ hF'⟩⟩
  have ALL := Aside0.mk (all_ok fs ALLF.out)
  clear hF hs
  go_enter Try.func6, Try.ntmps6
  go_wp2_with fail
  (with_reducible refine (new_calls W).mono ?_)
  rintro e w1 ⟨rfl, hW1, hb1⟩
  have B1 := Aside0.mk hb1
  have W1 := Aside0.mk hW1
  clear hb1 hW1
  go_wp2_with fail
  go_loopw [4] (fun v4 wr => RelA W fs fs.length W.heap.size v4 wr) (fun v4 _ => 60 - (intOf v4).toNat)
  case atStart => exact ⟨0, by omega, rfl, W1, ⟨by simp⟩, B1⟩
  case round =>
    obtain ⟨i, hi, rfl, HW, HL, HBe⟩ := hrel
    by_cases hlt : i < fs.length
    · obtain ⟨ab, ao, rfl⟩ := fields_addr HF.out (by omega)
      obtain ⟨adk, hadk, hck, hok⟩ := HF.out i hlt
      injection hadk with hadk
      subst hadk
      have hsz := HS.out fs[i] (List.getElem_mem hlt)
      have LF : Aside0 (Lies W ab (ao + i * 36) fs[i]) := ⟨lies_of (by rw [← add_at]; exact hck)⟩
      have ABW : Aside0 (ab < W.heap.size) := ⟨by have := World.block_lt_of_cell? W _ LF.out.1; exact this⟩
      have hi0 : (0 : Int) ≤ (i : Int) := by omega
      have hi1 : (i : Int) < (fs.length : Int) := by omega
      have HT : Aside0 ((((fs.take i).map encF).flatten) ++ encF fs[i] = ((fs.take (i + 1)).map encF).flatten) := ⟨by
        rw [List.take_succ_eq_append_getElem hlt, List.map_append, List.flatten_append]; simp⟩
      have HE : Aside0 ((encF fs[i]).length ≤ 1048700) := ⟨encF_len hok hsz⟩
      generalize fs[i] = F at *
      generalize ((fs.take i).map encF).flatten = L at *
      have OK := Aside0.mk hok
      have LK : Aside0 (∀ w', Below W.heap.size W w' → Lies w' ab (ao + i * 36) F) := ⟨fun w' hb => LF.out.move (hb.block ab ABW.out)⟩
      have hLb : L.length ≤ 62922000 := by have := HL.out; omega
      have hz := zig_range hok.a0 hok.a1
      have p1 := packN_length hok.n
      have p2 := packN_length (n := (zig F.a).toNat) (by omega)
      have p4 : (flagN ((F.n : Int).tmod 2 == 1)).length = 1 := by unfold flagN; split <;> rfl
      have p5 : (textN F.s).length ≤ 1048600 := by unfold textN; rw [List.length_append, numsOf_length]; have := packN_length (n := F.s.size) (by omega); omega
      have K1 := Aside0.mk (fun w' h => numV W.heap.size L F.n w' h hok.n (by omega))
      have K2 := Aside0.mk (fun w' h => intV W.heap.size (L ++ packN F.n) F.a w' h hok.a0 hok.a1 (by rw [List.length_append]; omega))
      have K3 := Aside0.mk (fun w' h => flagV W.heap.size (L ++ packN F.n ++ packN (zig F.a).toNat) ((F.n : Int).tmod 2 == 1) w' h (by simp only [List.length_append]; omega))
      have K4 := Aside0.mk (fun w' h => textV W.heap.size (L ++ packN F.n ++ packN (zig F.a).toNat ++ flagN ((F.n : Int).tmod 2 == 1)) F.s w' h (by simp only [List.length_append]; omega))
      have K5 := Aside0.mk (fun w' h => digestV W.heap.size (L ++ packN F.n ++ packN (zig F.a).toNat ++ flagN ((F.n : Int).tmod 2 == 1) ++ textN F.s) F.D w' h hok.len (by simp only [List.length_append]; omega))
      have W0 : Aside0 (Wtr wr.drew W.heap.size L) := ⟨HW.out⟩
      have B0 : Aside0 (Below W.heap.size W wr.drew) := ⟨HBe.out.drew⟩
      have u41 := Try.underlying41
      have i41 : (Try.prog.info? 41).map (·.size) = some (nums .u8 F.D).length := by rw [nums_length, hok.len]; exact info41
      clear hok hz p1 p2 p4 p5 hck HF HS
      go_wp2_with fail
      go_region_held3 (fun w' => w'.cell? ⟨ab, ao + i * 36 + 1, none⟩ = some (.int .u64 F.n) ∧ w'.cell? ⟨ab, ao + i * 36 + 2, none⟩ = some (.int .i64 F.a) ∧ w'.cell? ⟨ab, ao + i * 36 + 3, none⟩ = some (.string F.s) ∧ w'.rangeAt ab (ao + i * 36 + 4) (nums .u8 F.D))
        (first | exact LK.out _ B0.out | exact LK.out _ B1.out | exact LK.out _ B2.out | exact LK.out _ B3.out | exact LK.out _ B4.out | exact LK.out _ B5.out)
        (first
          | (go_at_call 9; (with_reducible refine (K1.out _ W0.out).mono ?_); rintro x w1 ⟨rfl, hW1, hb1, _⟩; have W1 := Aside0.mk hW1; have B1 := Aside0.mk (B0.out.trans hb1); clear hW1 hb1)
          | (go_at_call 20; (with_reducible refine (K2.out _ W1.out).mono ?_); rintro x w2 ⟨rfl, hW1, hb1, _⟩; have W2 := Aside0.mk hW1; have B2 := Aside0.mk (B1.out.trans hb1); clear hW1 hb1)
          | (go_at_call 11; (with_reducible refine (K3.out _ W2.out).mono ?_); rintro x w3 ⟨rfl, hW1, hb1, _⟩; have W3 := Aside0.mk hW1; have B3 := Aside0.mk (B2.out.trans hb1); clear hW1 hb1)
          | (go_at_call 10; (with_reducible refine (K4.out _ W3.out).mono ?_); rintro x w4 ⟨rfl, hW1, hb1, _⟩; have W4 := Aside0.mk hW1; have B4 := Aside0.mk (B3.out.trans hb1); clear hW1 hb1)
          | (go_at_call 24; (refine (K5.out _ W4.out).mono ?_); rintro x w5 ⟨rfl, hW1, hb1, _⟩; have W5 := Aside0.mk hW1; have B5 := Aside0.mk (B4.out.trans hb1); clear hW1 hb1))
      go_wp2_with fail
      go_roundw
      case rel => exact ⟨i + 1, by omega, by go_num, ⟨by rw [← HT.out]; have := W5.out; unfold encF; simp only [List.append_assoc] at this ⊢; exact this⟩, ⟨by rw [← HT.out, List.length_append]; have := HL.out; have := HE.out; omega⟩, B5⟩
      case measure => simp [intOf]; omega
    · have h60' := h60
      have htk : fs.take i = fs := List.take_of_length_le (by omega)
      rw [htk] at HW
      have hL2 := ALL.out.2
      obtain ⟨L, hLL⟩ : ∃ L, L = (fs.map encF).flatten := ⟨_, rfl⟩
      rw [← hLL] at HW hL2
      have HLL := Aside0.mk hLL
      have KO := Aside0.mk (out_calls W.heap.size L wr HW.out (by omega))
      clear htk HL hLL
      go_wp2_with fail
      (with_reducible refine KO.out.mono ?_)
      rintro e w6 ⟨A6, rfl, hC6, hz6, hb6⟩
      have B6 := Aside0.mk (below_step HBe.out hb6)
      have KR := Aside0.mk (ReadW.read_calls A6 L.length L w6 hC6 hz6 (by omega))
      clear hC6 hz6 hb6 KO
      go_wp2_with fail
      (with_reducible refine KR.out.mono ?_)
      rintro e w7 ⟨gr, rfl, hgr, hR7, hb7⟩
      have B7 := Aside0.mk (below_step B6.out hb7)
      have HGR : Aside0 (W.heap.size ≤ gr) := ⟨Nat.le_trans B6.out.size hgr⟩
      have R7 := Aside0.mk hR7
      clear hgr hR7 hb7 KR HW HBe B6
      go_wp2_with fail
      go_loopw [6] (fun v6 wr => RelB W fs fs.length gr v6 wr) (fun v6 _ => 60 - (intOf v6).toNat)
      case atStart => exact ⟨0, by omega, rfl, ⟨by rw [List.drop_zero, ← HLL.out]; exact R7.out⟩, B7⟩
      case round =>
        obtain ⟨i, hi, rfl, HR, HBe⟩ := hrel
        by_cases hlt : i < fs.length
        · have hlt' : i < fs.length := by omega
          have hd : ((fs.drop i).map encF).flatten = encF fs[i] ++ ((fs.drop (i + 1)).map encF).flatten := by rw [List.drop_eq_getElem_cons hlt', List.map_cons, List.flatten_cons]
          have hok2 : Ok ((fs.drop i).map encF).flatten := by
            have := all_ok (fs.drop i) fun F hF' => ALLF.out F (List.mem_of_mem_drop hF')
            refine ⟨this.1, ?_⟩
            have h2 := this.2
            rw [List.length_drop] at h2
            omega
          obtain ⟨adk, rfl, hck, hok⟩ := HF.out i hlt'
          rw [hd, enc_right] at HR hok2
          generalize fs[i] = F at *
          have RN : ∃ R, R = ((fs.drop (i + 1)).map encF).flatten := ⟨_, rfl⟩
          obtain ⟨R, hRR⟩ := RN
          rw [← hRR] at HR hok2
          have HRR := Aside0.mk hRR
          have O1 := Aside0.mk hok2
          have O2 := Aside0.mk hok2.right
          have O3 := Aside0.mk hok2.right.right
          have O4 := Aside0.mk hok2.right.right.right
          have O5 := Aside0.mk hok2.right.right.right.right
          clear hd hRR hok2
          have hcs : ∀ j v, (fcells F)[j]? = some v → wr.cell? ((adk.add (i * 36)).add j) = some v := fun j v hj => by
            have h1 := hck j v hj
            exact (HBe.out.cell (World.block_lt_of_cell? W _ h1)).trans h1
          have HCS := Aside0.mk hcs
          have IF := Aside0.mk (infoF hok)
          have IL := Aside0.mk (infoFL hok)
          have HN := Aside0.mk (blk_new wr (Obj.cells #[Value.int .i64 0, Value.int .u64 0, Value.int .i64 0, Value.string { data := #[] }, Value.int .u8 0, Value.int .u8 0, Value.int .u8 0, Value.int .u8 0, Value.int .u8 0, Value.int .u8 0, Value.int .u8 0, Value.int .u8 0, Value.int .u8 0, Value.int .u8 0, Value.int .u8 0, Value.int .u8 0, Value.int .u8 0, Value.int .u8 0, Value.int .u8 0, Value.int .u8 0, Value.int .u8 0, Value.int .u8 0, Value.int .u8 0, Value.int .u8 0, Value.int .u8 0, Value.int .u8 0, Value.int .u8 0, Value.int .u8 0, Value.int .u8 0, Value.int .u8 0, Value.int .u8 0, Value.int .u8 0, Value.int .u8 0, Value.int .u8 0, Value.int .u8 0, Value.int .u8 0] 43))
          have SZ : Aside0 ((#[Value.int .i64 0, Value.int .u64 0, Value.int .i64 0, Value.string { data := #[] }, Value.int .u8 0, Value.int .u8 0, Value.int .u8 0, Value.int .u8 0, Value.int .u8 0, Value.int .u8 0, Value.int .u8 0, Value.int .u8 0, Value.int .u8 0, Value.int .u8 0, Value.int .u8 0, Value.int .u8 0, Value.int .u8 0, Value.int .u8 0, Value.int .u8 0, Value.int .u8 0, Value.int .u8 0, Value.int .u8 0, Value.int .u8 0, Value.int .u8 0, Value.int .u8 0, Value.int .u8 0, Value.int .u8 0, Value.int .u8 0, Value.int .u8 0, Value.int .u8 0, Value.int .u8 0, Value.int .u8 0, Value.int .u8 0, Value.int .u8 0, Value.int .u8 0, Value.int .u8 0] : Array Value).size = (fcells F).toArray.size) := ⟨(show (#[Value.int .i64 0, Value.int .u64 0, Value.int .i64 0, Value.string { data := #[] }, Value.int .u8 0, Value.int .u8 0, Value.int .u8 0, Value.int .u8 0, Value.int .u8 0, Value.int .u8 0, Value.int .u8 0, Value.int .u8 0, Value.int .u8 0, Value.int .u8 0, Value.int .u8 0, Value.int .u8 0, Value.int .u8 0, Value.int .u8 0, Value.int .u8 0, Value.int .u8 0, Value.int .u8 0, Value.int .u8 0, Value.int .u8 0, Value.int .u8 0, Value.int .u8 0, Value.int .u8 0, Value.int .u8 0, Value.int .u8 0, Value.int .u8 0, Value.int .u8 0, Value.int .u8 0, Value.int .u8 0, Value.int .u8 0, Value.int .u8 0, Value.int .u8 0, Value.int .u8 0] : Array Value).size = 36 from rfl).trans (by rw [List.size_toArray, fcells_length hok])⟩
          have FO := Aside0.mk (fcells_one F)
          have OK := Aside0.mk hok
          have hi0 : (0 : Int) ≤ (i : Int) := by omega
          have hi1 : (i : Int) < (fs.length : Int) := by omega
          clear hcs hck
          go_upto_region 13 with (first
            | (with_reducible refine wpList_load_at rfl 43 (.tmp 64) rfl (adk.add (i * 36)) rfl (fcells F) _ HCS.out Try.underlying43 rfl IL.out ?_)
            | (with_reducible refine wpList_store_row rfl 43 (.tmp 7) (.tmp 65) rfl wr.heap.size (fcells F).toArray rfl rfl 43 #[Value.int .i64 0, Value.int .u64 0, Value.int .i64 0, Value.string { data := #[] }, Value.int .u8 0, Value.int .u8 0, Value.int .u8 0, Value.int .u8 0, Value.int .u8 0, Value.int .u8 0, Value.int .u8 0, Value.int .u8 0, Value.int .u8 0, Value.int .u8 0, Value.int .u8 0, Value.int .u8 0, Value.int .u8 0, Value.int .u8 0, Value.int .u8 0, Value.int .u8 0, Value.int .u8 0, Value.int .u8 0, Value.int .u8 0, Value.int .u8 0, Value.int .u8 0, Value.int .u8 0, Value.int .u8 0, Value.int .u8 0, Value.int .u8 0, Value.int .u8 0, Value.int .u8 0, Value.int .u8 0, Value.int .u8 0, Value.int .u8 0, Value.int .u8 0, Value.int .u8 0] HN.out IF.out SZ.out FO.out ?_))
          obtain ⟨h61, h62, h63⟩ := six_ wr #[Value.int .i64 0, Value.int .u64 0, Value.int .i64 0, Value.string { data := #[] }, Value.int .u8 0, Value.int .u8 0, Value.int .u8 0, Value.int .u8 0, Value.int .u8 0, Value.int .u8 0, Value.int .u8 0, Value.int .u8 0, Value.int .u8 0, Value.int .u8 0, Value.int .u8 0, Value.int .u8 0, Value.int .u8 0, Value.int .u8 0, Value.int .u8 0, Value.int .u8 0, Value.int .u8 0, Value.int .u8 0, Value.int .u8 0, Value.int .u8 0, Value.int .u8 0, Value.int .u8 0, Value.int .u8 0, Value.int .u8 0, Value.int .u8 0, Value.int .u8 0, Value.int .u8 0, Value.int .u8 0, Value.int .u8 0, Value.int .u8 0, Value.int .u8 0, Value.int .u8 0] (fcells F).toArray
          generalize hw6 : (wr.alloc (Obj.cells #[Value.int .i64 0, Value.int .u64 0, Value.int .i64 0, Value.string { data := #[] }, Value.int .u8 0, Value.int .u8 0, Value.int .u8 0, Value.int .u8 0, Value.int .u8 0, Value.int .u8 0, Value.int .u8 0, Value.int .u8 0, Value.int .u8 0, Value.int .u8 0, Value.int .u8 0, Value.int .u8 0, Value.int .u8 0, Value.int .u8 0, Value.int .u8 0, Value.int .u8 0, Value.int .u8 0, Value.int .u8 0, Value.int .u8 0, Value.int .u8 0, Value.int .u8 0, Value.int .u8 0, Value.int .u8 0, Value.int .u8 0, Value.int .u8 0, Value.int .u8 0, Value.int .u8 0, Value.int .u8 0, Value.int .u8 0, Value.int .u8 0, Value.int .u8 0, Value.int .u8 0] 43)).setRow wr.heap.size (fcells F).toArray = w8 at *
          have R8 := Aside0.mk (HR.out.below h62)
          have H8 := Aside0.mk h61
          have B8 := Aside0.mk (below_step HBe.out h62)
          have GL : Aside0 (gr ≠ wr.heap.size) := ⟨by have := HR.out.lt; omega⟩
          have SL : Aside0 (wr.heap.size < w8.heap.size) := ⟨by omega⟩
          have GW : Aside0 (W.heap.size ≤ wr.heap.size) := ⟨HBe.out.size⟩
          clear hw6 h61 h62 h63 HN SZ HCS IL IF FO HR HBe
          generalize wr.heap.size = g7 at *
          have SK : Aside0 (∀ w' : World, w'.heap[g7]? = some (.cells (fcells F).toArray 43 (0, 0)) → w'.cell? ⟨g7, 1, none⟩ = some (.int .u64 F.n) ∧ w'.cell? ⟨g7, 2, none⟩ = some (.int .i64 F.a) ∧ w'.cell? ⟨g7, 3, none⟩ = some (.string F.s) ∧ w'.rangeAt g7 4 (nums .u8 F.D)) := ⟨fun w' h => by
            obtain ⟨_, c1, c2, c3, c4⟩ := fcell h
            exact ⟨c1, c2, c3, fun j v hj => by have := c4 j v hj; rwa [add_at] at this⟩⟩
          obtain ⟨c1, c2, c3, c4⟩ := SK.out _ H8.out
          have C4 := Aside0.mk c4
          clear c4
          by_cases hbig : (16384 : Int) < (F.s.size : Int)
          · go_wp2_with fail
            (with_reducible refine (awake_calls _).mono ?_)
            rintro x w9 ⟨rfl, hb9⟩
            have B9 := Aside0.mk (below_step B8.out hb9)
            clear hb9
            go_wp2_with fail
            go_ret
            exact ⟨rfl, B9.out⟩
          · have hs16 : F.s.size ≤ 16384 := by omega
            have K1 := Aside0.mk (fun w' h => r_num gr F.n _ w' h OK.out.n O1.out)
            have K2 := Aside0.mk (fun w' h => r_int gr F.a _ w' h OK.out.a0 OK.out.a1 O2.out)
            have K3 := Aside0.mk (fun w' h => r_flag gr ((F.n : Int).tmod 2 == 1) _ w' h O3.out)
            have K4 := Aside0.mk (fun w' h => r_text gr F.s _ w' h hs16 O4.out)
            have K5 := Aside0.mk (fun w' h => r_dig gr F.D R w' h OK.out.len O5.out)
            have K6 := Aside0.mk (fun w' h => error_calls gr R 0 w' h)
            have u41 := Try.underlying41
            have i41 : (Try.prog.info? 41).map (·.size) = some (nums .u8 F.D).length := by rw [nums_length, OK.out.len]; exact info41
            have qe := fun w => dig_same OK.out.len OK.out.bytes w
            have R0 : Aside0 (Rdr w8.drew gr _ 0) := ⟨R8.out⟩
            have H0 : Aside0 (w8.drew.heap[g7]? = some _) := ⟨H8.out⟩
            have B0 : Aside0 (Below W.heap.size W w8.drew) := ⟨B8.out.drew⟩
            have SL0 : Aside0 (g7 < w8.drew.heap.size) := ⟨SL.out⟩
            go_wp2_with fail
            go_region_held3 (fun w' => w'.cell? ⟨g7, 1, none⟩ = some (.int .u64 F.n) ∧ w'.cell? ⟨g7, 2, none⟩ = some (.int .i64 F.a) ∧ w'.cell? ⟨g7, 3, none⟩ = some (.string F.s) ∧ w'.rangeAt g7 4 (nums .u8 F.D))
              (first | exact SK.out _ H0.out | exact SK.out _ H1.out | exact SK.out _ H2.out | exact SK.out _ H3.out | exact SK.out _ H4.out | exact SK.out _ H5.out)
              (first
                | (go_at_call 15; (with_reducible refine (K1.out _ R0.out).mono ?_); rintro x w11 ⟨rfl, hR1, hg1⟩; have R1 := Aside0.mk hR1; have B1 := Aside0.mk (B0.out.grown hg1 B0.out.size (fun k hk => by injection hk with hk; subst hk; exact HGR.out)); have H1 : Aside0 (w11.heap[g7]? = some _) := ⟨(hg1.block g7 SL0.out (fun x => GL.out (by injection x with x; exact x.symm))).trans H0.out⟩; have SL1 : Aside0 (g7 < w11.heap.size) := ⟨Nat.lt_of_lt_of_le SL0.out hg1.size⟩; clear hR1 hg1)
                | (go_at_call 27; (with_reducible refine (K2.out _ R1.out).mono ?_); rintro x w12 ⟨rfl, hR1, hg1⟩; have R2 := Aside0.mk hR1; have B2 := Aside0.mk (B1.out.grown hg1 B1.out.size (fun k hk => by injection hk with hk; subst hk; exact HGR.out)); have H2 : Aside0 (w12.heap[g7]? = some _) := ⟨(hg1.block g7 SL1.out (fun x => GL.out (by injection x with x; exact x.symm))).trans H1.out⟩; have SL2 : Aside0 (g7 < w12.heap.size) := ⟨Nat.lt_of_lt_of_le SL1.out hg1.size⟩; clear hR1 hg1)
                | (go_at_call 17; (with_reducible refine (K3.out _ R2.out).mono ?_); rintro x w13 ⟨rfl, hR1, hg1⟩; have R3 := Aside0.mk hR1; have B3 := Aside0.mk (B2.out.grown hg1 B2.out.size (fun k hk => by injection hk with hk; subst hk; exact HGR.out)); have H3 : Aside0 (w13.heap[g7]? = some _) := ⟨(hg1.block g7 SL2.out (fun x => GL.out (by injection x with x; exact x.symm))).trans H2.out⟩; have SL3 : Aside0 (g7 < w13.heap.size) := ⟨Nat.lt_of_lt_of_le SL2.out hg1.size⟩; clear hR1 hg1)
                | (go_at_call 16; (with_reducible refine (K4.out _ R3.out).mono ?_); rintro x w14 ⟨rfl, hR1, hg1⟩; have R4 := Aside0.mk hR1; have B4 := Aside0.mk (B3.out.grown hg1 B3.out.size (fun k hk => by injection hk with hk; subst hk; exact HGR.out)); have H4 : Aside0 (w14.heap[g7]? = some _) := ⟨(hg1.block g7 SL3.out (fun x => GL.out (by injection x with x; exact x.symm))).trans H3.out⟩; have SL4 : Aside0 (g7 < w14.heap.size) := ⟨Nat.lt_of_lt_of_le SL3.out hg1.size⟩; clear hR1 hg1)
                | (go_at_call 30; (refine (K5.out _ R4.out).mono ?_); rintro x w15 ⟨rfl, hR1, hg1⟩; have R5 := Aside0.mk hR1; have B5 := Aside0.mk (B4.out.grown hg1 B4.out.size (fun k hk => by injection hk with hk; subst hk; exact HGR.out)); have H5 : Aside0 (w15.heap[g7]? = some _) := ⟨(hg1.block g7 SL4.out (fun x => GL.out (by injection x with x; exact x.symm))).trans H4.out⟩; have SL5 : Aside0 (g7 < w15.heap.size) := ⟨Nat.lt_of_lt_of_le SL4.out hg1.size⟩; clear hR1 hg1)
                | (go_at_call 34; (with_reducible refine (K6.out _ R5.out).mono ?_); rintro x w16 ⟨rfl, rfl⟩))
            go_wp2_with fail
            go_roundw
            case rel => exact ⟨i + 1, by omega, by go_num, ⟨by rw [← HRR.out]; exact R5.out⟩, B5⟩
            case measure => simp [intOf]; omega
        · have he : ((fs.drop i).map encF).flatten = [] := by rw [List.drop_eq_nil_of_le (by omega)]; rfl
          rw [he] at HR
          clear he
          go_wp2_with fail
          (with_reducible refine (awake_calls _).mono ?_)
          rintro x w9 ⟨rfl, hb9⟩
          have B9 := Aside0.mk (below_step HBe.out hb9)
          have R9 := Aside0.mk (HR.out.below hb9)
          have KE := Aside0.mk (end_calls gr [] 0 w9 R9.out (by simp))
          rw [end_zero] at KE
          clear hb9
          go_wp2_with fail
          (with_reducible refine KE.out.mono ?_)
          rintro x w10 ⟨rfl, _, hg10⟩
          have B10 := Aside0.mk (B9.out.grown hg10 B9.out.size (fun k hk => by injection hk with hk; subst hk; exact HGR.out))
          clear hg10
          go_wp2_with fail
          go_ret
          exact ⟨rfl, B10.out⟩
set_option maxHeartbeats 4000000 in
set_option maxRecDepth 100000 in
theorem back_big (A : Option Addr) (c : Nat) (n : Nat) (fs : List Fld) (W : World) (hc : n ≤ c) (h60 : fs.length = 60) (hn : 60 < n) (hnl : n ≤ 1048576) (hF : FieldsIn W A fs) (hs : ∀ F ∈ fs, F.s.size ≤ 1048576) :
    Calls Try.prog 6 #[.slice A n c] W fun e w' => e = .returned (.bool true) ∧ Below W.heap.size W w' := by
  have HF := Aside0.mk hF
  have HS := Aside0.mk hs
  have ALLF : Aside0 (∀ F ∈ fs, F.ok ∧ F.s.size ≤ 1048576) := ⟨fun F hF' => by
    obtain ⟨k, hk, rfl⟩ := List.getElem_of_mem hF'
    obtain ⟨_, _, _, ho⟩ := hF k hk
    exact ⟨ho, hs _ hF'⟩⟩
  have ALL := Aside0.mk (all_ok fs ALLF.out)
  clear hF hs
  have hn0 : (60 : Int) < (n : Int) := by omega
  go_enter Try.func6, Try.ntmps6
  go_wp2_with fail
  (with_reducible refine (new_calls W).mono ?_)
  rintro e w1 ⟨rfl, hW1, hb1⟩
  have B1 := Aside0.mk hb1
  have W1 := Aside0.mk hW1
  clear hb1 hW1
  go_wp2_with fail
  go_loopw [4] (fun v4 wr => RelA W fs 60 W.heap.size v4 wr) (fun v4 _ => 60 - (intOf v4).toNat)
  case atStart => exact ⟨0, by omega, rfl, W1, ⟨by simp⟩, B1⟩
  case round =>
    obtain ⟨i, hi, rfl, HW, HL, HBe⟩ := hrel
    by_cases hlt : i < 60
    · have hlt : i < fs.length := by omega
      obtain ⟨ab, ao, rfl⟩ := fields_addr HF.out (by omega)
      obtain ⟨adk, hadk, hck, hok⟩ := HF.out i hlt
      injection hadk with hadk
      subst hadk
      have hsz := HS.out fs[i] (List.getElem_mem hlt)
      have LF : Aside0 (Lies W ab (ao + i * 36) fs[i]) := ⟨lies_of (by rw [← add_at]; exact hck)⟩
      have ABW : Aside0 (ab < W.heap.size) := ⟨by have := World.block_lt_of_cell? W _ LF.out.1; exact this⟩
      have hi0 : (0 : Int) ≤ (i : Int) := by omega
      have hi1 : (i : Int) < 60 := by omega
      have HT : Aside0 ((((fs.take i).map encF).flatten) ++ encF fs[i] = ((fs.take (i + 1)).map encF).flatten) := ⟨by
        rw [List.take_succ_eq_append_getElem hlt, List.map_append, List.flatten_append]; simp⟩
      have HE : Aside0 ((encF fs[i]).length ≤ 1048700) := ⟨encF_len hok hsz⟩
      generalize fs[i] = F at *
      generalize ((fs.take i).map encF).flatten = L at *
      have OK := Aside0.mk hok
      have LK : Aside0 (∀ w', Below W.heap.size W w' → Lies w' ab (ao + i * 36) F) := ⟨fun w' hb => LF.out.move (hb.block ab ABW.out)⟩
      have hLb : L.length ≤ 62922000 := by have := HL.out; omega
      have hz := zig_range hok.a0 hok.a1
      have p1 := packN_length hok.n
      have p2 := packN_length (n := (zig F.a).toNat) (by omega)
      have p4 : (flagN ((F.n : Int).tmod 2 == 1)).length = 1 := by unfold flagN; split <;> rfl
      have p5 : (textN F.s).length ≤ 1048600 := by unfold textN; rw [List.length_append, numsOf_length]; have := packN_length (n := F.s.size) (by omega); omega
      have K1 := Aside0.mk (fun w' h => numV W.heap.size L F.n w' h hok.n (by omega))
      have K2 := Aside0.mk (fun w' h => intV W.heap.size (L ++ packN F.n) F.a w' h hok.a0 hok.a1 (by rw [List.length_append]; omega))
      have K3 := Aside0.mk (fun w' h => flagV W.heap.size (L ++ packN F.n ++ packN (zig F.a).toNat) ((F.n : Int).tmod 2 == 1) w' h (by simp only [List.length_append]; omega))
      have K4 := Aside0.mk (fun w' h => textV W.heap.size (L ++ packN F.n ++ packN (zig F.a).toNat ++ flagN ((F.n : Int).tmod 2 == 1)) F.s w' h (by simp only [List.length_append]; omega))
      have K5 := Aside0.mk (fun w' h => digestV W.heap.size (L ++ packN F.n ++ packN (zig F.a).toNat ++ flagN ((F.n : Int).tmod 2 == 1) ++ textN F.s) F.D w' h hok.len (by simp only [List.length_append]; omega))
      have W0 : Aside0 (Wtr wr.drew W.heap.size L) := ⟨HW.out⟩
      have B0 : Aside0 (Below W.heap.size W wr.drew) := ⟨HBe.out.drew⟩
      have u41 := Try.underlying41
      have i41 : (Try.prog.info? 41).map (·.size) = some (nums .u8 F.D).length := by rw [nums_length, hok.len]; exact info41
      clear hok hz p1 p2 p4 p5 hck HF HS
      go_wp2_with fail
      go_region_held3 (fun w' => w'.cell? ⟨ab, ao + i * 36 + 1, none⟩ = some (.int .u64 F.n) ∧ w'.cell? ⟨ab, ao + i * 36 + 2, none⟩ = some (.int .i64 F.a) ∧ w'.cell? ⟨ab, ao + i * 36 + 3, none⟩ = some (.string F.s) ∧ w'.rangeAt ab (ao + i * 36 + 4) (nums .u8 F.D))
        (first | exact LK.out _ B0.out | exact LK.out _ B1.out | exact LK.out _ B2.out | exact LK.out _ B3.out | exact LK.out _ B4.out | exact LK.out _ B5.out)
        (first
          | (go_at_call 9; (with_reducible refine (K1.out _ W0.out).mono ?_); rintro x w1 ⟨rfl, hW1, hb1, _⟩; have W1 := Aside0.mk hW1; have B1 := Aside0.mk (B0.out.trans hb1); clear hW1 hb1)
          | (go_at_call 20; (with_reducible refine (K2.out _ W1.out).mono ?_); rintro x w2 ⟨rfl, hW1, hb1, _⟩; have W2 := Aside0.mk hW1; have B2 := Aside0.mk (B1.out.trans hb1); clear hW1 hb1)
          | (go_at_call 11; (with_reducible refine (K3.out _ W2.out).mono ?_); rintro x w3 ⟨rfl, hW1, hb1, _⟩; have W3 := Aside0.mk hW1; have B3 := Aside0.mk (B2.out.trans hb1); clear hW1 hb1)
          | (go_at_call 10; (with_reducible refine (K4.out _ W3.out).mono ?_); rintro x w4 ⟨rfl, hW1, hb1, _⟩; have W4 := Aside0.mk hW1; have B4 := Aside0.mk (B3.out.trans hb1); clear hW1 hb1)
          | (go_at_call 24; (refine (K5.out _ W4.out).mono ?_); rintro x w5 ⟨rfl, hW1, hb1, _⟩; have W5 := Aside0.mk hW1; have B5 := Aside0.mk (B4.out.trans hb1); clear hW1 hb1))
      go_wp2_with fail
      go_roundw
      case rel => exact ⟨i + 1, by omega, by go_num, ⟨by rw [← HT.out]; have := W5.out; unfold encF; simp only [List.append_assoc] at this ⊢; exact this⟩, ⟨by rw [← HT.out, List.length_append]; have := HL.out; have := HE.out; omega⟩, B5⟩
      case measure => simp [intOf]; omega
    · have h60' := h60
      have htk : fs.take i = fs := List.take_of_length_le (by omega)
      rw [htk] at HW
      have hL2 := ALL.out.2
      obtain ⟨L, hLL⟩ : ∃ L, L = (fs.map encF).flatten := ⟨_, rfl⟩
      rw [← hLL] at HW hL2
      have HLL := Aside0.mk hLL
      have KO := Aside0.mk (out_calls W.heap.size L wr HW.out (by omega))
      clear htk HL hLL
      go_wp2_with fail
      (with_reducible refine KO.out.mono ?_)
      rintro e w6 ⟨A6, rfl, hC6, hz6, hb6⟩
      have B6 := Aside0.mk (below_step HBe.out hb6)
      have KR := Aside0.mk (ReadW.read_calls A6 L.length L w6 hC6 hz6 (by omega))
      clear hC6 hz6 hb6 KO
      go_wp2_with fail
      (with_reducible refine KR.out.mono ?_)
      rintro e w7 ⟨gr, rfl, hgr, hR7, hb7⟩
      have B7 := Aside0.mk (below_step B6.out hb7)
      have HGR : Aside0 (W.heap.size ≤ gr) := ⟨Nat.le_trans B6.out.size hgr⟩
      have R7 := Aside0.mk hR7
      clear hgr hR7 hb7 KR HW HBe B6
      go_wp2_with fail
      go_loopw [6] (fun v6 wr => RelB W fs 60 gr v6 wr) (fun v6 _ => 60 - (intOf v6).toNat)
      case atStart => exact ⟨0, by omega, rfl, ⟨by rw [List.drop_zero, ← HLL.out]; exact R7.out⟩, B7⟩
      case round =>
        obtain ⟨i, hi, rfl, HR, HBe⟩ := hrel
        by_cases hlt : i < 60
        · have hlt' : i < fs.length := by omega
          have hd : ((fs.drop i).map encF).flatten = encF fs[i] ++ ((fs.drop (i + 1)).map encF).flatten := by rw [List.drop_eq_getElem_cons hlt', List.map_cons, List.flatten_cons]
          have hok2 : Ok ((fs.drop i).map encF).flatten := by
            have := all_ok (fs.drop i) fun F hF' => ALLF.out F (List.mem_of_mem_drop hF')
            refine ⟨this.1, ?_⟩
            have h2 := this.2
            rw [List.length_drop] at h2
            omega
          obtain ⟨adk, rfl, hck, hok⟩ := HF.out i hlt'
          rw [hd, enc_right] at HR hok2
          generalize fs[i] = F at *
          have RN : ∃ R, R = ((fs.drop (i + 1)).map encF).flatten := ⟨_, rfl⟩
          obtain ⟨R, hRR⟩ := RN
          rw [← hRR] at HR hok2
          have HRR := Aside0.mk hRR
          have O1 := Aside0.mk hok2
          have O2 := Aside0.mk hok2.right
          have O3 := Aside0.mk hok2.right.right
          have O4 := Aside0.mk hok2.right.right.right
          have O5 := Aside0.mk hok2.right.right.right.right
          clear hd hRR hok2
          have hcs : ∀ j v, (fcells F)[j]? = some v → wr.cell? ((adk.add (i * 36)).add j) = some v := fun j v hj => by
            have h1 := hck j v hj
            exact (HBe.out.cell (World.block_lt_of_cell? W _ h1)).trans h1
          have HCS := Aside0.mk hcs
          have IF := Aside0.mk (infoF hok)
          have IL := Aside0.mk (infoFL hok)
          have HN := Aside0.mk (blk_new wr (Obj.cells #[Value.int .i64 0, Value.int .u64 0, Value.int .i64 0, Value.string { data := #[] }, Value.int .u8 0, Value.int .u8 0, Value.int .u8 0, Value.int .u8 0, Value.int .u8 0, Value.int .u8 0, Value.int .u8 0, Value.int .u8 0, Value.int .u8 0, Value.int .u8 0, Value.int .u8 0, Value.int .u8 0, Value.int .u8 0, Value.int .u8 0, Value.int .u8 0, Value.int .u8 0, Value.int .u8 0, Value.int .u8 0, Value.int .u8 0, Value.int .u8 0, Value.int .u8 0, Value.int .u8 0, Value.int .u8 0, Value.int .u8 0, Value.int .u8 0, Value.int .u8 0, Value.int .u8 0, Value.int .u8 0, Value.int .u8 0, Value.int .u8 0, Value.int .u8 0, Value.int .u8 0] 43))
          have SZ : Aside0 ((#[Value.int .i64 0, Value.int .u64 0, Value.int .i64 0, Value.string { data := #[] }, Value.int .u8 0, Value.int .u8 0, Value.int .u8 0, Value.int .u8 0, Value.int .u8 0, Value.int .u8 0, Value.int .u8 0, Value.int .u8 0, Value.int .u8 0, Value.int .u8 0, Value.int .u8 0, Value.int .u8 0, Value.int .u8 0, Value.int .u8 0, Value.int .u8 0, Value.int .u8 0, Value.int .u8 0, Value.int .u8 0, Value.int .u8 0, Value.int .u8 0, Value.int .u8 0, Value.int .u8 0, Value.int .u8 0, Value.int .u8 0, Value.int .u8 0, Value.int .u8 0, Value.int .u8 0, Value.int .u8 0, Value.int .u8 0, Value.int .u8 0, Value.int .u8 0, Value.int .u8 0] : Array Value).size = (fcells F).toArray.size) := ⟨(show (#[Value.int .i64 0, Value.int .u64 0, Value.int .i64 0, Value.string { data := #[] }, Value.int .u8 0, Value.int .u8 0, Value.int .u8 0, Value.int .u8 0, Value.int .u8 0, Value.int .u8 0, Value.int .u8 0, Value.int .u8 0, Value.int .u8 0, Value.int .u8 0, Value.int .u8 0, Value.int .u8 0, Value.int .u8 0, Value.int .u8 0, Value.int .u8 0, Value.int .u8 0, Value.int .u8 0, Value.int .u8 0, Value.int .u8 0, Value.int .u8 0, Value.int .u8 0, Value.int .u8 0, Value.int .u8 0, Value.int .u8 0, Value.int .u8 0, Value.int .u8 0, Value.int .u8 0, Value.int .u8 0, Value.int .u8 0, Value.int .u8 0, Value.int .u8 0, Value.int .u8 0] : Array Value).size = 36 from rfl).trans (by rw [List.size_toArray, fcells_length hok])⟩
          have FO := Aside0.mk (fcells_one F)
          have OK := Aside0.mk hok
          have hi0 : (0 : Int) ≤ (i : Int) := by omega
          have hi1 : (i : Int) < 60 := by omega
          clear hcs hck
          go_upto_region 13 with (first
            | (with_reducible refine wpList_load_at rfl 43 (.tmp 64) rfl (adk.add (i * 36)) rfl (fcells F) _ HCS.out Try.underlying43 rfl IL.out ?_)
            | (with_reducible refine wpList_store_row rfl 43 (.tmp 7) (.tmp 65) rfl wr.heap.size (fcells F).toArray rfl rfl 43 #[Value.int .i64 0, Value.int .u64 0, Value.int .i64 0, Value.string { data := #[] }, Value.int .u8 0, Value.int .u8 0, Value.int .u8 0, Value.int .u8 0, Value.int .u8 0, Value.int .u8 0, Value.int .u8 0, Value.int .u8 0, Value.int .u8 0, Value.int .u8 0, Value.int .u8 0, Value.int .u8 0, Value.int .u8 0, Value.int .u8 0, Value.int .u8 0, Value.int .u8 0, Value.int .u8 0, Value.int .u8 0, Value.int .u8 0, Value.int .u8 0, Value.int .u8 0, Value.int .u8 0, Value.int .u8 0, Value.int .u8 0, Value.int .u8 0, Value.int .u8 0, Value.int .u8 0, Value.int .u8 0, Value.int .u8 0, Value.int .u8 0, Value.int .u8 0, Value.int .u8 0] HN.out IF.out SZ.out FO.out ?_))
          obtain ⟨h61, h62, h63⟩ := six_ wr #[Value.int .i64 0, Value.int .u64 0, Value.int .i64 0, Value.string { data := #[] }, Value.int .u8 0, Value.int .u8 0, Value.int .u8 0, Value.int .u8 0, Value.int .u8 0, Value.int .u8 0, Value.int .u8 0, Value.int .u8 0, Value.int .u8 0, Value.int .u8 0, Value.int .u8 0, Value.int .u8 0, Value.int .u8 0, Value.int .u8 0, Value.int .u8 0, Value.int .u8 0, Value.int .u8 0, Value.int .u8 0, Value.int .u8 0, Value.int .u8 0, Value.int .u8 0, Value.int .u8 0, Value.int .u8 0, Value.int .u8 0, Value.int .u8 0, Value.int .u8 0, Value.int .u8 0, Value.int .u8 0, Value.int .u8 0, Value.int .u8 0, Value.int .u8 0, Value.int .u8 0] (fcells F).toArray
          generalize hw6 : (wr.alloc (Obj.cells #[Value.int .i64 0, Value.int .u64 0, Value.int .i64 0, Value.string { data := #[] }, Value.int .u8 0, Value.int .u8 0, Value.int .u8 0, Value.int .u8 0, Value.int .u8 0, Value.int .u8 0, Value.int .u8 0, Value.int .u8 0, Value.int .u8 0, Value.int .u8 0, Value.int .u8 0, Value.int .u8 0, Value.int .u8 0, Value.int .u8 0, Value.int .u8 0, Value.int .u8 0, Value.int .u8 0, Value.int .u8 0, Value.int .u8 0, Value.int .u8 0, Value.int .u8 0, Value.int .u8 0, Value.int .u8 0, Value.int .u8 0, Value.int .u8 0, Value.int .u8 0, Value.int .u8 0, Value.int .u8 0, Value.int .u8 0, Value.int .u8 0, Value.int .u8 0, Value.int .u8 0] 43)).setRow wr.heap.size (fcells F).toArray = w8 at *
          have R8 := Aside0.mk (HR.out.below h62)
          have H8 := Aside0.mk h61
          have B8 := Aside0.mk (below_step HBe.out h62)
          have GL : Aside0 (gr ≠ wr.heap.size) := ⟨by have := HR.out.lt; omega⟩
          have SL : Aside0 (wr.heap.size < w8.heap.size) := ⟨by omega⟩
          have GW : Aside0 (W.heap.size ≤ wr.heap.size) := ⟨HBe.out.size⟩
          clear hw6 h61 h62 h63 HN SZ HCS IL IF FO HR HBe
          generalize wr.heap.size = g7 at *
          have SK : Aside0 (∀ w' : World, w'.heap[g7]? = some (.cells (fcells F).toArray 43 (0, 0)) → w'.cell? ⟨g7, 1, none⟩ = some (.int .u64 F.n) ∧ w'.cell? ⟨g7, 2, none⟩ = some (.int .i64 F.a) ∧ w'.cell? ⟨g7, 3, none⟩ = some (.string F.s) ∧ w'.rangeAt g7 4 (nums .u8 F.D)) := ⟨fun w' h => by
            obtain ⟨_, c1, c2, c3, c4⟩ := fcell h
            exact ⟨c1, c2, c3, fun j v hj => by have := c4 j v hj; rwa [add_at] at this⟩⟩
          obtain ⟨c1, c2, c3, c4⟩ := SK.out _ H8.out
          have C4 := Aside0.mk c4
          clear c4
          by_cases hbig : (16384 : Int) < (F.s.size : Int)
          · go_wp2_with fail
            (with_reducible refine (awake_calls _).mono ?_)
            rintro x w9 ⟨rfl, hb9⟩
            have B9 := Aside0.mk (below_step B8.out hb9)
            clear hb9
            go_wp2_with fail
            go_ret
            exact ⟨rfl, B9.out⟩
          · have hs16 : F.s.size ≤ 16384 := by omega
            have K1 := Aside0.mk (fun w' h => r_num gr F.n _ w' h OK.out.n O1.out)
            have K2 := Aside0.mk (fun w' h => r_int gr F.a _ w' h OK.out.a0 OK.out.a1 O2.out)
            have K3 := Aside0.mk (fun w' h => r_flag gr ((F.n : Int).tmod 2 == 1) _ w' h O3.out)
            have K4 := Aside0.mk (fun w' h => r_text gr F.s _ w' h hs16 O4.out)
            have K5 := Aside0.mk (fun w' h => r_dig gr F.D R w' h OK.out.len O5.out)
            have K6 := Aside0.mk (fun w' h => error_calls gr R 0 w' h)
            have u41 := Try.underlying41
            have i41 : (Try.prog.info? 41).map (·.size) = some (nums .u8 F.D).length := by rw [nums_length, OK.out.len]; exact info41
            have qe := fun w => dig_same OK.out.len OK.out.bytes w
            have R0 : Aside0 (Rdr w8.drew gr _ 0) := ⟨R8.out⟩
            have H0 : Aside0 (w8.drew.heap[g7]? = some _) := ⟨H8.out⟩
            have B0 : Aside0 (Below W.heap.size W w8.drew) := ⟨B8.out.drew⟩
            have SL0 : Aside0 (g7 < w8.drew.heap.size) := ⟨SL.out⟩
            go_wp2_with fail
            go_region_held3 (fun w' => w'.cell? ⟨g7, 1, none⟩ = some (.int .u64 F.n) ∧ w'.cell? ⟨g7, 2, none⟩ = some (.int .i64 F.a) ∧ w'.cell? ⟨g7, 3, none⟩ = some (.string F.s) ∧ w'.rangeAt g7 4 (nums .u8 F.D))
              (first | exact SK.out _ H0.out | exact SK.out _ H1.out | exact SK.out _ H2.out | exact SK.out _ H3.out | exact SK.out _ H4.out | exact SK.out _ H5.out)
              (first
                | (go_at_call 15; (with_reducible refine (K1.out _ R0.out).mono ?_); rintro x w11 ⟨rfl, hR1, hg1⟩; have R1 := Aside0.mk hR1; have B1 := Aside0.mk (B0.out.grown hg1 B0.out.size (fun k hk => by injection hk with hk; subst hk; exact HGR.out)); have H1 : Aside0 (w11.heap[g7]? = some _) := ⟨(hg1.block g7 SL0.out (fun x => GL.out (by injection x with x; exact x.symm))).trans H0.out⟩; have SL1 : Aside0 (g7 < w11.heap.size) := ⟨Nat.lt_of_lt_of_le SL0.out hg1.size⟩; clear hR1 hg1)
                | (go_at_call 27; (with_reducible refine (K2.out _ R1.out).mono ?_); rintro x w12 ⟨rfl, hR1, hg1⟩; have R2 := Aside0.mk hR1; have B2 := Aside0.mk (B1.out.grown hg1 B1.out.size (fun k hk => by injection hk with hk; subst hk; exact HGR.out)); have H2 : Aside0 (w12.heap[g7]? = some _) := ⟨(hg1.block g7 SL1.out (fun x => GL.out (by injection x with x; exact x.symm))).trans H1.out⟩; have SL2 : Aside0 (g7 < w12.heap.size) := ⟨Nat.lt_of_lt_of_le SL1.out hg1.size⟩; clear hR1 hg1)
                | (go_at_call 17; (with_reducible refine (K3.out _ R2.out).mono ?_); rintro x w13 ⟨rfl, hR1, hg1⟩; have R3 := Aside0.mk hR1; have B3 := Aside0.mk (B2.out.grown hg1 B2.out.size (fun k hk => by injection hk with hk; subst hk; exact HGR.out)); have H3 : Aside0 (w13.heap[g7]? = some _) := ⟨(hg1.block g7 SL2.out (fun x => GL.out (by injection x with x; exact x.symm))).trans H2.out⟩; have SL3 : Aside0 (g7 < w13.heap.size) := ⟨Nat.lt_of_lt_of_le SL2.out hg1.size⟩; clear hR1 hg1)
                | (go_at_call 16; (with_reducible refine (K4.out _ R3.out).mono ?_); rintro x w14 ⟨rfl, hR1, hg1⟩; have R4 := Aside0.mk hR1; have B4 := Aside0.mk (B3.out.grown hg1 B3.out.size (fun k hk => by injection hk with hk; subst hk; exact HGR.out)); have H4 : Aside0 (w14.heap[g7]? = some _) := ⟨(hg1.block g7 SL3.out (fun x => GL.out (by injection x with x; exact x.symm))).trans H3.out⟩; have SL4 : Aside0 (g7 < w14.heap.size) := ⟨Nat.lt_of_lt_of_le SL3.out hg1.size⟩; clear hR1 hg1)
                | (go_at_call 30; (refine (K5.out _ R4.out).mono ?_); rintro x w15 ⟨rfl, hR1, hg1⟩; have R5 := Aside0.mk hR1; have B5 := Aside0.mk (B4.out.grown hg1 B4.out.size (fun k hk => by injection hk with hk; subst hk; exact HGR.out)); have H5 : Aside0 (w15.heap[g7]? = some _) := ⟨(hg1.block g7 SL4.out (fun x => GL.out (by injection x with x; exact x.symm))).trans H4.out⟩; have SL5 : Aside0 (g7 < w15.heap.size) := ⟨Nat.lt_of_lt_of_le SL4.out hg1.size⟩; clear hR1 hg1)
                | (go_at_call 34; (with_reducible refine (K6.out _ R5.out).mono ?_); rintro x w16 ⟨rfl, rfl⟩))
            go_wp2_with fail
            go_roundw
            case rel => exact ⟨i + 1, by omega, by go_num, ⟨by rw [← HRR.out]; exact R5.out⟩, B5⟩
            case measure => simp [intOf]; omega
        · have he : ((fs.drop i).map encF).flatten = [] := by rw [List.drop_eq_nil_of_le (by omega)]; rfl
          rw [he] at HR
          clear he
          go_wp2_with fail
          (with_reducible refine (awake_calls _).mono ?_)
          rintro x w9 ⟨rfl, hb9⟩
          have B9 := Aside0.mk (below_step HBe.out hb9)
          have R9 := Aside0.mk (HR.out.below hb9)
          have KE := Aside0.mk (end_calls gr [] 0 w9 R9.out (by simp))
          rw [end_zero] at KE
          clear hb9
          go_wp2_with fail
          (with_reducible refine KE.out.mono ?_)
          rintro x w10 ⟨rfl, _, hg10⟩
          have B10 := Aside0.mk (B9.out.grown hg10 B9.out.size (fun k hk => by injection hk with hk; subst hk; exact HGR.out))
          clear hg10
          go_wp2_with fail
          go_ret
          exact ⟨rfl, B10.out⟩
end Go.Proofs.Ytnfajlnpmndkdaa.BackX
namespace Go.Proofs.Ytnfajlnpmndkdaa.Hand
set_option linter.unusedVariables false
open Go.RowKit Go.Proofs.Ytnfajlnpmndkdaa.Nums Go.Proofs.Ytnfajlnpmndkdaa.FieldIn Go.Proofs.Ytnfajlnpmndkdaa.BackX Go.Proofs.YtnfajlnpmndkdaaW.PrintWords
theorem PackBack (A0 : Option Addr) (c0 : Nat) (fs : List Fld) (W : World) (hc0 : fs.length ≤ c0) (hz0 : A0 = none → c0 = 0) (hl0 : fs.length ≤ 9223372036854775807) (hF : FieldsIn W A0 fs) (u0 : (fs.map fun F => F.s.size).sum + fs.length ≤ 1048576) :
    Calls Try.prog 6 #[.slice A0 fs.length c0] W fun e W' => e = .returned (.bool true) ∧ Below W.heap.size W W' := by
  have hs : ∀ F ∈ fs, F.s.size ≤ 1048576 := fun F hF' => by have := size_le fs F hF'; omega
  by_cases h : fs.length ≤ 60
  · exact back_small A0 c0 fs W hc0 h hF hs
  · refine back_big A0 c0 fs.length (fs.take 60) W hc0 (by rw [List.length_take]; omega) (by omega) (by omega) (fun i hi => ?_) (fun F hF' => hs F (List.mem_of_mem_take hF'))
    have hi' : i < fs.length := by rw [List.length_take] at hi; omega
    rw [List.getElem_take]
    exact hF i hi'
end Go.Proofs.Ytnfajlnpmndkdaa.Hand
