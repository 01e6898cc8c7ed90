/- Write, walked: more of a text. No condition. -/
import Derived.Test.YtbkocnclaobabaaDoorHashW
namespace Go.Proofs.YtbkocnclaobabaaDoor.WriteW
set_option linter.unusedVariables false
set_option linter.unusedSimpArgs false
open Go.RowKit Go.Proofs.YtbkocnclaobabaaDoor.PAll Go.Proofs.YtbkocnclaobabaaDoor.Nums Go.Proofs.YtbkocnclaobabaaDoor.PutM Go.Proofs.YtbkocnclaobabaaDoor.Libs Go.Proofs.YtbkocnclaobabaaDoor.ShaM Go.Proofs.YtbkocnclaobabaaDoor.WriteM Go.Proofs.YtbkocnclaobabaaDoor.Arr Go.Proofs.YtbkocnclaobabaaDoor.SchedW Go.Proofs.YtbkocnclaobabaaDoor.NewW Go.Proofs.YtbkocnclaobabaaDoor.MixW Go.Proofs.YtbkocnclaobabaaDoor.App Go.Proofs.YtbkocnclaobabaaDoor.HashW Go.Proofs.YtbkocnclaobabaaDoorW.PrintWords Go.Proofs.YtbkocnclaobabaaDoorW.PrintLast Go.Proofs.YtbkocnclaobabaaDoorW.PrintMore
theorem _root_.Go.Proofs.YtbkocnclaobabaaDoor.ShaM.Glob.sav {g : Nat} {w w' : World} (h : Glob w) (hs : Sav g w w') (hg : 0 < g) : Glob w' := fun j u hu => by
  rw [World.cell?_of_block (w := w) (hs.block 0 h.pos (by omega))]; exact h j u hu
def slen : Value → Nat
  | .slice _ n _ => n
  | _ => 0
/-- What the rounds hold. -/
def RelW (g : Nat) (X : List Int) (c : Nat) (now : List Int) (v : Value) (n : Int) (W3 : World) (v4 : Value) (wr : World) : Prop :=
  ∃ (k : Nat) (A4 : Option Addr), 64 * k ≤ X.length ∧ v4 = .slice A4 (X.length - 64 * k) (c - 64 * k) ∧ Aside0 (A4 = none → c - 64 * k = 0) ∧ Aside0 ((Kd.int .u8).C wr A4 (X.drop (64 * k)).length (X.drop (64 * k))) ∧ Aside0 (∀ ad, A4 = some ad → 0 < (X.drop (64 * k)).length → ad.block ≠ g) ∧ Aside0 (HashAt wr g (eatN k now X) v n) ∧ Aside0 (Sav g W3 wr)
set_option maxHeartbeats 1000000 in
set_option maxRecDepth 100000 in
theorem write_calls (lo g : Nat) (l b : List Int) (W : World) (hG : Glob W) (hg0 : 0 < g) (hH : HashT lo W g l) (B : Option Addr) (c : Nat) (hC : (Kd.int .u8).C W B b.length b) (hc : b.length ≤ c) (hn : B = none → c = 0) (hB : Bytes b)
    (hm : b.length ≤ 140737488351232) (hl : l.length + b.length < 4611686018427387904) (hsep : ∀ ad, B = some ad → 0 < b.length → ad.block ≠ g) :
    Calls Tryd.prog 14 #[.pointer (some ⟨g, 0, none⟩), .slice B b.length c] W fun e w' => e = .returned (.tuple #[]) ∧ HashT lo w' g (l ++ b) ∧ Sav g W w' := by
  obtain ⟨hlt, hle, hby, A, cA, hA, hCA, hcA, hnA, hblk⟩ := hH
  have hrl := restT_lt l
  have hn8 := nowT_length l
  have HWN := Aside0.mk (write_now l b)
  have HWR := Aside0.mk (write_rest l b)
  have HBY : Aside0 (Bytes (restT l ++ b)) := ⟨fun x hx => (List.mem_append.1 hx).elim (fun h => restT_mem hby x h) (fun h => hB x h)⟩
  have HBL : Aside0 (Bytes (l ++ b)) := ⟨fun x hx => (List.mem_append.1 hx).elim (fun h => hby x h) (fun h => hB x h)⟩
  have HG := Aside0.mk hG
  have HC := Aside0.mk hC
  have HA := Aside0.mk hA
  have HCA := Aside0.mk hCA
  have HBLK := Aside0.mk hblk
  have HSEP := Aside0.mk hsep
  have HNA := Aside0.mk hnA
  have HN := Aside0.mk hn
  have HLT := Aside0.mk hlt
  have HLE := Aside0.mk hle
  have c8 := at8 hA hn8
  have c9 := at9 hA hn8
  have f9 := atF hA 9
  have hwr : IntKind.i64.wrap ((l.length : Int) + (b.length : Int)) = (l.length : Int) + (b.length : Int) := by rw [IntKind.wrap_i64]; omega
  clear hG hC hA hCA hblk hsep hnA hn hB hlt hle hby
  generalize restT l = r at *
  go_enter Tryd.func14, Tryd.ntmps14
  go_wp2_with fail
  have HA2 := Aside0.mk (set9 HA.out hn8 ((l.length : Int) + (b.length : Int)))
  have SV2 : Aside0 (Sav g W (W.setCell ⟨g, 9, none⟩ (.int .i64 ((l.length : Int) + (b.length : Int))))) := ⟨Sav.setCell W _⟩
  generalize W.setCell ⟨g, 9, none⟩ (.int .i64 ((l.length : Int) + (b.length : Int))) = W2 at *
  clear c8 c9 f9 hwr
  have c8 := at8 HA2.out hn8
  have HC2 : Aside0 ((Kd.int .u8).C W2 B b.length b) := ⟨Kd.C_keep 0 HC.out (keep_of_sav SV2.out) HSEP.out⟩
  have HCA2 : Aside0 ((Kd.int .u8).C W2 A r.length r) := ⟨Kd.C_keep 0 HCA.out (keep_of_sav SV2.out) fun ad e _ => by have := (HBLK.out ad e).1; have := HLT.out; omega⟩
  have hcut : ∀ W : World, (Instr.slice 28 (.slice A r.length cA) none (some (.int .i64 (r.length : Int))) (some (.int .i64 (r.length : Int)))).run Tryd.prog W = .ok (.slice A r.length r.length) W := Ops.cut_clip A r.length cA hcA (by omega)
  have CC := HCA2.out
  have CB := HC2.out
  have hm2 : r.length + b.length ≤ 140737488355328 := by omega
  have NN := HN.out
  have S0 : Aside0 (W2.drew.cell? ⟨g, 8, none⟩ = some (.slice A r.length cA)) := ⟨c8⟩
  go_region_held3 (fun w' : World => w'.cell? ⟨g, 8, none⟩ = some (.slice A r.length cA)) (first | exact S0.out | exact S3.out)
    (first
    | (refine step_app rfl (.tmp 30) (.tmp 31) rfl A r (by simp [Act.eval, Act.put]) (Kd.C_below HCA2.out (Below.refl _ _).drew) B c b (by simp [Act.eval, Act.put]) (Kd.C_below HC2.out (Below.refl _ _).drew) HN.out hm2 ?_; intro A3 c3 W3 hC3 hc3 hn3 hb3 _ hw3; have S3 : Aside0 (W3.cell? ⟨g, 8, none⟩ = some (.slice A r.length cA)) := ⟨(hb3.cell (p := ⟨g, 8, none⟩) (HashAt.lt HA2.out)).trans c8⟩))
  have hal : r.length + b.length = (r ++ b).length := List.length_append.symm
  rw [hal]
  have HC3 := Aside0.mk hC3
  have HC3c := hc3
  have SV3 : Aside0 (Sav g W2 W3) := ⟨⟨hb3.os, hb3.tape, hb3.output, hb3.size, fun k hk _ => hb3.block k hk⟩⟩
  have HA3 : Aside0 (HashAt W3 g (nowT l) (.slice A r.length cA) ((l.length : Int) + (b.length : Int))) := ⟨HashAt.move HA2.out (hb3.block g (HashAt.lt HA2.out))⟩
  have HG3 : Aside0 (Glob W3) := ⟨HG.out.sav (SV2.out.trans SV3.out) hg0⟩
  have HF3 : Aside0 (∀ ad, A3 = some ad → 0 < (r ++ b).length → ad.block ≠ g) := ⟨fun ad e _ => by
    have h1 := HLT.out
    have h2 := HLE.out
    have h3 := SV2.out.size
    rcases hw3 ad e with h | ⟨h, _⟩
    · have := (HBLK.out ad h).1; omega
    · have h' : W2.heap.size ≤ ad.block := h
      omega⟩
  clear hw3
  generalize hX : r ++ b = X at *
  have HX := Aside0.mk hX
  clear hX hC3 hc3 hb3 hcut c8 CC CB HC2 HCA2 hm2
  go_wp2_with fail
  go_loopw [4] (fun v4 wr => RelW g X c3 (nowT l) (.slice A r.length cA) ((l.length : Int) + (b.length : Int)) W3 v4 wr) (fun v4 _ => slen v4)
  case atStart => exact ⟨0, A3, by omega, rfl, ⟨hn3⟩, HC3, HF3, HA3, ⟨Sav.refl g W3⟩⟩
  case round =>
    obtain ⟨k, A4, hk, rfl, HN4, HC4, HF4, HA4, SV4⟩ := hrel
    by_cases hlt : 64 ≤ X.length - 64 * k
    · have hlt1 : (64 : Int) ≤ ((X.length - 64 * k : Nat) : Int) := by omega
      obtain ⟨i0, hi0, _, hsz, _⟩ := info_parts Libs.info5
      have hdl : (X.drop (64 * k)).length = X.length - 64 * k := List.length_drop
      have hct := cut_to (P := Tryd.prog) 28 5 .i64 Tryd.underlying28 hi0 A4 (X.length - 64 * k) (c3 - 64 * k) 64 (by omega) (by omega) (by omega)
      have hcf := cut_from (P := Tryd.prog) 28 5 .i64 Tryd.underlying28 hi0 1 hsz A4 (X.length - 64 * k) (c3 - 64 * k) 64 (by omega) (by omega)
      rw [show (64 : Int).toNat = 64 from rfl] at hct hcf
      have CB := Aside0.mk (Kd.C_take (m := 64) HC4.out (by omega))
      have CD := Aside0.mk (Kd.C_drop (m := 64) (c := c3 - 64 * k) HC4.out (by omega) (by omega))
      have hbl : ((X.drop (64 * k)).take 64).length = 64 := by rw [List.length_take]; omega
      have hul : (eatN k (nowT l) X).length = 8 := by rw [eatN_length]; exact hn8
      have HU : Aside0 (eatN (k + 1) (nowT l) X = mixR (eatN k (nowT l) X) ((X.drop (64 * k)).take 64)) := ⟨rfl⟩
      generalize eatN k (nowT l) X = u at *
      obtain ⟨u0, u1, u2, u3, u4, u5, u6, u7, rfl⟩ : ∃ v0 v1 v2 v3 v4 v5 v6 v7, u = [v0, v1, v2, v3, v4, v5, v6, v7] := by
        match u, hul with
        | [s0, s1, s2, s3, s4, s5, s6, s7], _ => exact ⟨s0, s1, s2, s3, s4, s5, s6, s7, rfl⟩
      have HBX : Aside0 (Bytes ((X.drop (64 * k)).take 64)) := ⟨bytes_take (bytes_drop HBY.out _) _⟩
      have G : Aside0 (∀ w, Below wr.heap.size wr w → Calls Tryd.prog 20 #[.agg #[.int .u32 u0, .int .u32 u1, .int .u32 u2, .int .u32 u3, .int .u32 u4, .int .u32 u5, .int .u32 u6, .int .u32 u7], .slice A4 64 (c3 - 64 * k)] w fun e w' => e = .returned (.agg (nums .u32 (mixR [u0, u1, u2, u3, u4, u5, u6, u7] ((X.drop (64 * k)).take 64))).toArray) ∧ Below w.heap.size w w') := ⟨fun w hb => mix_calls [u0, u1, u2, u3, u4, u5, u6, u7] rfl A4 (c3 - 64 * k) ((X.drop (64 * k)).take 64) w (Glob.below (Glob.sav HG3.out SV4.out hg0) hb) (Kd.C_below CB.out hb) (by omega) hbl HBX.out⟩
      have hRl : (mixR [u0, u1, u2, u3, u4, u5, u6, u7] ((X.drop (64 * k)).take 64)).length = 8 := by rw [mixR_length]; rfl
      generalize mixR [u0, u1, u2, u3, u4, u5, u6, u7] ((X.drop (64 * k)).take 64) = R at *
      have e0 : wr.cell? ⟨g, 0, none⟩ = some (.int .u32 u0) := atN HA4.out 0 (by simp)
      have e1 : wr.cell? ⟨g, 1, none⟩ = some (.int .u32 u1) := atN HA4.out 1 (by simp)
      have e2 : wr.cell? ⟨g, 2, none⟩ = some (.int .u32 u2) := atN HA4.out 2 (by simp)
      have e3 : wr.cell? ⟨g, 3, none⟩ = some (.int .u32 u3) := atN HA4.out 3 (by simp)
      have e4 : wr.cell? ⟨g, 4, none⟩ = some (.int .u32 u4) := atN HA4.out 4 (by simp)
      have e5 : wr.cell? ⟨g, 5, none⟩ = some (.int .u32 u5) := atN HA4.out 5 (by simp)
      have e6 : wr.cell? ⟨g, 6, none⟩ = some (.int .u32 u6) := atN HA4.out 6 (by simp)
      have e7 : wr.cell? ⟨g, 7, none⟩ = some (.int .u32 u7) := atN HA4.out 7 (by simp)
      have hRn : (nums .u32 R).length = 8 := by rw [nums_length, hRl]
      have HHT := Aside0.mk (fun w h => setNow (P := Tryd.prog) (w := w) (HashAt.move HA4.out h) rfl R hRl)
      have X0 : Aside0 (Below wr.heap.size wr wr.drew) := ⟨(Below.refl _ _).drew⟩
      go_wp2_with fail
      go_region_law (first
        | (go_simp; go_at_call 20; (with_reducible refine (G.out _ X0.out).mono ?_); rintro x w1 ⟨rfl, hb1⟩; obtain ⟨w2, hst, hA5, hO5⟩ := HHT.out w1 (hb1.block g (HashAt.lt HA4.out)); have A5 := Aside0.mk hA5; have O5 := Aside0.mk hO5; have B1 := Aside0.mk hb1; clear hA5 hO5 hb1))
      have HF5 : Aside0 (∀ ad, (if c3 - 64 * k = 64 then A4 else A4.map (·.add (64 * 1))) = some ad → 0 < ((X.drop (64 * k)).drop 64).length → ad.block ≠ g) := ⟨fun ad e hp => by
        rw [List.length_drop] at hp
        split at e
        · exact HF4.out ad e (by omega)
        · cases hA4 : A4 with
          | none => rw [hA4] at e; simp at e
          | some a4 =>
            rw [hA4] at e
            simp at e
            rw [← e, add_block]
            exact HF4.out a4 hA4 (by omega)⟩
      have HN5 : Aside0 ((if c3 - 64 * k = 64 then A4 else A4.map (·.add (64 * 1))) = none → c3 - 64 * k = 0) := ⟨fun e => by
        split at e
        · exact HN4.out e
        · cases hA4 : A4 with
          | none => exact HN4.out hA4
          | some a4 => rw [hA4] at e; simp at e⟩
      rw [show 64 * (Kd.int .u8).sz = 64 * 1 from rfl] at CD
      generalize (if c3 - 64 * k = 64 then A4 else A4.map (·.add (64 * 1))) = A5' at *
      have SV5 : Aside0 (Sav g wr w2) := ⟨(Sav.of_below (w := wr) ⟨B1.out.os, B1.out.tape, B1.out.output, B1.out.size, B1.out.block⟩).trans (Sav.of_only O5.out)⟩
      have CD5 : Aside0 ((Kd.int .u8).C w2 A5' ((X.drop (64 * k)).drop 64).length ((X.drop (64 * k)).drop 64)) := ⟨Kd.C_keep 0 CD.out (keep_of_sav SV5.out) HF5.out⟩
      clear hst HHT e0 e1 e2 e3 e4 e5 e6 e7 hRn
      go_wp2_with fail
      go_roundw
      case rel =>
        have e1 : X.length - 64 * k - 64 = X.length - 64 * (k + 1) := by omega
        have e2 : c3 - 64 * k - 64 = c3 - 64 * (k + 1) := by omega
        have e3 : (X.drop (64 * k)).drop 64 = X.drop (64 * (k + 1)) := by rw [List.drop_drop]; rfl
        rw [e3] at CD5 HF5
        exact ⟨k + 1, A5', by omega, by rw [e1, e2], ⟨fun e => absurd (HN5.out e) (by omega)⟩, CD5, HF5, ⟨by rw [HU.out]; exact A5.out⟩, ⟨SV4.out.trans SV5.out⟩⟩
      case measure => simp [slen]; omega
    · have hkq : k = X.length / 64 := by omega
      have hnow : eatN k (nowT l) X = nowT (l ++ b) := by rw [← HWN.out, hkq]
      have hrest : X.drop (64 * k) = restT (l ++ b) := by rw [← HWR.out, hkq]
      have hdl : (X.drop (64 * k)).length = X.length - 64 * k := List.length_drop
      rw [hnow] at HA4
      have hY : (X.drop (64 * k)).length < 64 := by omega
      rw [hrest] at HC4 HF4 hdl hY
      have hn8' := nowT_length (l ++ b)
      have HE : Aside0 (X.length - 64 * k = (restT (l ++ b)).length) := ⟨hdl.symm⟩
      have hlt1 : ¬ (64 : Int) ≤ ((restT (l ++ b)).length : Int) := by omega
      rw [HE.out]
      generalize hYY : restT (l ++ b) = Y at *
      have HYY := Aside0.mk hYY
      clear hYY
      clear hnow hrest hlt hdl
      have hlen8 : (nowT (l ++ b)).length = 8 := nowT_length _
      go_wp2_with (first
        | ((with_reducible refine wpList_app rfl (.const (.slice none 0 0)) (.tmp 49) rfl none [] rfl (Kd.C_nil _ _) A4 (c3 - 64 * k) Y rfl HC4.out HN4.out (by simp; omega) ?_); intro A6 c6 W6 hC6 hc6 hn6 hb6 _ hw6; have HA6 := Aside0.mk (HashAt.move HA4.out (hb6.block g (HashAt.lt HA4.out))); have c8 := at8 HA6.out hlen8; have f8 := atF HA6.out 8; have HC6 := Aside0.mk hC6; have HB6 := Aside0.mk hb6; have HW6 := Aside0.mk hw6; have HC6c := Aside0.mk hc6; have HN6 := Aside0.mk hn6; clear hC6 hb6 hw6 hc6 hn6))
      have hY2 : restT (l ++ b) = Y := HYY.out
      have BB6 : Aside0 (Sav g W W6) := ⟨(SV2.out.trans (SV3.out.trans SV4.out)).trans (Sav.of_below HB6.out)⟩
      have HH : HashT lo (W6.setCell ⟨g, 8, none⟩ (.slice A6 Y.length c6)) g (l ++ b) := by
        have hsz : (W6.setCell ⟨g, 8, none⟩ (.slice A6 Y.length c6)).heap.size = W6.heap.size := by simp [World.setCell]
        have hs := (Sav.setCell (g := g) (j := 8) W6 (.slice A6 Y.length c6))
        have h1 := HB6.out.size
        have h2 := (SV2.out.trans (SV3.out.trans SV4.out)).size
        have h3 := HLT.out
        have h4 := HLE.out
        have hbk : ∀ ad, A6 = some ad → wr.heap.size ≤ ad.block ∧ ad.block < W6.heap.size := fun ad e => (HW6.out ad e).elim (fun h => by cases h) id
        refine ⟨h3, by rw [hsz]; omega, HBL.out, A6, c6, ?_, ?_, ?_, HN6.out, ?_⟩
        · have := set8 HA6.out hlen8 (.slice A6 Y.length c6)
          rw [hY2, List.length_append]
          push_cast
          exact this
        · rw [hY2]
          exact Kd.C_keep 0 HC6.out (keep_of_sav hs) fun ad e _ => by have := (hbk ad e).1; omega
        · rw [hY2]; exact HC6c.out
        · intro ad e
          have := hbk ad e
          rw [hsz]
          omega
      go_end0
      exact ⟨rfl, HH, BB6.out.trans (Sav.setCell W6 _)⟩
end Go.Proofs.YtbkocnclaobabaaDoor.WriteW
