/- frame.Put, walked. No condition. -/
import Derived.Test.YtdabjklbmmnlkaaConcat
namespace Go.Proofs.Ytdabjklbmmnlkaa.PutW
set_option linter.unusedVariables false
set_option linter.unusedSimpArgs false
open Go.RowKit Go.Proofs.Ytdabjklbmmnlkaa.PAll Go.Proofs.Ytdabjklbmmnlkaa.Nums Go.Proofs.Ytdabjklbmmnlkaa.CrcM Go.Proofs.Ytdabjklbmmnlkaa.SumM Go.Proofs.Ytdabjklbmmnlkaa.PutM Go.Proofs.Ytdabjklbmmnlkaa.Libs Go.Proofs.Ytdabjklbmmnlkaa.Concat Go.Proofs.YtdabjklbmmnlkaaW.PrintWords Go.Proofs.YtdabjklbmmnlkaaW.PrintLast Go.Proofs.YtdabjklbmmnlkaaW.PrintMore
/-- A frame. -/
def frameN (l : List Int) : List Int := T l.length 4 ++ T (sumN [l]) 4 ++ l
theorem frameN_length (l : List Int) : (frameN l).length = l.length + 8 := by unfold frameN; simp [T_length]; omega
theorem own_lower {W : World} {base base' : Nat} {v : Value} {l : List Int} (h : OwnB W base' v l) (hb : base ≤ base') : OwnB W base v l :=
  ⟨h.1, h.2.imp id fun ⟨g, cap, cur, e, hg, r⟩ => ⟨g, cap, cur, e, Nat.le_trans hb hg, r⟩⟩
theorem put4_calls (n : Nat) (hn : n < 4294967296) (w : World) :
    Calls Try.prog 15 #[.int .u64 (n : Int), .int .i64 4] w fun e w' => ∃ A c, e = .returned (.tuple #[.slice A 4 c, .int .i64 0]) ∧ 4 ≤ c ∧ (Kd.int .u8).C w' A (T n 4).length (T n 4) ∧ (A = none → c = 0) ∧ Below w.heap.size w w' := by
  have h := put_eq 12 n 4 (by omega) (by omega)
  unfold putR at h
  rw [if_neg (by omega), if_neg (by show ¬ (256 ^ 4 ≤ n); omega)] at h
  refine (bits_Put.calls 12 n 4 _ _ w h).mono ?_
  rintro e w' ⟨v, rfl, hR, hb⟩
  obtain ⟨A, c, rfl, hc, hC⟩ := Kd.R_reads hR
  obtain ⟨inner, ho⟩ := Kd.R_own hR
  refine ⟨A, c, rfl, hc, hC, fun e => ?_, hb⟩
  subst e
  rcases ho.2 with ⟨h1, _⟩ | ⟨g, cap, cur, h1, _⟩
  · injection h1
  · simp at h1
theorem row1 (W : World) (A : Option Addr) (c : Nat) (l : List Int) (hC : (Kd.int .u8).C W A l.length l) (hc : l.length ≤ c) :
    (Kd.slice 5 (Kd.int .u8)).C (W.alloc (.cells #[.slice A l.length c] 22)) (some ⟨W.heap.size, 0, none⟩) 1 [l] := by
  have hb := blk_new W (.cells #[.slice A l.length c] 22)
  refine ⟨rfl, by simp, fun _ => ⟨_, rfl, fun j p hj => ?_⟩⟩
  cases j with
  | succ j => simp at hj
  | zero =>
    obtain rfl : l = p := by simpa using hj
    refine ⟨[.slice A l.length c], rfl, ⟨A, c, rfl, hc, Kd.C_below hC (below_alloc (Below.refl _ _) _)⟩, fun m u hu => ?_⟩
    cases m with
    | succ m => simp at hu
    | zero =>
      simp at hu
      subst hu
      have := blk_cell hb 0
      show World.cell? _ ((⟨W.heap.size, 0, none⟩ : Addr).add 0) = _
      rw [add_plain]
      exact this
theorem one_parts {l : List Int} (hb : Bytes l) (hl : l.length ≤ 9223372036854775807) : Parts [l] := ⟨by simp, fun x hx => by rw [List.mem_singleton.1 hx]; exact ⟨hb, hl⟩⟩
set_option maxHeartbeats 4000000 in
set_option maxRecDepth 100000 in
theorem put_calls (A : Option Addr) (c : Nat) (l : List Int) (W : World) (hC : (Kd.int .u8).C W A l.length l) (hc : l.length ≤ c) (hcap : A = none → c = 0) (hB : Bytes l) (hl : l.length ≤ 16384) :
    Calls Try.prog 8 #[.slice A l.length c] W fun e w' => ∃ v, e = .returned (.tuple #[v, .int .i64 0]) ∧ OwnB w' W.heap.size v (frameN l) ∧ Below W.heap.size W w' := by
  have HC := Aside0.mk hC
  have Hc := Aside0.mk hc
  have Hcap := Aside0.mk hcap
  have S1 := Aside0.mk (sum_eq (one_parts hB (by omega)) (l.length + 30) (by simp; omega))
  have SL := sumN_lt (one_parts hB (by omega))
  have P1 := fun w => put4_calls l.length (by omega) w
  have P2 := fun w => put4_calls (sumN [l]) SL w
  have FR : frameN l = T l.length 4 ++ T (sumN [l]) 4 ++ l := rfl
  have HF := Aside0.mk FR
  generalize hs : sumN [l] = s at *
  have w1 : IntKind.u64.wrap (l.length : Int) = (l.length : Int) := u64_in (by omega) (by omega)
  have w2 : IntKind.u64.wrap (s : Int) = (s : Int) := u64_in (by omega) (by omega)
  have ng : ¬ ((l.length : Int) > 16384) := by omega
  clear hC hc hcap FR hs
  go_enter Try.func8, Try.ntmps8
  go_wp2_with fail
  refine (P1 W).mono ?_
  rintro e W1 ⟨A1, c1, rfl, hc1, hC1, hn1, hb1⟩
  have B1 := Aside0.mk hb1
  have D1 := Aside0.mk hC1
  have N1 := Aside0.mk hn1
  clear hb1 hC1 hn1
  go_wp2_with fail
  refine (crc_Sum.calls _ (some ⟨W1.heap.size, 0, none⟩) 1 [l] _ _ (row1 W1 A c l (Kd.C_below HC.out B1.out) Hc.out) (by simp) S1.out).mono ?_
  rintro e W2 ⟨rfl, ⟨nd, hd⟩⟩
  have B2 : Aside0 (Below W.heap.size W W2) := ⟨by rw [hd]; exact pw_below_drewN (below_alloc B1.out _) nd⟩
  have D2 : Aside0 ((Kd.int .u8).C W2 A1 (T l.length 4).length (T l.length 4)) := ⟨by rw [hd]; exact Kd.C_below D1.out (pw_below_drewN (below_alloc (Below.refl _ _) _) nd)⟩
  clear hd D1
  go_wp2_with fail
  refine (P2 W2).mono ?_
  rintro e W3 ⟨A3, c3, rfl, hc3, hC3, hn3, hb3⟩
  have B3 : Aside0 (Below W.heap.size W W3) := ⟨below_step B2.out hb3⟩
  have D3 : Aside0 ((Kd.int .u8).C W3 A1 (T l.length 4).length (T l.length 4)) := ⟨Kd.C_below D2.out hb3⟩
  have E3 := Aside0.mk hC3
  have N3 := Aside0.mk hn3
  clear hb3 hC3 hn3 D2
  have NB := fun (o : Obj) => Below.alloc (w := W3) (Below.refl W3.heap.size W3) (Nat.le_refl _) o
  have K := Aside0.mk (concat3_calls W3.heap.size A1 c1 (T l.length 4) A3 c3 (T s 4) A c l (W3.alloc (.cells #[.slice A1 (T l.length 4).length c1, .slice A3 (T s 4).length c3, .slice A l.length c] 22)) (blk_new W3 _)
    (Kd.C_below D3.out (below_alloc (Below.refl _ _) _)) (Kd.C_below E3.out (below_alloc (Below.refl _ _) _)) (Kd.C_below HC.out (below_alloc B3.out _)) N1.out N3.out Hcap.out (by simp [T_length]; omega))
  simp only [T_length] at K
  clear NB
  go_wp2_with fail
  refine K.out.mono ?_
  rintro e W4 ⟨v, rfl, ho, hb4⟩
  have B4 : Aside0 (Below W.heap.size W W4) := ⟨below_step (below_alloc B3.out _) hb4⟩
  have O4 : Aside0 (OwnB W4 W.heap.size v (frameN l)) := ⟨by rw [HF.out]; exact own_lower ho (below_alloc B3.out _).size⟩
  clear ho hb4 K
  go_wp2_with fail
  go_ret2
  exact ⟨_, rfl, O4.out, B4.out⟩
theorem put_large (A : Option Addr) (c : Nat) (n : Nat) (W : World) (hl : 16384 < n) :
    Calls Try.prog 8 #[.slice A n c] W fun e w' => e = .returned (.tuple #[.slice none 0 0, .int .i64 17]) ∧ Below W.heap.size W w' := by
  have ng : ((n : Int) > 16384) := by omega
  go_enter Try.func8, Try.ntmps8
  go_wp2
  go_ret2
  exact ⟨rfl, Below.refl _ _⟩
end Go.Proofs.Ytdabjklbmmnlkaa.PutW
