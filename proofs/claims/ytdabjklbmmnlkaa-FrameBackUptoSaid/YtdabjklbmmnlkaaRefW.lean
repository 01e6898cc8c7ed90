/- chartularyref11.Put, walked; its contract, given to its callers. No condition. -/
import Derived.Test.YtdabjklbmmnlkaaStrW
namespace Go.Proofs.Ytdabjklbmmnlkaa.RefW
set_option linter.unusedVariables false
set_option linter.unusedSimpArgs false
open Go.RowKit Go.Proofs.Ytdabjklbmmnlkaa.PAll Go.Proofs.Ytdabjklbmmnlkaa.Nums Go.Proofs.Ytdabjklbmmnlkaa.CrcM Go.Proofs.Ytdabjklbmmnlkaa.SumM Go.Proofs.Ytdabjklbmmnlkaa.PutM Go.Proofs.Ytdabjklbmmnlkaa.Libs Go.Proofs.Ytdabjklbmmnlkaa.PutW Go.Proofs.Ytdabjklbmmnlkaa.FirstW Go.Proofs.Ytdabjklbmmnlkaa.ScanW Go.Proofs.Ytdabjklbmmnlkaa.Awake Go.Proofs.Ytdabjklbmmnlkaa.StrW Go.Proofs.YtdabjklbmmnlkaaW.PrintWords Go.Proofs.YtdabjklbmmnlkaaW.PrintLast Go.Proofs.YtdabjklbmmnlkaaW.PrintMore
theorem four_eq (n : Nat) (h : n < 4294967296) : chartularyref11_four.f (n : Int) = some (strOfNums (T n 4)) := by
  unfold chartularyref11_four.f
  have e : T n 4 = [((n / 256 ^ 3 % 256 : Nat) : Int), ((n / 256 ^ 2 % 256 : Nat) : Int), ((n / 256 ^ 1 % 256 : Nat) : Int), ((n / 256 ^ 0 % 256 : Nat) : Int)] := rfl
  rw [e]
  congr 2
  simp only [List.cons.injEq, and_true]
  refine ⟨?_, ?_, ?_, ?_⟩
  all_goals (try rw [Int.tdiv_eq_ediv_of_nonneg (by omega)]); omega
set_option maxHeartbeats 4000000 in
set_option maxRecDepth 100000 in
theorem rput_calls (s : ByteArray) (W : World) (hl : s.size ≤ 16384) :
    Calls Try.prog 9 #[.string s] W fun e w' => e = .returned (.tuple #[.string (strOfNums (frameN (numsOf s))), .int .i64 0]) ∧ Below W.heap.size W w' := by
  have hlen := numsOf_length s
  have F1 := four_eq s.size (by omega)
  have HP := one_parts (numsOf_bytes s) (by omega)
  have S1 := Aside0.mk (rsum_eq HP (2 + 10 * s.size + 1) (by simp; omega))
  have SL := sumN_lt HP
  have F2 := four_eq _ SL
  have HE : Aside0 (strOfNums (T s.size 4) ++ strOfNums (T (sumN [numsOf s]) 4) ++ s = strOfNums (frameN (numsOf s))) := ⟨by
    conv => lhs; rw [← str_nums s]
    rw [str_append, str_append, str_nums]
    unfold frameN
    rw [hlen]⟩
  generalize hs : sumN [numsOf s] = q at *
  clear hs
  have wr : IntKind.u32.wrap (s.size : Int) = (s.size : Int) := by rw [wu32]; omega
  have HF1 := Aside0.mk F1
  have HF2 := Aside0.mk F2
  have HS := Aside0.mk hlen
  clear F1 F2 hlen
  go_enter Try.func9, Try.ntmps9
  go_wp2_with fail
  refine (chartularyref11_four.calls (s.size : Int) _ _ HF1.out).mono ?_
  rintro e w1 ⟨rfl, h1⟩
  have B1 := Aside0.mk h1
  clear h1
  obtain ⟨c2, w2, hcv, hc2, hC2, hb2, hs2⟩ := conv_bytes w1 s
  have B2 := Aside0.mk (below_step B1.out hb2)
  have C2 := Aside0.mk (hC2 (by omega))
  clear hC2 hb2 hs2 B1
  go_wp2_with fail
  refine (chartularyref02_Sum.calls _ (some ⟨w2.heap.size, 0, none⟩) 1 [numsOf s] _ _ (by rw [← HS.out]; exact row1 w2 _ c2 (numsOf s) (by rw [HS.out]; exact C2.out) (by rw [HS.out]; exact hc2)) (by simp) S1.out).mono ?_
  rintro e W3 ⟨rfl, ⟨nd, hd⟩⟩
  have B3 : Aside0 (Below W.heap.size W W3) := ⟨by rw [hd]; exact pw_below_drewN (below_alloc B2.out _) nd⟩
  clear hd
  go_wp2_with fail
  refine (chartularyref11_four.calls (q : Int) _ _ HF2.out).mono ?_
  rintro e w4 ⟨rfl, h4⟩
  have B4 := Aside0.mk (below_step B3.out h4)
  clear h4
  have n1 : ¬ 9223372036854775807 < (strOfNums (T s.size 4)).size + (strOfNums (T q 4)).size := by rw [strN_size, strN_size, T_length, T_length]; omega
  have n2 : ¬ 9223372036854775807 < (strOfNums (T s.size 4)).size + (strOfNums (T q 4)).size + s.size := by rw [strN_size, strN_size, T_length, T_length]; omega
  go_wp2_with fail
  go_ret2
  exact ⟨by rw [← HE.out]; rfl, B4.out⟩
theorem rput_large (s : ByteArray) (W : World) (hl : 16384 < s.size) :
    Calls Try.prog 9 #[.string s] W fun e w' => e = .returned (.tuple #[.string (strOfNums []), .int .i64 17]) ∧ Below W.heap.size W w' := by
  have ng : ((s.size : Int) > 16384) := by omega
  go_enter Try.func9, Try.ntmps9
  go_wp2
  go_ret2
  exact ⟨rfl, Below.refl _ _⟩
end Go.Proofs.Ytdabjklbmmnlkaa.RefW
namespace Go.Proofs.Ytdabjklbmmnlkaa.PAll
open Go.RowKit Go.Proofs.Ytdabjklbmmnlkaa.PutW Go.Proofs.Ytdabjklbmmnlkaa.StrW Go.Proofs.Ytdabjklbmmnlkaa.RefW Go.Proofs.YtdabjklbmmnlkaaW.PrintWords
def chartularyref11_Put.f (s : ByteArray) : Option (ByteArray × Int) := some (if s.size ≤ 16384 then (strOfNums (frameN (numsOf s)), 0) else (strOfNums [], 17))
theorem chartularyref11_Put.calls (a0 : ByteArray) (r1 : ByteArray) (r2 : Int) (w : World) (h : chartularyref11_Put.f a0 = some (r1, r2)) :
    Calls Try.prog 9 #[.string a0] w fun e w' => e = .returned (.tuple #[.string r1, .int .i64 r2]) ∧ Below w.heap.size w w' := by
  unfold chartularyref11_Put.f at h
  by_cases hl : a0.size ≤ 16384
  · rw [if_pos hl] at h
    obtain ⟨rfl, rfl⟩ := Prod.mk.inj (Option.some.inj h)
    exact rput_calls a0 w hl
  · rw [if_neg hl] at h
    obtain ⟨rfl, rfl⟩ := Prod.mk.inj (Option.some.inj h)
    exact rput_large a0 w (by omega)
end Go.Proofs.Ytdabjklbmmnlkaa.PAll
