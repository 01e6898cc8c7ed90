/- FrameTorn: the plain law. No condition. -/
import Derived.Test.YtdabjklbmmnlkaaAwake
namespace Go.Proofs.Ytdabjklbmmnlkaa.TornW
open Go.RowKit Go.Proofs.Ytdabjklbmmnlkaa.Nums Go.Proofs.Ytdabjklbmmnlkaa.CrcM Go.Proofs.Ytdabjklbmmnlkaa.SumM Go.Proofs.Ytdabjklbmmnlkaa.PutM Go.Proofs.Ytdabjklbmmnlkaa.Libs Go.Proofs.Ytdabjklbmmnlkaa.PutW Go.Proofs.Ytdabjklbmmnlkaa.FirstW Go.Proofs.Ytdabjklbmmnlkaa.ScanW Go.Proofs.Ytdabjklbmmnlkaa.KeepW Go.Proofs.Ytdabjklbmmnlkaa.Awake Go.Proofs.YtdabjklbmmnlkaaW.PrintWords Go.Proofs.YtdabjklbmmnlkaaW.PrintLast Go.Proofs.YtdabjklbmmnlkaaW.PrintMore
theorem frame_take4 (l : List Int) (h : l.length ≤ 16384) : num ((frameN l).take 4) = l.length := by
  unfold frameN
  rw [List.append_assoc, List.take_left' (T_length _ _), num_T]
  omega
theorem frame_mid (l : List Int) (h : sumN [l] < 4294967296) : num (((frameN l).take 8).drop 4) = sumN [l] := by
  unfold frameN
  rw [List.take_left' (by simp [T_length]), List.drop_left' (T_length _ _), num_T]
  omega
/-- Another last byte, another sum. -/
theorem feed_last {l : List Int} (hl : Bytes l) {y z : Nat} (hy : y < 256) (hz : z < 256) (h : feed M (l ++ [(y : Int)]) = feed M (l ++ [(z : Int)])) : y = z := by
  rw [feed_append, feed_append] at h
  have hr := feed_lt l M hl (by decide)
  generalize feed M l = r at h hr
  have h1 : CrcM.step (r ^^^ y) = CrcM.step (r ^^^ z) := by simpa [feed] using h
  rw [step_lin.xor, step_lin.xor] at h1
  have h2 : CrcM.step y = CrcM.step z := by
    have := congrArg (CrcM.step r ^^^ ·) h1
    simpa [← Nat.xor_assoc] using this
  have h3 : CrcM.step (y ^^^ z) = 0 := by rw [step_lin.xor, h2, Nat.xor_self]
  apply Classical.byContradiction
  intro hne
  exact it_ne 8 (y ^^^ z) (xor32_lt (by omega) (by omega)) (fun h => hne (xor_zero_eq h)) h3
theorem body_frame (x : List Int) (p : List Int) (hp : p.length = 8) (h : num ((p ++ x).take 4) = x.length) : body (p ++ x) = x := by
  unfold body
  rw [h, List.take_of_length_le (by rw [List.length_append]; omega), List.drop_left' hp]
theorem torn_law (l : List Int) (hB : Bytes l) (hl : l.length ≤ 16384) (turn : Int) (t0 : 0 ≤ turn) (t1 : turn < 256) (ht : turn ≠ 0) :
    firstR ((frameN l).set (l.length + 7) (Go.bits .xor .u8 ((frameN l).getD (l.length + 7) 0) turn)) = ([], 0, 2) := by
  obtain ⟨t, rfl⟩ := Int.eq_ofNat_of_zero_le t0
  have FL := frameN_length l
  have SL := sumN_lt (one_parts hB (by omega))
  rw [firstR_eq _ (by rw [List.length_set]; omega)]
  have h4 : num (((frameN l).set (l.length + 7) (Go.bits .xor .u8 ((frameN l).getD (l.length + 7) 0) t)).take 4) = l.length := by
    rw [List.take_set, List.set_eq_of_length_le (by rw [List.length_take]; omega), frame_take4 l hl]
  rw [h4, List.length_set, if_neg (by omega), if_neg (by omega), if_neg]
  rcases List.eq_nil_or_concat l with rfl | ⟨l', y, rfl⟩
  · have e : frameN [] = [0, 0, 0, 0, 0, 0, 0, 0] := by decide +kernel
    rw [e]
    have hx : Go.bits .xor .u8 (([0, 0, 0, 0, 0, 0, 0, 0] : List Int).getD (([] : List Int).length + 7) 0) (t : Int) = (t : Int) := by
      show Go.bits .xor .u8 ((0 : Nat) : Int) (t : Int) = _
      rw [xorN .u8 rfl 0 t (by decide) (by show _ < 2 ^ 8; omega)]
      simp
    rw [hx]
    show ¬ (sumN [body [0, 0, 0, 0, 0, 0, 0, (t : Int)]] = num [0, 0, 0, (t : Int)])
    have hb : body [0, 0, 0, 0, 0, 0, 0, (t : Int)] = [] := by
      unfold body
      show List.drop 8 (List.take (8 + 0) [0, 0, 0, 0, 0, 0, 0, (t : Int)]) = []
      rfl
    rw [hb]
    have : sumN [[]] = 0 := by decide +kernel
    rw [this]
    simp [num]
    omega
  · rw [List.concat_eq_append] at *
    have hy := hB y (by simp)
    obtain ⟨y, rfl⟩ := Int.eq_ofNat_of_zero_le hy.1
    have hB' : Bytes l' := fun x hx => hB x (by simp [hx])
    generalize hP : T (l' ++ [(y : Int)]).length 4 ++ T (sumN [l' ++ [(y : Int)]]) 4 = P
    have hPl : P.length = 8 := by rw [← hP]; simp [T_length]
    have hF : frameN (l' ++ [(y : Int)]) = P ++ (l' ++ [(y : Int)]) := by rw [← hP]; rfl
    have hj : (l' ++ [(y : Int)]).length + 7 = P.length + l'.length := by rw [hPl]; simp; omega
    have hg : (P ++ (l' ++ [(y : Int)])).getD (P.length + l'.length) 0 = (y : Int) := by simp [List.getD]
    have hx : Go.bits .xor .u8 (y : Int) (t : Int) = ((y ^^^ t : Nat) : Int) := xorN .u8 rfl y t (by show _ < 2 ^ 8; omega) (by show _ < 2 ^ 8; omega)
    have hset : (P ++ (l' ++ [(y : Int)])).set (P.length + l'.length) ((y ^^^ t : Nat) : Int) = P ++ (l' ++ [((y ^^^ t : Nat) : Int)]) := by
      rw [List.set_append_right _ _ (by omega), Nat.add_sub_cancel_left, List.set_append_right _ _ (Nat.le_refl _), Nat.sub_self]
      rfl
    have hmid := frame_mid (l' ++ [(y : Int)]) SL
    rw [hF, hj, hg, hx, hset] at h4 ⊢
    rw [body_frame _ P hPl (by rw [h4]; simp)]
    rw [hF, List.take_left' hPl] at hmid
    rw [List.take_left' hPl, hmid]
    intro h
    rw [sumN_one, sumN_one] at h
    have h' := congrArg (M ^^^ ·) h
    simp only [M_xor] at h'
    have hlt : y ^^^ t < 256 := Nat.xor_lt_two_pow (n := 8) (by omega) (by omega)
    have := feed_last hB' hlt (by omega) h'
    have h0 : t = 0 := by
      have := congrArg (y ^^^ ·) this
      simpa [← Nat.xor_assoc] using this
    omega
end Go.Proofs.Ytdabjklbmmnlkaa.TornW
