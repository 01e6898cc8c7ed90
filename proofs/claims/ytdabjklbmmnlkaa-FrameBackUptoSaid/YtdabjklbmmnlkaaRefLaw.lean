/- The reference's First and Scan come to what the program's do. Plain Lean. No condition. -/
import Derived.Test.YtdabjklbmmnlkaaPRfx1
import Derived.Test.YtdabjklbmmnlkaaTurnedLaw
namespace Go.Proofs.Ytdabjklbmmnlkaa.RefLaw
set_option linter.unusedVariables false
set_option linter.unusedSimpArgs false
open Go.RowKit Go.Proofs.Ytdabjklbmmnlkaa.PAll Go.Proofs.Ytdabjklbmmnlkaa.PAll.Rf Go.Proofs.Ytdabjklbmmnlkaa.Nums Go.Proofs.Ytdabjklbmmnlkaa.CrcM Go.Proofs.Ytdabjklbmmnlkaa.SumM Go.Proofs.Ytdabjklbmmnlkaa.PutM Go.Proofs.Ytdabjklbmmnlkaa.Libs Go.Proofs.Ytdabjklbmmnlkaa.PutW Go.Proofs.Ytdabjklbmmnlkaa.FirstW Go.Proofs.Ytdabjklbmmnlkaa.ScanW Go.Proofs.Ytdabjklbmmnlkaa.TurnedLaw Go.Proofs.Ytdabjklbmmnlkaa.StrW Go.Proofs.YtdabjklbmmnlkaaW.PrintWords Go.Proofs.YtdabjklbmmnlkaaW.PrintLast Go.Proofs.YtdabjklbmmnlkaaW.PrintMore
theorem T_num {x : List Int} (hx : Bytes x) : T (num x) x.length = x := by
  have h1 := num_T x.length (num x)
  rw [Nat.mod_eq_of_lt (num_lt x hx)] at h1
  exact (fold_inj _ _ 0 0 (T_length _ _) (T_bytes _ _) hx h1).2
theorem frame_iff {l : List Int} (hB : Bytes l) (h8 : 8 ≤ l.length) (hn : num (l.take 4) ≤ l.length - 8) (h16 : num (l.take 4) ≤ 16384) :
    frameN (body l) = l.take (8 + num (l.take 4)) ↔ sumN [body l] = num ((l.take 8).drop 4) := by
  have L1 : (l.take 4).length = 4 := by rw [List.length_take]; omega
  have L2 : ((l.take 8).drop 4).length = 4 := by rw [List.length_drop, List.length_take]; omega
  have hbl : (body l).length = num (l.take 4) := by unfold body; rw [List.length_drop, List.length_take]; omega
  have T1 := T_num (bytes_take hB 4)
  have T2 := T_num (bytes_drop (bytes_take hB 8) 4)
  rw [L1] at T1
  rw [L2] at T2
  have HB : Bytes (body l) := by unfold body; exact bytes_drop (bytes_take hB _) 8
  have SL := sumN_lt (one_parts HB (by omega))
  have hsplit : l.take (8 + num (l.take 4)) = l.take 4 ++ (l.take 8).drop 4 ++ body l := by
    unfold body
    have e1 : l.take 8 = l.take 4 ++ (l.take 8).drop 4 := by
      have := (List.take_append_drop 4 (l.take 8)).symm
      rwa [List.take_take] at this
    have e2 : l.take (8 + num (l.take 4)) = (l.take (8 + num (l.take 4))).take 8 ++ (l.take (8 + num (l.take 4))).drop 8 := (List.take_append_drop 8 _).symm
    rw [List.take_take, Nat.min_eq_left (by omega)] at e2
    rw [← e1]
    exact e2
  rw [hsplit]
  unfold frameN
  rw [hbl, T1]
  constructor
  · intro h
    have h2 := List.append_cancel_right h
    have h3 := List.append_cancel_left h2
    rw [← h3, num_T]
    omega
  · intro h
    rw [h, T2]
theorem bt_rd (s : ByteArray) (i : Nat) : bt s (i : Int) = rd (numsOf s) (i : Int) := by
  unfold bt rd numsOf
  by_cases h : i < s.size
  · rw [dif_pos (by simpa using h)]
    simp [List.getD_eq_getElem?_getD, h]
    rfl
  · rw [dif_neg (by simpa using h)]
    simp [List.getD_eq_getElem?_getD, Nat.le_of_not_lt h]
theorem ext_nums (s : ByteArray) (i j : Nat) : s.extract i j = strOfNums (((numsOf s).take j).drop i) := by
  conv => lhs; rw [← str_nums s]
  rw [str_extract]
theorem first_law (s : ByteArray) (hm : s.size ≤ 140737488355328) : chartularyref11_First.f s = some (strOfNums (firstR (numsOf s)).1, ((firstR (numsOf s)).2.1 : Int), ((firstR (numsOf s)).2.2 : Int)) := by
  have hlen := numsOf_length s
  have hB := numsOf_bytes s
  by_cases h8 : s.size < 8
  · rw [first_short (by omega)]
    unfold chartularyref11_First.f
    rw [if_pos (by omega)]
    rfl
  have hn : num ((numsOf s).take 4) = (((((rd (numsOf s) ((0 : Nat) : Int)).toNat) * 256 + (rd (numsOf s) ((1 : Nat) : Int)).toNat) * 256 + (rd (numsOf s) ((2 : Nat) : Int)).toNat) * 256 + (rd (numsOf s) ((3 : Nat) : Int)).toNat) := by
    match hq : numsOf s with
    | a :: b :: c :: d :: r => simp [num, rd]
    | [] | [_] | [_, _] | [_, _, _] => rw [hq] at hlen; simp at hlen; omega
  have b0 := rd_byte hB 0
  have b1 := rd_byte hB 1
  have b2 := rd_byte hB 2
  have b3 := rd_byte hB 3
  have hw : (wrap64 ((wrap64 ((wrap64 ((wrap64 ((wrap64 ((wrap64 ((wrap64 (bt s 0)) * 256)) + (wrap64 (bt s 1)))) * 256)) + (wrap64 (bt s 2)))) * 256)) + (wrap64 (bt s 3)))) = ((num ((numsOf s).take 4) : Nat) : Int) := by
    rw [hn, show bt s 0 = bt s ((0 : Nat) : Int) from rfl, show bt s 1 = bt s ((1 : Nat) : Int) from rfl, show bt s 2 = bt s ((2 : Nat) : Int) from rfl, show bt s 3 = bt s ((3 : Nat) : Int) from rfl, bt_rd, bt_rd, bt_rd, bt_rd]
    unfold wrap64
    omega
  unfold chartularyref11_First.f
  rw [hw, if_neg (by omega), if_pos (by omega), if_pos (by omega), if_pos (by omega), if_pos (by omega), firstR_eq _ (by omega)]
  have N1 : num ((numsOf s).take 4) < 4294967296 := by omega
  by_cases h16 : 16384 < num ((numsOf s).take 4)
  · rw [if_pos (by omega), if_pos h16]; rfl
  rw [if_neg (by omega), if_neg h16, w64_in (n := (s.size : Int) - 8) (by omega) (by omega)]
  by_cases hsh : (numsOf s).length - 8 < num ((numsOf s).take 4)
  · rw [if_pos (by omega), if_pos hsh]; rfl
  rw [if_neg (by omega), if_neg hsh, w64_in (n := 8 + ((num ((numsOf s).take 4) : Nat) : Int)) (by omega) (by omega), if_pos (by omega), if_pos (by omega)]
  have hI := frame_iff hB (by omega) (by omega) (by omega)
  have hT : (8 + ((num ((numsOf s).take 4) : Nat) : Int)).toNat = 8 + num ((numsOf s).take 4) := by omega
  have hE : s.extract 8 (8 + num ((numsOf s).take 4)) = strOfNums (body (numsOf s)) := ext_nums s _ _
  have hE0 : s.extract 0 (8 + num ((numsOf s).take 4)) = strOfNums ((numsOf s).take (8 + num ((numsOf s).take 4))) := ext_nums s _ _
  have HB : Bytes (body (numsOf s)) := by unfold body; exact bytes_drop (bytes_take hB _) 8
  have hbl : (body (numsOf s)).length = num ((numsOf s).take 4) := by unfold body; rw [List.length_drop, List.length_take]; omega
  rw [hT, hE, hE0]
  unfold chartularyref11_Put.f
  rw [if_pos (by rw [strN_size]; omega), nums_str HB, Option.bind_some, if_pos (by omega)]
  by_cases hs : sumN [body (numsOf s)] = num (((numsOf s).take 8).drop 4)
  · rw [if_pos (by rw [hI.2 hs]), if_pos hs]
    simp
  · rw [if_neg, if_neg hs]
    · rfl
    · intro h
      exact hs (hI.1 (str_inj (by unfold frameN; exact Awake.bytes_app (Awake.bytes_app (T_bytes _ _) (T_bytes _ _)) HB) (bytes_take hB _) h))
theorem scan_law (s : ByteArray) (hm : s.size ≤ 16777216) : ∀ (d k at_ : Nat) (acc : List ByteArray), at_ ≤ s.size → s.size - at_ < d → d ≤ k → acc.length + d ≤ 8796093022208 →
    chartularyref11_Scan.l0 k s acc (at_ : Int) = some (acc ++ (scanF d ((numsOf s).drop at_)).1.map strOfNums, ((at_ + (scanF d ((numsOf s).drop at_)).2 : Nat) : Int))
  | 0, _, _, _, _, h, _, _ => by omega
  | _ + 1, 0, _, _, _, _, h, _ => by omega
  | d + 1, k + 1, at_, acc, ha, hd, hk, hc => by
    have hB := numsOf_bytes s
    have hlen := numsOf_length s
    have hX : numsOf (s.extract (at_ : Int).toNat s.size) = (numsOf s).drop at_ := by
      conv => lhs; rw [← str_nums s, strN_size, str_extract]
      rw [Int.toNat_natCast, List.take_of_length_le (by omega), nums_str (bytes_drop hB _)]
    have hsz : (s.extract (at_ : Int).toNat s.size).size ≤ s.size := by rw [ByteArray.size_extract]; omega
    rw [chartularyref11_Scan.l0, if_pos (by omega), if_pos (by omega), first_law _ (by omega), hX, scanF]
    simp only [Option.bind_some]
    by_cases he : (firstR ((numsOf s).drop at_)).2.2 = 0
    · have hok := first_ok he
      rw [List.length_drop, hlen] at hok
      rw [if_pos (by omega), if_pos (by omega), if_pos he, w64_in (by omega) (by omega)]
      have := scan_law s hm d k (at_ + (firstR ((numsOf s).drop at_)).2.1) (acc ++ [strOfNums (firstR ((numsOf s).drop at_)).1]) (by omega) (by omega) (by omega) (by simp; omega)
      rw [show ((at_ : Int) + ((firstR ((numsOf s).drop at_)).2.1 : Int)) = ((at_ + (firstR ((numsOf s).drop at_)).2.1 : Nat) : Int) by omega, this, List.drop_drop]
      simp [Nat.add_assoc]
    · rw [if_neg (by omega), if_neg he]
      simp
end Go.Proofs.Ytdabjklbmmnlkaa.RefLaw
