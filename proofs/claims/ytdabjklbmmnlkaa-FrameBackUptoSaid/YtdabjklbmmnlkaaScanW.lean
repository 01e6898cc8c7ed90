/- frame.Scan, walked, where the frames are not beyond all measure. -/
import Derived.Test.YtdabjklbmmnlkaaFirstW
namespace Go.Proofs.Ytdabjklbmmnlkaa.ScanW
set_option linter.unusedVariables false
set_option linter.unusedSimpArgs false
open Go.RowKit Go.Proofs.Ytdabjklbmmnlkaa.PAll Go.Proofs.Ytdabjklbmmnlkaa.Nums Go.Proofs.Ytdabjklbmmnlkaa.CrcM Go.Proofs.Ytdabjklbmmnlkaa.SumM Go.Proofs.Ytdabjklbmmnlkaa.PutM Go.Proofs.Ytdabjklbmmnlkaa.Libs Go.Proofs.Ytdabjklbmmnlkaa.Concat Go.Proofs.Ytdabjklbmmnlkaa.PutW Go.Proofs.Ytdabjklbmmnlkaa.FirstW Go.Proofs.YtdabjklbmmnlkaaW.PrintWords Go.Proofs.YtdabjklbmmnlkaaW.PrintLast Go.Proofs.YtdabjklbmmnlkaaW.PrintMore
theorem info22 : (Try.prog.info? 22).map (fun i => (i.zero, i.size, i.bytes)) = some (some (.slice none 0 0), 1, 24) := by kernel_rfl
/-- The frames that bytes begin with. -/
def scanF : Nat → List Int → List (List Int) × Nat
  | 0, _ => ([], 0)
  | k + 1, l => if (firstR l).2.2 = 0 then ((firstR l).1 :: (scanF k (l.drop (firstR l).2.1)).1, (firstR l).2.1 + (scanF k (l.drop (firstR l).2.1)).2) else ([], 0)
def scanR (l : List Int) : List (List Int) × Nat := scanF (l.length + 1) l
theorem first_short {l : List Int} (h : l.length < 8) : firstR l = ([], 0, 3) := by unfold firstR; rw [if_pos h]
/-- A frame that is there is of 8 bytes at least, and it lies in what is read. -/
theorem first_ok {l : List Int} (h : (firstR l).2.2 = 0) : 8 ≤ (firstR l).2.1 ∧ (firstR l).2.1 ≤ l.length := by
  unfold firstR at *
  split at h <;> try (simp at h)
  split at h <;> try (simp at h)
  split at h <;> try (simp at h)
  split at h <;> try (simp at h)
  rename_i h1 h2 h3 h4
  rw [if_neg h1, if_neg h2, if_neg h3, if_pos h4]
  show 8 ≤ 8 + _ ∧ 8 + _ ≤ _
  omega
theorem first_any (A : Option Addr) (c : Nat) (l : List Int) (W : World) (hC : (Kd.int .u8).C W A l.length l) (hc : l.length ≤ c) (hB : Bytes l) (hm : l.length ≤ 140737488355328) :
    Calls Try.prog 10 #[.slice A l.length c] W fun e w' => ∃ A' , e = .returned (.tuple #[.slice A' (firstR l).1.length (firstR l).1.length, .int .i64 (firstR l).2.1, .int .i64 (firstR l).2.2]) ∧ (Kd.int .u8).C w' A' (firstR l).1.length (firstR l).1 ∧ (∀ ad, A' = some ad → W.heap.size ≤ ad.block ∧ ad.block < w'.heap.size) ∧ Below W.heap.size W w' := by
  by_cases h8 : 8 ≤ l.length
  · exact first_calls A c l W hC hc hB h8 hm
  · refine (short_calls A c l.length W (by omega)).mono ?_
    rintro e w' ⟨rfl, hb⟩
    rw [first_short (by omega)]
    exact ⟨none, rfl, Kd.C_nil _ _, fun ad e => by simp at e, hb⟩
/-- A row of the call's own whose elements are rows of bytes that are read. -/
def OwnS (W : World) (base : Nat) (v : Value) (bs : List (List Int)) : Prop :=
  ∃ vs, W.ownsRow base 22 1 v bs.length vs ∧ ∀ (i : Nat) (l : List Int), bs[i]? = some l → ∃ (A : Option Addr) (c : Nat), vs[i]? = some (Value.slice A l.length c) ∧ l.length ≤ c ∧ (Kd.int .u8).C W A l.length l ∧ ∀ ad, A = some ad → ad.block < W.heap.size ∧ some ad.block ≠ v.ownBlock
theorem C_rows {w : World} {g : Nat} {ls : List (List Int)} (hl : ls.length ≤ 9223372036854775807) (h : ∀ i l, ls[i]? = some l → ∃ A c, w.cell? ⟨g, i, none⟩ = some (.slice A l.length c) ∧ l.length ≤ c ∧ (Kd.int .u8).C w A l.length l) : (Kd.slice 5 (Kd.int .u8)).C w (some ⟨g, 0, none⟩) ls.length ls := by
  refine ⟨rfl, hl, fun _ => ⟨_, rfl, fun j p hj => ?_⟩⟩
  obtain ⟨A, c, hc, hlc, hC⟩ := h j p hj
  refine ⟨[.slice A p.length c], rfl, ⟨A, c, rfl, hlc, hC⟩, fun i u hu => ?_⟩
  cases i with
  | zero => 
    simp at hu; subst hu
    have e : (⟨g, 0, none⟩ : Addr).add (j * (Kd.slice 5 (Kd.int .u8)).sz + 0) = ⟨g, j, none⟩ := by unfold Addr.add; split <;> simp_all [Kd.slice]
    rw [e]; exact hc
  | succ i => simp at hu
theorem C_heaps {w : World} {g : Nat} {ls : List (List Int)} {cs : Array Value} {t : TypeId} {fr : Nat × Nat} (hl : ls.length ≤ 9223372036854775807) (h : w.heap[g]? = some (.cells cs t fr))
    (hc : ∀ (i : Nat) (l : List Int), ls[i]? = some l → ∃ (A : Option Addr) (c : Nat), cs[i]? = some (Value.slice A l.length c) ∧ l.length ≤ c ∧ (Kd.int .u8).C w A l.length l) : (Kd.slice 5 (Kd.int .u8)).C w (some ⟨g, 0, none⟩) ls.length ls := by
  refine C_rows hl fun i l hi => ?_
  obtain ⟨A, c, h1, h2, h3⟩ := hc i l hi
  exact ⟨A, c, (cell_of_row w g i cs t fr h).trans h1, h2, h3⟩
theorem alloc_size (w : World) (o : Obj) : (w.alloc o).heap.size = w.heap.size + 1 := by
  show (w.heap.push o).size = _
  simp
theorem OwnS.shape {W : World} {base : Nat} {v : Value} {bs : List (List Int)} (h : OwnS W base v bs) (hl : bs.length ≤ 9223372036854775807) : ∃ A c, v = .slice A bs.length c ∧ bs.length ≤ c ∧ (A = none → bs.length = 0) ∧ (Kd.slice 5 (Kd.int .u8)).C W A bs.length bs := by
  obtain ⟨vs, ⟨h1, h2 | ⟨g, cap, cur, rfl, hg, hh, hnc, hcm, hsz, htk⟩⟩, hvs⟩ := h
  · obtain ⟨rfl, h0⟩ := h2
    obtain rfl : bs = [] := List.length_eq_zero_iff.1 h0
    exact ⟨none, 0, rfl, by simp, fun _ => rfl, Kd.C_nil _ _⟩
  · refine ⟨_, cap, rfl, hnc, fun e => by simp at e, C_heaps hl hh (fun i l hi => ?_)⟩
    obtain ⟨A, c, e1, e2, e3, _⟩ := hvs i l hi
    refine ⟨A, c, ?_, e2, e3⟩
    rw [← htk, Nat.mul_one, List.getElem?_take] at e1
    split at e1
    · rw [← e1, Array.getElem?_toList]
    · simp at e1
theorem OwnS.below {W W' : World} {base : Nat} {v : Value} {bs : List (List Int)} (h : OwnS W base v bs) (hb : Below W.heap.size W W') : OwnS W' base v bs := by
  obtain ⟨vs, ho, hvs⟩ := h
  refine ⟨vs, own_move ho fun k hk => hb.block k (ho.lt k hk).2, fun i l hi => ?_⟩
  obtain ⟨A, c, e1, e2, e3, e4⟩ := hvs i l hi
  exact ⟨A, c, e1, e2, Kd.C_below e3 hb, fun ad e => ⟨Nat.lt_of_lt_of_le (e4 ad e).1 hb.size, (e4 ad e).2⟩⟩
theorem C_block {W W' : World} {A : Option Addr} {l : List Int} (h : (Kd.int .u8).C W A l.length l) (hb : ∀ ad, A = some ad → W'.heap[ad.block]? = W.heap[ad.block]?) : (Kd.int .u8).C W' A l.length l := by
  refine ⟨h.1, h.2.1, fun hp => ?_⟩
  obtain ⟨ad, e, hc⟩ := h.2.2 hp
  refine ⟨ad, e, fun j p hj => ?_⟩
  obtain ⟨cs, h1, h2, h3⟩ := hc j p hj
  refine ⟨cs, h1, h2, fun i u hu => ?_⟩
  have hblk : (ad.add (j * (Kd.int .u8).sz + i)).block = ad.block := by unfold Addr.add; split <;> rfl
  rw [World.cell?_of_block (w := W) (by rw [hblk]; exact hb ad e)]
  exact h3 i u hu
/-- What an append of one more row leaves. -/
theorem OwnS.grown {W W' : World} {base : Nat} {v v' : Value} {bs : List (List Int)} {vs : List Value} {x : List Int} {A : Option Addr} (ho : W.ownsRow base 22 1 v bs.length vs)
    (hvs : ∀ (i : Nat) (l : List Int), bs[i]? = some l → ∃ (A : Option Addr) (c : Nat), vs[i]? = some (Value.slice A l.length c) ∧ l.length ≤ c ∧ (Kd.int .u8).C W A l.length l ∧ ∀ ad, A = some ad → ad.block < W.heap.size ∧ some ad.block ≠ v.ownBlock)
    (hx : (Kd.int .u8).C W A x.length x) (hl : ∀ ad, A = some ad → ad.block < W.heap.size ∧ some ad.block ≠ v.ownBlock)
    (hn : W'.ownsRow base 22 1 v' (bs.length + 1) (vs ++ [.slice A x.length x.length])) (hg : W.grownBy W' v.ownBlock) (hat : v'.ownBlock = v.ownBlock ∨ ∃ b, v'.ownBlock = some b ∧ W.heap.size ≤ b) : OwnS W' base v' (bs ++ [x]) := by
  have key : ∀ {A : Option Addr} {l : List Int}, (Kd.int .u8).C W A l.length l → (∀ ad, A = some ad → ad.block < W.heap.size ∧ some ad.block ≠ v.ownBlock) →
      (Kd.int .u8).C W' A l.length l ∧ ∀ ad, A = some ad → ad.block < W'.heap.size ∧ some ad.block ≠ v'.ownBlock := by
    intro A l hC hA
    refine ⟨C_block hC fun ad e => hg.block _ (hA ad e).1 (hA ad e).2, fun ad e => ⟨Nat.lt_of_lt_of_le (hA ad e).1 hg.size, ?_⟩⟩
    rcases hat with h | ⟨b, h, hb⟩
    · rw [h]; exact (hA ad e).2
    · rw [h]
      intro he
      injection he with he
      have := (hA ad e).1
      omega
  refine ⟨vs ++ [.slice A x.length x.length], by rw [List.length_append, List.length_singleton]; exact hn, fun i y hy => ?_⟩
  by_cases hlt : i < bs.length
  · rw [List.getElem?_append_left hlt] at hy
    obtain ⟨A, c, e1, e2, e3, e4⟩ := hvs i y hy
    exact ⟨A, c, by rw [List.getElem?_append_left (by rw [ho.1, Nat.mul_one]; exact hlt)]; exact e1, e2, key e3 e4⟩
  · have hil := (List.getElem?_eq_some_iff.1 hy).1
    simp at hil
    obtain rfl : i = bs.length := by omega
    rw [List.getElem?_append_right (Nat.le_refl _), Nat.sub_self] at hy
    obtain rfl : x = y := by simpa using hy
    exact ⟨A, x.length, by rw [List.getElem?_append_right (by rw [ho.1, Nat.mul_one]; exact Nat.le_refl _), ho.1, Nat.mul_one, Nat.sub_self]; rfl, Nat.le_refl _, key hx hl⟩
theorem scanF_ext : ∀ (k m : Nat) (l : List Int), l.length < k → l.length < m → scanF k l = scanF m l
  | 0, _, _, h, _ => by omega
  | _, 0, _, _, h => by omega
  | k + 1, m + 1, l, h1, h2 => by
    rw [scanF, scanF]
    by_cases h : (firstR l).2.2 = 0
    · have := first_ok h
      rw [if_pos h, if_pos h, scanF_ext k m (l.drop (firstR l).2.1) (by rw [List.length_drop]; omega) (by rw [List.length_drop]; omega)]
    · rw [if_neg h, if_neg h]
set_option maxHeartbeats 4000000 in
set_option maxRecDepth 100000 in
theorem scan_calls (A : Option Addr) (c : Nat) (l : List Int) (W : World) (hC : (Kd.int .u8).C W A l.length l) (hc : l.length ≤ c) (hB : Bytes l) (hm : l.length ≤ 140737488355328) (hn : (scanR l).1.length ≤ 1099511627776) :
    Calls Try.prog 13 #[.slice A l.length c] W fun e w' => ∃ v, e = .returned (.tuple #[v, .int .i64 ((scanR l).2 : Nat)]) ∧ (∃ A' , v = .slice A' (scanR l).1.length (scanR l).1.length ∧ (Kd.slice 5 (Kd.int .u8)).C w' A' (scanR l).1.length (scanR l).1) ∧ Below W.heap.size W w' := by
  obtain ⟨i0, hi, hz0, hz1, hz2⟩ := info_parts Libs.info5
  obtain ⟨j0, hj, hy0, hy1, hy2⟩ := info_parts info22
  have HC := Aside0.mk hC
  have HN := Aside0.mk hn
  clear hC hn
  go_enter Try.func13, Try.ntmps13
  go_wp2_with fail
  go_loopw [4, 5] (fun v a wr => ∃ (bs : List (List Int)) (at_ k : Nat), a = .int .i64 at_ ∧ at_ ≤ l.length ∧ OwnS wr W.heap.size v bs ∧ Below W.heap.size W wr ∧ Aside0 (scanR l = (bs ++ (scanF k (l.drop at_)).1, at_ + (scanF k (l.drop at_)).2)) ∧ l.length < at_ + k)
    (fun _ a _ => l.length - (intOf a).toNat)
  case atStart => exact ⟨[], 0, l.length + 1, rfl, by omega, ⟨[], ⟨rfl, .inl ⟨rfl, rfl⟩⟩, by simp⟩, Below.refl _ _, ⟨by simp [scanR]⟩, by omega⟩
  case round =>
    obtain ⟨bs, at_, k, rfl, hat, hown, hbel, hsc, hk⟩ := hrel
    have cutF : ∀ w : World, (Instr.slice 22 (.slice A l.length c) (some (.int .i64 (at_ : Int))) none none).run Try.prog w = .ok (.slice (if c = at_ then A else A.map (·.add (at_ * 1))) (l.length - at_) (c - at_)) w := cut_from (P := Try.prog) 22 5 .i64 Try.underlying22 hi 1 hz1 A l.length c (at_ : Int) (by omega) (by omega)
    have D0 := Aside0.mk (Kd.C_drop (m := at_) HC.out hat hc)
    have hld : (l.drop at_).length = l.length - at_ := List.length_drop
    rw [show at_ * (Kd.int .u8).sz = at_ * 1 from rfl] at D0
    generalize (if c = at_ then A else A.map (·.add (at_ * 1))) = A1 at D0 cutF
    have F := Aside0.mk (first_any A1 (c - at_) (l.drop at_) wr (Kd.C_below D0.out hbel) (by omega) (bytes_drop hB _) (by omega))
    rw [hld] at F
    have HB := Aside0.mk hbel
    have HO := Aside0.mk hown
    have HK := Aside0.mk hk
    clear hown hbel hk
    obtain ⟨k, rfl⟩ : ∃ k', k = k' + 1 := ⟨k - 1, by have := HK.out; omega⟩
    have HS := hsc.out
    rw [scanF] at HS
    have HS' := Aside0.mk HS
    clear HS hsc
    have hok := fun h => first_ok (l := l.drop at_) h
    have HOK := Aside0.mk hok
    clear hok
    generalize hf : firstR (l.drop at_) = f at *
    obtain ⟨x, n, er⟩ := f
    have HF := Aside0.mk hf
    clear hf
    go_wp2_with fail
    refine F.out.mono ?_
    rintro e w1 ⟨A2, rfl, hx, hloc, hb1⟩
    have B1 := Aside0.mk (below_step HB.out hb1)
    have X1 := Aside0.mk hx
    have BW := Aside0.mk hb1
    have LX := Aside0.mk hloc
    clear hx hb1 hloc F
    by_cases her : er = 0
    · subst her
      obtain ⟨hn8, hnl⟩ := HOK.out rfl
      have hS := HS'.out
      rw [if_pos rfl] at hS
      have hS' := Aside0.mk hS
      have hcnt : Aside0 ((bs.length + 1) * 24 ≤ 140737488355328) := ⟨by
        have hn := HN.out
        rw [hS] at hn
        simp at hn
        omega⟩
      clear hS
      obtain ⟨vs, ho, hvs⟩ := HO.out.below BW.out
      have VS := Aside0.mk hvs
      have OV := Aside0.mk ho
      have LV : Aside0 (∀ ad, A2 = some ad → ad.block < w1.heap.size ∧ some ad.block ≠ Value.ownBlock u4) := ⟨fun ad e => ⟨(LX.out ad e).2, fun h => by
        obtain ⟨vs', ho', _⟩ := HO.out
        have h1 := (ho'.lt _ h.symm).2
        have h2 := (LX.out ad e).1
        omega⟩⟩
      clear hvs ho
      have HNL : at_ + n ≤ l.length := by rw [hld] at hnl; omega
      have HN8 : 8 ≤ n := hn8
      clear hnl hn8
      go_wp2_with (at_builtin; refine print_append_cells (w0 := W) (W := w1) W.heap.size rfl (.tmp 22) (.tmp 24) 34 22 (.slice none 0 0) 1 24 rfl Try.underlying34 info22 rfl (by decide) (by decide) _ bs.length vs [.slice A2 x.length x.length] rfl rfl rfl (fun u hu => by rw [List.mem_singleton.1 hu]; rfl) OV.out B1.out B1.out.size hcnt.out ?_)
      intro v2 w2 ho2 hb2 hg2 hat2
      have B2 := Aside0.mk hb2
      have O2 := Aside0.mk (OwnS.grown OV.out VS.out X1.out LV.out ho2 hg2 hat2)
      clear ho2 hg2 hb2 hat2
      go_wp2_with fail
      go_roundw
      case rel =>
        refine ⟨bs ++ [x], at_ + n, k, by simp, HNL, O2.out, B2.out, ⟨?_⟩, by have := HK.out; omega⟩
        rw [hS'.out, List.drop_drop]
        simp [Nat.add_assoc]
      case measure =>
        simp [intOf]
        omega
    · have her' : ¬ ((er : Int) = 0) := by omega
      have hS := HS'.out
      rw [if_neg her] at hS
      simp only [List.append_nil, Nat.add_zero] at hS
      have hn := HN.out
      rw [hS] at hn
      have hS' := Aside0.mk hS
      clear hS
      obtain ⟨AA, cc, rfl, hcc, hnn, hCC⟩ := (HO.out.below BW.out).shape (by simp at hn; omega)
      have CC := Aside0.mk hCC
      clear hCC hn
      go_wp2_with fail
      refine (clips_calls AA bs.length cc w1 hcc hnn).mono ?_
      rintro e w2 ⟨rfl, rfl⟩
      go_wp2_with fail
      go_ret2
      rw [hS'.out]
      exact ⟨_, rfl, ⟨AA, rfl, CC.out⟩, B1.out⟩
end Go.Proofs.Ytdabjklbmmnlkaa.ScanW
