/- 'append' to a row of the call's own that is read again afterwards. No condition. -/
import Derived.Test.YtdabjklbmmnlkaaScanW
import Derived.Deep.AppendSrc
import Derived.Maps.AppendAt
import Derived.Lib.AppendZeros
namespace Go.Proofs.Ytdabjklbmmnlkaa.KeepW
set_option linter.unusedVariables false
set_option linter.unusedSimpArgs false
open Go.RowKit Go.Proofs.Ytdabjklbmmnlkaa.Nums Go.Proofs.Ytdabjklbmmnlkaa.Libs Go.Proofs.YtdabjklbmmnlkaaW.PrintWords Go.Proofs.YtdabjklbmmnlkaaW.PrintLast Go.Proofs.YtdabjklbmmnlkaaW.PrintMore
theorem wpList_append_keep {ops : Array Oper} {rest : List Oper} {o : Oper} {a : Act} {w : World} {Q : Exit → Act → World → Prop} (hgd : o.guard = none) (s x : Operand)
    (ho : o.op = .call { callee := .builtin .append, args := #[s, x], argTypes := #[22, 22] }) (base g cap : Nat) (l1 : List Int) (hs : a.eval s = .slice (some ⟨g, 0, none⟩) l1.length cap) (hown : OwnB w base (.slice (some ⟨g, 0, none⟩) l1.length cap) l1)
    (ad : Addr) (c : Nat) (l : List Int) (hx : a.eval x = .slice (some ad) l.length c) (hC : (Kd.int .u8).C w (some ad) l.length l) (h63 : l1.length + l.length ≤ 140737488355328) (hbase : base ≤ w.heap.size)
    (h : ∀ v' w', OwnB w' base v' (l1 ++ l) → (Kd.int .u8).C w' (some ⟨g, 0, none⟩) l1.length l1 → (∀ W0, Below base W0 w → Below base W0 w') → wpList Try.prog ops Q rest (a.put o.dst v') w') : wpList Try.prog ops Q (o :: rest) a w := by
  obtain ⟨i0, hi, hz0, hz1, hz2⟩ := info_parts Libs.info5
  obtain ⟨v', w', hr, h2, h3, _, h5⟩ := run_append_own_at (P := Try.prog) w base 22 o.type 5 i0 (.int .u8 0) 1 1 Try.underlying22 hi hz0 hz1 hz2 rfl (by decide) _ l1.length _ hown ad l.length c (nums .u8 l) (by simp [nums_length]) (C_cells hC) (nums_one l) (by unfold maxLen; omega) (by omega) hbase
  have H2 : OwnB w' base v' (l1 ++ l) := by
    unfold OwnB
    rw [nums_append, List.length_append]
    exact h2
  refine Lib.wpList_append_run w hgd s x 22 22 ho _ _ hs hx v' w' hr (h v' w' H2 ?_ fun W0 hb => hb.grown h3 hbase fun k hk => (hown.lt k hk).1)
  obtain ⟨A, c', hv, hc', hCv, _⟩ := OwnB.reads hown (by omega)
  injection hv with hv1 hv2 hv3
  subst hv1
  by_cases hroom : l1.length + l.length ≤ cap
  · rcases hown.2 with ⟨h0, _⟩ | ⟨g', cap', cur, h0, hg, hh, hnc, hcm, hsz, htk⟩
    · simp at h0
    · simp at h0
      obtain ⟨rfl, rfl⟩ := h0
      have e := run_append_room (P := Try.prog) w 22 o.type 5 i0 Try.underlying22 hi g l1.length cap cur hh ad l.length c (nums .u8 l) (by rw [hz1]; simp [nums_length]) (C_cells hC) (nums_one l) hroom (by rw [hz1, nums_length, hsz]; omega)
      rw [hr] at e
      injection e with e1 e2
      subst e1
      obtain ⟨A2, c2, hv, _, hC2, _⟩ := OwnB.reads H2 (by rw [List.length_append]; omega)
      injection hv with hv1 hv2 hv3
      subst hv1
      have := Kd.C_take (m := l1.length) hC2 (by rw [List.length_append]; omega)
      rw [List.take_left'] at this
      · exact this
      · rfl
  · have e := run_append_grow_src (P := Try.prog) w 22 22 o.type 5 i0 (.int .u8 0) Try.underlying22 hi hz0 (some ⟨g, 0, none⟩) l1.length cap (nums .u8 l1) (by rw [hz1]; exact run_firstCells_some w.drew 1 l1.length ⟨g, 0, none⟩ l1.length cap (nums .u8 l1) (by simp [nums_length]) (by simpa using C_cells hCv)) (.slice (some ad) l.length c) l.length (nums .u8 l)
      (Src.ofSlice w Try.underlying22 ad l.length c (nums .u8 l) (by rw [hz1]; simp [nums_length]) (C_cells hC) (nums_one l)) (by omega) (by omega) (by rw [hz2]; exact growslice_fits (by omega) (by omega))
    rw [hr] at e
    injection e with e1 e2
    rw [e2]
    exact Kd.C_below hCv (below_alloc (Below.refl _ _).drew _)
end Go.Proofs.Ytdabjklbmmnlkaa.KeepW
