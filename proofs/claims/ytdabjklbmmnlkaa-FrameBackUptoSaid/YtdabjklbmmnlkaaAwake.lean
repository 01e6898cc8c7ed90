/- awake of law 11, walked. No condition. -/
import Derived.Test.YtdabjklbmmnlkaaKeepW
import Derived.Lib.SmallJoins
namespace Go.Proofs.Ytdabjklbmmnlkaa.Awake
set_option linter.unusedVariables false
set_option linter.unusedSimpArgs false
open Go.RowKit Go.Proofs.Ytdabjklbmmnlkaa.Nums Go.Proofs.Ytdabjklbmmnlkaa.Libs Go.Proofs.Ytdabjklbmmnlkaa.PutW Go.Proofs.Ytdabjklbmmnlkaa.FirstW Go.Proofs.Ytdabjklbmmnlkaa.ScanW Go.Proofs.Ytdabjklbmmnlkaa.KeepW Go.Proofs.YtdabjklbmmnlkaaW.PrintWords Go.Proofs.YtdabjklbmmnlkaaW.PrintLast Go.Proofs.YtdabjklbmmnlkaaW.PrintMore
def l9 : List Int := [49, 50, 51, 52, 53, 54, 55, 56, 57]
def F : List Int := [0, 0, 0, 9, 227, 6, 146, 131, 49, 50, 51, 52, 53, 54, 55, 56, 57]
theorem frame9 : frameN l9 = F := by decide +kernel
theorem first9 : firstR (F ++ [5]) = (l9, 17, 0) := by decide +kernel
theorem scan9 : scanR (F ++ F) = ([l9, l9], 34) := by decide +kernel
theorem str9 : strOfNums l9 = { data := #[49, 50, 51, 52, 53, 54, 55, 56, 57] } := by decide +kernel
theorem bytes_F : Bytes F := by unfold Bytes F; simp
theorem bytes_9 : Bytes l9 := by unfold Bytes l9; simp
theorem bytes_app {a b : List Int} (ha : Bytes a) (hb : Bytes b) : Bytes (a ++ b) := fun x hx => by
  rcases List.mem_append.1 hx with h | h
  · exact ha x h
  · exact hb x h
theorem C_heap {w : World} {g : Nat} {l : List Int} {t : TypeId} {fr : Nat × Nat} (hl : l.length ≤ 9223372036854775807) (h : w.heap[g]? = some (.cells (nums .u8 l).toArray t fr)) : (Kd.int .u8).C w (some ⟨g, 0, none⟩) l.length l := by
  refine C_bytes hl fun i hi => ?_
  rw [cell_of_row w g i _ t fr h]
  unfold nums; simp [hi]
theorem own_some {W : World} {base : Nat} {v : Value} {l : List Int} (h : OwnB W base v l) (hl : 0 < l.length) : ∃ g cap, v = .slice (some ⟨g, 0, none⟩) l.length cap := by
  rcases h.2 with ⟨_, h0⟩ | ⟨g, cap, cur, h0, _⟩
  · omega
  · exact ⟨g, cap, h0⟩
set_option maxHeartbeats 4000000 in
set_option maxRecDepth 100000 in
theorem awake_calls (w : World) : Calls Try.prog 12 #[] w fun e w' => e = .returned (.bool true) ∧ Below w.heap.size w w' := by
  have kc : ∀ (W : World) (C : Array Value) (n c g : Nat), g = W.heap.size → (convert 22 22 (.slice (some ⟨g, 0, none⟩) n c)).run Try.prog (W.alloc (.cells C 5)) = .ok (.slice (some ⟨g, 0, none⟩) n c) (W.alloc (.cells C 5 (C.size, C.size + 1))) := fun W C n c g hg => by subst hg; exact Lib.run_convert_bytes_const (P := Try.prog) W 22 5 C n c Try.underlying22 Try.underlying5
  go_enter Try.func12, Try.ntmps12
  go_wp2_with fail
  refine (put_calls (some ⟨w.heap.size, 0, none⟩) 9 l9 _ (C_heap (by decide) (blk_new w _)) (by decide) (by simp) bytes_9 (by decide)).mono ?_
  rintro e w1 ⟨v, rfl, ho, hb1⟩
  have B1 : Aside0 (Below w.heap.size w w1) := ⟨below_step (below_alloc (Below.refl _ _) _) hb1⟩
  have ho' : OwnB w1 w.heap.size v F := by
    rw [frame9] at ho
    exact own_lower ho (below_alloc (Below.refl _ _) _).size
  obtain ⟨g, cap, rfl⟩ := own_some ho' (by decide)
  have O1 := Aside0.mk ho'
  clear ho ho' hb1
  go_wp2_with (at_builtin; refine wpList_append_keep rfl (.tmp 15) (.tmp 16) rfl w.heap.size g cap F rfl (O1.out.alloc _) ⟨w1.heap.size, 0, none⟩ 1 [5] rfl (C_heap (by decide) (blk_new w1 _)) (by decide) (below_alloc B1.out _).size ?_)
  intro v2 w2 ho2 hc2 hb2
  have B2 : Aside0 (Below w.heap.size w w2) := ⟨hb2 w (below_alloc B1.out _)⟩
  have C2 := Aside0.mk hc2
  obtain ⟨A2, c2, rfl, hcc2, hC2, _⟩ := OwnB.reads ho2 (by decide)
  have Y1 := Aside0.mk (first_any A2 c2 (F ++ [5]) w2 hC2 hcc2 (bytes_app bytes_F (by unfold Bytes; simp)) (by decide))
  rw [first9] at Y1
  clear ho2 hc2 hb2 hC2 O1
  go_wp2_with fail
  refine Y1.out.mono ?_
  rintro e w3 ⟨A3, rfl, hx3, _, hb3⟩
  have B3 : Aside0 (Below w.heap.size w w3) := ⟨below_step B2.out hb3⟩
  have C3 := Aside0.mk (Kd.C_below C2.out hb3)
  have X3 := Aside0.mk hx3
  have OM := Aside0.mk (World.ownsRow_made (base := w3.heap.size) (size := 1) (e := 5) w3 #[] 0 (Nat.le_refl _) (Nat.zero_le _) rfl)
  clear hx3 hb3 Y1 C2
  go_wp2_with (at_builtin; refine wpList_append_bytes rfl (.tmp 23) (.tmp 24) rfl w3.heap.size _ [] rfl OM.out (some ⟨g, 0, none⟩) cap F rfl (Kd.C_below C3.out (below_alloc (Below.refl _ _) _)) (by simp) (by decide) (below_alloc (Below.refl _ _) _).size ?_)
  intro v4 w4 ho4 hb4
  have B4 := Aside0.mk (hb4 w3 (below_alloc (Below.refl _ _) _))
  have C4 := Aside0.mk (Kd.C_below C3.out B4.out)
  have O4 : Aside0 (OwnB w4 w3.heap.size v4 F) := ⟨ho4⟩
  clear ho4 hb4 OM
  go_wp2_with (at_builtin; refine wpList_append_bytes rfl (.tmp 25) (.tmp 26) rfl w3.heap.size _ F rfl O4.out (some ⟨g, 0, none⟩) cap F rfl C4.out (by simp) (by decide) B4.out.size ?_)
  intro v5 w5 ho5 hb5
  have B5 := Aside0.mk (hb5 w3 B4.out)
  obtain ⟨A5, c5, rfl, hcc5, hC5, _⟩ := OwnB.reads ho5 (by decide)
  have Y2 := Aside0.mk (scan_calls A5 c5 (F ++ F) w5 hC5 hcc5 (bytes_app bytes_F bytes_F) (by decide) (by rw [scan9]; decide))
  rw [scan9] at Y2
  clear ho5 hb5 hC5 O4 C4 B4
  go_wp2_with fail
  refine Y2.out.mono ?_
  rintro e w6 ⟨v6, rfl, ⟨A6, rfl, _⟩, hb6⟩
  have B36 := Aside0.mk (below_step B5.out hb6)
  have B6 : Aside0 (Below w.heap.size w w6) := ⟨below_step B3.out B36.out⟩
  have C6 := Kd.C_below C3.out B36.out
  have X6 := Kd.C_below X3.out B36.out
  have t3 : w6.cell? ⟨g, 3, none⟩ = some (.int .u8 9) := by
    have := C_cells C6 3 _ rfl
    rwa [add_plain] at this
  have t4 : w6.cell? ⟨g, 4, none⟩ = some (.int .u8 227) := by
    have := C_cells C6 4 _ rfl
    rwa [add_plain] at this
  have ts : (convert 22 9 (.slice A3 l9.length l9.length)).run Try.prog w6 = .ok (.string { data := #[49, 50, 51, 52, 53, 54, 55, 56, 57] }) w6 := by
    have := string_of_reads (P := Try.prog) Try.underlying22 Try.underlying5 Try.underlying9 (c := l9.length) (Kd.reads_of_C (d := (0 : Int)) (h1 := fun _ => rfl) X6)
    rw [str9] at this
    exact this
  clear C6 X6 hb6 Y2
  go_wp2_with fail
  go_ret
  exact ⟨by simp, B6.out⟩
end Go.Proofs.Ytdabjklbmmnlkaa.Awake
