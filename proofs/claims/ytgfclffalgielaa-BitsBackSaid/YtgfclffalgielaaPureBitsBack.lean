/- The plain law of BitsBack: what was written is read as it was, with what stands behind left. No condition. -/
import Derived.Test.YtgfclffalgielaaPutM
import Derived.Test.YtgfclffalgielaaPackM
import Derived.Test.YtgfclffalgielaaTurnM
namespace Go.Proofs.Ytgfclffalgielaa.Pure
open Go Go.RowKit Go.Proofs.Ytgfclffalgielaa.PAll Go.Proofs.Ytgfclffalgielaa.Nums Go.Proofs.Ytgfclffalgielaa.PutM Go.Proofs.Ytgfclffalgielaa.PackM Go.Proofs.Ytgfclffalgielaa.TurnM Go.Proofs.YtgfclffalgielaaW.PrintWords Go.Proofs.YtgfclffalgielaaW.PrintLast
theorem BitsBack : chartularylaw01_BitsBack.Pure := by
  intro n a rest hn ha _ hl hr
  refine ⟨40, ?_⟩
  obtain ⟨h0, h1⟩ := wf_u64 hn
  obtain ⟨a0, a1⟩ := wf_i64 ha
  obtain ⟨n, rfl⟩ := Int.eq_ofNat_of_zero_le h0
  have hr' := bytes_of_wf hr
  have hlen := packN_length (n := n) (by omega)
  have hb : Bytes (packN n ++ rest) := by
    intro x hx
    rcases List.mem_append.1 hx with h | h
    · exact packN_bytes n x h
    · exact hr' x h
  unfold chartularylaw01_BitsBack.f
  rw [pack_eq 40 n (by omega) (by omega)]
  simp only [Option.bind_some, List.nil_append, List.length_nil]
  rw [if_pos (by omega), if_pos (by omega), unpack_eq hb (by rw [List.length_append]; omega) 40 (by omega), put_eq 40 n 8 (by omega) (by omega), specU_pack (by omega)]
  have hp : putR n 8 = (T n 8, 0) := by
    unfold putR
    rw [if_neg (by omega), if_neg (by have : (256 : Nat) ^ (8 : Int).toNat = 18446744073709551616 := by decide
                                      omega)]
    rfl
  have hg : getR (T n 8) = ((n : Int), 0) := by
    unfold getR
    have e8 : (256 : Nat) ^ 8 = 18446744073709551616 := by decide
    rw [T_length, if_neg (by omega), num_T, Nat.mod_eq_of_lt (by omega)]
  rw [hp]
  simp only [Option.bind_some]
  rw [get_eq (T_bytes n 8) 40 (by omega), hg, awake_40, zig_eq a0 a1]
  simp only [Option.bind_some]
  obtain ⟨z0, z1⟩ := zig_range a0 a1
  rw [zag_eq z0 z1, zag_zig]
  simp
end Go.Proofs.Ytgfclffalgielaa.Pure
