/- The tables of the reference, computed. No condition. -/
import Derived.Test.YtbkocnclaobabaaDoorRefM
import Derived.Test.YtbkocnclaobabaaDoorPAllx2
import Derived.Test.YtbkocnclaobabaaDoorPAllx3
namespace Go.Proofs.YtbkocnclaobabaaDoor.RefC
set_option linter.unusedVariables false
set_option linter.unusedSimpArgs false
open Go.RowKit Go.Proofs.YtbkocnclaobabaaDoor.PAll Go.Proofs.YtbkocnclaobabaaDoor.Nums Go.Proofs.YtbkocnclaobabaaDoor.PutM Go.Proofs.YtbkocnclaobabaaDoor.Libs Go.Proofs.YtbkocnclaobabaaDoor.ShaM Go.Proofs.YtbkocnclaobabaaDoor.WriteM Go.Proofs.YtbkocnclaobabaaDoor.Arr Go.Proofs.YtbkocnclaobabaaDoor.SchedW Go.Proofs.YtbkocnclaobabaaDoor.NewW Go.Proofs.YtbkocnclaobabaaDoor.MixW Go.Proofs.YtbkocnclaobabaaDoor.App Go.Proofs.YtbkocnclaobabaaDoor.HashW Go.Proofs.YtbkocnclaobabaaDoorW.PrintWords Go.Proofs.YtbkocnclaobabaaDoorW.PrintLast Go.Proofs.YtbkocnclaobabaaDoorW.PrintMore
/-- The first primes. -/
def PR : List Int := [2, 3, 5, 7, 11, 13, 17, 19, 23, 29, 31, 37, 41, 43, 47, 53, 59, 61, 67, 71, 73, 79, 83, 89, 97, 101, 103, 107, 109, 113, 127, 131, 137, 139, 149, 151, 157, 163, 167, 173, 179, 181, 191, 193, 197, 199, 211, 223, 227, 229, 233, 239, 241, 251, 257, 263, 269, 271, 277, 281, 283, 293, 307, 311]
set_option maxRecDepth 1000000 in
set_option maxHeartbeats 4000000 in
theorem primes_eq : chartularyref03_primes.f 30000 64 = some PR := by kernel_rfl
set_option maxRecDepth 1000000 in
theorem cube0 : chartularyref03_root.f 60 2 true = some 1116352408 := by kernel_rfl
set_option maxRecDepth 1000000 in
theorem cube1 : chartularyref03_root.f 60 3 true = some 1899447441 := by kernel_rfl
set_option maxRecDepth 1000000 in
theorem cube2 : chartularyref03_root.f 60 5 true = some 3049323471 := by kernel_rfl
set_option maxRecDepth 1000000 in
theorem cube3 : chartularyref03_root.f 60 7 true = some 3921009573 := by kernel_rfl
set_option maxRecDepth 1000000 in
theorem cube4 : chartularyref03_root.f 60 11 true = some 961987163 := by kernel_rfl
set_option maxRecDepth 1000000 in
theorem cube5 : chartularyref03_root.f 60 13 true = some 1508970993 := by kernel_rfl
set_option maxRecDepth 1000000 in
theorem cube6 : chartularyref03_root.f 60 17 true = some 2453635748 := by kernel_rfl
set_option maxRecDepth 1000000 in
theorem cube7 : chartularyref03_root.f 60 19 true = some 2870763221 := by kernel_rfl
set_option maxRecDepth 1000000 in
theorem cube8 : chartularyref03_root.f 60 23 true = some 3624381080 := by kernel_rfl
set_option maxRecDepth 1000000 in
theorem cube9 : chartularyref03_root.f 60 29 true = some 310598401 := by kernel_rfl
set_option maxRecDepth 1000000 in
theorem cube10 : chartularyref03_root.f 60 31 true = some 607225278 := by kernel_rfl
set_option maxRecDepth 1000000 in
theorem cube11 : chartularyref03_root.f 60 37 true = some 1426881987 := by kernel_rfl
set_option maxRecDepth 1000000 in
theorem cube12 : chartularyref03_root.f 60 41 true = some 1925078388 := by kernel_rfl
set_option maxRecDepth 1000000 in
theorem cube13 : chartularyref03_root.f 60 43 true = some 2162078206 := by kernel_rfl
set_option maxRecDepth 1000000 in
theorem cube14 : chartularyref03_root.f 60 47 true = some 2614888103 := by kernel_rfl
set_option maxRecDepth 1000000 in
theorem cube15 : chartularyref03_root.f 60 53 true = some 3248222580 := by kernel_rfl
set_option maxRecDepth 1000000 in
theorem cube16 : chartularyref03_root.f 60 59 true = some 3835390401 := by kernel_rfl
set_option maxRecDepth 1000000 in
theorem cube17 : chartularyref03_root.f 60 61 true = some 4022224774 := by kernel_rfl
set_option maxRecDepth 1000000 in
theorem cube18 : chartularyref03_root.f 60 67 true = some 264347078 := by kernel_rfl
set_option maxRecDepth 1000000 in
theorem cube19 : chartularyref03_root.f 60 71 true = some 604807628 := by kernel_rfl
set_option maxRecDepth 1000000 in
theorem cube20 : chartularyref03_root.f 60 73 true = some 770255983 := by kernel_rfl
set_option maxRecDepth 1000000 in
theorem cube21 : chartularyref03_root.f 60 79 true = some 1249150122 := by kernel_rfl
set_option maxRecDepth 1000000 in
theorem cube22 : chartularyref03_root.f 60 83 true = some 1555081692 := by kernel_rfl
set_option maxRecDepth 1000000 in
theorem cube23 : chartularyref03_root.f 60 89 true = some 1996064986 := by kernel_rfl
set_option maxRecDepth 1000000 in
theorem cube24 : chartularyref03_root.f 60 97 true = some 2554220882 := by kernel_rfl
set_option maxRecDepth 1000000 in
theorem cube25 : chartularyref03_root.f 60 101 true = some 2821834349 := by kernel_rfl
set_option maxRecDepth 1000000 in
theorem cube26 : chartularyref03_root.f 60 103 true = some 2952996808 := by kernel_rfl
set_option maxRecDepth 1000000 in
theorem cube27 : chartularyref03_root.f 60 107 true = some 3210313671 := by kernel_rfl
set_option maxRecDepth 1000000 in
theorem cube28 : chartularyref03_root.f 60 109 true = some 3336571891 := by kernel_rfl
set_option maxRecDepth 1000000 in
theorem cube29 : chartularyref03_root.f 60 113 true = some 3584528711 := by kernel_rfl
set_option maxRecDepth 1000000 in
theorem cube30 : chartularyref03_root.f 60 127 true = some 113926993 := by kernel_rfl
set_option maxRecDepth 1000000 in
theorem cube31 : chartularyref03_root.f 60 131 true = some 338241895 := by kernel_rfl
set_option maxRecDepth 1000000 in
theorem cube32 : chartularyref03_root.f 60 137 true = some 666307205 := by kernel_rfl
set_option maxRecDepth 1000000 in
theorem cube33 : chartularyref03_root.f 60 139 true = some 773529912 := by kernel_rfl
set_option maxRecDepth 1000000 in
theorem cube34 : chartularyref03_root.f 60 149 true = some 1294757372 := by kernel_rfl
set_option maxRecDepth 1000000 in
theorem cube35 : chartularyref03_root.f 60 151 true = some 1396182291 := by kernel_rfl
set_option maxRecDepth 1000000 in
theorem cube36 : chartularyref03_root.f 60 157 true = some 1695183700 := by kernel_rfl
set_option maxRecDepth 1000000 in
theorem cube37 : chartularyref03_root.f 60 163 true = some 1986661051 := by kernel_rfl
set_option maxRecDepth 1000000 in
theorem cube38 : chartularyref03_root.f 60 167 true = some 2177026350 := by kernel_rfl
set_option maxRecDepth 1000000 in
theorem cube39 : chartularyref03_root.f 60 173 true = some 2456956037 := by kernel_rfl
set_option maxRecDepth 1000000 in
theorem cube40 : chartularyref03_root.f 60 179 true = some 2730485921 := by kernel_rfl
set_option maxRecDepth 1000000 in
theorem cube41 : chartularyref03_root.f 60 181 true = some 2820302411 := by kernel_rfl
set_option maxRecDepth 1000000 in
theorem cube42 : chartularyref03_root.f 60 191 true = some 3259730800 := by kernel_rfl
set_option maxRecDepth 1000000 in
theorem cube43 : chartularyref03_root.f 60 193 true = some 3345764771 := by kernel_rfl
set_option maxRecDepth 1000000 in
theorem cube44 : chartularyref03_root.f 60 197 true = some 3516065817 := by kernel_rfl
set_option maxRecDepth 1000000 in
theorem cube45 : chartularyref03_root.f 60 199 true = some 3600352804 := by kernel_rfl
set_option maxRecDepth 1000000 in
theorem cube46 : chartularyref03_root.f 60 211 true = some 4094571909 := by kernel_rfl
set_option maxRecDepth 1000000 in
theorem cube47 : chartularyref03_root.f 60 223 true = some 275423344 := by kernel_rfl
set_option maxRecDepth 1000000 in
theorem cube48 : chartularyref03_root.f 60 227 true = some 430227734 := by kernel_rfl
set_option maxRecDepth 1000000 in
theorem cube49 : chartularyref03_root.f 60 229 true = some 506948616 := by kernel_rfl
set_option maxRecDepth 1000000 in
theorem cube50 : chartularyref03_root.f 60 233 true = some 659060556 := by kernel_rfl
set_option maxRecDepth 1000000 in
theorem cube51 : chartularyref03_root.f 60 239 true = some 883997877 := by kernel_rfl
set_option maxRecDepth 1000000 in
theorem cube52 : chartularyref03_root.f 60 241 true = some 958139571 := by kernel_rfl
set_option maxRecDepth 1000000 in
theorem cube53 : chartularyref03_root.f 60 251 true = some 1322822218 := by kernel_rfl
set_option maxRecDepth 1000000 in
theorem cube54 : chartularyref03_root.f 60 257 true = some 1537002063 := by kernel_rfl
set_option maxRecDepth 1000000 in
theorem cube55 : chartularyref03_root.f 60 263 true = some 1747873779 := by kernel_rfl
set_option maxRecDepth 1000000 in
theorem cube56 : chartularyref03_root.f 60 269 true = some 1955562222 := by kernel_rfl
set_option maxRecDepth 1000000 in
theorem cube57 : chartularyref03_root.f 60 271 true = some 2024104815 := by kernel_rfl
set_option maxRecDepth 1000000 in
theorem cube58 : chartularyref03_root.f 60 277 true = some 2227730452 := by kernel_rfl
set_option maxRecDepth 1000000 in
theorem cube59 : chartularyref03_root.f 60 281 true = some 2361852424 := by kernel_rfl
set_option maxRecDepth 1000000 in
theorem cube60 : chartularyref03_root.f 60 283 true = some 2428436474 := by kernel_rfl
set_option maxRecDepth 1000000 in
theorem cube61 : chartularyref03_root.f 60 293 true = some 2756734187 := by kernel_rfl
set_option maxRecDepth 1000000 in
theorem cube62 : chartularyref03_root.f 60 307 true = some 3204031479 := by kernel_rfl
set_option maxRecDepth 1000000 in
theorem cube63 : chartularyref03_root.f 60 311 true = some 3329325298 := by kernel_rfl
set_option maxRecDepth 1000000 in
theorem square0 : chartularyref03_root.f 60 2 false = some 1779033703 := by kernel_rfl
set_option maxRecDepth 1000000 in
theorem square1 : chartularyref03_root.f 60 3 false = some 3144134277 := by kernel_rfl
set_option maxRecDepth 1000000 in
theorem square2 : chartularyref03_root.f 60 5 false = some 1013904242 := by kernel_rfl
set_option maxRecDepth 1000000 in
theorem square3 : chartularyref03_root.f 60 7 false = some 2773480762 := by kernel_rfl
set_option maxRecDepth 1000000 in
theorem square4 : chartularyref03_root.f 60 11 false = some 1359893119 := by kernel_rfl
set_option maxRecDepth 1000000 in
theorem square5 : chartularyref03_root.f 60 13 false = some 2600822924 := by kernel_rfl
set_option maxRecDepth 1000000 in
theorem square6 : chartularyref03_root.f 60 17 false = some 528734635 := by kernel_rfl
set_option maxRecDepth 1000000 in
theorem square7 : chartularyref03_root.f 60 19 false = some 1541459225 := by kernel_rfl
theorem cube (i : Nat) (hi : i < 64) : chartularyref03_root.f 60 (PR.getD i 0) true = some (FA.getD i 0) := by
  match i, hi with
  | 0, _ => exact cube0
  | 1, _ => exact cube1
  | 2, _ => exact cube2
  | 3, _ => exact cube3
  | 4, _ => exact cube4
  | 5, _ => exact cube5
  | 6, _ => exact cube6
  | 7, _ => exact cube7
  | 8, _ => exact cube8
  | 9, _ => exact cube9
  | 10, _ => exact cube10
  | 11, _ => exact cube11
  | 12, _ => exact cube12
  | 13, _ => exact cube13
  | 14, _ => exact cube14
  | 15, _ => exact cube15
  | 16, _ => exact cube16
  | 17, _ => exact cube17
  | 18, _ => exact cube18
  | 19, _ => exact cube19
  | 20, _ => exact cube20
  | 21, _ => exact cube21
  | 22, _ => exact cube22
  | 23, _ => exact cube23
  | 24, _ => exact cube24
  | 25, _ => exact cube25
  | 26, _ => exact cube26
  | 27, _ => exact cube27
  | 28, _ => exact cube28
  | 29, _ => exact cube29
  | 30, _ => exact cube30
  | 31, _ => exact cube31
  | 32, _ => exact cube32
  | 33, _ => exact cube33
  | 34, _ => exact cube34
  | 35, _ => exact cube35
  | 36, _ => exact cube36
  | 37, _ => exact cube37
  | 38, _ => exact cube38
  | 39, _ => exact cube39
  | 40, _ => exact cube40
  | 41, _ => exact cube41
  | 42, _ => exact cube42
  | 43, _ => exact cube43
  | 44, _ => exact cube44
  | 45, _ => exact cube45
  | 46, _ => exact cube46
  | 47, _ => exact cube47
  | 48, _ => exact cube48
  | 49, _ => exact cube49
  | 50, _ => exact cube50
  | 51, _ => exact cube51
  | 52, _ => exact cube52
  | 53, _ => exact cube53
  | 54, _ => exact cube54
  | 55, _ => exact cube55
  | 56, _ => exact cube56
  | 57, _ => exact cube57
  | 58, _ => exact cube58
  | 59, _ => exact cube59
  | 60, _ => exact cube60
  | 61, _ => exact cube61
  | 62, _ => exact cube62
  | 63, _ => exact cube63
  | i + 64, h => exact absurd h (by omega)
theorem square (i : Nat) (hi : i < 8) : chartularyref03_root.f 60 (PR.getD i 0) false = some (H0.getD i 0) := by
  match i, hi with
  | 0, _ => exact square0
  | 1, _ => exact square1
  | 2, _ => exact square2
  | 3, _ => exact square3
  | 4, _ => exact square4
  | 5, _ => exact square5
  | 6, _ => exact square6
  | 7, _ => exact square7
  | i + 8, h => exact absurd h (by omega)
end Go.Proofs.YtbkocnclaobabaaDoor.RefC
