/-
  No cell of these rows narrows 'for every input' (looked for: loops, veiled, ifaces, maps, wideKeys, modest, calm, conditions, laid).
  DERIVED. THE GIVEN ROWS OF THIS SEAT. 6 by the template 'for every input the law returns true; each argument reads behind the call as it read before'; 0 by the template 'total and deterministic' (their statements: YtbohofdffjlloaaTotals.lean).
  GIVEN WITH THE SEED: the statements are not yours to turn. If you find one false, say at which input.
  Laid BY PROGRAM, IN A SANDBOX (cutbox-rows.mjs): the forced cells as the released guide's own fill.sh prints them over the translation 468a119503237b4d… (all of the seat's roots in one cut). By AI agents, Wed Nov 11 2026. No macro, syntax, notation, axiom, sorry.
-/
import Derived.Test.YtbohofdffjlloaaChecked
import GoSem.Claim
import GoSem.ClaimJoined
import GoSem.ClaimMapViews
import Derived.JoinedTies
import Derived.KernelRfl
namespace Go.Proofs.Ytbohofdffjlloaa
/- THE CELL 'sum', in the pinned program and in every row, IS THE sha256 OF THE DUMP (.gsa) THAT YtbohofdffjlloaaProg.lean LOADS. Nothing in Lean hashes anything: it is a label: what it is worth is what the hold of that sum in a sandbox is worth. -/
noncomputable def Try.pinned : Pinned := { name := "ytbohofdffjlloaa", sum := "468a119503237b4d92ab6245845a27b3816d183756e599a97dc7a15a299cff54", checked := Try.checked }
namespace Rows
def none {H : Type} : Left H := { results := [], args := [] }

/-- 'chartularylaw12.ModeCovers': WHATEVER THE INPUT: true; the input reads as it did. -/
def modeCoversSpec : ChangeSpec := { name := "modeCovers", fn := fun _ => fun
  | [d1, d2, d3] => { results := [.lit (.bool true)], args := [d1, d2, d3] }
  | _ => none }
def modeCoversRow : OpenClaim := { program := "ytbohofdffjlloaa", sum := "468a119503237b4d92ab6245845a27b3816d183756e599a97dc7a15a299cff54", func := "chartulary/chartularylaw12.ModeCovers", spec := "modeCovers", apart := false }
def ModeCoversSaid : Prop := modeCoversRow.holds Try.pinned (OpenSpec.ofChange modeCoversSpec)

/-- ITS FALSE NEIGHBOUR: 'it returns false'. Refute it at one input. -/
def modeCoversWrong : ChangeSpec := { name := "modeCovers", fn := fun _ => fun
  | [d1, d2, d3] => { results := [.lit (.bool false)], args := [d1, d2, d3] }
  | _ => none }
def ModeCoversWrongFalsely : Prop := modeCoversRow.holds Try.pinned (OpenSpec.ofChange modeCoversWrong)

/-- 'chartularylaw12.ModeStays': WHATEVER THE INPUT: true; the input reads as it did. -/
def modeStaysSpec : ChangeSpec := { name := "modeStays", fn := fun _ => fun
  | [d1, d2, d3, d4, d5] => { results := [.lit (.bool true)], args := [d1, d2, d3, d4, d5] }
  | _ => none }
def modeStaysRow : OpenClaim := { program := "ytbohofdffjlloaa", sum := "468a119503237b4d92ab6245845a27b3816d183756e599a97dc7a15a299cff54", func := "chartulary/chartularylaw12.ModeStays", spec := "modeStays", apart := false }
def ModeStaysSaid : Prop := modeStaysRow.holds Try.pinned (OpenSpec.ofChange modeStaysSpec)

/-- ITS FALSE NEIGHBOUR: 'it returns false'. Refute it at one input. -/
def modeStaysWrong : ChangeSpec := { name := "modeStays", fn := fun _ => fun
  | [d1, d2, d3, d4, d5] => { results := [.lit (.bool false)], args := [d1, d2, d3, d4, d5] }
  | _ => none }
def ModeStaysWrongFalsely : Prop := modeStaysRow.holds Try.pinned (OpenSpec.ofChange modeStaysWrong)

/-- 'chartularylaw12.ModeTells': WHATEVER THE INPUT: true; the input reads as it did. -/
def modeTellsSpec : ChangeSpec := { name := "modeTells", fn := fun _ => fun
  | [d1, d2] => { results := [.lit (.bool true)], args := [d1, d2] }
  | _ => none }
def modeTellsRow : OpenClaim := { program := "ytbohofdffjlloaa", sum := "468a119503237b4d92ab6245845a27b3816d183756e599a97dc7a15a299cff54", func := "chartulary/chartularylaw12.ModeTells", spec := "modeTells", apart := false }
def ModeTellsSaid : Prop := modeTellsRow.holds Try.pinned (OpenSpec.ofChange modeTellsSpec)

/-- ITS FALSE NEIGHBOUR: 'it returns false'. Refute it at one input. -/
def modeTellsWrong : ChangeSpec := { name := "modeTells", fn := fun _ => fun
  | [d1, d2] => { results := [.lit (.bool false)], args := [d1, d2] }
  | _ => none }
def ModeTellsWrongFalsely : Prop := modeTellsRow.holds Try.pinned (OpenSpec.ofChange modeTellsWrong)

/-- 'chartularylaw12.ModeOrder': WHATEVER THE INPUT: true; the input reads as it did. -/
def modeOrderSpec : ChangeSpec := { name := "modeOrder", fn := fun _ => fun
  | [d1, d2, d3, d4] => { results := [.lit (.bool true)], args := [d1, d2, d3, d4] }
  | _ => none }
def modeOrderRow : OpenClaim := { program := "ytbohofdffjlloaa", sum := "468a119503237b4d92ab6245845a27b3816d183756e599a97dc7a15a299cff54", func := "chartulary/chartularylaw12.ModeOrder", spec := "modeOrder", apart := false }
def ModeOrderSaid : Prop := modeOrderRow.holds Try.pinned (OpenSpec.ofChange modeOrderSpec)

/-- ITS FALSE NEIGHBOUR: 'it returns false'. Refute it at one input. -/
def modeOrderWrong : ChangeSpec := { name := "modeOrder", fn := fun _ => fun
  | [d1, d2, d3, d4] => { results := [.lit (.bool false)], args := [d1, d2, d3, d4] }
  | _ => none }
def ModeOrderWrongFalsely : Prop := modeOrderRow.holds Try.pinned (OpenSpec.ofChange modeOrderWrong)

/-- 'chartularylaw12.ModeErases': WHATEVER THE INPUT: true; the input reads as it did. -/
def modeErasesSpec : ChangeSpec := { name := "modeErases", fn := fun _ => fun
  | [d1, d2, d3, d4] => { results := [.lit (.bool true)], args := [d1, d2, d3, d4] }
  | _ => none }
def modeErasesRow : OpenClaim := { program := "ytbohofdffjlloaa", sum := "468a119503237b4d92ab6245845a27b3816d183756e599a97dc7a15a299cff54", func := "chartulary/chartularylaw12.ModeErases", spec := "modeErases", apart := false }
def ModeErasesSaid : Prop := modeErasesRow.holds Try.pinned (OpenSpec.ofChange modeErasesSpec)

/-- ITS FALSE NEIGHBOUR: 'it returns false'. Refute it at one input. -/
def modeErasesWrong : ChangeSpec := { name := "modeErases", fn := fun _ => fun
  | [d1, d2, d3, d4] => { results := [.lit (.bool false)], args := [d1, d2, d3, d4] }
  | _ => none }
def ModeErasesWrongFalsely : Prop := modeErasesRow.holds Try.pinned (OpenSpec.ofChange modeErasesWrong)

/-- 'chartularylaw12.ModeRetains': WHATEVER THE INPUT: true; the input reads as it did. -/
def modeRetainsSpec : ChangeSpec := { name := "modeRetains", fn := fun _ => fun
  | [d1, d2, d3, d4, d5, d6] => { results := [.lit (.bool true)], args := [d1, d2, d3, d4, d5, d6] }
  | _ => none }
def modeRetainsRow : OpenClaim := { program := "ytbohofdffjlloaa", sum := "468a119503237b4d92ab6245845a27b3816d183756e599a97dc7a15a299cff54", func := "chartulary/chartularylaw12.ModeRetains", spec := "modeRetains", apart := false }
def ModeRetainsSaid : Prop := modeRetainsRow.holds Try.pinned (OpenSpec.ofChange modeRetainsSpec)

/-- ITS FALSE NEIGHBOUR: 'it returns false'. Refute it at one input. -/
def modeRetainsWrong : ChangeSpec := { name := "modeRetains", fn := fun _ => fun
  | [d1, d2, d3, d4, d5, d6] => { results := [.lit (.bool false)], args := [d1, d2, d3, d4, d5, d6] }
  | _ => none }
def ModeRetainsWrongFalsely : Prop := modeRetainsRow.holds Try.pinned (OpenSpec.ofChange modeRetainsWrong)

/- THE SECOND FORM. 'bulk': how many values and letters a reading holds, each counted each time it is reached (what is shared counts as often as it is met; a slice's spare places count too). A statement '..UptoSaid' is the law's where the arguments, and the package variables that the reading takes, are together of bulk at most 1048576: NARROWER than '..Said'. Prove '..Said' where nothing that the law and all that it calls make is longer than what came in: it says more and counts as full. Else prove '..UptoSaid'. A law counts once. -/
mutual
def uptoBulk {H : Type} : DataW H → Nat
  | .lit (.string bytes) => bytes.length + 1
  | .lit _ => 1
  | .nil => 1
  | .ptr d => uptoBulk d + 1
  | .slice elems spare => uptoBulkAll elems + uptoBulkAll spare + 1
  | .agg parts => uptoBulkAll parts + 1
  | .iface _ d => uptoBulk d + 1
  | .map entries => uptoBulkEntries entries + 1
  | .held _ => 1
def uptoBulkAll {H : Type} : List (DataW H) → Nat
  | [] => 0
  | d :: r => uptoBulk d + uptoBulkAll r
def uptoBulkEntries {H : Type} : List (Lit × DataW H) → Nat
  | [] => 0
  | x :: r => uptoBulkEntry x + uptoBulkEntries r
def uptoBulkEntry {H : Type} : Lit × DataW H → Nat
  | (.string bytes, d) => bytes.length + uptoBulk d + 1
  | (_, d) => uptoBulk d + 1
 end
def uptoSmall : (H : Type) → List (DataW H) → Bool := fun _ ds => decide (uptoBulkAll ds ≤ 1048576)
def OpenSpec.upto (s : _root_.Go.ChangeSpec) : _root_.Go.OpenSpec := { _root_.Go.OpenSpec.ofChange s with cond := some uptoSmall }

/-- 'chartularylaw12.ModeCovers', WHERE WHAT IT READS IS OF BULK AT MOST 1048576: true; the input reads as it did. -/
def modeCoversUptoRow : OpenClaim := { program := "ytbohofdffjlloaa", sum := "468a119503237b4d92ab6245845a27b3816d183756e599a97dc7a15a299cff54", func := "chartulary/chartularylaw12.ModeCovers", spec := "modeCovers", apart := false, narrowed := true }
def ModeCoversUptoSaid : Prop := modeCoversUptoRow.holds Try.pinned (OpenSpec.upto modeCoversSpec)

/-- 'chartularylaw12.ModeStays', WHERE WHAT IT READS IS OF BULK AT MOST 1048576: true; the input reads as it did. -/
def modeStaysUptoRow : OpenClaim := { program := "ytbohofdffjlloaa", sum := "468a119503237b4d92ab6245845a27b3816d183756e599a97dc7a15a299cff54", func := "chartulary/chartularylaw12.ModeStays", spec := "modeStays", apart := false, narrowed := true }
def ModeStaysUptoSaid : Prop := modeStaysUptoRow.holds Try.pinned (OpenSpec.upto modeStaysSpec)

/-- 'chartularylaw12.ModeTells', WHERE WHAT IT READS IS OF BULK AT MOST 1048576: true; the input reads as it did. -/
def modeTellsUptoRow : OpenClaim := { program := "ytbohofdffjlloaa", sum := "468a119503237b4d92ab6245845a27b3816d183756e599a97dc7a15a299cff54", func := "chartulary/chartularylaw12.ModeTells", spec := "modeTells", apart := false, narrowed := true }
def ModeTellsUptoSaid : Prop := modeTellsUptoRow.holds Try.pinned (OpenSpec.upto modeTellsSpec)

/-- 'chartularylaw12.ModeOrder', WHERE WHAT IT READS IS OF BULK AT MOST 1048576: true; the input reads as it did. -/
def modeOrderUptoRow : OpenClaim := { program := "ytbohofdffjlloaa", sum := "468a119503237b4d92ab6245845a27b3816d183756e599a97dc7a15a299cff54", func := "chartulary/chartularylaw12.ModeOrder", spec := "modeOrder", apart := false, narrowed := true }
def ModeOrderUptoSaid : Prop := modeOrderUptoRow.holds Try.pinned (OpenSpec.upto modeOrderSpec)

/-- 'chartularylaw12.ModeErases', WHERE WHAT IT READS IS OF BULK AT MOST 1048576: true; the input reads as it did. -/
def modeErasesUptoRow : OpenClaim := { program := "ytbohofdffjlloaa", sum := "468a119503237b4d92ab6245845a27b3816d183756e599a97dc7a15a299cff54", func := "chartulary/chartularylaw12.ModeErases", spec := "modeErases", apart := false, narrowed := true }
def ModeErasesUptoSaid : Prop := modeErasesUptoRow.holds Try.pinned (OpenSpec.upto modeErasesSpec)

/-- 'chartularylaw12.ModeRetains', WHERE WHAT IT READS IS OF BULK AT MOST 1048576: true; the input reads as it did. -/
def modeRetainsUptoRow : OpenClaim := { program := "ytbohofdffjlloaa", sum := "468a119503237b4d92ab6245845a27b3816d183756e599a97dc7a15a299cff54", func := "chartulary/chartularylaw12.ModeRetains", spec := "modeRetains", apart := false, narrowed := true }
def ModeRetainsUptoSaid : Prop := modeRetainsUptoRow.holds Try.pinned (OpenSpec.upto modeRetainsSpec)

end Rows
end Go.Proofs.Ytbohofdffjlloaa
