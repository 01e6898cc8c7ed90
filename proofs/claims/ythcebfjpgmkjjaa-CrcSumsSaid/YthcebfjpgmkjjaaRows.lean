/-
  No cell of these rows narrows 'for every input' (looked for: loops, veiled, ifaces, maps, wideKeys, modest, calm, conditions, laid).
  DERIVED. THE GIVEN ROWS OF THIS SEAT. 6 by the template 'for every input the law returns true; each argument reads behind the call as it read before'; 0 by the template 'total and deterministic' (their statements: YthcebfjpgmkjjaaTotals.lean).
  GIVEN WITH THE SEED: the statements are not yours to turn. If you find one false, say at which input.
  Laid BY PROGRAM, IN A SANDBOX (cutbox-rows.mjs): the forced cells as the released guide's own fill.sh prints them over the translation 0fd52a458e1bef1a… (all of the seat's roots in one cut). By AI agents, Wed Nov 11 2026. No macro, syntax, notation, axiom, sorry.
-/
import Derived.Test.YthcebfjpgmkjjaaChecked
import GoSem.Claim
import GoSem.ClaimJoined
import GoSem.ClaimMapViews
import Derived.JoinedTies
import Derived.KernelRfl
namespace Go.Proofs.Ythcebfjpgmkjjaa
/- THE CELL 'sum', in the pinned program and in every row, IS THE sha256 OF THE DUMP (.gsa) THAT YthcebfjpgmkjjaaProg.lean LOADS. Nothing in Lean hashes anything: it is a label: what it is worth is what the hold of that sum in a sandbox is worth. -/
noncomputable def Try.pinned : Pinned := { name := "ythcebfjpgmkjjaa", sum := "0fd52a458e1bef1ab6bbb9679e66dc8acf30ae6345fd7f678728f60c12eea03f", checked := Try.checked }
namespace Rows
def none {H : Type} : Left H := { results := [], args := [] }

/-- 'chartularylaw02.CrcSums': WHATEVER THE INPUT: true; the input reads as it did. -/
def crcSumsSpec : ChangeSpec := { name := "crcSums", fn := fun _ => fun
  | [d1, d2] => { results := [.lit (.bool true)], args := [d1, d2] }
  | _ => none }
def crcSumsRow : OpenClaim := { program := "ythcebfjpgmkjjaa", sum := "0fd52a458e1bef1ab6bbb9679e66dc8acf30ae6345fd7f678728f60c12eea03f", func := "chartulary/chartularylaw02.CrcSums", spec := "crcSums", apart := false }
def CrcSumsSaid : Prop := crcSumsRow.holds Try.pinned (OpenSpec.ofChange crcSumsSpec)

/-- ITS FALSE NEIGHBOUR: 'it returns false'. Refute it at one input. -/
def crcSumsWrong : ChangeSpec := { name := "crcSums", fn := fun _ => fun
  | [d1, d2] => { results := [.lit (.bool false)], args := [d1, d2] }
  | _ => none }
def CrcSumsWrongFalsely : Prop := crcSumsRow.holds Try.pinned (OpenSpec.ofChange crcSumsWrong)

/-- 'chartularylaw02.CrcMores': WHATEVER THE INPUT: true; the input reads as it did. -/
def crcMoresSpec : ChangeSpec := { name := "crcMores", fn := fun _ => fun
  | [d1, d2] => { results := [.lit (.bool true)], args := [d1, d2] }
  | _ => none }
def crcMoresRow : OpenClaim := { program := "ythcebfjpgmkjjaa", sum := "0fd52a458e1bef1ab6bbb9679e66dc8acf30ae6345fd7f678728f60c12eea03f", func := "chartulary/chartularylaw02.CrcMores", spec := "crcMores", apart := false }
def CrcMoresSaid : Prop := crcMoresRow.holds Try.pinned (OpenSpec.ofChange crcMoresSpec)

/-- ITS FALSE NEIGHBOUR: 'it returns false'. Refute it at one input. -/
def crcMoresWrong : ChangeSpec := { name := "crcMores", fn := fun _ => fun
  | [d1, d2] => { results := [.lit (.bool false)], args := [d1, d2] }
  | _ => none }
def CrcMoresWrongFalsely : Prop := crcMoresRow.holds Try.pinned (OpenSpec.ofChange crcMoresWrong)

/-- 'chartularylaw02.CrcZeros': WHATEVER THE INPUT: true; the input reads as it did. -/
def crcZerosSpec : ChangeSpec := { name := "crcZeros", fn := fun _ => fun
  | [d1, d2] => { results := [.lit (.bool true)], args := [d1, d2] }
  | _ => none }
def crcZerosRow : OpenClaim := { program := "ythcebfjpgmkjjaa", sum := "0fd52a458e1bef1ab6bbb9679e66dc8acf30ae6345fd7f678728f60c12eea03f", func := "chartulary/chartularylaw02.CrcZeros", spec := "crcZeros", apart := false }
def CrcZerosSaid : Prop := crcZerosRow.holds Try.pinned (OpenSpec.ofChange crcZerosSpec)

/-- ITS FALSE NEIGHBOUR: 'it returns false'. Refute it at one input. -/
def crcZerosWrong : ChangeSpec := { name := "crcZeros", fn := fun _ => fun
  | [d1, d2] => { results := [.lit (.bool false)], args := [d1, d2] }
  | _ => none }
def CrcZerosWrongFalsely : Prop := crcZerosRow.holds Try.pinned (OpenSpec.ofChange crcZerosWrong)

/-- 'chartularylaw02.CrcFinds': WHATEVER THE INPUT: true; the input reads as it did. -/
def crcFindsSpec : ChangeSpec := { name := "crcFinds", fn := fun _ => fun
  | [d1, d2, d3] => { results := [.lit (.bool true)], args := [d1, d2, d3] }
  | _ => none }
def crcFindsRow : OpenClaim := { program := "ythcebfjpgmkjjaa", sum := "0fd52a458e1bef1ab6bbb9679e66dc8acf30ae6345fd7f678728f60c12eea03f", func := "chartulary/chartularylaw02.CrcFinds", spec := "crcFinds", apart := false }
def CrcFindsSaid : Prop := crcFindsRow.holds Try.pinned (OpenSpec.ofChange crcFindsSpec)

/-- ITS FALSE NEIGHBOUR: 'it returns false'. Refute it at one input. -/
def crcFindsWrong : ChangeSpec := { name := "crcFinds", fn := fun _ => fun
  | [d1, d2, d3] => { results := [.lit (.bool false)], args := [d1, d2, d3] }
  | _ => none }
def CrcFindsWrongFalsely : Prop := crcFindsRow.holds Try.pinned (OpenSpec.ofChange crcFindsWrong)

/-- 'chartularylaw02.CrcJoins': WHATEVER THE INPUT: true; the input reads as it did. -/
def crcJoinsSpec : ChangeSpec := { name := "crcJoins", fn := fun _ => fun
  | [d1, d2] => { results := [.lit (.bool true)], args := [d1, d2] }
  | _ => none }
def crcJoinsRow : OpenClaim := { program := "ythcebfjpgmkjjaa", sum := "0fd52a458e1bef1ab6bbb9679e66dc8acf30ae6345fd7f678728f60c12eea03f", func := "chartulary/chartularylaw02.CrcJoins", spec := "crcJoins", apart := false }
def CrcJoinsSaid : Prop := crcJoinsRow.holds Try.pinned (OpenSpec.ofChange crcJoinsSpec)

/-- ITS FALSE NEIGHBOUR: 'it returns false'. Refute it at one input. -/
def crcJoinsWrong : ChangeSpec := { name := "crcJoins", fn := fun _ => fun
  | [d1, d2] => { results := [.lit (.bool false)], args := [d1, d2] }
  | _ => none }
def CrcJoinsWrongFalsely : Prop := crcJoinsRow.holds Try.pinned (OpenSpec.ofChange crcJoinsWrong)

/-- 'chartularylaw02.CrcGreat': WHATEVER THE INPUT: true; the input reads as it did. -/
def crcGreatSpec : ChangeSpec := { name := "crcGreat", fn := fun _ => fun
  | [d1, d2, d3] => { results := [.lit (.bool true)], args := [d1, d2, d3] }
  | _ => none }
def crcGreatRow : OpenClaim := { program := "ythcebfjpgmkjjaa", sum := "0fd52a458e1bef1ab6bbb9679e66dc8acf30ae6345fd7f678728f60c12eea03f", func := "chartulary/chartularylaw02.CrcGreat", spec := "crcGreat", apart := false }
def CrcGreatSaid : Prop := crcGreatRow.holds Try.pinned (OpenSpec.ofChange crcGreatSpec)

/-- ITS FALSE NEIGHBOUR: 'it returns false'. Refute it at one input. -/
def crcGreatWrong : ChangeSpec := { name := "crcGreat", fn := fun _ => fun
  | [d1, d2, d3] => { results := [.lit (.bool false)], args := [d1, d2, d3] }
  | _ => none }
def CrcGreatWrongFalsely : Prop := crcGreatRow.holds Try.pinned (OpenSpec.ofChange crcGreatWrong)

/- THE SECOND FORM. 'bulk': how many values and letters a reading holds, each counted each time it is reached (what is shared counts as often as it is met; a slice's spare places count too). A statement '..UptoSaid' is the law's where the arguments, and the package variables that the reading takes, are together of bulk at most 1048576: NARROWER than '..Said'. Prove '..Said' where nothing that the law and all that it calls make is longer than what came in: it says more and counts as full. Else prove '..UptoSaid'. A law counts once. -/
mutual
def uptoBulk {H : Type} : DataW H → Nat
  | .lit (.string bytes) => bytes.length + 1
  | .lit _ => 1
  | .nil => 1
  | .ptr d => uptoBulk d + 1
  | .slice elems spare => uptoBulkAll elems + uptoBulkAll spare + 1
  | .agg parts => uptoBulkAll parts + 1
  | .iface _ d => uptoBulk d + 1
  | .map entries => uptoBulkEntries entries + 1
  | .held _ => 1
def uptoBulkAll {H : Type} : List (DataW H) → Nat
  | [] => 0
  | d :: r => uptoBulk d + uptoBulkAll r
def uptoBulkEntries {H : Type} : List (Lit × DataW H) → Nat
  | [] => 0
  | x :: r => uptoBulkEntry x + uptoBulkEntries r
def uptoBulkEntry {H : Type} : Lit × DataW H → Nat
  | (.string bytes, d) => bytes.length + uptoBulk d + 1
  | (_, d) => uptoBulk d + 1
 end
def uptoSmall : (H : Type) → List (DataW H) → Bool := fun _ ds => decide (uptoBulkAll ds ≤ 1048576)
def OpenSpec.upto (s : _root_.Go.ChangeSpec) : _root_.Go.OpenSpec := { _root_.Go.OpenSpec.ofChange s with cond := some uptoSmall }

/-- 'chartularylaw02.CrcSums', WHERE WHAT IT READS IS OF BULK AT MOST 1048576: true; the input reads as it did. -/
def crcSumsUptoRow : OpenClaim := { program := "ythcebfjpgmkjjaa", sum := "0fd52a458e1bef1ab6bbb9679e66dc8acf30ae6345fd7f678728f60c12eea03f", func := "chartulary/chartularylaw02.CrcSums", spec := "crcSums", apart := false, narrowed := true }
def CrcSumsUptoSaid : Prop := crcSumsUptoRow.holds Try.pinned (OpenSpec.upto crcSumsSpec)

/-- 'chartularylaw02.CrcMores', WHERE WHAT IT READS IS OF BULK AT MOST 1048576: true; the input reads as it did. -/
def crcMoresUptoRow : OpenClaim := { program := "ythcebfjpgmkjjaa", sum := "0fd52a458e1bef1ab6bbb9679e66dc8acf30ae6345fd7f678728f60c12eea03f", func := "chartulary/chartularylaw02.CrcMores", spec := "crcMores", apart := false, narrowed := true }
def CrcMoresUptoSaid : Prop := crcMoresUptoRow.holds Try.pinned (OpenSpec.upto crcMoresSpec)

/-- 'chartularylaw02.CrcZeros', WHERE WHAT IT READS IS OF BULK AT MOST 1048576: true; the input reads as it did. -/
def crcZerosUptoRow : OpenClaim := { program := "ythcebfjpgmkjjaa", sum := "0fd52a458e1bef1ab6bbb9679e66dc8acf30ae6345fd7f678728f60c12eea03f", func := "chartulary/chartularylaw02.CrcZeros", spec := "crcZeros", apart := false, narrowed := true }
def CrcZerosUptoSaid : Prop := crcZerosUptoRow.holds Try.pinned (OpenSpec.upto crcZerosSpec)

/-- 'chartularylaw02.CrcFinds', WHERE WHAT IT READS IS OF BULK AT MOST 1048576: true; the input reads as it did. -/
def crcFindsUptoRow : OpenClaim := { program := "ythcebfjpgmkjjaa", sum := "0fd52a458e1bef1ab6bbb9679e66dc8acf30ae6345fd7f678728f60c12eea03f", func := "chartulary/chartularylaw02.CrcFinds", spec := "crcFinds", apart := false, narrowed := true }
def CrcFindsUptoSaid : Prop := crcFindsUptoRow.holds Try.pinned (OpenSpec.upto crcFindsSpec)

/-- 'chartularylaw02.CrcJoins', WHERE WHAT IT READS IS OF BULK AT MOST 1048576: true; the input reads as it did. -/
def crcJoinsUptoRow : OpenClaim := { program := "ythcebfjpgmkjjaa", sum := "0fd52a458e1bef1ab6bbb9679e66dc8acf30ae6345fd7f678728f60c12eea03f", func := "chartulary/chartularylaw02.CrcJoins", spec := "crcJoins", apart := false, narrowed := true }
def CrcJoinsUptoSaid : Prop := crcJoinsUptoRow.holds Try.pinned (OpenSpec.upto crcJoinsSpec)

/-- 'chartularylaw02.CrcGreat', WHERE WHAT IT READS IS OF BULK AT MOST 1048576: true; the input reads as it did. -/
def crcGreatUptoRow : OpenClaim := { program := "ythcebfjpgmkjjaa", sum := "0fd52a458e1bef1ab6bbb9679e66dc8acf30ae6345fd7f678728f60c12eea03f", func := "chartulary/chartularylaw02.CrcGreat", spec := "crcGreat", apart := false, narrowed := true }
def CrcGreatUptoSaid : Prop := crcGreatUptoRow.holds Try.pinned (OpenSpec.upto crcGreatSpec)

end Rows
end Go.Proofs.Ythcebfjpgmkjjaa
