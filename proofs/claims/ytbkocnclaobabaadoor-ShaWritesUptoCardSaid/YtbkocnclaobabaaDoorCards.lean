/-
  DERIVED. GIVEN WITH THE SEED: THE CARDS: each row of YtbkocnclaobabaaDoorRows.lean that lists a variable, with what it lists TIED to the program's text (the seventh form; the later family's looks); each row that meets fmt, with fmt's text TOLD by the authors' own Lean function (tested against real Go, not proved from fmt's source: count such statements apart). THE CARD IS WHAT COUNTS. Prove the row's statement (the work); the ties are given (YtbkocnclaobabaaDoorTie.lean); close each card by the builder's one call (the guide's Derived/Test/ToyasCard.lean, 'card_holds'). Laid BY PROGRAM, IN A SANDBOX (cutbox-door.mjs). By AI agents, Wed Nov 11 2026. No macro, syntax, notation, axiom, sorry.
-/
import Derived.Test.YtbkocnclaobabaaDoorRows
import GoSem.ClaimSeven
namespace Go.Proofs.YtbkocnclaobabaaDoor
namespace Rows

/-- THE TIED CARD OF 'chartularylaw03.ShaSums'. -/
def shaSumsCard : Claim7 := { stood := { row := shaSumsRow, standIns := [], harness := (true, "0d90982ab20d31e4297f2e29481d836f09a91a2e3038907b8b0db7864fa9eacc"), looks := false }, kinds := [], alts := [], laidByText := true, laidKinds := [.data], laidTests := true, laidLooks := .later }
def ShaSumsCardSaid : Prop := Claim7.holds Tryd.pinned (.plain (OpenSpec.ofChange shaSumsSpec)) shaSumsCard

/-- THE TIED CARD OF 'chartularylaw03.ShaWrites'. -/
def shaWritesCard : Claim7 := { stood := { row := shaWritesRow, standIns := [], harness := (true, "0d90982ab20d31e4297f2e29481d836f09a91a2e3038907b8b0db7864fa9eacc"), looks := false }, kinds := [], alts := [], laidByText := true, laidKinds := [.data], laidTests := true, laidLooks := .later }
def ShaWritesCardSaid : Prop := Claim7.holds Tryd.pinned (.plain (OpenSpec.ofChange shaWritesSpec)) shaWritesCard

/-- THE TIED CARD OF 'chartularylaw03.ShaTwo'. -/
def shaTwoCard : Claim7 := { stood := { row := shaTwoRow, standIns := [], harness := (true, "0d90982ab20d31e4297f2e29481d836f09a91a2e3038907b8b0db7864fa9eacc"), looks := false }, kinds := [], alts := [], laidByText := true, laidKinds := [.data], laidTests := true, laidLooks := .later }
def ShaTwoCardSaid : Prop := Claim7.holds Tryd.pinned (.plain (OpenSpec.ofChange shaTwoSpec)) shaTwoCard

/-- THE TIED CARD OF 'chartularylaw03.ShaCuts'. -/
def shaCutsCard : Claim7 := { stood := { row := shaCutsRow, standIns := [], harness := (true, "0d90982ab20d31e4297f2e29481d836f09a91a2e3038907b8b0db7864fa9eacc"), looks := false }, kinds := [], alts := [], laidByText := true, laidKinds := [.data], laidTests := true, laidLooks := .later }
def ShaCutsCardSaid : Prop := Claim7.holds Tryd.pinned (.plain (OpenSpec.ofChange shaCutsSpec)) shaCutsCard

/-- THE SECOND FORM's CARD OF 'chartularylaw03.ShaSums'. -/
def shaSumsUptoCard : Claim7 := { stood := { row := shaSumsUptoRow, standIns := [], harness := (true, "0d90982ab20d31e4297f2e29481d836f09a91a2e3038907b8b0db7864fa9eacc"), looks := false }, kinds := [], alts := [], laidByText := true, laidKinds := [.data], laidTests := true, laidLooks := .later }
def ShaSumsUptoCardSaid : Prop := Claim7.holds Tryd.pinned (.plain (OpenSpec.upto shaSumsSpec)) shaSumsUptoCard

/-- THE SECOND FORM's CARD OF 'chartularylaw03.ShaWrites'. -/
def shaWritesUptoCard : Claim7 := { stood := { row := shaWritesUptoRow, standIns := [], harness := (true, "0d90982ab20d31e4297f2e29481d836f09a91a2e3038907b8b0db7864fa9eacc"), looks := false }, kinds := [], alts := [], laidByText := true, laidKinds := [.data], laidTests := true, laidLooks := .later }
def ShaWritesUptoCardSaid : Prop := Claim7.holds Tryd.pinned (.plain (OpenSpec.upto shaWritesSpec)) shaWritesUptoCard

/-- THE SECOND FORM's CARD OF 'chartularylaw03.ShaTwo'. -/
def shaTwoUptoCard : Claim7 := { stood := { row := shaTwoUptoRow, standIns := [], harness := (true, "0d90982ab20d31e4297f2e29481d836f09a91a2e3038907b8b0db7864fa9eacc"), looks := false }, kinds := [], alts := [], laidByText := true, laidKinds := [.data], laidTests := true, laidLooks := .later }
def ShaTwoUptoCardSaid : Prop := Claim7.holds Tryd.pinned (.plain (OpenSpec.upto shaTwoSpec)) shaTwoUptoCard

/-- THE SECOND FORM's CARD OF 'chartularylaw03.ShaCuts'. -/
def shaCutsUptoCard : Claim7 := { stood := { row := shaCutsUptoRow, standIns := [], harness := (true, "0d90982ab20d31e4297f2e29481d836f09a91a2e3038907b8b0db7864fa9eacc"), looks := false }, kinds := [], alts := [], laidByText := true, laidKinds := [.data], laidTests := true, laidLooks := .later }
def ShaCutsUptoCardSaid : Prop := Claim7.holds Tryd.pinned (.plain (OpenSpec.upto shaCutsSpec)) shaCutsUptoCard
end Rows
end Go.Proofs.YtbkocnclaobabaaDoor
