/-
  DERIVED. GIVEN WITH THE SEED: THE CARDS: each row of YtdpfafgecchafaaDoorRows.lean that lists a variable, with what it lists TIED to the program's text (the seventh form; the later family's looks); each row that meets fmt, with fmt's text TOLD by the authors' own Lean function (tested against real Go, not proved from fmt's source: count such statements apart). THE CARD IS WHAT COUNTS. Prove the row's statement (the work); the ties are given (YtdpfafgecchafaaDoorTie.lean); close each card by the builder's one call (the guide's Derived/Test/ToyasCard.lean, 'card_holds'). Laid BY PROGRAM, IN A SANDBOX (cutbox-door.mjs). By AI agents, Wed Nov 11 2026. No macro, syntax, notation, axiom, sorry.
-/
import Derived.Test.YtdpfafgecchafaaDoorRows
import GoSem.ClaimSeven
namespace Go.Proofs.YtdpfafgecchafaaDoor
namespace Rows

/-- THE TIED CARD OF 'augurlaw05.WordsTells'. -/
def wordsTellsCard : Claim7 := { stood := { row := wordsTellsRow, standIns := [], harness := (true, "a59dba58b22d891373b0a76a51995acb31e8a214e67bd5821892781bfb16260a"), looks := false }, kinds := [], alts := [], laidByText := true, laidKinds := [.data, .data, .data], laidTests := true, laidLooks := .later }
def WordsTellsCardSaid : Prop := Claim7.holds Tryd.pinned (.plain (OpenSpec.ofChange wordsTellsSpec)) wordsTellsCard

/-- THE TIED CARD OF 'augurlaw05.WordsAll'. -/
def wordsAllCard : Claim7 := { stood := { row := wordsAllRow, standIns := [], harness := (true, "a59dba58b22d891373b0a76a51995acb31e8a214e67bd5821892781bfb16260a"), looks := false }, kinds := [], alts := [], laidByText := true, laidKinds := [.data, .data, .data], laidTests := true, laidLooks := .later }
def WordsAllCardSaid : Prop := Claim7.holds Tryd.pinned (.plain (OpenSpec.ofChange wordsAllSpec)) wordsAllCard

/-- THE TIED CARD OF 'augurlaw05.WordsOnce'. -/
def wordsOnceCard : Claim7 := { stood := { row := wordsOnceRow, standIns := [], harness := (true, "a59dba58b22d891373b0a76a51995acb31e8a214e67bd5821892781bfb16260a"), looks := false }, kinds := [], alts := [], laidByText := true, laidKinds := [.data, .data, .data], laidTests := true, laidLooks := .later }
def WordsOnceCardSaid : Prop := Claim7.holds Tryd.pinned (.plain (OpenSpec.ofChange wordsOnceSpec)) wordsOnceCard

/-- THE TIED CARD OF 'augurlaw05.WordsReads'. -/
def wordsReadsCard : Claim7 := { stood := { row := wordsReadsRow, standIns := [], harness := (true, "a59dba58b22d891373b0a76a51995acb31e8a214e67bd5821892781bfb16260a"), looks := false }, kinds := [], alts := [], laidByText := true, laidKinds := [.data, .data, .data], laidTests := true, laidLooks := .later }
def WordsReadsCardSaid : Prop := Claim7.holds Tryd.pinned (.plain (OpenSpec.ofChange wordsReadsSpec)) wordsReadsCard

/-- THE TIED CARD OF 'augurlaw05.WordsBack'. -/
def wordsBackCard : Claim7 := { stood := { row := wordsBackRow, standIns := [], harness := (true, "a59dba58b22d891373b0a76a51995acb31e8a214e67bd5821892781bfb16260a"), looks := false }, kinds := [], alts := [], laidByText := true, laidKinds := [.data, .data, .data], laidTests := true, laidLooks := .later }
def WordsBackCardSaid : Prop := Claim7.holds Tryd.pinned (.plain (OpenSpec.ofChange wordsBackSpec)) wordsBackCard

/-- THE SECOND FORM's CARD OF 'augurlaw05.WordsTells'. -/
def wordsTellsUptoCard : Claim7 := { stood := { row := wordsTellsUptoRow, standIns := [], harness := (true, "a59dba58b22d891373b0a76a51995acb31e8a214e67bd5821892781bfb16260a"), looks := false }, kinds := [], alts := [], laidByText := true, laidKinds := [.data, .data, .data], laidTests := true, laidLooks := .later }
def WordsTellsUptoCardSaid : Prop := Claim7.holds Tryd.pinned (.plain (OpenSpec.upto wordsTellsSpec)) wordsTellsUptoCard

/-- THE SECOND FORM's CARD OF 'augurlaw05.WordsAll'. -/
def wordsAllUptoCard : Claim7 := { stood := { row := wordsAllUptoRow, standIns := [], harness := (true, "a59dba58b22d891373b0a76a51995acb31e8a214e67bd5821892781bfb16260a"), looks := false }, kinds := [], alts := [], laidByText := true, laidKinds := [.data, .data, .data], laidTests := true, laidLooks := .later }
def WordsAllUptoCardSaid : Prop := Claim7.holds Tryd.pinned (.plain (OpenSpec.upto wordsAllSpec)) wordsAllUptoCard

/-- THE SECOND FORM's CARD OF 'augurlaw05.WordsOnce'. -/
def wordsOnceUptoCard : Claim7 := { stood := { row := wordsOnceUptoRow, standIns := [], harness := (true, "a59dba58b22d891373b0a76a51995acb31e8a214e67bd5821892781bfb16260a"), looks := false }, kinds := [], alts := [], laidByText := true, laidKinds := [.data, .data, .data], laidTests := true, laidLooks := .later }
def WordsOnceUptoCardSaid : Prop := Claim7.holds Tryd.pinned (.plain (OpenSpec.upto wordsOnceSpec)) wordsOnceUptoCard

/-- THE SECOND FORM's CARD OF 'augurlaw05.WordsReads'. -/
def wordsReadsUptoCard : Claim7 := { stood := { row := wordsReadsUptoRow, standIns := [], harness := (true, "a59dba58b22d891373b0a76a51995acb31e8a214e67bd5821892781bfb16260a"), looks := false }, kinds := [], alts := [], laidByText := true, laidKinds := [.data, .data, .data], laidTests := true, laidLooks := .later }
def WordsReadsUptoCardSaid : Prop := Claim7.holds Tryd.pinned (.plain (OpenSpec.upto wordsReadsSpec)) wordsReadsUptoCard

/-- THE SECOND FORM's CARD OF 'augurlaw05.WordsBack'. -/
def wordsBackUptoCard : Claim7 := { stood := { row := wordsBackUptoRow, standIns := [], harness := (true, "a59dba58b22d891373b0a76a51995acb31e8a214e67bd5821892781bfb16260a"), looks := false }, kinds := [], alts := [], laidByText := true, laidKinds := [.data, .data, .data], laidTests := true, laidLooks := .later }
def WordsBackUptoCardSaid : Prop := Claim7.holds Tryd.pinned (.plain (OpenSpec.upto wordsBackSpec)) wordsBackUptoCard
end Rows
end Go.Proofs.YtdpfafgecchafaaDoor
