/-
  DERIVED. GIVEN WITH THE SEED: THE CARDS: each row of YtniendffanemcaaDoorRows.lean that lists a variable, with what it lists TIED to the program's text (the seventh form; the later family's looks); each row that meets fmt, with fmt's text TOLD by the authors' own Lean function (tested against real Go, not proved from fmt's source: count such statements apart). THE CARD IS WHAT COUNTS. Prove the row's statement (the work); the ties are given (YtniendffanemcaaDoorTie.lean); close each card by the builder's one call (the guide's Derived/Test/ToyasCard.lean, 'card_holds'). Laid BY PROGRAM, IN A SANDBOX (cutbox-door.mjs). By AI agents, Wed Nov 11 2026. No macro, syntax, notation, axiom, sorry.
-/
import Derived.Test.YtniendffanemcaaDoorRows
import GoSem.ClaimSeven
namespace Go.Proofs.YtniendffanemcaaDoor
namespace Rows

/-- THE TIED CARD OF 'oublaw4.SlabReads'. -/
def slabReadsCard : Claim7 := { stood := { row := slabReadsRow, standIns := [], harness := (true, "b7135f25f2b3f34873c868d6989532d7a73b2aff7448b124caf36abf63a54554"), looks := false }, kinds := [], alts := [], laidByText := true, laidKinds := [.data, .pinned], laidTests := true, laidLooks := .later }
def SlabReadsCardSaid : Prop := Claim7.holds Tryd.pinned (.plain (OpenSpec.ofChange slabReadsSpec)) slabReadsCard

/-- THE TIED CARD OF 'oublaw4.SlabEnds'. -/
def slabEndsCard : Claim7 := { stood := { row := slabEndsRow, standIns := [], harness := (true, "b7135f25f2b3f34873c868d6989532d7a73b2aff7448b124caf36abf63a54554"), looks := false }, kinds := [], alts := [], laidByText := true, laidKinds := [.data, .pinned], laidTests := true, laidLooks := .later }
def SlabEndsCardSaid : Prop := Claim7.holds Tryd.pinned (.plain (OpenSpec.ofChange slabEndsSpec)) slabEndsCard

/-- THE TIED CARD OF 'oublaw4.SlabCuts'. -/
def slabCutsCard : Claim7 := { stood := { row := slabCutsRow, standIns := [], harness := (true, "b7135f25f2b3f34873c868d6989532d7a73b2aff7448b124caf36abf63a54554"), looks := false }, kinds := [], alts := [], laidByText := true, laidKinds := [.data, .pinned], laidTests := true, laidLooks := .later }
def SlabCutsCardSaid : Prop := Claim7.holds Tryd.pinned (.plain (OpenSpec.ofChange slabCutsSpec)) slabCutsCard

/-- THE TIED CARD OF 'oublaw4.SlabWrites'. -/
def slabWritesCard : Claim7 := { stood := { row := slabWritesRow, standIns := [], harness := (true, "b7135f25f2b3f34873c868d6989532d7a73b2aff7448b124caf36abf63a54554"), looks := false }, kinds := [], alts := [], laidByText := true, laidKinds := [.data, .pinned], laidTests := true, laidLooks := .later }
def SlabWritesCardSaid : Prop := Claim7.holds Tryd.pinned (.plain (OpenSpec.ofChange slabWritesSpec)) slabWritesCard

/-- THE TIED CARD OF 'oublaw4.SlabBack'. -/
def slabBackCard : Claim7 := { stood := { row := slabBackRow, standIns := [], harness := (true, "b7135f25f2b3f34873c868d6989532d7a73b2aff7448b124caf36abf63a54554"), looks := false }, kinds := [], alts := [], laidByText := true, laidKinds := [.data, .pinned], laidTests := true, laidLooks := .later }
def SlabBackCardSaid : Prop := Claim7.holds Tryd.pinned (.plain (OpenSpec.ofChange slabBackSpec)) slabBackCard

/-- THE TIED CARD OF 'oublaw4.SlabJoins'. -/
def slabJoinsCard : Claim7 := { stood := { row := slabJoinsRow, standIns := [], harness := (true, "b7135f25f2b3f34873c868d6989532d7a73b2aff7448b124caf36abf63a54554"), looks := false }, kinds := [], alts := [], laidByText := true, laidKinds := [.data, .pinned], laidTests := true, laidLooks := .later }
def SlabJoinsCardSaid : Prop := Claim7.holds Tryd.pinned (.plain (OpenSpec.ofChange slabJoinsSpec)) slabJoinsCard

/-- THE SECOND FORM's CARD OF 'oublaw4.SlabReads'. -/
def slabReadsUptoCard : Claim7 := { stood := { row := slabReadsUptoRow, standIns := [], harness := (true, "b7135f25f2b3f34873c868d6989532d7a73b2aff7448b124caf36abf63a54554"), looks := false }, kinds := [], alts := [], laidByText := true, laidKinds := [.data, .pinned], laidTests := true, laidLooks := .later }
def SlabReadsUptoCardSaid : Prop := Claim7.holds Tryd.pinned (.plain (OpenSpec.upto slabReadsSpec)) slabReadsUptoCard

/-- THE SECOND FORM's CARD OF 'oublaw4.SlabEnds'. -/
def slabEndsUptoCard : Claim7 := { stood := { row := slabEndsUptoRow, standIns := [], harness := (true, "b7135f25f2b3f34873c868d6989532d7a73b2aff7448b124caf36abf63a54554"), looks := false }, kinds := [], alts := [], laidByText := true, laidKinds := [.data, .pinned], laidTests := true, laidLooks := .later }
def SlabEndsUptoCardSaid : Prop := Claim7.holds Tryd.pinned (.plain (OpenSpec.upto slabEndsSpec)) slabEndsUptoCard

/-- THE SECOND FORM's CARD OF 'oublaw4.SlabCuts'. -/
def slabCutsUptoCard : Claim7 := { stood := { row := slabCutsUptoRow, standIns := [], harness := (true, "b7135f25f2b3f34873c868d6989532d7a73b2aff7448b124caf36abf63a54554"), looks := false }, kinds := [], alts := [], laidByText := true, laidKinds := [.data, .pinned], laidTests := true, laidLooks := .later }
def SlabCutsUptoCardSaid : Prop := Claim7.holds Tryd.pinned (.plain (OpenSpec.upto slabCutsSpec)) slabCutsUptoCard

/-- THE SECOND FORM's CARD OF 'oublaw4.SlabWrites'. -/
def slabWritesUptoCard : Claim7 := { stood := { row := slabWritesUptoRow, standIns := [], harness := (true, "b7135f25f2b3f34873c868d6989532d7a73b2aff7448b124caf36abf63a54554"), looks := false }, kinds := [], alts := [], laidByText := true, laidKinds := [.data, .pinned], laidTests := true, laidLooks := .later }
def SlabWritesUptoCardSaid : Prop := Claim7.holds Tryd.pinned (.plain (OpenSpec.upto slabWritesSpec)) slabWritesUptoCard

/-- THE SECOND FORM's CARD OF 'oublaw4.SlabBack'. -/
def slabBackUptoCard : Claim7 := { stood := { row := slabBackUptoRow, standIns := [], harness := (true, "b7135f25f2b3f34873c868d6989532d7a73b2aff7448b124caf36abf63a54554"), looks := false }, kinds := [], alts := [], laidByText := true, laidKinds := [.data, .pinned], laidTests := true, laidLooks := .later }
def SlabBackUptoCardSaid : Prop := Claim7.holds Tryd.pinned (.plain (OpenSpec.upto slabBackSpec)) slabBackUptoCard

/-- THE SECOND FORM's CARD OF 'oublaw4.SlabJoins'. -/
def slabJoinsUptoCard : Claim7 := { stood := { row := slabJoinsUptoRow, standIns := [], harness := (true, "b7135f25f2b3f34873c868d6989532d7a73b2aff7448b124caf36abf63a54554"), looks := false }, kinds := [], alts := [], laidByText := true, laidKinds := [.data, .pinned], laidTests := true, laidLooks := .later }
def SlabJoinsUptoCardSaid : Prop := Claim7.holds Tryd.pinned (.plain (OpenSpec.upto slabJoinsSpec)) slabJoinsUptoCard
end Rows
end Go.Proofs.YtniendffanemcaaDoor
