/-
  DERIVED. GIVEN WITH THE SEED: THE CARDS: each row of YtenfoaajipiehaaDoorRows.lean that lists a variable, with what it lists TIED to the program's text (the seventh form; the later family's looks); each row that meets fmt, with fmt's text TOLD by the authors' own Lean function (tested against real Go, not proved from fmt's source: count such statements apart). THE CARD IS WHAT COUNTS. Prove the row's statement (the work); the ties are given (YtenfoaajipiehaaDoorTie.lean); close each card by the builder's one call (the guide's Derived/Test/ToyasCard.lean, 'card_holds'). Laid BY PROGRAM, IN A SANDBOX (cutbox-door.mjs). By AI agents, Wed Nov 11 2026. No macro, syntax, notation, axiom, sorry.
-/
import Derived.Test.YtenfoaajipiehaaDoorRows
import GoSem.ClaimSeven
namespace Go.Proofs.YtenfoaajipiehaaDoor
namespace Rows

/-- THE TIED CARD OF 'sennitlaw21.HunkTells'. -/
def hunkTellsCard : Claim7 := { stood := { row := hunkTellsRow, standIns := [], harness := (true, "4afa66d41e90e88cdd0c1676eda8063e96ee315d0266e69d6bed0e5039fe9d81"), looks := false }, kinds := [], alts := [], laidByText := true, laidKinds := [.data, .pinned], laidTests := true, laidLooks := .later }
def HunkTellsCardSaid : Prop := Claim7.holds Tryd.pinned (.plain (OpenSpec.ofChange hunkTellsSpec)) hunkTellsCard

/-- THE TIED CARD OF 'sennitlaw21.HunkGroups'. -/
def hunkGroupsCard : Claim7 := { stood := { row := hunkGroupsRow, standIns := [], harness := (true, "4afa66d41e90e88cdd0c1676eda8063e96ee315d0266e69d6bed0e5039fe9d81"), looks := false }, kinds := [], alts := [], laidByText := true, laidKinds := [.data, .pinned], laidTests := true, laidLooks := .later }
def HunkGroupsCardSaid : Prop := Claim7.holds Tryd.pinned (.plain (OpenSpec.ofChange hunkGroupsSpec)) hunkGroupsCard

/-- THE TIED CARD OF 'sennitlaw21.HunkCovers'. -/
def hunkCoversCard : Claim7 := { stood := { row := hunkCoversRow, standIns := [], harness := (true, "4afa66d41e90e88cdd0c1676eda8063e96ee315d0266e69d6bed0e5039fe9d81"), looks := false }, kinds := [], alts := [], laidByText := true, laidKinds := [.data, .pinned], laidTests := true, laidLooks := .later }
def HunkCoversCardSaid : Prop := Claim7.holds Tryd.pinned (.plain (OpenSpec.ofChange hunkCoversSpec)) hunkCoversCard

/-- THE TIED CARD OF 'sennitlaw21.HunkSpans'. -/
def hunkSpansCard : Claim7 := { stood := { row := hunkSpansRow, standIns := [], harness := (true, "4afa66d41e90e88cdd0c1676eda8063e96ee315d0266e69d6bed0e5039fe9d81"), looks := false }, kinds := [], alts := [], laidByText := true, laidKinds := [.data, .pinned], laidTests := true, laidLooks := .later }
def HunkSpansCardSaid : Prop := Claim7.holds Tryd.pinned (.plain (OpenSpec.ofChange hunkSpansSpec)) hunkSpansCard

/-- THE TIED CARD OF 'sennitlaw21.HunkContext'. -/
def hunkContextCard : Claim7 := { stood := { row := hunkContextRow, standIns := [], harness := (true, "4afa66d41e90e88cdd0c1676eda8063e96ee315d0266e69d6bed0e5039fe9d81"), looks := false }, kinds := [], alts := [], laidByText := true, laidKinds := [.data, .pinned], laidTests := true, laidLooks := .later }
def HunkContextCardSaid : Prop := Claim7.holds Tryd.pinned (.plain (OpenSpec.ofChange hunkContextSpec)) hunkContextCard

/-- THE TIED CARD OF 'sennitlaw21.HunkNone'. -/
def hunkNoneCard : Claim7 := { stood := { row := hunkNoneRow, standIns := [], harness := (true, "4afa66d41e90e88cdd0c1676eda8063e96ee315d0266e69d6bed0e5039fe9d81"), looks := false }, kinds := [], alts := [], laidByText := true, laidKinds := [.data, .pinned], laidTests := true, laidLooks := .later }
def HunkNoneCardSaid : Prop := Claim7.holds Tryd.pinned (.plain (OpenSpec.ofChange hunkNoneSpec)) hunkNoneCard

/-- THE SECOND FORM's CARD OF 'sennitlaw21.HunkTells'. -/
def hunkTellsUptoCard : Claim7 := { stood := { row := hunkTellsUptoRow, standIns := [], harness := (true, "4afa66d41e90e88cdd0c1676eda8063e96ee315d0266e69d6bed0e5039fe9d81"), looks := false }, kinds := [], alts := [], laidByText := true, laidKinds := [.data, .pinned], laidTests := true, laidLooks := .later }
def HunkTellsUptoCardSaid : Prop := Claim7.holds Tryd.pinned (.plain (OpenSpec.upto hunkTellsSpec)) hunkTellsUptoCard

/-- THE SECOND FORM's CARD OF 'sennitlaw21.HunkGroups'. -/
def hunkGroupsUptoCard : Claim7 := { stood := { row := hunkGroupsUptoRow, standIns := [], harness := (true, "4afa66d41e90e88cdd0c1676eda8063e96ee315d0266e69d6bed0e5039fe9d81"), looks := false }, kinds := [], alts := [], laidByText := true, laidKinds := [.data, .pinned], laidTests := true, laidLooks := .later }
def HunkGroupsUptoCardSaid : Prop := Claim7.holds Tryd.pinned (.plain (OpenSpec.upto hunkGroupsSpec)) hunkGroupsUptoCard

/-- THE SECOND FORM's CARD OF 'sennitlaw21.HunkCovers'. -/
def hunkCoversUptoCard : Claim7 := { stood := { row := hunkCoversUptoRow, standIns := [], harness := (true, "4afa66d41e90e88cdd0c1676eda8063e96ee315d0266e69d6bed0e5039fe9d81"), looks := false }, kinds := [], alts := [], laidByText := true, laidKinds := [.data, .pinned], laidTests := true, laidLooks := .later }
def HunkCoversUptoCardSaid : Prop := Claim7.holds Tryd.pinned (.plain (OpenSpec.upto hunkCoversSpec)) hunkCoversUptoCard

/-- THE SECOND FORM's CARD OF 'sennitlaw21.HunkSpans'. -/
def hunkSpansUptoCard : Claim7 := { stood := { row := hunkSpansUptoRow, standIns := [], harness := (true, "4afa66d41e90e88cdd0c1676eda8063e96ee315d0266e69d6bed0e5039fe9d81"), looks := false }, kinds := [], alts := [], laidByText := true, laidKinds := [.data, .pinned], laidTests := true, laidLooks := .later }
def HunkSpansUptoCardSaid : Prop := Claim7.holds Tryd.pinned (.plain (OpenSpec.upto hunkSpansSpec)) hunkSpansUptoCard

/-- THE SECOND FORM's CARD OF 'sennitlaw21.HunkContext'. -/
def hunkContextUptoCard : Claim7 := { stood := { row := hunkContextUptoRow, standIns := [], harness := (true, "4afa66d41e90e88cdd0c1676eda8063e96ee315d0266e69d6bed0e5039fe9d81"), looks := false }, kinds := [], alts := [], laidByText := true, laidKinds := [.data, .pinned], laidTests := true, laidLooks := .later }
def HunkContextUptoCardSaid : Prop := Claim7.holds Tryd.pinned (.plain (OpenSpec.upto hunkContextSpec)) hunkContextUptoCard

/-- THE SECOND FORM's CARD OF 'sennitlaw21.HunkNone'. -/
def hunkNoneUptoCard : Claim7 := { stood := { row := hunkNoneUptoRow, standIns := [], harness := (true, "4afa66d41e90e88cdd0c1676eda8063e96ee315d0266e69d6bed0e5039fe9d81"), looks := false }, kinds := [], alts := [], laidByText := true, laidKinds := [.data, .pinned], laidTests := true, laidLooks := .later }
def HunkNoneUptoCardSaid : Prop := Claim7.holds Tryd.pinned (.plain (OpenSpec.upto hunkNoneSpec)) hunkNoneUptoCard
end Rows
end Go.Proofs.YtenfoaajipiehaaDoor
