/-
  DERIVED. GIVEN WITH THE SEED: THE CARDS: each row of YthiebcecflpbnaaDoorRows.lean that lists a variable, with what it lists TIED to the program's text (the seventh form; the later family's looks); each row that meets fmt, with fmt's text TOLD by the authors' own Lean function (tested against real Go, not proved from fmt's source: count such statements apart). THE CARD IS WHAT COUNTS. Prove the row's statement (the work); the ties are given (YthiebcecflpbnaaDoorTie.lean); close each card by the builder's one call (the guide's Derived/Test/ToyasCard.lean, 'card_holds'). Laid BY PROGRAM, IN A SANDBOX (cutbox-door.mjs). By AI agents, Wed Nov 11 2026. No macro, syntax, notation, axiom, sorry.
-/
import Derived.Test.YthiebcecflpbnaaDoorRows
import GoSem.ClaimSeven
namespace Go.Proofs.YthiebcecflpbnaaDoor
namespace Rows

/-- THE TIED CARD OF 'laws.FnExactEncodeReply'. -/
def fnExactEncodeReplyCard : Claim7 := { stood := { row := fnExactEncodeReplyRow, standIns := [], harness := (true, "f1920cc5b64af87ceb7e397994734ae8dc2b4587187861ee4dd4cfd29b099aee"), looks := true }, kinds := [], alts := [], laidByText := true, laidKinds := [.data], laidTests := true, laidLooks := .later }
def FnExactEncodeReplyCardSaid : Prop := Claim7.holds Tryd.pinned (.plain (OpenSpec.ofChange fnExactEncodeReplySpec)) fnExactEncodeReplyCard

/-- THE TIED CARD OF 'laws.FnExactEncodeCall'. -/
def fnExactEncodeCallCard : Claim7 := { stood := { row := fnExactEncodeCallRow, standIns := [], harness := (true, "f1920cc5b64af87ceb7e397994734ae8dc2b4587187861ee4dd4cfd29b099aee"), looks := true }, kinds := [], alts := [], laidByText := true, laidKinds := [.data], laidTests := true, laidLooks := .later }
def FnExactEncodeCallCardSaid : Prop := Claim7.holds Tryd.pinned (.plain (OpenSpec.ofChange fnExactEncodeCallSpec)) fnExactEncodeCallCard

/-- THE TIED CARD OF 'laws.FnExactEncodeMsg'. -/
def fnExactEncodeMsgCard : Claim7 := { stood := { row := fnExactEncodeMsgRow, standIns := [], harness := (true, "f1920cc5b64af87ceb7e397994734ae8dc2b4587187861ee4dd4cfd29b099aee"), looks := true }, kinds := [], alts := [], laidByText := true, laidKinds := [.data], laidTests := true, laidLooks := .later }
def FnExactEncodeMsgCardSaid : Prop := Claim7.holds Tryd.pinned (.plain (OpenSpec.ofChange fnExactEncodeMsgSpec)) fnExactEncodeMsgCard

/-- THE TIED CARD OF 'laws.FnExactEncodeRecords'. -/
def fnExactEncodeRecordsCard : Claim7 := { stood := { row := fnExactEncodeRecordsRow, standIns := [], harness := (true, "f1920cc5b64af87ceb7e397994734ae8dc2b4587187861ee4dd4cfd29b099aee"), looks := true }, kinds := [], alts := [], laidByText := true, laidKinds := [.data], laidTests := true, laidLooks := .later }
def FnExactEncodeRecordsCardSaid : Prop := Claim7.holds Tryd.pinned (.plain (OpenSpec.ofChange fnExactEncodeRecordsSpec)) fnExactEncodeRecordsCard

/-- THE SECOND FORM's CARD OF 'laws.FnExactEncodeReply'. -/
def fnExactEncodeReplyUptoCard : Claim7 := { stood := { row := fnExactEncodeReplyUptoRow, standIns := [], harness := (true, "f1920cc5b64af87ceb7e397994734ae8dc2b4587187861ee4dd4cfd29b099aee"), looks := true }, kinds := [], alts := [], laidByText := true, laidKinds := [.data], laidTests := true, laidLooks := .later }
def FnExactEncodeReplyUptoCardSaid : Prop := Claim7.holds Tryd.pinned (.plain (OpenSpec.upto fnExactEncodeReplySpec)) fnExactEncodeReplyUptoCard

/-- THE SECOND FORM's CARD OF 'laws.FnExactEncodeCall'. -/
def fnExactEncodeCallUptoCard : Claim7 := { stood := { row := fnExactEncodeCallUptoRow, standIns := [], harness := (true, "f1920cc5b64af87ceb7e397994734ae8dc2b4587187861ee4dd4cfd29b099aee"), looks := true }, kinds := [], alts := [], laidByText := true, laidKinds := [.data], laidTests := true, laidLooks := .later }
def FnExactEncodeCallUptoCardSaid : Prop := Claim7.holds Tryd.pinned (.plain (OpenSpec.upto fnExactEncodeCallSpec)) fnExactEncodeCallUptoCard

/-- THE SECOND FORM's CARD OF 'laws.FnExactEncodeMsg'. -/
def fnExactEncodeMsgUptoCard : Claim7 := { stood := { row := fnExactEncodeMsgUptoRow, standIns := [], harness := (true, "f1920cc5b64af87ceb7e397994734ae8dc2b4587187861ee4dd4cfd29b099aee"), looks := true }, kinds := [], alts := [], laidByText := true, laidKinds := [.data], laidTests := true, laidLooks := .later }
def FnExactEncodeMsgUptoCardSaid : Prop := Claim7.holds Tryd.pinned (.plain (OpenSpec.upto fnExactEncodeMsgSpec)) fnExactEncodeMsgUptoCard

/-- THE SECOND FORM's CARD OF 'laws.FnExactEncodeRecords'. -/
def fnExactEncodeRecordsUptoCard : Claim7 := { stood := { row := fnExactEncodeRecordsUptoRow, standIns := [], harness := (true, "f1920cc5b64af87ceb7e397994734ae8dc2b4587187861ee4dd4cfd29b099aee"), looks := true }, kinds := [], alts := [], laidByText := true, laidKinds := [.data], laidTests := true, laidLooks := .later }
def FnExactEncodeRecordsUptoCardSaid : Prop := Claim7.holds Tryd.pinned (.plain (OpenSpec.upto fnExactEncodeRecordsSpec)) fnExactEncodeRecordsUptoCard
end Rows
end Go.Proofs.YthiebcecflpbnaaDoor
