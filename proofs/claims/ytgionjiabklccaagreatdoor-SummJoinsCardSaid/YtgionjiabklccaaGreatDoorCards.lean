/-
  DERIVED. GIVEN WITH THE SEED: THE CARDS: each row of YtgionjiabklccaaGreatDoorRows.lean that lists a variable, with what it lists TIED to the program's text (the seventh form; the later family's looks); each row that meets fmt, with fmt's text TOLD by the authors' own Lean function (tested against real Go, not proved from fmt's source: count such statements apart). THE CARD IS WHAT COUNTS. Prove the row's statement (the work); the ties are given (YtgionjiabklccaaGreatDoorTie.lean); close each card by the builder's one call (the guide's Derived/Test/ToyasCard.lean, 'card_holds'). Laid BY PROGRAM, IN A SANDBOX (cutbox-door.mjs). By AI agents, Wed Nov 11 2026. No macro, syntax, notation, axiom, sorry.
-/
import Derived.Test.YtgionjiabklccaaGreatDoorRows
import GoSem.ClaimSeven
namespace Go.Proofs.YtgionjiabklccaaGreatDoor
namespace Rows

/-- THE TIED CARD OF 'hyglaw15.SummReads'. -/
def summReadsCard : Claim7 := { stood := { row := summReadsRow, standIns := [], harness := (true, "d249bb353b0ad4876e1e511082de94de7d0f42723eb5e98361d7bcae220c76ed"), looks := true }, kinds := [], alts := [], laidByText := true, laidKinds := [.handle], laidTests := true, laidLooks := .later }
def SummReadsCardSaid : Prop := Claim7.holds Tryz.pinned (.plain (OpenSpec.ofChange summReadsSpec)) summReadsCard

/-- THE TIED CARD OF 'hyglaw15.SummJoins'. -/
def summJoinsCard : Claim7 := { stood := { row := summJoinsRow, standIns := [], harness := (true, "d249bb353b0ad4876e1e511082de94de7d0f42723eb5e98361d7bcae220c76ed"), looks := true }, kinds := [], alts := [], laidByText := true, laidKinds := [.handle], laidTests := true, laidLooks := .later }
def SummJoinsCardSaid : Prop := Claim7.holds Tryz.pinned (.plain (OpenSpec.ofChange summJoinsSpec)) summJoinsCard

/-- THE TIED CARD OF 'hyglaw15.SummDeep'. -/
def summDeepCard : Claim7 := { stood := { row := summDeepRow, standIns := [], harness := (true, "d249bb353b0ad4876e1e511082de94de7d0f42723eb5e98361d7bcae220c76ed"), looks := true }, kinds := [], alts := [], laidByText := true, laidKinds := [.handle], laidTests := true, laidLooks := .later }
def SummDeepCardSaid : Prop := Claim7.holds Tryz.pinned (.plain (OpenSpec.ofChange summDeepSpec)) summDeepCard

/-- THE TIED CARD OF 'hyglaw15.SummWrites'. -/
def summWritesCard : Claim7 := { stood := { row := summWritesRow, standIns := [], harness := (true, "d249bb353b0ad4876e1e511082de94de7d0f42723eb5e98361d7bcae220c76ed"), looks := true }, kinds := [], alts := [], laidByText := true, laidKinds := [.handle], laidTests := true, laidLooks := .later }
def SummWritesCardSaid : Prop := Claim7.holds Tryz.pinned (.plain (OpenSpec.ofChange summWritesSpec)) summWritesCard

/-- THE TIED CARD OF 'hyglaw15.SummSame'. -/
def summSameCard : Claim7 := { stood := { row := summSameRow, standIns := [], harness := (true, "d249bb353b0ad4876e1e511082de94de7d0f42723eb5e98361d7bcae220c76ed"), looks := true }, kinds := [], alts := [], laidByText := true, laidKinds := [.handle], laidTests := true, laidLooks := .later }
def SummSameCardSaid : Prop := Claim7.holds Tryz.pinned (.plain (OpenSpec.ofChange summSameSpec)) summSameCard

/-- THE TIED CARD OF 'hyglaw15.SummBack'. -/
def summBackCard : Claim7 := { stood := { row := summBackRow, standIns := [], harness := (true, "d249bb353b0ad4876e1e511082de94de7d0f42723eb5e98361d7bcae220c76ed"), looks := true }, kinds := [], alts := [], laidByText := true, laidKinds := [.handle], laidTests := true, laidLooks := .later }
def SummBackCardSaid : Prop := Claim7.holds Tryz.pinned (.plain (OpenSpec.ofChange summBackSpec)) summBackCard

/-- THE TIED CARD OF 'hyglaw15.SummTwice'. -/
def summTwiceCard : Claim7 := { stood := { row := summTwiceRow, standIns := [], harness := (true, "d249bb353b0ad4876e1e511082de94de7d0f42723eb5e98361d7bcae220c76ed"), looks := true }, kinds := [], alts := [], laidByText := true, laidKinds := [.handle], laidTests := true, laidLooks := .later }
def SummTwiceCardSaid : Prop := Claim7.holds Tryz.pinned (.plain (OpenSpec.ofChange summTwiceSpec)) summTwiceCard

/-- THE TIED CARD OF 'hyglaw15.SummOthers'. -/
def summOthersCard : Claim7 := { stood := { row := summOthersRow, standIns := [], harness := (true, "d249bb353b0ad4876e1e511082de94de7d0f42723eb5e98361d7bcae220c76ed"), looks := true }, kinds := [], alts := [], laidByText := true, laidKinds := [.handle], laidTests := true, laidLooks := .later }
def SummOthersCardSaid : Prop := Claim7.holds Tryz.pinned (.plain (OpenSpec.ofChange summOthersSpec)) summOthersCard

/-- THE SECOND FORM's CARD OF 'hyglaw15.SummReads'. -/
def summReadsUptoCard : Claim7 := { stood := { row := summReadsUptoRow, standIns := [], harness := (true, "d249bb353b0ad4876e1e511082de94de7d0f42723eb5e98361d7bcae220c76ed"), looks := true }, kinds := [], alts := [], laidByText := true, laidKinds := [.handle], laidTests := true, laidLooks := .later }
def SummReadsUptoCardSaid : Prop := Claim7.holds Tryz.pinned (.plain (OpenSpec.upto summReadsSpec)) summReadsUptoCard

/-- THE SECOND FORM's CARD OF 'hyglaw15.SummJoins'. -/
def summJoinsUptoCard : Claim7 := { stood := { row := summJoinsUptoRow, standIns := [], harness := (true, "d249bb353b0ad4876e1e511082de94de7d0f42723eb5e98361d7bcae220c76ed"), looks := true }, kinds := [], alts := [], laidByText := true, laidKinds := [.handle], laidTests := true, laidLooks := .later }
def SummJoinsUptoCardSaid : Prop := Claim7.holds Tryz.pinned (.plain (OpenSpec.upto summJoinsSpec)) summJoinsUptoCard

/-- THE SECOND FORM's CARD OF 'hyglaw15.SummDeep'. -/
def summDeepUptoCard : Claim7 := { stood := { row := summDeepUptoRow, standIns := [], harness := (true, "d249bb353b0ad4876e1e511082de94de7d0f42723eb5e98361d7bcae220c76ed"), looks := true }, kinds := [], alts := [], laidByText := true, laidKinds := [.handle], laidTests := true, laidLooks := .later }
def SummDeepUptoCardSaid : Prop := Claim7.holds Tryz.pinned (.plain (OpenSpec.upto summDeepSpec)) summDeepUptoCard

/-- THE SECOND FORM's CARD OF 'hyglaw15.SummWrites'. -/
def summWritesUptoCard : Claim7 := { stood := { row := summWritesUptoRow, standIns := [], harness := (true, "d249bb353b0ad4876e1e511082de94de7d0f42723eb5e98361d7bcae220c76ed"), looks := true }, kinds := [], alts := [], laidByText := true, laidKinds := [.handle], laidTests := true, laidLooks := .later }
def SummWritesUptoCardSaid : Prop := Claim7.holds Tryz.pinned (.plain (OpenSpec.upto summWritesSpec)) summWritesUptoCard

/-- THE SECOND FORM's CARD OF 'hyglaw15.SummSame'. -/
def summSameUptoCard : Claim7 := { stood := { row := summSameUptoRow, standIns := [], harness := (true, "d249bb353b0ad4876e1e511082de94de7d0f42723eb5e98361d7bcae220c76ed"), looks := true }, kinds := [], alts := [], laidByText := true, laidKinds := [.handle], laidTests := true, laidLooks := .later }
def SummSameUptoCardSaid : Prop := Claim7.holds Tryz.pinned (.plain (OpenSpec.upto summSameSpec)) summSameUptoCard

/-- THE SECOND FORM's CARD OF 'hyglaw15.SummBack'. -/
def summBackUptoCard : Claim7 := { stood := { row := summBackUptoRow, standIns := [], harness := (true, "d249bb353b0ad4876e1e511082de94de7d0f42723eb5e98361d7bcae220c76ed"), looks := true }, kinds := [], alts := [], laidByText := true, laidKinds := [.handle], laidTests := true, laidLooks := .later }
def SummBackUptoCardSaid : Prop := Claim7.holds Tryz.pinned (.plain (OpenSpec.upto summBackSpec)) summBackUptoCard

/-- THE SECOND FORM's CARD OF 'hyglaw15.SummTwice'. -/
def summTwiceUptoCard : Claim7 := { stood := { row := summTwiceUptoRow, standIns := [], harness := (true, "d249bb353b0ad4876e1e511082de94de7d0f42723eb5e98361d7bcae220c76ed"), looks := true }, kinds := [], alts := [], laidByText := true, laidKinds := [.handle], laidTests := true, laidLooks := .later }
def SummTwiceUptoCardSaid : Prop := Claim7.holds Tryz.pinned (.plain (OpenSpec.upto summTwiceSpec)) summTwiceUptoCard

/-- THE SECOND FORM's CARD OF 'hyglaw15.SummOthers'. -/
def summOthersUptoCard : Claim7 := { stood := { row := summOthersUptoRow, standIns := [], harness := (true, "d249bb353b0ad4876e1e511082de94de7d0f42723eb5e98361d7bcae220c76ed"), looks := true }, kinds := [], alts := [], laidByText := true, laidKinds := [.handle], laidTests := true, laidLooks := .later }
def SummOthersUptoCardSaid : Prop := Claim7.holds Tryz.pinned (.plain (OpenSpec.upto summOthersSpec)) summOthersUptoCard
end Rows
end Go.Proofs.YtgionjiabklccaaGreatDoor
