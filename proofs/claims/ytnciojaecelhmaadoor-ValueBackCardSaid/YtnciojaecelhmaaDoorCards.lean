/-
  DERIVED. GIVEN WITH THE SEED: THE CARDS: each row of YtnciojaecelhmaaDoorRows.lean that lists a variable, with what it lists TIED to the program's text (the seventh form; the later family's looks); each row that meets fmt, with fmt's text TOLD by the authors' own Lean function (tested against real Go, not proved from fmt's source: count such statements apart). THE CARD IS WHAT COUNTS. Prove the row's statement (the work); the ties are given (YtnciojaecelhmaaDoorTie.lean); close each card by the builder's one call (the guide's Derived/Test/ToyasCard.lean, 'card_holds'). Laid BY PROGRAM, IN A SANDBOX (cutbox-door.mjs). By AI agents, Wed Nov 11 2026. No macro, syntax, notation, axiom, sorry.
-/
import Derived.Test.YtnciojaecelhmaaDoorRows
import GoSem.ClaimSeven
namespace Go.Proofs.YtnciojaecelhmaaDoor
namespace Rows

/-- THE TIED CARD OF 'estreatlaw16.PredIn'. -/
def predInCard : Claim7 := { stood := { row := predInRow, standIns := [], harness := (true, "8332f16e4fb987b1ac8f86943b7807dd79121ee10d5ae24eda52e776b44ce5be"), looks := true }, kinds := [], alts := [], laidByText := true, laidKinds := [.data], laidTests := true, laidLooks := .later }
def PredInCardSaid : Prop := Claim7.holds Tryd.pinned (.plain (OpenSpec.ofChange predInSpec)) predInCard

/-- THE TIED CARD OF 'estreatlaw17.ZoneMay'. -/
def zoneMayCard : Claim7 := { stood := { row := zoneMayRow, standIns := [], harness := (true, "8332f16e4fb987b1ac8f86943b7807dd79121ee10d5ae24eda52e776b44ce5be"), looks := true }, kinds := [], alts := [], laidByText := true, laidKinds := [.data, .data], laidTests := true, laidLooks := .later }
def ZoneMayCardSaid : Prop := Claim7.holds Tryd.pinned (.plain (OpenSpec.ofChange zoneMaySpec)) zoneMayCard

/-- THE TIED CARD OF 'estreatlaw17.ZoneSound'. -/
def zoneSoundCard : Claim7 := { stood := { row := zoneSoundRow, standIns := [], harness := (true, "8332f16e4fb987b1ac8f86943b7807dd79121ee10d5ae24eda52e776b44ce5be"), looks := true }, kinds := [], alts := [], laidByText := true, laidKinds := [.data, .data], laidTests := true, laidLooks := .later }
def ZoneSoundCardSaid : Prop := Claim7.holds Tryd.pinned (.plain (OpenSpec.ofChange zoneSoundSpec)) zoneSoundCard

/-- THE TIED CARD OF 'estreatlaw17.ZoneTrue'. -/
def zoneTrueCard : Claim7 := { stood := { row := zoneTrueRow, standIns := [], harness := (true, "8332f16e4fb987b1ac8f86943b7807dd79121ee10d5ae24eda52e776b44ce5be"), looks := true }, kinds := [], alts := [], laidByText := true, laidKinds := [.data, .data], laidTests := true, laidLooks := .later }
def ZoneTrueCardSaid : Prop := Claim7.holds Tryd.pinned (.plain (OpenSpec.ofChange zoneTrueSpec)) zoneTrueCard

/-- THE TIED CARD OF 'estreatlaw15.ValueTakes'. -/
def valueTakesCard : Claim7 := { stood := { row := valueTakesRow, standIns := [], harness := (true, "8332f16e4fb987b1ac8f86943b7807dd79121ee10d5ae24eda52e776b44ce5be"), looks := true }, kinds := [], alts := [], laidByText := true, laidKinds := [.handle], laidTests := true, laidLooks := .later }
def ValueTakesCardSaid : Prop := Claim7.holds Tryd.pinned (.plain (OpenSpec.ofChange valueTakesSpec)) valueTakesCard

/-- THE TIED CARD OF 'estreatlaw15.ValueBack'. -/
def valueBackCard : Claim7 := { stood := { row := valueBackRow, standIns := [], harness := (true, "8332f16e4fb987b1ac8f86943b7807dd79121ee10d5ae24eda52e776b44ce5be"), looks := true }, kinds := [], alts := [], laidByText := true, laidKinds := [.handle], laidTests := true, laidLooks := .later }
def ValueBackCardSaid : Prop := Claim7.holds Tryd.pinned (.plain (OpenSpec.ofChange valueBackSpec)) valueBackCard

/-- THE TIED CARD OF 'estreatlaw16.PredTakes'. -/
def predTakesCard : Claim7 := { stood := { row := predTakesRow, standIns := [], harness := (true, "8332f16e4fb987b1ac8f86943b7807dd79121ee10d5ae24eda52e776b44ce5be"), looks := true }, kinds := [], alts := [], laidByText := true, laidKinds := [.handle, .data], laidTests := true, laidLooks := .later }
def PredTakesCardSaid : Prop := Claim7.holds Tryd.pinned (.plain (OpenSpec.ofChange predTakesSpec)) predTakesCard

/-- THE SECOND FORM's CARD OF 'estreatlaw16.PredIn'. -/
def predInUptoCard : Claim7 := { stood := { row := predInUptoRow, standIns := [], harness := (true, "8332f16e4fb987b1ac8f86943b7807dd79121ee10d5ae24eda52e776b44ce5be"), looks := true }, kinds := [], alts := [], laidByText := true, laidKinds := [.data], laidTests := true, laidLooks := .later }
def PredInUptoCardSaid : Prop := Claim7.holds Tryd.pinned (.plain (OpenSpec.upto predInSpec)) predInUptoCard

/-- THE SECOND FORM's CARD OF 'estreatlaw17.ZoneMay'. -/
def zoneMayUptoCard : Claim7 := { stood := { row := zoneMayUptoRow, standIns := [], harness := (true, "8332f16e4fb987b1ac8f86943b7807dd79121ee10d5ae24eda52e776b44ce5be"), looks := true }, kinds := [], alts := [], laidByText := true, laidKinds := [.data, .data], laidTests := true, laidLooks := .later }
def ZoneMayUptoCardSaid : Prop := Claim7.holds Tryd.pinned (.plain (OpenSpec.upto zoneMaySpec)) zoneMayUptoCard

/-- THE SECOND FORM's CARD OF 'estreatlaw17.ZoneSound'. -/
def zoneSoundUptoCard : Claim7 := { stood := { row := zoneSoundUptoRow, standIns := [], harness := (true, "8332f16e4fb987b1ac8f86943b7807dd79121ee10d5ae24eda52e776b44ce5be"), looks := true }, kinds := [], alts := [], laidByText := true, laidKinds := [.data, .data], laidTests := true, laidLooks := .later }
def ZoneSoundUptoCardSaid : Prop := Claim7.holds Tryd.pinned (.plain (OpenSpec.upto zoneSoundSpec)) zoneSoundUptoCard

/-- THE SECOND FORM's CARD OF 'estreatlaw17.ZoneTrue'. -/
def zoneTrueUptoCard : Claim7 := { stood := { row := zoneTrueUptoRow, standIns := [], harness := (true, "8332f16e4fb987b1ac8f86943b7807dd79121ee10d5ae24eda52e776b44ce5be"), looks := true }, kinds := [], alts := [], laidByText := true, laidKinds := [.data, .data], laidTests := true, laidLooks := .later }
def ZoneTrueUptoCardSaid : Prop := Claim7.holds Tryd.pinned (.plain (OpenSpec.upto zoneTrueSpec)) zoneTrueUptoCard

/-- THE SECOND FORM's CARD OF 'estreatlaw15.ValueTakes'. -/
def valueTakesUptoCard : Claim7 := { stood := { row := valueTakesUptoRow, standIns := [], harness := (true, "8332f16e4fb987b1ac8f86943b7807dd79121ee10d5ae24eda52e776b44ce5be"), looks := true }, kinds := [], alts := [], laidByText := true, laidKinds := [.handle], laidTests := true, laidLooks := .later }
def ValueTakesUptoCardSaid : Prop := Claim7.holds Tryd.pinned (.plain (OpenSpec.upto valueTakesSpec)) valueTakesUptoCard

/-- THE SECOND FORM's CARD OF 'estreatlaw15.ValueBack'. -/
def valueBackUptoCard : Claim7 := { stood := { row := valueBackUptoRow, standIns := [], harness := (true, "8332f16e4fb987b1ac8f86943b7807dd79121ee10d5ae24eda52e776b44ce5be"), looks := true }, kinds := [], alts := [], laidByText := true, laidKinds := [.handle], laidTests := true, laidLooks := .later }
def ValueBackUptoCardSaid : Prop := Claim7.holds Tryd.pinned (.plain (OpenSpec.upto valueBackSpec)) valueBackUptoCard

/-- THE SECOND FORM's CARD OF 'estreatlaw16.PredTakes'. -/
def predTakesUptoCard : Claim7 := { stood := { row := predTakesUptoRow, standIns := [], harness := (true, "8332f16e4fb987b1ac8f86943b7807dd79121ee10d5ae24eda52e776b44ce5be"), looks := true }, kinds := [], alts := [], laidByText := true, laidKinds := [.handle, .data], laidTests := true, laidLooks := .later }
def PredTakesUptoCardSaid : Prop := Claim7.holds Tryd.pinned (.plain (OpenSpec.upto predTakesSpec)) predTakesUptoCard
end Rows
end Go.Proofs.YtnciojaecelhmaaDoor
