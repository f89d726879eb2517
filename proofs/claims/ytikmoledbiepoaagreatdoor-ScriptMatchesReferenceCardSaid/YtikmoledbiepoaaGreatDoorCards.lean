/-
  DERIVED. GIVEN WITH THE SEED: THE CARDS: each row of YtikmoledbiepoaaGreatDoorRows.lean that lists a variable, with what it lists TIED to the program's text (the seventh form; the later family's looks); each row that meets fmt, with fmt's text TOLD by the authors' own Lean function (tested against real Go, not proved from fmt's source: count such statements apart). THE CARD IS WHAT COUNTS. Prove the row's statement (the work); the ties are given (YtikmoledbiepoaaGreatDoorTie.lean); close each card by the builder's one call (the guide's Derived/Test/ToyasCard.lean, 'card_holds'). Laid BY PROGRAM, IN A SANDBOX (cutbox-door.mjs). By AI agents, Wed Nov 11 2026. No macro, syntax, notation, axiom, sorry.
-/
import Derived.Test.YtikmoledbiepoaaGreatDoorRows
import GoSem.ClaimSeven
namespace Go.Proofs.YtikmoledbiepoaaGreatDoor
namespace Rows

/-- THE TIED CARD OF 'peregrinelaw29.ScriptMatchesReference'. -/
def scriptMatchesReferenceCard : Claim7 := { stood := { row := scriptMatchesReferenceRow, standIns := [], harness := (true, "361fa84ae11f9dc9def210e413cdf91aa93a53a3c1c93d942046f73d367d40e8"), looks := true }, kinds := [], alts := [], laidByText := true, laidKinds := [.data, .data, .data, .data, .sentinel, .sentinel, .sentinel, .pinned], laidTests := true, laidLooks := .later }
def ScriptMatchesReferenceCardSaid : Prop := Claim7.holds Tryz.pinned (.plain (OpenSpec.ofChange scriptMatchesReferenceSpec)) scriptMatchesReferenceCard

/-- THE TIED CARD OF 'peregrinelaw29.ScriptReadsLikeReference'. -/
def scriptReadsLikeReferenceCard : Claim7 := { stood := { row := scriptReadsLikeReferenceRow, standIns := [], harness := (true, "361fa84ae11f9dc9def210e413cdf91aa93a53a3c1c93d942046f73d367d40e8"), looks := true }, kinds := [], alts := [], laidByText := true, laidKinds := [.data, .data, .data, .data, .sentinel, .sentinel, .sentinel, .pinned], laidTests := true, laidLooks := .later }
def ScriptReadsLikeReferenceCardSaid : Prop := Claim7.holds Tryz.pinned (.plain (OpenSpec.ofChange scriptReadsLikeReferenceSpec)) scriptReadsLikeReferenceCard

/-- THE TIED CARD OF 'peregrinelaw29.ScriptRoundTrip'. -/
def scriptRoundTripCard : Claim7 := { stood := { row := scriptRoundTripRow, standIns := [], harness := (true, "361fa84ae11f9dc9def210e413cdf91aa93a53a3c1c93d942046f73d367d40e8"), looks := true }, kinds := [], alts := [], laidByText := true, laidKinds := [.data, .data, .data, .data, .sentinel, .sentinel, .sentinel, .pinned], laidTests := true, laidLooks := .later }
def ScriptRoundTripCardSaid : Prop := Claim7.holds Tryz.pinned (.plain (OpenSpec.ofChange scriptRoundTripSpec)) scriptRoundTripCard

/-- THE TIED CARD OF 'peregrinelaw29.ScriptUnique'. -/
def scriptUniqueCard : Claim7 := { stood := { row := scriptUniqueRow, standIns := [], harness := (true, "361fa84ae11f9dc9def210e413cdf91aa93a53a3c1c93d942046f73d367d40e8"), looks := true }, kinds := [], alts := [], laidByText := true, laidKinds := [.data, .data, .data, .data, .sentinel, .sentinel, .sentinel, .pinned], laidTests := true, laidLooks := .later }
def ScriptUniqueCardSaid : Prop := Claim7.holds Tryz.pinned (.plain (OpenSpec.ofChange scriptUniqueSpec)) scriptUniqueCard

/-- THE TIED CARD OF 'peregrinelaw29.ScriptConcatenation'. -/
def scriptConcatenationCard : Claim7 := { stood := { row := scriptConcatenationRow, standIns := [], harness := (true, "361fa84ae11f9dc9def210e413cdf91aa93a53a3c1c93d942046f73d367d40e8"), looks := true }, kinds := [], alts := [], laidByText := true, laidKinds := [.data, .data, .data, .data, .sentinel, .sentinel, .sentinel, .pinned], laidTests := true, laidLooks := .later }
def ScriptConcatenationCardSaid : Prop := Claim7.holds Tryz.pinned (.plain (OpenSpec.ofChange scriptConcatenationSpec)) scriptConcatenationCard

/-- THE TIED CARD OF 'peregrinelaw29.ScriptLimits'. -/
def scriptLimitsCard : Claim7 := { stood := { row := scriptLimitsRow, standIns := [], harness := (true, "361fa84ae11f9dc9def210e413cdf91aa93a53a3c1c93d942046f73d367d40e8"), looks := true }, kinds := [], alts := [], laidByText := true, laidKinds := [.data, .data, .data, .data, .sentinel, .sentinel, .sentinel, .pinned], laidTests := true, laidLooks := .later }
def ScriptLimitsCardSaid : Prop := Claim7.holds Tryz.pinned (.plain (OpenSpec.ofChange scriptLimitsSpec)) scriptLimitsCard

/-- THE TIED CARD OF 'peregrinelaw29.ScriptSessions'. -/
def scriptSessionsCard : Claim7 := { stood := { row := scriptSessionsRow, standIns := [], harness := (true, "361fa84ae11f9dc9def210e413cdf91aa93a53a3c1c93d942046f73d367d40e8"), looks := true }, kinds := [], alts := [], laidByText := true, laidKinds := [.data, .data, .data, .data, .sentinel, .sentinel, .sentinel, .pinned], laidTests := true, laidLooks := .later }
def ScriptSessionsCardSaid : Prop := Claim7.holds Tryz.pinned (.plain (OpenSpec.ofChange scriptSessionsSpec)) scriptSessionsCard

/-- THE SECOND FORM's CARD OF 'peregrinelaw29.ScriptMatchesReference'. -/
def scriptMatchesReferenceUptoCard : Claim7 := { stood := { row := scriptMatchesReferenceUptoRow, standIns := [], harness := (true, "361fa84ae11f9dc9def210e413cdf91aa93a53a3c1c93d942046f73d367d40e8"), looks := true }, kinds := [], alts := [], laidByText := true, laidKinds := [.data, .data, .data, .data, .sentinel, .sentinel, .sentinel, .pinned], laidTests := true, laidLooks := .later }
def ScriptMatchesReferenceUptoCardSaid : Prop := Claim7.holds Tryz.pinned (.plain (OpenSpec.upto scriptMatchesReferenceSpec)) scriptMatchesReferenceUptoCard

/-- THE SECOND FORM's CARD OF 'peregrinelaw29.ScriptReadsLikeReference'. -/
def scriptReadsLikeReferenceUptoCard : Claim7 := { stood := { row := scriptReadsLikeReferenceUptoRow, standIns := [], harness := (true, "361fa84ae11f9dc9def210e413cdf91aa93a53a3c1c93d942046f73d367d40e8"), looks := true }, kinds := [], alts := [], laidByText := true, laidKinds := [.data, .data, .data, .data, .sentinel, .sentinel, .sentinel, .pinned], laidTests := true, laidLooks := .later }
def ScriptReadsLikeReferenceUptoCardSaid : Prop := Claim7.holds Tryz.pinned (.plain (OpenSpec.upto scriptReadsLikeReferenceSpec)) scriptReadsLikeReferenceUptoCard

/-- THE SECOND FORM's CARD OF 'peregrinelaw29.ScriptRoundTrip'. -/
def scriptRoundTripUptoCard : Claim7 := { stood := { row := scriptRoundTripUptoRow, standIns := [], harness := (true, "361fa84ae11f9dc9def210e413cdf91aa93a53a3c1c93d942046f73d367d40e8"), looks := true }, kinds := [], alts := [], laidByText := true, laidKinds := [.data, .data, .data, .data, .sentinel, .sentinel, .sentinel, .pinned], laidTests := true, laidLooks := .later }
def ScriptRoundTripUptoCardSaid : Prop := Claim7.holds Tryz.pinned (.plain (OpenSpec.upto scriptRoundTripSpec)) scriptRoundTripUptoCard

/-- THE SECOND FORM's CARD OF 'peregrinelaw29.ScriptUnique'. -/
def scriptUniqueUptoCard : Claim7 := { stood := { row := scriptUniqueUptoRow, standIns := [], harness := (true, "361fa84ae11f9dc9def210e413cdf91aa93a53a3c1c93d942046f73d367d40e8"), looks := true }, kinds := [], alts := [], laidByText := true, laidKinds := [.data, .data, .data, .data, .sentinel, .sentinel, .sentinel, .pinned], laidTests := true, laidLooks := .later }
def ScriptUniqueUptoCardSaid : Prop := Claim7.holds Tryz.pinned (.plain (OpenSpec.upto scriptUniqueSpec)) scriptUniqueUptoCard

/-- THE SECOND FORM's CARD OF 'peregrinelaw29.ScriptConcatenation'. -/
def scriptConcatenationUptoCard : Claim7 := { stood := { row := scriptConcatenationUptoRow, standIns := [], harness := (true, "361fa84ae11f9dc9def210e413cdf91aa93a53a3c1c93d942046f73d367d40e8"), looks := true }, kinds := [], alts := [], laidByText := true, laidKinds := [.data, .data, .data, .data, .sentinel, .sentinel, .sentinel, .pinned], laidTests := true, laidLooks := .later }
def ScriptConcatenationUptoCardSaid : Prop := Claim7.holds Tryz.pinned (.plain (OpenSpec.upto scriptConcatenationSpec)) scriptConcatenationUptoCard

/-- THE SECOND FORM's CARD OF 'peregrinelaw29.ScriptLimits'. -/
def scriptLimitsUptoCard : Claim7 := { stood := { row := scriptLimitsUptoRow, standIns := [], harness := (true, "361fa84ae11f9dc9def210e413cdf91aa93a53a3c1c93d942046f73d367d40e8"), looks := true }, kinds := [], alts := [], laidByText := true, laidKinds := [.data, .data, .data, .data, .sentinel, .sentinel, .sentinel, .pinned], laidTests := true, laidLooks := .later }
def ScriptLimitsUptoCardSaid : Prop := Claim7.holds Tryz.pinned (.plain (OpenSpec.upto scriptLimitsSpec)) scriptLimitsUptoCard

/-- THE SECOND FORM's CARD OF 'peregrinelaw29.ScriptSessions'. -/
def scriptSessionsUptoCard : Claim7 := { stood := { row := scriptSessionsUptoRow, standIns := [], harness := (true, "361fa84ae11f9dc9def210e413cdf91aa93a53a3c1c93d942046f73d367d40e8"), looks := true }, kinds := [], alts := [], laidByText := true, laidKinds := [.data, .data, .data, .data, .sentinel, .sentinel, .sentinel, .pinned], laidTests := true, laidLooks := .later }
def ScriptSessionsUptoCardSaid : Prop := Claim7.holds Tryz.pinned (.plain (OpenSpec.upto scriptSessionsSpec)) scriptSessionsUptoCard
end Rows
end Go.Proofs.YtikmoledbiepoaaGreatDoor
