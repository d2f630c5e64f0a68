/-
  DERIVED. GIVEN WITH THE SEED: THE CARDS: each row of YtbpackopicngmaaDoorRows.lean that lists a variable, with what it lists TIED to the program's text (the seventh form; the later family's looks); each row that meets fmt, with fmt's text TOLD by the authors' own Lean function (tested against real Go, not proved from fmt's source: count such statements apart). THE CARD IS WHAT COUNTS. Prove the row's statement (the work); the ties are given (YtbpackopicngmaaDoorTie.lean); close each card by the builder's one call (the guide's Derived/Test/ToyasCard.lean, 'card_holds'). Laid BY PROGRAM, IN A SANDBOX (cutbox-door.mjs). By AI agents, Wed Nov 11 2026. No macro, syntax, notation, axiom, sorry.
-/
import Derived.Test.YtbpackopicngmaaDoorRows
import GoSem.ClaimSeven
namespace Go.Proofs.YtbpackopicngmaaDoor
namespace Rows

/-- THE TIED CARD OF 'pithlaw26.ScriptEscapes'. -/
def scriptEscapesCard : Claim7 := { stood := { row := scriptEscapesRow, standIns := [], harness := (true, "6c26f5ed1672da31965925336851ba241eb1e524be8d1016b1e7de6bcd2f9d34"), looks := true }, kinds := [], alts := [], laidByText := true, laidKinds := [.data, .data, .data, .data, .sentinel, .sentinel, .data, .pinned], laidTests := true, laidLooks := .later }
def ScriptEscapesCardSaid : Prop := Claim7.holds Tryd.pinned (.plain (OpenSpec.ofChange scriptEscapesSpec)) scriptEscapesCard

/-- THE TIED CARD OF 'pithlaw26.ScriptUnescapes'. -/
def scriptUnescapesCard : Claim7 := { stood := { row := scriptUnescapesRow, standIns := [], harness := (true, "6c26f5ed1672da31965925336851ba241eb1e524be8d1016b1e7de6bcd2f9d34"), looks := true }, kinds := [], alts := [], laidByText := true, laidKinds := [.data, .data, .data, .data, .sentinel, .sentinel, .data, .pinned], laidTests := true, laidLooks := .later }
def ScriptUnescapesCardSaid : Prop := Claim7.holds Tryd.pinned (.plain (OpenSpec.ofChange scriptUnescapesSpec)) scriptUnescapesCard

/-- THE TIED CARD OF 'pithlaw26.ScriptWords'. -/
def scriptWordsCard : Claim7 := { stood := { row := scriptWordsRow, standIns := [], harness := (true, "6c26f5ed1672da31965925336851ba241eb1e524be8d1016b1e7de6bcd2f9d34"), looks := true }, kinds := [], alts := [], laidByText := true, laidKinds := [.data, .data, .data, .data, .sentinel, .sentinel, .data, .pinned], laidTests := true, laidLooks := .later }
def ScriptWordsCardSaid : Prop := Claim7.holds Tryd.pinned (.plain (OpenSpec.ofChange scriptWordsSpec)) scriptWordsCard

/-- THE TIED CARD OF 'pithlaw26.ScriptOneWord'. -/
def scriptOneWordCard : Claim7 := { stood := { row := scriptOneWordRow, standIns := [], harness := (true, "6c26f5ed1672da31965925336851ba241eb1e524be8d1016b1e7de6bcd2f9d34"), looks := true }, kinds := [], alts := [], laidByText := true, laidKinds := [.data, .data, .data, .data, .sentinel, .sentinel, .data, .pinned], laidTests := true, laidLooks := .later }
def ScriptOneWordCardSaid : Prop := Claim7.holds Tryd.pinned (.plain (OpenSpec.ofChange scriptOneWordSpec)) scriptOneWordCard

/-- THE TIED CARD OF 'pithlaw26.ScriptBack'. -/
def scriptBackCard : Claim7 := { stood := { row := scriptBackRow, standIns := [], harness := (true, "6c26f5ed1672da31965925336851ba241eb1e524be8d1016b1e7de6bcd2f9d34"), looks := true }, kinds := [], alts := [], laidByText := true, laidKinds := [.data, .data, .data, .data, .sentinel, .sentinel, .data, .pinned], laidTests := true, laidLooks := .later }
def ScriptBackCardSaid : Prop := Claim7.holds Tryd.pinned (.plain (OpenSpec.ofChange scriptBackSpec)) scriptBackCard

/-- THE TIED CARD OF 'pithlaw26.ScriptNoise'. -/
def scriptNoiseCard : Claim7 := { stood := { row := scriptNoiseRow, standIns := [], harness := (true, "6c26f5ed1672da31965925336851ba241eb1e524be8d1016b1e7de6bcd2f9d34"), looks := true }, kinds := [], alts := [], laidByText := true, laidKinds := [.data, .data, .data, .data, .sentinel, .sentinel, .data, .pinned], laidTests := true, laidLooks := .later }
def ScriptNoiseCardSaid : Prop := Claim7.holds Tryd.pinned (.plain (OpenSpec.ofChange scriptNoiseSpec)) scriptNoiseCard

/-- THE TIED CARD OF 'pithlaw26.ScriptFault'. -/
def scriptFaultCard : Claim7 := { stood := { row := scriptFaultRow, standIns := [], harness := (true, "6c26f5ed1672da31965925336851ba241eb1e524be8d1016b1e7de6bcd2f9d34"), looks := true }, kinds := [], alts := [], laidByText := true, laidKinds := [.data, .data, .data, .data, .sentinel, .sentinel, .data, .pinned], laidTests := true, laidLooks := .later }
def ScriptFaultCardSaid : Prop := Claim7.holds Tryd.pinned (.plain (OpenSpec.ofChange scriptFaultSpec)) scriptFaultCard

/-- THE SECOND FORM's CARD OF 'pithlaw26.ScriptEscapes'. -/
def scriptEscapesUptoCard : Claim7 := { stood := { row := scriptEscapesUptoRow, standIns := [], harness := (true, "6c26f5ed1672da31965925336851ba241eb1e524be8d1016b1e7de6bcd2f9d34"), looks := true }, kinds := [], alts := [], laidByText := true, laidKinds := [.data, .data, .data, .data, .sentinel, .sentinel, .data, .pinned], laidTests := true, laidLooks := .later }
def ScriptEscapesUptoCardSaid : Prop := Claim7.holds Tryd.pinned (.plain (OpenSpec.upto scriptEscapesSpec)) scriptEscapesUptoCard

/-- THE SECOND FORM's CARD OF 'pithlaw26.ScriptUnescapes'. -/
def scriptUnescapesUptoCard : Claim7 := { stood := { row := scriptUnescapesUptoRow, standIns := [], harness := (true, "6c26f5ed1672da31965925336851ba241eb1e524be8d1016b1e7de6bcd2f9d34"), looks := true }, kinds := [], alts := [], laidByText := true, laidKinds := [.data, .data, .data, .data, .sentinel, .sentinel, .data, .pinned], laidTests := true, laidLooks := .later }
def ScriptUnescapesUptoCardSaid : Prop := Claim7.holds Tryd.pinned (.plain (OpenSpec.upto scriptUnescapesSpec)) scriptUnescapesUptoCard

/-- THE SECOND FORM's CARD OF 'pithlaw26.ScriptWords'. -/
def scriptWordsUptoCard : Claim7 := { stood := { row := scriptWordsUptoRow, standIns := [], harness := (true, "6c26f5ed1672da31965925336851ba241eb1e524be8d1016b1e7de6bcd2f9d34"), looks := true }, kinds := [], alts := [], laidByText := true, laidKinds := [.data, .data, .data, .data, .sentinel, .sentinel, .data, .pinned], laidTests := true, laidLooks := .later }
def ScriptWordsUptoCardSaid : Prop := Claim7.holds Tryd.pinned (.plain (OpenSpec.upto scriptWordsSpec)) scriptWordsUptoCard

/-- THE SECOND FORM's CARD OF 'pithlaw26.ScriptOneWord'. -/
def scriptOneWordUptoCard : Claim7 := { stood := { row := scriptOneWordUptoRow, standIns := [], harness := (true, "6c26f5ed1672da31965925336851ba241eb1e524be8d1016b1e7de6bcd2f9d34"), looks := true }, kinds := [], alts := [], laidByText := true, laidKinds := [.data, .data, .data, .data, .sentinel, .sentinel, .data, .pinned], laidTests := true, laidLooks := .later }
def ScriptOneWordUptoCardSaid : Prop := Claim7.holds Tryd.pinned (.plain (OpenSpec.upto scriptOneWordSpec)) scriptOneWordUptoCard

/-- THE SECOND FORM's CARD OF 'pithlaw26.ScriptBack'. -/
def scriptBackUptoCard : Claim7 := { stood := { row := scriptBackUptoRow, standIns := [], harness := (true, "6c26f5ed1672da31965925336851ba241eb1e524be8d1016b1e7de6bcd2f9d34"), looks := true }, kinds := [], alts := [], laidByText := true, laidKinds := [.data, .data, .data, .data, .sentinel, .sentinel, .data, .pinned], laidTests := true, laidLooks := .later }
def ScriptBackUptoCardSaid : Prop := Claim7.holds Tryd.pinned (.plain (OpenSpec.upto scriptBackSpec)) scriptBackUptoCard

/-- THE SECOND FORM's CARD OF 'pithlaw26.ScriptNoise'. -/
def scriptNoiseUptoCard : Claim7 := { stood := { row := scriptNoiseUptoRow, standIns := [], harness := (true, "6c26f5ed1672da31965925336851ba241eb1e524be8d1016b1e7de6bcd2f9d34"), looks := true }, kinds := [], alts := [], laidByText := true, laidKinds := [.data, .data, .data, .data, .sentinel, .sentinel, .data, .pinned], laidTests := true, laidLooks := .later }
def ScriptNoiseUptoCardSaid : Prop := Claim7.holds Tryd.pinned (.plain (OpenSpec.upto scriptNoiseSpec)) scriptNoiseUptoCard

/-- THE SECOND FORM's CARD OF 'pithlaw26.ScriptFault'. -/
def scriptFaultUptoCard : Claim7 := { stood := { row := scriptFaultUptoRow, standIns := [], harness := (true, "6c26f5ed1672da31965925336851ba241eb1e524be8d1016b1e7de6bcd2f9d34"), looks := true }, kinds := [], alts := [], laidByText := true, laidKinds := [.data, .data, .data, .data, .sentinel, .sentinel, .data, .pinned], laidTests := true, laidLooks := .later }
def ScriptFaultUptoCardSaid : Prop := Claim7.holds Tryd.pinned (.plain (OpenSpec.upto scriptFaultSpec)) scriptFaultUptoCard
end Rows
end Go.Proofs.YtbpackopicngmaaDoor
