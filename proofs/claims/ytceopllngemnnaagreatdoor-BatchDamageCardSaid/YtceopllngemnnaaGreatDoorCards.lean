/-
  DERIVED. GIVEN WITH THE SEED: THE CARDS: each row of YtceopllngemnnaaGreatDoorRows.lean that lists a variable, with what it lists TIED to the program's text (the seventh form; the later family's looks); each row that meets fmt, with fmt's text TOLD by the authors' own Lean function (tested against real Go, not proved from fmt's source: count such statements apart). THE CARD IS WHAT COUNTS. Prove the row's statement (the work); the ties are given (YtceopllngemnnaaGreatDoorTie.lean); close each card by the builder's one call (the guide's Derived/Test/ToyasCard.lean, 'card_holds'). Laid BY PROGRAM, IN A SANDBOX (cutbox-door.mjs). By AI agents, Wed Nov 11 2026. No macro, syntax, notation, axiom, sorry.
-/
import Derived.Test.YtceopllngemnnaaGreatDoorRows
import GoSem.ClaimSeven
namespace Go.Proofs.YtceopllngemnnaaGreatDoor
namespace Rows

/-- THE TIED CARD OF 'bulletinlaw35.BatchTampering'. -/
def batchTamperingCard : Claim7 := { stood := { row := batchTamperingRow, standIns := [], harness := (true, "12ab88f8b427a6cd874af74b9c0069e9a0e52f177653c916e9cc171bb147df0f"), looks := true }, kinds := [], alts := [], laidByText := true, laidKinds := [.data, .data, .data, .data, .sentinel, .sentinel, .pinned], laidTests := true, laidLooks := .later }
def BatchTamperingCardSaid : Prop := Claim7.holds Tryz.pinned (.plain (OpenSpec.ofChange batchTamperingSpec)) batchTamperingCard

/-- THE TIED CARD OF 'bulletinlaw35.BatchTruncates'. -/
def batchTruncatesCard : Claim7 := { stood := { row := batchTruncatesRow, standIns := [], harness := (true, "12ab88f8b427a6cd874af74b9c0069e9a0e52f177653c916e9cc171bb147df0f"), looks := true }, kinds := [], alts := [], laidByText := true, laidKinds := [.data, .data, .data, .data, .sentinel, .sentinel, .pinned], laidTests := true, laidLooks := .later }
def BatchTruncatesCardSaid : Prop := Claim7.holds Tryz.pinned (.plain (OpenSpec.ofChange batchTruncatesSpec)) batchTruncatesCard

/-- THE TIED CARD OF 'bulletinlaw35.BatchPacks'. -/
def batchPacksCard : Claim7 := { stood := { row := batchPacksRow, standIns := [], harness := (true, "12ab88f8b427a6cd874af74b9c0069e9a0e52f177653c916e9cc171bb147df0f"), looks := true }, kinds := [], alts := [], laidByText := true, laidKinds := [.data, .data, .data, .data, .sentinel, .sentinel, .pinned], laidTests := true, laidLooks := .later }
def BatchPacksCardSaid : Prop := Claim7.holds Tryz.pinned (.plain (OpenSpec.ofChange batchPacksSpec)) batchPacksCard

/-- THE TIED CARD OF 'bulletinlaw35.BatchLimits'. -/
def batchLimitsCard : Claim7 := { stood := { row := batchLimitsRow, standIns := [], harness := (true, "12ab88f8b427a6cd874af74b9c0069e9a0e52f177653c916e9cc171bb147df0f"), looks := true }, kinds := [], alts := [], laidByText := true, laidKinds := [.data, .data, .data, .data, .sentinel, .sentinel, .pinned], laidTests := true, laidLooks := .later }
def BatchLimitsCardSaid : Prop := Claim7.holds Tryz.pinned (.plain (OpenSpec.ofChange batchLimitsSpec)) batchLimitsCard

/-- THE TIED CARD OF 'bulletinlaw35.BatchUnpacks'. -/
def batchUnpacksCard : Claim7 := { stood := { row := batchUnpacksRow, standIns := [], harness := (true, "12ab88f8b427a6cd874af74b9c0069e9a0e52f177653c916e9cc171bb147df0f"), looks := true }, kinds := [], alts := [], laidByText := true, laidKinds := [.data, .data, .data, .data, .sentinel, .sentinel, .pinned], laidTests := true, laidLooks := .later }
def BatchUnpacksCardSaid : Prop := Claim7.holds Tryz.pinned (.plain (OpenSpec.ofChange batchUnpacksSpec)) batchUnpacksCard

/-- THE TIED CARD OF 'bulletinlaw35.BatchSalvages'. -/
def batchSalvagesCard : Claim7 := { stood := { row := batchSalvagesRow, standIns := [], harness := (true, "12ab88f8b427a6cd874af74b9c0069e9a0e52f177653c916e9cc171bb147df0f"), looks := true }, kinds := [], alts := [], laidByText := true, laidKinds := [.data, .data, .data, .data, .sentinel, .sentinel, .pinned], laidTests := true, laidLooks := .later }
def BatchSalvagesCardSaid : Prop := Claim7.holds Tryz.pinned (.plain (OpenSpec.ofChange batchSalvagesSpec)) batchSalvagesCard

/-- THE TIED CARD OF 'bulletinlaw35.BatchDamage'. -/
def batchDamageCard : Claim7 := { stood := { row := batchDamageRow, standIns := [], harness := (true, "12ab88f8b427a6cd874af74b9c0069e9a0e52f177653c916e9cc171bb147df0f"), looks := true }, kinds := [], alts := [], laidByText := true, laidKinds := [.data, .data, .data, .data, .sentinel, .sentinel, .pinned], laidTests := true, laidLooks := .later }
def BatchDamageCardSaid : Prop := Claim7.holds Tryz.pinned (.plain (OpenSpec.ofChange batchDamageSpec)) batchDamageCard

/-- THE TIED CARD OF 'bulletinlaw35.BatchBuilds'. -/
def batchBuildsCard : Claim7 := { stood := { row := batchBuildsRow, standIns := [], harness := (true, "12ab88f8b427a6cd874af74b9c0069e9a0e52f177653c916e9cc171bb147df0f"), looks := true }, kinds := [], alts := [], laidByText := true, laidKinds := [.data, .data, .data, .data, .sentinel, .sentinel, .pinned], laidTests := true, laidLooks := .later }
def BatchBuildsCardSaid : Prop := Claim7.holds Tryz.pinned (.plain (OpenSpec.ofChange batchBuildsSpec)) batchBuildsCard

/-- THE TIED CARD OF 'bulletinlaw35.BatchRefuses'. -/
def batchRefusesCard : Claim7 := { stood := { row := batchRefusesRow, standIns := [], harness := (true, "12ab88f8b427a6cd874af74b9c0069e9a0e52f177653c916e9cc171bb147df0f"), looks := true }, kinds := [], alts := [], laidByText := true, laidKinds := [.data, .data, .data, .data, .sentinel, .sentinel, .pinned], laidTests := true, laidLooks := .later }
def BatchRefusesCardSaid : Prop := Claim7.holds Tryz.pinned (.plain (OpenSpec.ofChange batchRefusesSpec)) batchRefusesCard

/-- THE SECOND FORM's CARD OF 'bulletinlaw35.BatchTampering'. -/
def batchTamperingUptoCard : Claim7 := { stood := { row := batchTamperingUptoRow, standIns := [], harness := (true, "12ab88f8b427a6cd874af74b9c0069e9a0e52f177653c916e9cc171bb147df0f"), looks := true }, kinds := [], alts := [], laidByText := true, laidKinds := [.data, .data, .data, .data, .sentinel, .sentinel, .pinned], laidTests := true, laidLooks := .later }
def BatchTamperingUptoCardSaid : Prop := Claim7.holds Tryz.pinned (.plain (OpenSpec.upto batchTamperingSpec)) batchTamperingUptoCard

/-- THE SECOND FORM's CARD OF 'bulletinlaw35.BatchTruncates'. -/
def batchTruncatesUptoCard : Claim7 := { stood := { row := batchTruncatesUptoRow, standIns := [], harness := (true, "12ab88f8b427a6cd874af74b9c0069e9a0e52f177653c916e9cc171bb147df0f"), looks := true }, kinds := [], alts := [], laidByText := true, laidKinds := [.data, .data, .data, .data, .sentinel, .sentinel, .pinned], laidTests := true, laidLooks := .later }
def BatchTruncatesUptoCardSaid : Prop := Claim7.holds Tryz.pinned (.plain (OpenSpec.upto batchTruncatesSpec)) batchTruncatesUptoCard

/-- THE SECOND FORM's CARD OF 'bulletinlaw35.BatchPacks'. -/
def batchPacksUptoCard : Claim7 := { stood := { row := batchPacksUptoRow, standIns := [], harness := (true, "12ab88f8b427a6cd874af74b9c0069e9a0e52f177653c916e9cc171bb147df0f"), looks := true }, kinds := [], alts := [], laidByText := true, laidKinds := [.data, .data, .data, .data, .sentinel, .sentinel, .pinned], laidTests := true, laidLooks := .later }
def BatchPacksUptoCardSaid : Prop := Claim7.holds Tryz.pinned (.plain (OpenSpec.upto batchPacksSpec)) batchPacksUptoCard

/-- THE SECOND FORM's CARD OF 'bulletinlaw35.BatchLimits'. -/
def batchLimitsUptoCard : Claim7 := { stood := { row := batchLimitsUptoRow, standIns := [], harness := (true, "12ab88f8b427a6cd874af74b9c0069e9a0e52f177653c916e9cc171bb147df0f"), looks := true }, kinds := [], alts := [], laidByText := true, laidKinds := [.data, .data, .data, .data, .sentinel, .sentinel, .pinned], laidTests := true, laidLooks := .later }
def BatchLimitsUptoCardSaid : Prop := Claim7.holds Tryz.pinned (.plain (OpenSpec.upto batchLimitsSpec)) batchLimitsUptoCard

/-- THE SECOND FORM's CARD OF 'bulletinlaw35.BatchUnpacks'. -/
def batchUnpacksUptoCard : Claim7 := { stood := { row := batchUnpacksUptoRow, standIns := [], harness := (true, "12ab88f8b427a6cd874af74b9c0069e9a0e52f177653c916e9cc171bb147df0f"), looks := true }, kinds := [], alts := [], laidByText := true, laidKinds := [.data, .data, .data, .data, .sentinel, .sentinel, .pinned], laidTests := true, laidLooks := .later }
def BatchUnpacksUptoCardSaid : Prop := Claim7.holds Tryz.pinned (.plain (OpenSpec.upto batchUnpacksSpec)) batchUnpacksUptoCard

/-- THE SECOND FORM's CARD OF 'bulletinlaw35.BatchSalvages'. -/
def batchSalvagesUptoCard : Claim7 := { stood := { row := batchSalvagesUptoRow, standIns := [], harness := (true, "12ab88f8b427a6cd874af74b9c0069e9a0e52f177653c916e9cc171bb147df0f"), looks := true }, kinds := [], alts := [], laidByText := true, laidKinds := [.data, .data, .data, .data, .sentinel, .sentinel, .pinned], laidTests := true, laidLooks := .later }
def BatchSalvagesUptoCardSaid : Prop := Claim7.holds Tryz.pinned (.plain (OpenSpec.upto batchSalvagesSpec)) batchSalvagesUptoCard

/-- THE SECOND FORM's CARD OF 'bulletinlaw35.BatchDamage'. -/
def batchDamageUptoCard : Claim7 := { stood := { row := batchDamageUptoRow, standIns := [], harness := (true, "12ab88f8b427a6cd874af74b9c0069e9a0e52f177653c916e9cc171bb147df0f"), looks := true }, kinds := [], alts := [], laidByText := true, laidKinds := [.data, .data, .data, .data, .sentinel, .sentinel, .pinned], laidTests := true, laidLooks := .later }
def BatchDamageUptoCardSaid : Prop := Claim7.holds Tryz.pinned (.plain (OpenSpec.upto batchDamageSpec)) batchDamageUptoCard

/-- THE SECOND FORM's CARD OF 'bulletinlaw35.BatchBuilds'. -/
def batchBuildsUptoCard : Claim7 := { stood := { row := batchBuildsUptoRow, standIns := [], harness := (true, "12ab88f8b427a6cd874af74b9c0069e9a0e52f177653c916e9cc171bb147df0f"), looks := true }, kinds := [], alts := [], laidByText := true, laidKinds := [.data, .data, .data, .data, .sentinel, .sentinel, .pinned], laidTests := true, laidLooks := .later }
def BatchBuildsUptoCardSaid : Prop := Claim7.holds Tryz.pinned (.plain (OpenSpec.upto batchBuildsSpec)) batchBuildsUptoCard

/-- THE SECOND FORM's CARD OF 'bulletinlaw35.BatchRefuses'. -/
def batchRefusesUptoCard : Claim7 := { stood := { row := batchRefusesUptoRow, standIns := [], harness := (true, "12ab88f8b427a6cd874af74b9c0069e9a0e52f177653c916e9cc171bb147df0f"), looks := true }, kinds := [], alts := [], laidByText := true, laidKinds := [.data, .data, .data, .data, .sentinel, .sentinel, .pinned], laidTests := true, laidLooks := .later }
def BatchRefusesUptoCardSaid : Prop := Claim7.holds Tryz.pinned (.plain (OpenSpec.upto batchRefusesSpec)) batchRefusesUptoCard
end Rows
end Go.Proofs.YtceopllngemnnaaGreatDoor
