/-
  DERIVED. GIVEN WITH THE SEED: THE CARDS: each row of YtdallmabajeajaaGreatDoorRows.lean that lists a variable, with what it lists TIED to the program's text (the seventh form; the later family's looks); each row that meets fmt, with fmt's text TOLD by the authors' own Lean function (tested against real Go, not proved from fmt's source: count such statements apart). THE CARD IS WHAT COUNTS. Prove the row's statement (the work); the ties are given (YtdallmabajeajaaGreatDoorTie.lean); close each card by the builder's one call (the guide's Derived/Test/ToyasCard.lean, 'card_holds'). Laid BY PROGRAM, IN A SANDBOX (cutbox-door.mjs). By AI agents, Wed Nov 11 2026. No macro, syntax, notation, axiom, sorry.
-/
import Derived.Test.YtdallmabajeajaaGreatDoorRows
import GoSem.ClaimSeven
namespace Go.Proofs.YtdallmabajeajaaGreatDoor
namespace Rows

/-- THE TIED CARD OF 'weftlaw11.LeaseEnds'. -/
def leaseEndsCard : Claim7 := { stood := { row := leaseEndsRow, standIns := [], harness := (true, "89a6d04f7ea25615f30864f025bfcfd39ce8bb53b91410b164380cee2a284605"), looks := false }, kinds := [], alts := [], laidByText := true, laidKinds := [.data], laidTests := true, laidLooks := .later }
def LeaseEndsCardSaid : Prop := Claim7.holds Tryz.pinned (.plain (OpenSpec.ofChange leaseEndsSpec)) leaseEndsCard

/-- THE TIED CARD OF 'weftlaw11.LeaseLowest'. -/
def leaseLowestCard : Claim7 := { stood := { row := leaseLowestRow, standIns := [], harness := (true, "89a6d04f7ea25615f30864f025bfcfd39ce8bb53b91410b164380cee2a284605"), looks := false }, kinds := [], alts := [], laidByText := true, laidKinds := [.data], laidTests := true, laidLooks := .later }
def LeaseLowestCardSaid : Prop := Claim7.holds Tryz.pinned (.plain (OpenSpec.ofChange leaseLowestSpec)) leaseLowestCard

/-- THE TIED CARD OF 'weftlaw11.LeaseRefuses'. -/
def leaseRefusesCard : Claim7 := { stood := { row := leaseRefusesRow, standIns := [], harness := (true, "89a6d04f7ea25615f30864f025bfcfd39ce8bb53b91410b164380cee2a284605"), looks := false }, kinds := [], alts := [], laidByText := true, laidKinds := [.data], laidTests := true, laidLooks := .later }
def LeaseRefusesCardSaid : Prop := Claim7.holds Tryz.pinned (.plain (OpenSpec.ofChange leaseRefusesSpec)) leaseRefusesCard

/-- THE TIED CARD OF 'weftlaw11.LeaseSticks'. -/
def leaseSticksCard : Claim7 := { stood := { row := leaseSticksRow, standIns := [], harness := (true, "89a6d04f7ea25615f30864f025bfcfd39ce8bb53b91410b164380cee2a284605"), looks := false }, kinds := [], alts := [], laidByText := true, laidKinds := [.data], laidTests := true, laidLooks := .later }
def LeaseSticksCardSaid : Prop := Claim7.holds Tryz.pinned (.plain (OpenSpec.ofChange leaseSticksSpec)) leaseSticksCard

/-- THE TIED CARD OF 'weftlaw11.LeaseDisjoint'. -/
def leaseDisjointCard : Claim7 := { stood := { row := leaseDisjointRow, standIns := [], harness := (true, "89a6d04f7ea25615f30864f025bfcfd39ce8bb53b91410b164380cee2a284605"), looks := false }, kinds := [], alts := [], laidByText := true, laidKinds := [.data], laidTests := true, laidLooks := .later }
def LeaseDisjointCardSaid : Prop := Claim7.holds Tryz.pinned (.plain (OpenSpec.ofChange leaseDisjointSpec)) leaseDisjointCard

/-- THE TIED CARD OF 'weftlaw11.LeaseFold'. -/
def leaseFoldCard : Claim7 := { stood := { row := leaseFoldRow, standIns := [], harness := (true, "89a6d04f7ea25615f30864f025bfcfd39ce8bb53b91410b164380cee2a284605"), looks := false }, kinds := [], alts := [], laidByText := true, laidKinds := [.data], laidTests := true, laidLooks := .later }
def LeaseFoldCardSaid : Prop := Claim7.holds Tryz.pinned (.plain (OpenSpec.ofChange leaseFoldSpec)) leaseFoldCard

/-- THE TIED CARD OF 'weftlaw11.LeaseBound'. -/
def leaseBoundCard : Claim7 := { stood := { row := leaseBoundRow, standIns := [], harness := (true, "89a6d04f7ea25615f30864f025bfcfd39ce8bb53b91410b164380cee2a284605"), looks := false }, kinds := [], alts := [], laidByText := true, laidKinds := [.data], laidTests := true, laidLooks := .later }
def LeaseBoundCardSaid : Prop := Claim7.holds Tryz.pinned (.plain (OpenSpec.ofChange leaseBoundSpec)) leaseBoundCard

/-- THE TIED CARD OF 'weftlaw11.LeaseApplies'. -/
def leaseAppliesCard : Claim7 := { stood := { row := leaseAppliesRow, standIns := [], harness := (true, "89a6d04f7ea25615f30864f025bfcfd39ce8bb53b91410b164380cee2a284605"), looks := false }, kinds := [], alts := [], laidByText := true, laidKinds := [.data], laidTests := true, laidLooks := .later }
def LeaseAppliesCardSaid : Prop := Claim7.holds Tryz.pinned (.plain (OpenSpec.ofChange leaseAppliesSpec)) leaseAppliesCard

/-- THE TIED CARD OF 'weftlaw11.LeaseTells'. -/
def leaseTellsCard : Claim7 := { stood := { row := leaseTellsRow, standIns := [], harness := (true, "89a6d04f7ea25615f30864f025bfcfd39ce8bb53b91410b164380cee2a284605"), looks := false }, kinds := [], alts := [], laidByText := true, laidKinds := [.data], laidTests := true, laidLooks := .later }
def LeaseTellsCardSaid : Prop := Claim7.holds Tryz.pinned (.plain (OpenSpec.ofChange leaseTellsSpec)) leaseTellsCard

/-- THE TIED CARD OF 'weftlaw11.LeaseWatches'. -/
def leaseWatchesCard : Claim7 := { stood := { row := leaseWatchesRow, standIns := [], harness := (true, "89a6d04f7ea25615f30864f025bfcfd39ce8bb53b91410b164380cee2a284605"), looks := false }, kinds := [], alts := [], laidByText := true, laidKinds := [.data], laidTests := true, laidLooks := .later }
def LeaseWatchesCardSaid : Prop := Claim7.holds Tryz.pinned (.plain (OpenSpec.ofChange leaseWatchesSpec)) leaseWatchesCard

/-- THE TIED CARD OF 'weftlaw11.LeaseHolders'. -/
def leaseHoldersCard : Claim7 := { stood := { row := leaseHoldersRow, standIns := [], harness := (true, "89a6d04f7ea25615f30864f025bfcfd39ce8bb53b91410b164380cee2a284605"), looks := false }, kinds := [], alts := [], laidByText := true, laidKinds := [.data], laidTests := true, laidLooks := .later }
def LeaseHoldersCardSaid : Prop := Claim7.holds Tryz.pinned (.plain (OpenSpec.ofChange leaseHoldersSpec)) leaseHoldersCard

/-- THE TIED CARD OF 'weftlaw11.LeaseImages'. -/
def leaseImagesCard : Claim7 := { stood := { row := leaseImagesRow, standIns := [], harness := (true, "89a6d04f7ea25615f30864f025bfcfd39ce8bb53b91410b164380cee2a284605"), looks := false }, kinds := [], alts := [], laidByText := true, laidKinds := [.data], laidTests := true, laidLooks := .later }
def LeaseImagesCardSaid : Prop := Claim7.holds Tryz.pinned (.plain (OpenSpec.ofChange leaseImagesSpec)) leaseImagesCard

/-- THE TIED CARD OF 'weftlaw11.LeasePlays'. -/
def leasePlaysCard : Claim7 := { stood := { row := leasePlaysRow, standIns := [], harness := (true, "89a6d04f7ea25615f30864f025bfcfd39ce8bb53b91410b164380cee2a284605"), looks := false }, kinds := [], alts := [], laidByText := true, laidKinds := [.data], laidTests := true, laidLooks := .later }
def LeasePlaysCardSaid : Prop := Claim7.holds Tryz.pinned (.plain (OpenSpec.ofChange leasePlaysSpec)) leasePlaysCard

/-- THE TIED CARD OF 'weftlaw11.LeaseRestores'. -/
def leaseRestoresCard : Claim7 := { stood := { row := leaseRestoresRow, standIns := [], harness := (true, "89a6d04f7ea25615f30864f025bfcfd39ce8bb53b91410b164380cee2a284605"), looks := false }, kinds := [], alts := [], laidByText := true, laidKinds := [.data], laidTests := true, laidLooks := .later }
def LeaseRestoresCardSaid : Prop := Claim7.holds Tryz.pinned (.plain (OpenSpec.ofChange leaseRestoresSpec)) leaseRestoresCard

/-- THE TIED CARD OF 'weftlaw11.LeaseAgain'. -/
def leaseAgainCard : Claim7 := { stood := { row := leaseAgainRow, standIns := [], harness := (true, "89a6d04f7ea25615f30864f025bfcfd39ce8bb53b91410b164380cee2a284605"), looks := false }, kinds := [], alts := [], laidByText := true, laidKinds := [.data], laidTests := true, laidLooks := .later }
def LeaseAgainCardSaid : Prop := Claim7.holds Tryz.pinned (.plain (OpenSpec.ofChange leaseAgainSpec)) leaseAgainCard

/-- THE TIED CARD OF 'weftlaw11.LeaseFresh'. -/
def leaseFreshCard : Claim7 := { stood := { row := leaseFreshRow, standIns := [], harness := (true, "89a6d04f7ea25615f30864f025bfcfd39ce8bb53b91410b164380cee2a284605"), looks := false }, kinds := [], alts := [], laidByText := true, laidKinds := [.data], laidTests := true, laidLooks := .later }
def LeaseFreshCardSaid : Prop := Claim7.holds Tryz.pinned (.plain (OpenSpec.ofChange leaseFreshSpec)) leaseFreshCard

/-- THE SECOND FORM's CARD OF 'weftlaw11.LeaseEnds'. -/
def leaseEndsUptoCard : Claim7 := { stood := { row := leaseEndsUptoRow, standIns := [], harness := (true, "89a6d04f7ea25615f30864f025bfcfd39ce8bb53b91410b164380cee2a284605"), looks := false }, kinds := [], alts := [], laidByText := true, laidKinds := [.data], laidTests := true, laidLooks := .later }
def LeaseEndsUptoCardSaid : Prop := Claim7.holds Tryz.pinned (.plain (OpenSpec.upto leaseEndsSpec)) leaseEndsUptoCard

/-- THE SECOND FORM's CARD OF 'weftlaw11.LeaseLowest'. -/
def leaseLowestUptoCard : Claim7 := { stood := { row := leaseLowestUptoRow, standIns := [], harness := (true, "89a6d04f7ea25615f30864f025bfcfd39ce8bb53b91410b164380cee2a284605"), looks := false }, kinds := [], alts := [], laidByText := true, laidKinds := [.data], laidTests := true, laidLooks := .later }
def LeaseLowestUptoCardSaid : Prop := Claim7.holds Tryz.pinned (.plain (OpenSpec.upto leaseLowestSpec)) leaseLowestUptoCard

/-- THE SECOND FORM's CARD OF 'weftlaw11.LeaseRefuses'. -/
def leaseRefusesUptoCard : Claim7 := { stood := { row := leaseRefusesUptoRow, standIns := [], harness := (true, "89a6d04f7ea25615f30864f025bfcfd39ce8bb53b91410b164380cee2a284605"), looks := false }, kinds := [], alts := [], laidByText := true, laidKinds := [.data], laidTests := true, laidLooks := .later }
def LeaseRefusesUptoCardSaid : Prop := Claim7.holds Tryz.pinned (.plain (OpenSpec.upto leaseRefusesSpec)) leaseRefusesUptoCard

/-- THE SECOND FORM's CARD OF 'weftlaw11.LeaseSticks'. -/
def leaseSticksUptoCard : Claim7 := { stood := { row := leaseSticksUptoRow, standIns := [], harness := (true, "89a6d04f7ea25615f30864f025bfcfd39ce8bb53b91410b164380cee2a284605"), looks := false }, kinds := [], alts := [], laidByText := true, laidKinds := [.data], laidTests := true, laidLooks := .later }
def LeaseSticksUptoCardSaid : Prop := Claim7.holds Tryz.pinned (.plain (OpenSpec.upto leaseSticksSpec)) leaseSticksUptoCard

/-- THE SECOND FORM's CARD OF 'weftlaw11.LeaseDisjoint'. -/
def leaseDisjointUptoCard : Claim7 := { stood := { row := leaseDisjointUptoRow, standIns := [], harness := (true, "89a6d04f7ea25615f30864f025bfcfd39ce8bb53b91410b164380cee2a284605"), looks := false }, kinds := [], alts := [], laidByText := true, laidKinds := [.data], laidTests := true, laidLooks := .later }
def LeaseDisjointUptoCardSaid : Prop := Claim7.holds Tryz.pinned (.plain (OpenSpec.upto leaseDisjointSpec)) leaseDisjointUptoCard

/-- THE SECOND FORM's CARD OF 'weftlaw11.LeaseFold'. -/
def leaseFoldUptoCard : Claim7 := { stood := { row := leaseFoldUptoRow, standIns := [], harness := (true, "89a6d04f7ea25615f30864f025bfcfd39ce8bb53b91410b164380cee2a284605"), looks := false }, kinds := [], alts := [], laidByText := true, laidKinds := [.data], laidTests := true, laidLooks := .later }
def LeaseFoldUptoCardSaid : Prop := Claim7.holds Tryz.pinned (.plain (OpenSpec.upto leaseFoldSpec)) leaseFoldUptoCard

/-- THE SECOND FORM's CARD OF 'weftlaw11.LeaseBound'. -/
def leaseBoundUptoCard : Claim7 := { stood := { row := leaseBoundUptoRow, standIns := [], harness := (true, "89a6d04f7ea25615f30864f025bfcfd39ce8bb53b91410b164380cee2a284605"), looks := false }, kinds := [], alts := [], laidByText := true, laidKinds := [.data], laidTests := true, laidLooks := .later }
def LeaseBoundUptoCardSaid : Prop := Claim7.holds Tryz.pinned (.plain (OpenSpec.upto leaseBoundSpec)) leaseBoundUptoCard

/-- THE SECOND FORM's CARD OF 'weftlaw11.LeaseApplies'. -/
def leaseAppliesUptoCard : Claim7 := { stood := { row := leaseAppliesUptoRow, standIns := [], harness := (true, "89a6d04f7ea25615f30864f025bfcfd39ce8bb53b91410b164380cee2a284605"), looks := false }, kinds := [], alts := [], laidByText := true, laidKinds := [.data], laidTests := true, laidLooks := .later }
def LeaseAppliesUptoCardSaid : Prop := Claim7.holds Tryz.pinned (.plain (OpenSpec.upto leaseAppliesSpec)) leaseAppliesUptoCard

/-- THE SECOND FORM's CARD OF 'weftlaw11.LeaseTells'. -/
def leaseTellsUptoCard : Claim7 := { stood := { row := leaseTellsUptoRow, standIns := [], harness := (true, "89a6d04f7ea25615f30864f025bfcfd39ce8bb53b91410b164380cee2a284605"), looks := false }, kinds := [], alts := [], laidByText := true, laidKinds := [.data], laidTests := true, laidLooks := .later }
def LeaseTellsUptoCardSaid : Prop := Claim7.holds Tryz.pinned (.plain (OpenSpec.upto leaseTellsSpec)) leaseTellsUptoCard

/-- THE SECOND FORM's CARD OF 'weftlaw11.LeaseWatches'. -/
def leaseWatchesUptoCard : Claim7 := { stood := { row := leaseWatchesUptoRow, standIns := [], harness := (true, "89a6d04f7ea25615f30864f025bfcfd39ce8bb53b91410b164380cee2a284605"), looks := false }, kinds := [], alts := [], laidByText := true, laidKinds := [.data], laidTests := true, laidLooks := .later }
def LeaseWatchesUptoCardSaid : Prop := Claim7.holds Tryz.pinned (.plain (OpenSpec.upto leaseWatchesSpec)) leaseWatchesUptoCard

/-- THE SECOND FORM's CARD OF 'weftlaw11.LeaseHolders'. -/
def leaseHoldersUptoCard : Claim7 := { stood := { row := leaseHoldersUptoRow, standIns := [], harness := (true, "89a6d04f7ea25615f30864f025bfcfd39ce8bb53b91410b164380cee2a284605"), looks := false }, kinds := [], alts := [], laidByText := true, laidKinds := [.data], laidTests := true, laidLooks := .later }
def LeaseHoldersUptoCardSaid : Prop := Claim7.holds Tryz.pinned (.plain (OpenSpec.upto leaseHoldersSpec)) leaseHoldersUptoCard

/-- THE SECOND FORM's CARD OF 'weftlaw11.LeaseImages'. -/
def leaseImagesUptoCard : Claim7 := { stood := { row := leaseImagesUptoRow, standIns := [], harness := (true, "89a6d04f7ea25615f30864f025bfcfd39ce8bb53b91410b164380cee2a284605"), looks := false }, kinds := [], alts := [], laidByText := true, laidKinds := [.data], laidTests := true, laidLooks := .later }
def LeaseImagesUptoCardSaid : Prop := Claim7.holds Tryz.pinned (.plain (OpenSpec.upto leaseImagesSpec)) leaseImagesUptoCard

/-- THE SECOND FORM's CARD OF 'weftlaw11.LeasePlays'. -/
def leasePlaysUptoCard : Claim7 := { stood := { row := leasePlaysUptoRow, standIns := [], harness := (true, "89a6d04f7ea25615f30864f025bfcfd39ce8bb53b91410b164380cee2a284605"), looks := false }, kinds := [], alts := [], laidByText := true, laidKinds := [.data], laidTests := true, laidLooks := .later }
def LeasePlaysUptoCardSaid : Prop := Claim7.holds Tryz.pinned (.plain (OpenSpec.upto leasePlaysSpec)) leasePlaysUptoCard

/-- THE SECOND FORM's CARD OF 'weftlaw11.LeaseRestores'. -/
def leaseRestoresUptoCard : Claim7 := { stood := { row := leaseRestoresUptoRow, standIns := [], harness := (true, "89a6d04f7ea25615f30864f025bfcfd39ce8bb53b91410b164380cee2a284605"), looks := false }, kinds := [], alts := [], laidByText := true, laidKinds := [.data], laidTests := true, laidLooks := .later }
def LeaseRestoresUptoCardSaid : Prop := Claim7.holds Tryz.pinned (.plain (OpenSpec.upto leaseRestoresSpec)) leaseRestoresUptoCard

/-- THE SECOND FORM's CARD OF 'weftlaw11.LeaseAgain'. -/
def leaseAgainUptoCard : Claim7 := { stood := { row := leaseAgainUptoRow, standIns := [], harness := (true, "89a6d04f7ea25615f30864f025bfcfd39ce8bb53b91410b164380cee2a284605"), looks := false }, kinds := [], alts := [], laidByText := true, laidKinds := [.data], laidTests := true, laidLooks := .later }
def LeaseAgainUptoCardSaid : Prop := Claim7.holds Tryz.pinned (.plain (OpenSpec.upto leaseAgainSpec)) leaseAgainUptoCard

/-- THE SECOND FORM's CARD OF 'weftlaw11.LeaseFresh'. -/
def leaseFreshUptoCard : Claim7 := { stood := { row := leaseFreshUptoRow, standIns := [], harness := (true, "89a6d04f7ea25615f30864f025bfcfd39ce8bb53b91410b164380cee2a284605"), looks := false }, kinds := [], alts := [], laidByText := true, laidKinds := [.data], laidTests := true, laidLooks := .later }
def LeaseFreshUptoCardSaid : Prop := Claim7.holds Tryz.pinned (.plain (OpenSpec.upto leaseFreshSpec)) leaseFreshUptoCard
end Rows
end Go.Proofs.YtdallmabajeajaaGreatDoor
