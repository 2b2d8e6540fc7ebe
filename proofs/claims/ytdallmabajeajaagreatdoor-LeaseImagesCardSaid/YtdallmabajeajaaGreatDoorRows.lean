/-
  NARROWER THAN 'FOR EVERY INPUT', by the rows' own cells (each row's printed sentence says how): LeaseEnds: laid · LeaseLowest: laid · LeaseRefuses: laid · LeaseSticks: laid · LeaseDisjoint: laid · LeaseFold: laid · LeaseBound: laid · LeaseApplies: laid · LeaseTells: laid · LeaseWatches: laid · LeaseHolders: laid · LeaseImages: laid · LeasePlays: laid · LeaseRestores: laid · LeaseAgain: laid · LeaseFresh: laid.
  DERIVED. THE GIVEN ROWS OF THIS SEAT. 16 by the template 'for every input the law returns true; each argument reads behind the call as it read before'; 0 by the template 'total and deterministic' (their statements: YtdallmabajeajaaGreatDoorTotals.lean).
  GIVEN WITH THE SEED: the statements are not yours to turn. If you find one false, say at which input.
  Laid BY PROGRAM, IN A SANDBOX (cutbox-rows.mjs): the forced cells as the released guide's own fill.sh prints them over the translation 25e3804dc4f8f073… (all of the seat's roots in one cut). By AI agents, Wed Nov 11 2026. No macro, syntax, notation, axiom, sorry.
-/
import Derived.Test.YtdallmabajeajaaGreatDoorChecked
import GoSem.Claim
import GoSem.ClaimJoined
import GoSem.ClaimMapViews
import Derived.JoinedTies
import Derived.KernelRfl
namespace Go.Proofs.YtdallmabajeajaaGreatDoor
/- THE CELL 'sum', in the pinned program and in every row, IS THE sha256 OF THE DUMP (.gsa) THAT YtdallmabajeajaaGreatDoorProg.lean LOADS. Nothing in Lean hashes anything: it is a label: what it is worth is what the hold of that sum in a sandbox is worth. -/
noncomputable def Tryz.pinned : Pinned := { name := "ytdallmabajeajaagreatdoor", sum := "25e3804dc4f8f073a37e5821d8c6a5c7cc9c4dd423f327a50524d1481d77a28d", checked := Tryz.checked }
namespace Rows
def none {H : Type} : Left H := { results := [], args := [] }

/- WHAT THE LISTED PACKAGE-LEVEL VARIABLES READ AS WHEN THE CALL BEGINS. Each datum BY PROGRAM (the guide's laid-datum.mjs) off the statement by which the dump's own 'gosem.cut.vars' lays the variable. In a bare row this is a premise. The card (YtdallmabajeajaaGreatDoorCards.lean) ties it to the program's text. -/
def laid_weft_addr_classes {H : Type} : DataW H := .slice [.agg [.agg [.lit (.int .u32 0), .lit (.int .i64 8)], .lit (.int .i64 1)], .agg [.agg [.lit (.int .u32 2130706432), .lit (.int .i64 8)], .lit (.int .i64 2)], .agg [.agg [.lit (.int .u32 3758096384), .lit (.int .i64 4)], .lit (.int .i64 3)], .agg [.agg [.lit (.int .u32 4026531840), .lit (.int .i64 4)], .lit (.int .i64 4)]] []

/-- 'weftlaw11.LeaseEnds': WHATEVER THE INPUT: true; the input reads as it did. -/
def leaseEndsSpec : ChangeSpec := { name := "leaseEnds", fn := fun _ => fun
  | [d1, d2] => { results := [.lit (.bool true)], args := [d1, d2] }
  | _ => none }
def leaseEndsRow : OpenClaim := { program := "ytdallmabajeajaagreatdoor", sum := "25e3804dc4f8f073a37e5821d8c6a5c7cc9c4dd423f327a50524d1481d77a28d", func := "weft/weftlaw11.LeaseEnds", spec := "leaseEnds", inPlace := ["internal/reflectlite.ValueOf", "internal/reflectlite.Swapper", "(internal/reflectlite.Value).Len"], unfollowed := true, recurses := true, named := ["weft/addr.classes"], plainKeys := false, apart := false, laid := [("weft/addr.classes", laid_weft_addr_classes)] }
def LeaseEndsSaid : Prop := leaseEndsRow.holds Tryz.pinned (OpenSpec.ofChange leaseEndsSpec)

/-- ITS FALSE NEIGHBOUR: 'it returns false'. Refute it at one input. -/
def leaseEndsWrong : ChangeSpec := { name := "leaseEnds", fn := fun _ => fun
  | [d1, d2] => { results := [.lit (.bool false)], args := [d1, d2] }
  | _ => none }
def LeaseEndsWrongFalsely : Prop := leaseEndsRow.holds Tryz.pinned (OpenSpec.ofChange leaseEndsWrong)

/-- 'weftlaw11.LeaseLowest': WHATEVER THE INPUT: true; the input reads as it did. -/
def leaseLowestSpec : ChangeSpec := { name := "leaseLowest", fn := fun _ => fun
  | [d1, d2, d3] => { results := [.lit (.bool true)], args := [d1, d2, d3] }
  | _ => none }
def leaseLowestRow : OpenClaim := { program := "ytdallmabajeajaagreatdoor", sum := "25e3804dc4f8f073a37e5821d8c6a5c7cc9c4dd423f327a50524d1481d77a28d", func := "weft/weftlaw11.LeaseLowest", spec := "leaseLowest", inPlace := ["internal/reflectlite.ValueOf", "internal/reflectlite.Swapper", "(internal/reflectlite.Value).Len"], unfollowed := true, recurses := true, named := ["weft/addr.classes"], plainKeys := false, apart := false, laid := [("weft/addr.classes", laid_weft_addr_classes)] }
def LeaseLowestSaid : Prop := leaseLowestRow.holds Tryz.pinned (OpenSpec.ofChange leaseLowestSpec)

/-- ITS FALSE NEIGHBOUR: 'it returns false'. Refute it at one input. -/
def leaseLowestWrong : ChangeSpec := { name := "leaseLowest", fn := fun _ => fun
  | [d1, d2, d3] => { results := [.lit (.bool false)], args := [d1, d2, d3] }
  | _ => none }
def LeaseLowestWrongFalsely : Prop := leaseLowestRow.holds Tryz.pinned (OpenSpec.ofChange leaseLowestWrong)

/-- 'weftlaw11.LeaseRefuses': WHATEVER THE INPUT: true; the input reads as it did. -/
def leaseRefusesSpec : ChangeSpec := { name := "leaseRefuses", fn := fun _ => fun
  | [d1, d2] => { results := [.lit (.bool true)], args := [d1, d2] }
  | _ => none }
def leaseRefusesRow : OpenClaim := { program := "ytdallmabajeajaagreatdoor", sum := "25e3804dc4f8f073a37e5821d8c6a5c7cc9c4dd423f327a50524d1481d77a28d", func := "weft/weftlaw11.LeaseRefuses", spec := "leaseRefuses", inPlace := ["internal/reflectlite.ValueOf", "internal/reflectlite.Swapper", "(internal/reflectlite.Value).Len"], unfollowed := true, recurses := true, named := ["weft/addr.classes"], plainKeys := false, apart := false, laid := [("weft/addr.classes", laid_weft_addr_classes)] }
def LeaseRefusesSaid : Prop := leaseRefusesRow.holds Tryz.pinned (OpenSpec.ofChange leaseRefusesSpec)

/-- ITS FALSE NEIGHBOUR: 'it returns false'. Refute it at one input. -/
def leaseRefusesWrong : ChangeSpec := { name := "leaseRefuses", fn := fun _ => fun
  | [d1, d2] => { results := [.lit (.bool false)], args := [d1, d2] }
  | _ => none }
def LeaseRefusesWrongFalsely : Prop := leaseRefusesRow.holds Tryz.pinned (OpenSpec.ofChange leaseRefusesWrong)

/-- 'weftlaw11.LeaseSticks': WHATEVER THE INPUT: true; the input reads as it did. -/
def leaseSticksSpec : ChangeSpec := { name := "leaseSticks", fn := fun _ => fun
  | [d1, d2, d3] => { results := [.lit (.bool true)], args := [d1, d2, d3] }
  | _ => none }
def leaseSticksRow : OpenClaim := { program := "ytdallmabajeajaagreatdoor", sum := "25e3804dc4f8f073a37e5821d8c6a5c7cc9c4dd423f327a50524d1481d77a28d", func := "weft/weftlaw11.LeaseSticks", spec := "leaseSticks", inPlace := ["internal/reflectlite.ValueOf", "internal/reflectlite.Swapper", "(internal/reflectlite.Value).Len"], unfollowed := true, recurses := true, named := ["weft/addr.classes"], plainKeys := false, apart := false, laid := [("weft/addr.classes", laid_weft_addr_classes)] }
def LeaseSticksSaid : Prop := leaseSticksRow.holds Tryz.pinned (OpenSpec.ofChange leaseSticksSpec)

/-- ITS FALSE NEIGHBOUR: 'it returns false'. Refute it at one input. -/
def leaseSticksWrong : ChangeSpec := { name := "leaseSticks", fn := fun _ => fun
  | [d1, d2, d3] => { results := [.lit (.bool false)], args := [d1, d2, d3] }
  | _ => none }
def LeaseSticksWrongFalsely : Prop := leaseSticksRow.holds Tryz.pinned (OpenSpec.ofChange leaseSticksWrong)

/-- 'weftlaw11.LeaseDisjoint': WHATEVER THE INPUT: true; the input reads as it did. -/
def leaseDisjointSpec : ChangeSpec := { name := "leaseDisjoint", fn := fun _ => fun
  | [d1, d2] => { results := [.lit (.bool true)], args := [d1, d2] }
  | _ => none }
def leaseDisjointRow : OpenClaim := { program := "ytdallmabajeajaagreatdoor", sum := "25e3804dc4f8f073a37e5821d8c6a5c7cc9c4dd423f327a50524d1481d77a28d", func := "weft/weftlaw11.LeaseDisjoint", spec := "leaseDisjoint", inPlace := ["internal/reflectlite.ValueOf", "internal/reflectlite.Swapper", "(internal/reflectlite.Value).Len"], unfollowed := true, recurses := true, named := ["weft/addr.classes"], plainKeys := false, apart := false, laid := [("weft/addr.classes", laid_weft_addr_classes)] }
def LeaseDisjointSaid : Prop := leaseDisjointRow.holds Tryz.pinned (OpenSpec.ofChange leaseDisjointSpec)

/-- ITS FALSE NEIGHBOUR: 'it returns false'. Refute it at one input. -/
def leaseDisjointWrong : ChangeSpec := { name := "leaseDisjoint", fn := fun _ => fun
  | [d1, d2] => { results := [.lit (.bool false)], args := [d1, d2] }
  | _ => none }
def LeaseDisjointWrongFalsely : Prop := leaseDisjointRow.holds Tryz.pinned (OpenSpec.ofChange leaseDisjointWrong)

/-- 'weftlaw11.LeaseFold': WHATEVER THE INPUT: true; the input reads as it did. -/
def leaseFoldSpec : ChangeSpec := { name := "leaseFold", fn := fun _ => fun
  | [d1, d2, d3] => { results := [.lit (.bool true)], args := [d1, d2, d3] }
  | _ => none }
def leaseFoldRow : OpenClaim := { program := "ytdallmabajeajaagreatdoor", sum := "25e3804dc4f8f073a37e5821d8c6a5c7cc9c4dd423f327a50524d1481d77a28d", func := "weft/weftlaw11.LeaseFold", spec := "leaseFold", inPlace := ["internal/reflectlite.ValueOf", "internal/reflectlite.Swapper", "(internal/reflectlite.Value).Len"], unfollowed := true, recurses := true, named := ["weft/addr.classes"], plainKeys := false, apart := false, laid := [("weft/addr.classes", laid_weft_addr_classes)] }
def LeaseFoldSaid : Prop := leaseFoldRow.holds Tryz.pinned (OpenSpec.ofChange leaseFoldSpec)

/-- ITS FALSE NEIGHBOUR: 'it returns false'. Refute it at one input. -/
def leaseFoldWrong : ChangeSpec := { name := "leaseFold", fn := fun _ => fun
  | [d1, d2, d3] => { results := [.lit (.bool false)], args := [d1, d2, d3] }
  | _ => none }
def LeaseFoldWrongFalsely : Prop := leaseFoldRow.holds Tryz.pinned (OpenSpec.ofChange leaseFoldWrong)

/-- 'weftlaw11.LeaseBound': WHATEVER THE INPUT: true; the input reads as it did. -/
def leaseBoundSpec : ChangeSpec := { name := "leaseBound", fn := fun _ => fun
  | [d1, d2] => { results := [.lit (.bool true)], args := [d1, d2] }
  | _ => none }
def leaseBoundRow : OpenClaim := { program := "ytdallmabajeajaagreatdoor", sum := "25e3804dc4f8f073a37e5821d8c6a5c7cc9c4dd423f327a50524d1481d77a28d", func := "weft/weftlaw11.LeaseBound", spec := "leaseBound", inPlace := ["internal/reflectlite.ValueOf", "internal/reflectlite.Swapper", "(internal/reflectlite.Value).Len"], unfollowed := true, recurses := true, named := ["weft/addr.classes"], plainKeys := false, apart := false, laid := [("weft/addr.classes", laid_weft_addr_classes)] }
def LeaseBoundSaid : Prop := leaseBoundRow.holds Tryz.pinned (OpenSpec.ofChange leaseBoundSpec)

/-- ITS FALSE NEIGHBOUR: 'it returns false'. Refute it at one input. -/
def leaseBoundWrong : ChangeSpec := { name := "leaseBound", fn := fun _ => fun
  | [d1, d2] => { results := [.lit (.bool false)], args := [d1, d2] }
  | _ => none }
def LeaseBoundWrongFalsely : Prop := leaseBoundRow.holds Tryz.pinned (OpenSpec.ofChange leaseBoundWrong)

/-- 'weftlaw11.LeaseApplies': WHATEVER THE INPUT: true; the input reads as it did. -/
def leaseAppliesSpec : ChangeSpec := { name := "leaseApplies", fn := fun _ => fun
  | [d1, d2] => { results := [.lit (.bool true)], args := [d1, d2] }
  | _ => none }
def leaseAppliesRow : OpenClaim := { program := "ytdallmabajeajaagreatdoor", sum := "25e3804dc4f8f073a37e5821d8c6a5c7cc9c4dd423f327a50524d1481d77a28d", func := "weft/weftlaw11.LeaseApplies", spec := "leaseApplies", inPlace := ["internal/reflectlite.ValueOf", "internal/reflectlite.Swapper", "(internal/reflectlite.Value).Len"], unfollowed := true, recurses := true, named := ["weft/addr.classes"], plainKeys := false, apart := false, laid := [("weft/addr.classes", laid_weft_addr_classes)] }
def LeaseAppliesSaid : Prop := leaseAppliesRow.holds Tryz.pinned (OpenSpec.ofChange leaseAppliesSpec)

/-- ITS FALSE NEIGHBOUR: 'it returns false'. Refute it at one input. -/
def leaseAppliesWrong : ChangeSpec := { name := "leaseApplies", fn := fun _ => fun
  | [d1, d2] => { results := [.lit (.bool false)], args := [d1, d2] }
  | _ => none }
def LeaseAppliesWrongFalsely : Prop := leaseAppliesRow.holds Tryz.pinned (OpenSpec.ofChange leaseAppliesWrong)

/-- 'weftlaw11.LeaseTells': WHATEVER THE INPUT: true; the input reads as it did. -/
def leaseTellsSpec : ChangeSpec := { name := "leaseTells", fn := fun _ => fun
  | [d1, d2] => { results := [.lit (.bool true)], args := [d1, d2] }
  | _ => none }
def leaseTellsRow : OpenClaim := { program := "ytdallmabajeajaagreatdoor", sum := "25e3804dc4f8f073a37e5821d8c6a5c7cc9c4dd423f327a50524d1481d77a28d", func := "weft/weftlaw11.LeaseTells", spec := "leaseTells", inPlace := ["internal/reflectlite.ValueOf", "internal/reflectlite.Swapper", "(internal/reflectlite.Value).Len"], unfollowed := true, recurses := true, named := ["weft/addr.classes"], plainKeys := false, apart := false, laid := [("weft/addr.classes", laid_weft_addr_classes)] }
def LeaseTellsSaid : Prop := leaseTellsRow.holds Tryz.pinned (OpenSpec.ofChange leaseTellsSpec)

/-- ITS FALSE NEIGHBOUR: 'it returns false'. Refute it at one input. -/
def leaseTellsWrong : ChangeSpec := { name := "leaseTells", fn := fun _ => fun
  | [d1, d2] => { results := [.lit (.bool false)], args := [d1, d2] }
  | _ => none }
def LeaseTellsWrongFalsely : Prop := leaseTellsRow.holds Tryz.pinned (OpenSpec.ofChange leaseTellsWrong)

/-- 'weftlaw11.LeaseWatches': WHATEVER THE INPUT: true; the input reads as it did. -/
def leaseWatchesSpec : ChangeSpec := { name := "leaseWatches", fn := fun _ => fun
  | [d1, d2] => { results := [.lit (.bool true)], args := [d1, d2] }
  | _ => none }
def leaseWatchesRow : OpenClaim := { program := "ytdallmabajeajaagreatdoor", sum := "25e3804dc4f8f073a37e5821d8c6a5c7cc9c4dd423f327a50524d1481d77a28d", func := "weft/weftlaw11.LeaseWatches", spec := "leaseWatches", inPlace := ["internal/reflectlite.ValueOf", "internal/reflectlite.Swapper", "(internal/reflectlite.Value).Len"], unfollowed := true, recurses := true, named := ["weft/addr.classes"], plainKeys := false, apart := false, laid := [("weft/addr.classes", laid_weft_addr_classes)] }
def LeaseWatchesSaid : Prop := leaseWatchesRow.holds Tryz.pinned (OpenSpec.ofChange leaseWatchesSpec)

/-- ITS FALSE NEIGHBOUR: 'it returns false'. Refute it at one input. -/
def leaseWatchesWrong : ChangeSpec := { name := "leaseWatches", fn := fun _ => fun
  | [d1, d2] => { results := [.lit (.bool false)], args := [d1, d2] }
  | _ => none }
def LeaseWatchesWrongFalsely : Prop := leaseWatchesRow.holds Tryz.pinned (OpenSpec.ofChange leaseWatchesWrong)

/-- 'weftlaw11.LeaseHolders': WHATEVER THE INPUT: true; the input reads as it did. -/
def leaseHoldersSpec : ChangeSpec := { name := "leaseHolders", fn := fun _ => fun
  | [d1, d2] => { results := [.lit (.bool true)], args := [d1, d2] }
  | _ => none }
def leaseHoldersRow : OpenClaim := { program := "ytdallmabajeajaagreatdoor", sum := "25e3804dc4f8f073a37e5821d8c6a5c7cc9c4dd423f327a50524d1481d77a28d", func := "weft/weftlaw11.LeaseHolders", spec := "leaseHolders", inPlace := ["internal/reflectlite.ValueOf", "internal/reflectlite.Swapper", "(internal/reflectlite.Value).Len"], unfollowed := true, recurses := true, named := ["weft/addr.classes"], plainKeys := false, apart := false, laid := [("weft/addr.classes", laid_weft_addr_classes)] }
def LeaseHoldersSaid : Prop := leaseHoldersRow.holds Tryz.pinned (OpenSpec.ofChange leaseHoldersSpec)

/-- ITS FALSE NEIGHBOUR: 'it returns false'. Refute it at one input. -/
def leaseHoldersWrong : ChangeSpec := { name := "leaseHolders", fn := fun _ => fun
  | [d1, d2] => { results := [.lit (.bool false)], args := [d1, d2] }
  | _ => none }
def LeaseHoldersWrongFalsely : Prop := leaseHoldersRow.holds Tryz.pinned (OpenSpec.ofChange leaseHoldersWrong)

/-- 'weftlaw11.LeaseImages': WHATEVER THE INPUT: true; the input reads as it did. -/
def leaseImagesSpec : ChangeSpec := { name := "leaseImages", fn := fun _ => fun
  | [d1, d2] => { results := [.lit (.bool true)], args := [d1, d2] }
  | _ => none }
def leaseImagesRow : OpenClaim := { program := "ytdallmabajeajaagreatdoor", sum := "25e3804dc4f8f073a37e5821d8c6a5c7cc9c4dd423f327a50524d1481d77a28d", func := "weft/weftlaw11.LeaseImages", spec := "leaseImages", inPlace := ["internal/reflectlite.ValueOf", "internal/reflectlite.Swapper", "(internal/reflectlite.Value).Len"], unfollowed := true, recurses := true, named := ["weft/addr.classes"], plainKeys := false, apart := false, laid := [("weft/addr.classes", laid_weft_addr_classes)] }
def LeaseImagesSaid : Prop := leaseImagesRow.holds Tryz.pinned (OpenSpec.ofChange leaseImagesSpec)

/-- ITS FALSE NEIGHBOUR: 'it returns false'. Refute it at one input. -/
def leaseImagesWrong : ChangeSpec := { name := "leaseImages", fn := fun _ => fun
  | [d1, d2] => { results := [.lit (.bool false)], args := [d1, d2] }
  | _ => none }
def LeaseImagesWrongFalsely : Prop := leaseImagesRow.holds Tryz.pinned (OpenSpec.ofChange leaseImagesWrong)

/-- 'weftlaw11.LeasePlays': WHATEVER THE INPUT: true; the input reads as it did. -/
def leasePlaysSpec : ChangeSpec := { name := "leasePlays", fn := fun _ => fun
  | [d1, d2] => { results := [.lit (.bool true)], args := [d1, d2] }
  | _ => none }
def leasePlaysRow : OpenClaim := { program := "ytdallmabajeajaagreatdoor", sum := "25e3804dc4f8f073a37e5821d8c6a5c7cc9c4dd423f327a50524d1481d77a28d", func := "weft/weftlaw11.LeasePlays", spec := "leasePlays", inPlace := ["internal/reflectlite.ValueOf", "internal/reflectlite.Swapper", "(internal/reflectlite.Value).Len"], unfollowed := true, recurses := true, named := ["weft/addr.classes"], plainKeys := false, apart := false, laid := [("weft/addr.classes", laid_weft_addr_classes)] }
def LeasePlaysSaid : Prop := leasePlaysRow.holds Tryz.pinned (OpenSpec.ofChange leasePlaysSpec)

/-- ITS FALSE NEIGHBOUR: 'it returns false'. Refute it at one input. -/
def leasePlaysWrong : ChangeSpec := { name := "leasePlays", fn := fun _ => fun
  | [d1, d2] => { results := [.lit (.bool false)], args := [d1, d2] }
  | _ => none }
def LeasePlaysWrongFalsely : Prop := leasePlaysRow.holds Tryz.pinned (OpenSpec.ofChange leasePlaysWrong)

/-- 'weftlaw11.LeaseRestores': WHATEVER THE INPUT: true; the input reads as it did. -/
def leaseRestoresSpec : ChangeSpec := { name := "leaseRestores", fn := fun _ => fun
  | [d1, d2, d3] => { results := [.lit (.bool true)], args := [d1, d2, d3] }
  | _ => none }
def leaseRestoresRow : OpenClaim := { program := "ytdallmabajeajaagreatdoor", sum := "25e3804dc4f8f073a37e5821d8c6a5c7cc9c4dd423f327a50524d1481d77a28d", func := "weft/weftlaw11.LeaseRestores", spec := "leaseRestores", inPlace := ["internal/reflectlite.ValueOf", "internal/reflectlite.Swapper", "(internal/reflectlite.Value).Len"], unfollowed := true, recurses := true, named := ["weft/addr.classes"], plainKeys := false, apart := false, laid := [("weft/addr.classes", laid_weft_addr_classes)] }
def LeaseRestoresSaid : Prop := leaseRestoresRow.holds Tryz.pinned (OpenSpec.ofChange leaseRestoresSpec)

/-- ITS FALSE NEIGHBOUR: 'it returns false'. Refute it at one input. -/
def leaseRestoresWrong : ChangeSpec := { name := "leaseRestores", fn := fun _ => fun
  | [d1, d2, d3] => { results := [.lit (.bool false)], args := [d1, d2, d3] }
  | _ => none }
def LeaseRestoresWrongFalsely : Prop := leaseRestoresRow.holds Tryz.pinned (OpenSpec.ofChange leaseRestoresWrong)

/-- 'weftlaw11.LeaseAgain': WHATEVER THE INPUT: true; the input reads as it did. -/
def leaseAgainSpec : ChangeSpec := { name := "leaseAgain", fn := fun _ => fun
  | [d1, d2, d3] => { results := [.lit (.bool true)], args := [d1, d2, d3] }
  | _ => none }
def leaseAgainRow : OpenClaim := { program := "ytdallmabajeajaagreatdoor", sum := "25e3804dc4f8f073a37e5821d8c6a5c7cc9c4dd423f327a50524d1481d77a28d", func := "weft/weftlaw11.LeaseAgain", spec := "leaseAgain", inPlace := ["internal/reflectlite.ValueOf", "internal/reflectlite.Swapper", "(internal/reflectlite.Value).Len"], unfollowed := true, recurses := true, named := ["weft/addr.classes"], plainKeys := false, apart := false, laid := [("weft/addr.classes", laid_weft_addr_classes)] }
def LeaseAgainSaid : Prop := leaseAgainRow.holds Tryz.pinned (OpenSpec.ofChange leaseAgainSpec)

/-- ITS FALSE NEIGHBOUR: 'it returns false'. Refute it at one input. -/
def leaseAgainWrong : ChangeSpec := { name := "leaseAgain", fn := fun _ => fun
  | [d1, d2, d3] => { results := [.lit (.bool false)], args := [d1, d2, d3] }
  | _ => none }
def LeaseAgainWrongFalsely : Prop := leaseAgainRow.holds Tryz.pinned (OpenSpec.ofChange leaseAgainWrong)

/-- 'weftlaw11.LeaseFresh': WHATEVER THE INPUT: true; the input reads as it did. -/
def leaseFreshSpec : ChangeSpec := { name := "leaseFresh", fn := fun _ => fun
  | [d1, d2] => { results := [.lit (.bool true)], args := [d1, d2] }
  | _ => none }
def leaseFreshRow : OpenClaim := { program := "ytdallmabajeajaagreatdoor", sum := "25e3804dc4f8f073a37e5821d8c6a5c7cc9c4dd423f327a50524d1481d77a28d", func := "weft/weftlaw11.LeaseFresh", spec := "leaseFresh", inPlace := ["internal/reflectlite.ValueOf", "internal/reflectlite.Swapper", "(internal/reflectlite.Value).Len"], unfollowed := true, recurses := true, named := ["weft/addr.classes"], plainKeys := false, apart := false, laid := [("weft/addr.classes", laid_weft_addr_classes)] }
def LeaseFreshSaid : Prop := leaseFreshRow.holds Tryz.pinned (OpenSpec.ofChange leaseFreshSpec)

/-- ITS FALSE NEIGHBOUR: 'it returns false'. Refute it at one input. -/
def leaseFreshWrong : ChangeSpec := { name := "leaseFresh", fn := fun _ => fun
  | [d1, d2] => { results := [.lit (.bool false)], args := [d1, d2] }
  | _ => none }
def LeaseFreshWrongFalsely : Prop := leaseFreshRow.holds Tryz.pinned (OpenSpec.ofChange leaseFreshWrong)

/- THE SECOND FORM. 'bulk': how many values and letters a reading holds, each counted each time it is reached (what is shared counts as often as it is met; a slice's spare places count too). A statement '..UptoSaid' is the law's where the arguments, and the package variables that the reading takes, are together of bulk at most 1048576: NARROWER than '..Said'. Prove '..Said' where nothing that the law and all that it calls make is longer than what came in: it says more and counts as full. Else prove '..UptoSaid'. A law counts once. -/
mutual
def uptoBulk {H : Type} : DataW H → Nat
  | .lit (.string bytes) => bytes.length + 1
  | .lit _ => 1
  | .nil => 1
  | .ptr d => uptoBulk d + 1
  | .slice elems spare => uptoBulkAll elems + uptoBulkAll spare + 1
  | .agg parts => uptoBulkAll parts + 1
  | .iface _ d => uptoBulk d + 1
  | .map entries => uptoBulkEntries entries + 1
  | .held _ => 1
def uptoBulkAll {H : Type} : List (DataW H) → Nat
  | [] => 0
  | d :: r => uptoBulk d + uptoBulkAll r
def uptoBulkEntries {H : Type} : List (Lit × DataW H) → Nat
  | [] => 0
  | x :: r => uptoBulkEntry x + uptoBulkEntries r
def uptoBulkEntry {H : Type} : Lit × DataW H → Nat
  | (.string bytes, d) => bytes.length + uptoBulk d + 1
  | (_, d) => uptoBulk d + 1
 end
def uptoSmall : (H : Type) → List (DataW H) → Bool := fun _ ds => decide (uptoBulkAll ds ≤ 1048576)
def OpenSpec.upto (s : _root_.Go.ChangeSpec) : _root_.Go.OpenSpec := { _root_.Go.OpenSpec.ofChange s with cond := some uptoSmall }

/-- 'weftlaw11.LeaseEnds', WHERE WHAT IT READS IS OF BULK AT MOST 1048576: true; the input reads as it did. -/
def leaseEndsUptoRow : OpenClaim := { program := "ytdallmabajeajaagreatdoor", sum := "25e3804dc4f8f073a37e5821d8c6a5c7cc9c4dd423f327a50524d1481d77a28d", func := "weft/weftlaw11.LeaseEnds", spec := "leaseEnds", inPlace := ["internal/reflectlite.ValueOf", "internal/reflectlite.Swapper", "(internal/reflectlite.Value).Len"], unfollowed := true, recurses := true, named := ["weft/addr.classes"], plainKeys := false, apart := false, laid := [("weft/addr.classes", laid_weft_addr_classes)], narrowed := true }
def LeaseEndsUptoSaid : Prop := leaseEndsUptoRow.holds Tryz.pinned (OpenSpec.upto leaseEndsSpec)

/-- 'weftlaw11.LeaseLowest', WHERE WHAT IT READS IS OF BULK AT MOST 1048576: true; the input reads as it did. -/
def leaseLowestUptoRow : OpenClaim := { program := "ytdallmabajeajaagreatdoor", sum := "25e3804dc4f8f073a37e5821d8c6a5c7cc9c4dd423f327a50524d1481d77a28d", func := "weft/weftlaw11.LeaseLowest", spec := "leaseLowest", inPlace := ["internal/reflectlite.ValueOf", "internal/reflectlite.Swapper", "(internal/reflectlite.Value).Len"], unfollowed := true, recurses := true, named := ["weft/addr.classes"], plainKeys := false, apart := false, laid := [("weft/addr.classes", laid_weft_addr_classes)], narrowed := true }
def LeaseLowestUptoSaid : Prop := leaseLowestUptoRow.holds Tryz.pinned (OpenSpec.upto leaseLowestSpec)

/-- 'weftlaw11.LeaseRefuses', WHERE WHAT IT READS IS OF BULK AT MOST 1048576: true; the input reads as it did. -/
def leaseRefusesUptoRow : OpenClaim := { program := "ytdallmabajeajaagreatdoor", sum := "25e3804dc4f8f073a37e5821d8c6a5c7cc9c4dd423f327a50524d1481d77a28d", func := "weft/weftlaw11.LeaseRefuses", spec := "leaseRefuses", inPlace := ["internal/reflectlite.ValueOf", "internal/reflectlite.Swapper", "(internal/reflectlite.Value).Len"], unfollowed := true, recurses := true, named := ["weft/addr.classes"], plainKeys := false, apart := false, laid := [("weft/addr.classes", laid_weft_addr_classes)], narrowed := true }
def LeaseRefusesUptoSaid : Prop := leaseRefusesUptoRow.holds Tryz.pinned (OpenSpec.upto leaseRefusesSpec)

/-- 'weftlaw11.LeaseSticks', WHERE WHAT IT READS IS OF BULK AT MOST 1048576: true; the input reads as it did. -/
def leaseSticksUptoRow : OpenClaim := { program := "ytdallmabajeajaagreatdoor", sum := "25e3804dc4f8f073a37e5821d8c6a5c7cc9c4dd423f327a50524d1481d77a28d", func := "weft/weftlaw11.LeaseSticks", spec := "leaseSticks", inPlace := ["internal/reflectlite.ValueOf", "internal/reflectlite.Swapper", "(internal/reflectlite.Value).Len"], unfollowed := true, recurses := true, named := ["weft/addr.classes"], plainKeys := false, apart := false, laid := [("weft/addr.classes", laid_weft_addr_classes)], narrowed := true }
def LeaseSticksUptoSaid : Prop := leaseSticksUptoRow.holds Tryz.pinned (OpenSpec.upto leaseSticksSpec)

/-- 'weftlaw11.LeaseDisjoint', WHERE WHAT IT READS IS OF BULK AT MOST 1048576: true; the input reads as it did. -/
def leaseDisjointUptoRow : OpenClaim := { program := "ytdallmabajeajaagreatdoor", sum := "25e3804dc4f8f073a37e5821d8c6a5c7cc9c4dd423f327a50524d1481d77a28d", func := "weft/weftlaw11.LeaseDisjoint", spec := "leaseDisjoint", inPlace := ["internal/reflectlite.ValueOf", "internal/reflectlite.Swapper", "(internal/reflectlite.Value).Len"], unfollowed := true, recurses := true, named := ["weft/addr.classes"], plainKeys := false, apart := false, laid := [("weft/addr.classes", laid_weft_addr_classes)], narrowed := true }
def LeaseDisjointUptoSaid : Prop := leaseDisjointUptoRow.holds Tryz.pinned (OpenSpec.upto leaseDisjointSpec)

/-- 'weftlaw11.LeaseFold', WHERE WHAT IT READS IS OF BULK AT MOST 1048576: true; the input reads as it did. -/
def leaseFoldUptoRow : OpenClaim := { program := "ytdallmabajeajaagreatdoor", sum := "25e3804dc4f8f073a37e5821d8c6a5c7cc9c4dd423f327a50524d1481d77a28d", func := "weft/weftlaw11.LeaseFold", spec := "leaseFold", inPlace := ["internal/reflectlite.ValueOf", "internal/reflectlite.Swapper", "(internal/reflectlite.Value).Len"], unfollowed := true, recurses := true, named := ["weft/addr.classes"], plainKeys := false, apart := false, laid := [("weft/addr.classes", laid_weft_addr_classes)], narrowed := true }
def LeaseFoldUptoSaid : Prop := leaseFoldUptoRow.holds Tryz.pinned (OpenSpec.upto leaseFoldSpec)

/-- 'weftlaw11.LeaseBound', WHERE WHAT IT READS IS OF BULK AT MOST 1048576: true; the input reads as it did. -/
def leaseBoundUptoRow : OpenClaim := { program := "ytdallmabajeajaagreatdoor", sum := "25e3804dc4f8f073a37e5821d8c6a5c7cc9c4dd423f327a50524d1481d77a28d", func := "weft/weftlaw11.LeaseBound", spec := "leaseBound", inPlace := ["internal/reflectlite.ValueOf", "internal/reflectlite.Swapper", "(internal/reflectlite.Value).Len"], unfollowed := true, recurses := true, named := ["weft/addr.classes"], plainKeys := false, apart := false, laid := [("weft/addr.classes", laid_weft_addr_classes)], narrowed := true }
def LeaseBoundUptoSaid : Prop := leaseBoundUptoRow.holds Tryz.pinned (OpenSpec.upto leaseBoundSpec)

/-- 'weftlaw11.LeaseApplies', WHERE WHAT IT READS IS OF BULK AT MOST 1048576: true; the input reads as it did. -/
def leaseAppliesUptoRow : OpenClaim := { program := "ytdallmabajeajaagreatdoor", sum := "25e3804dc4f8f073a37e5821d8c6a5c7cc9c4dd423f327a50524d1481d77a28d", func := "weft/weftlaw11.LeaseApplies", spec := "leaseApplies", inPlace := ["internal/reflectlite.ValueOf", "internal/reflectlite.Swapper", "(internal/reflectlite.Value).Len"], unfollowed := true, recurses := true, named := ["weft/addr.classes"], plainKeys := false, apart := false, laid := [("weft/addr.classes", laid_weft_addr_classes)], narrowed := true }
def LeaseAppliesUptoSaid : Prop := leaseAppliesUptoRow.holds Tryz.pinned (OpenSpec.upto leaseAppliesSpec)

/-- 'weftlaw11.LeaseTells', WHERE WHAT IT READS IS OF BULK AT MOST 1048576: true; the input reads as it did. -/
def leaseTellsUptoRow : OpenClaim := { program := "ytdallmabajeajaagreatdoor", sum := "25e3804dc4f8f073a37e5821d8c6a5c7cc9c4dd423f327a50524d1481d77a28d", func := "weft/weftlaw11.LeaseTells", spec := "leaseTells", inPlace := ["internal/reflectlite.ValueOf", "internal/reflectlite.Swapper", "(internal/reflectlite.Value).Len"], unfollowed := true, recurses := true, named := ["weft/addr.classes"], plainKeys := false, apart := false, laid := [("weft/addr.classes", laid_weft_addr_classes)], narrowed := true }
def LeaseTellsUptoSaid : Prop := leaseTellsUptoRow.holds Tryz.pinned (OpenSpec.upto leaseTellsSpec)

/-- 'weftlaw11.LeaseWatches', WHERE WHAT IT READS IS OF BULK AT MOST 1048576: true; the input reads as it did. -/
def leaseWatchesUptoRow : OpenClaim := { program := "ytdallmabajeajaagreatdoor", sum := "25e3804dc4f8f073a37e5821d8c6a5c7cc9c4dd423f327a50524d1481d77a28d", func := "weft/weftlaw11.LeaseWatches", spec := "leaseWatches", inPlace := ["internal/reflectlite.ValueOf", "internal/reflectlite.Swapper", "(internal/reflectlite.Value).Len"], unfollowed := true, recurses := true, named := ["weft/addr.classes"], plainKeys := false, apart := false, laid := [("weft/addr.classes", laid_weft_addr_classes)], narrowed := true }
def LeaseWatchesUptoSaid : Prop := leaseWatchesUptoRow.holds Tryz.pinned (OpenSpec.upto leaseWatchesSpec)

/-- 'weftlaw11.LeaseHolders', WHERE WHAT IT READS IS OF BULK AT MOST 1048576: true; the input reads as it did. -/
def leaseHoldersUptoRow : OpenClaim := { program := "ytdallmabajeajaagreatdoor", sum := "25e3804dc4f8f073a37e5821d8c6a5c7cc9c4dd423f327a50524d1481d77a28d", func := "weft/weftlaw11.LeaseHolders", spec := "leaseHolders", inPlace := ["internal/reflectlite.ValueOf", "internal/reflectlite.Swapper", "(internal/reflectlite.Value).Len"], unfollowed := true, recurses := true, named := ["weft/addr.classes"], plainKeys := false, apart := false, laid := [("weft/addr.classes", laid_weft_addr_classes)], narrowed := true }
def LeaseHoldersUptoSaid : Prop := leaseHoldersUptoRow.holds Tryz.pinned (OpenSpec.upto leaseHoldersSpec)

/-- 'weftlaw11.LeaseImages', WHERE WHAT IT READS IS OF BULK AT MOST 1048576: true; the input reads as it did. -/
def leaseImagesUptoRow : OpenClaim := { program := "ytdallmabajeajaagreatdoor", sum := "25e3804dc4f8f073a37e5821d8c6a5c7cc9c4dd423f327a50524d1481d77a28d", func := "weft/weftlaw11.LeaseImages", spec := "leaseImages", inPlace := ["internal/reflectlite.ValueOf", "internal/reflectlite.Swapper", "(internal/reflectlite.Value).Len"], unfollowed := true, recurses := true, named := ["weft/addr.classes"], plainKeys := false, apart := false, laid := [("weft/addr.classes", laid_weft_addr_classes)], narrowed := true }
def LeaseImagesUptoSaid : Prop := leaseImagesUptoRow.holds Tryz.pinned (OpenSpec.upto leaseImagesSpec)

/-- 'weftlaw11.LeasePlays', WHERE WHAT IT READS IS OF BULK AT MOST 1048576: true; the input reads as it did. -/
def leasePlaysUptoRow : OpenClaim := { program := "ytdallmabajeajaagreatdoor", sum := "25e3804dc4f8f073a37e5821d8c6a5c7cc9c4dd423f327a50524d1481d77a28d", func := "weft/weftlaw11.LeasePlays", spec := "leasePlays", inPlace := ["internal/reflectlite.ValueOf", "internal/reflectlite.Swapper", "(internal/reflectlite.Value).Len"], unfollowed := true, recurses := true, named := ["weft/addr.classes"], plainKeys := false, apart := false, laid := [("weft/addr.classes", laid_weft_addr_classes)], narrowed := true }
def LeasePlaysUptoSaid : Prop := leasePlaysUptoRow.holds Tryz.pinned (OpenSpec.upto leasePlaysSpec)

/-- 'weftlaw11.LeaseRestores', WHERE WHAT IT READS IS OF BULK AT MOST 1048576: true; the input reads as it did. -/
def leaseRestoresUptoRow : OpenClaim := { program := "ytdallmabajeajaagreatdoor", sum := "25e3804dc4f8f073a37e5821d8c6a5c7cc9c4dd423f327a50524d1481d77a28d", func := "weft/weftlaw11.LeaseRestores", spec := "leaseRestores", inPlace := ["internal/reflectlite.ValueOf", "internal/reflectlite.Swapper", "(internal/reflectlite.Value).Len"], unfollowed := true, recurses := true, named := ["weft/addr.classes"], plainKeys := false, apart := false, laid := [("weft/addr.classes", laid_weft_addr_classes)], narrowed := true }
def LeaseRestoresUptoSaid : Prop := leaseRestoresUptoRow.holds Tryz.pinned (OpenSpec.upto leaseRestoresSpec)

/-- 'weftlaw11.LeaseAgain', WHERE WHAT IT READS IS OF BULK AT MOST 1048576: true; the input reads as it did. -/
def leaseAgainUptoRow : OpenClaim := { program := "ytdallmabajeajaagreatdoor", sum := "25e3804dc4f8f073a37e5821d8c6a5c7cc9c4dd423f327a50524d1481d77a28d", func := "weft/weftlaw11.LeaseAgain", spec := "leaseAgain", inPlace := ["internal/reflectlite.ValueOf", "internal/reflectlite.Swapper", "(internal/reflectlite.Value).Len"], unfollowed := true, recurses := true, named := ["weft/addr.classes"], plainKeys := false, apart := false, laid := [("weft/addr.classes", laid_weft_addr_classes)], narrowed := true }
def LeaseAgainUptoSaid : Prop := leaseAgainUptoRow.holds Tryz.pinned (OpenSpec.upto leaseAgainSpec)

/-- 'weftlaw11.LeaseFresh', WHERE WHAT IT READS IS OF BULK AT MOST 1048576: true; the input reads as it did. -/
def leaseFreshUptoRow : OpenClaim := { program := "ytdallmabajeajaagreatdoor", sum := "25e3804dc4f8f073a37e5821d8c6a5c7cc9c4dd423f327a50524d1481d77a28d", func := "weft/weftlaw11.LeaseFresh", spec := "leaseFresh", inPlace := ["internal/reflectlite.ValueOf", "internal/reflectlite.Swapper", "(internal/reflectlite.Value).Len"], unfollowed := true, recurses := true, named := ["weft/addr.classes"], plainKeys := false, apart := false, laid := [("weft/addr.classes", laid_weft_addr_classes)], narrowed := true }
def LeaseFreshUptoSaid : Prop := leaseFreshUptoRow.holds Tryz.pinned (OpenSpec.upto leaseFreshSpec)

end Rows
end Go.Proofs.YtdallmabajeajaaGreatDoor
