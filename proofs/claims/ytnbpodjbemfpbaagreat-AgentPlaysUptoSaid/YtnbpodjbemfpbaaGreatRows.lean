/-
  No cell of these rows narrows 'for every input' (looked for: loops, veiled, ifaces, maps, wideKeys, modest, calm, conditions, laid).
  DERIVED. THE GIVEN ROWS OF THIS SEAT. 7 by the template 'for every input the law returns true; each argument reads behind the call as it read before'; 0 by the template 'total and deterministic' (their statements: YtnbpodjbemfpbaaGreatTotals.lean).
  GIVEN WITH THE SEED: the statements are not yours to turn. If you find one false, say at which input.
  Laid BY PROGRAM, IN A SANDBOX (cutbox-rows.mjs): the forced cells as the released guide's own fill.sh prints them over the translation ec468bc8f7f6bd4e… (all of the seat's roots in one cut). By AI agents, Wed Nov 11 2026. No macro, syntax, notation, axiom, sorry.
-/
import Derived.Test.YtnbpodjbemfpbaaGreatChecked
import GoSem.Claim
import GoSem.ClaimJoined
import GoSem.ClaimMapViews
import Derived.JoinedTies
import Derived.KernelRfl
namespace Go.Proofs.YtnbpodjbemfpbaaGreat
/- THE CELL 'sum', in the pinned program and in every row, IS THE sha256 OF THE DUMP (.gsa) THAT YtnbpodjbemfpbaaGreatProg.lean LOADS. Nothing in Lean hashes anything: it is a label: what it is worth is what the hold of that sum in a sandbox is worth. -/
noncomputable def Tryz.pinned : Pinned := { name := "ytnbpodjbemfpbaagreat", sum := "ec468bc8f7f6bd4ee458b2104482fc3fc4ca938cd1a137215e96142534af2008", checked := Tryz.checked }
namespace Rows
def none {H : Type} : Left H := { results := [], args := [] }

/-- 'weftlaw16.AgentPlans': WHATEVER THE INPUT: true; the input reads as it did. -/
def agentPlansSpec : ChangeSpec := { name := "agentPlans", fn := fun _ => fun
  | [d1, d2] => { results := [.lit (.bool true)], args := [d1, d2] }
  | _ => none }
def agentPlansRow : OpenClaim := { program := "ytnbpodjbemfpbaagreat", sum := "ec468bc8f7f6bd4ee458b2104482fc3fc4ca938cd1a137215e96142534af2008", func := "weft/weftlaw16.AgentPlans", spec := "agentPlans", inPlace := ["slices.overlaps[weft/api.Route]", "slices.overlaps[weft/api.Neigh]", "slices.overlaps[weft/api.Fdb]", "internal/bytealg.Compare", "slices.overlaps[weft/api.Prefix]", "slices.overlaps[weft/api.Lease]"], unfollowed := true, recurses := true, apart := false }
def AgentPlansSaid : Prop := agentPlansRow.holds Tryz.pinned (OpenSpec.ofChange agentPlansSpec)

/-- ITS FALSE NEIGHBOUR: 'it returns false'. Refute it at one input. -/
def agentPlansWrong : ChangeSpec := { name := "agentPlans", fn := fun _ => fun
  | [d1, d2] => { results := [.lit (.bool false)], args := [d1, d2] }
  | _ => none }
def AgentPlansWrongFalsely : Prop := agentPlansRow.holds Tryz.pinned (OpenSpec.ofChange agentPlansWrong)

/-- 'weftlaw16.AgentDiffs': WHATEVER THE INPUT: true; the input reads as it did. -/
def agentDiffsSpec : ChangeSpec := { name := "agentDiffs", fn := fun _ => fun
  | [d1, d2] => { results := [.lit (.bool true)], args := [d1, d2] }
  | _ => none }
def agentDiffsRow : OpenClaim := { program := "ytnbpodjbemfpbaagreat", sum := "ec468bc8f7f6bd4ee458b2104482fc3fc4ca938cd1a137215e96142534af2008", func := "weft/weftlaw16.AgentDiffs", spec := "agentDiffs", inPlace := ["slices.overlaps[weft/api.Route]", "slices.overlaps[weft/api.Neigh]", "slices.overlaps[weft/api.Fdb]", "internal/bytealg.Compare", "slices.overlaps[weft/api.Prefix]", "slices.overlaps[weft/api.Lease]"], unfollowed := true, recurses := true, apart := false }
def AgentDiffsSaid : Prop := agentDiffsRow.holds Tryz.pinned (OpenSpec.ofChange agentDiffsSpec)

/-- ITS FALSE NEIGHBOUR: 'it returns false'. Refute it at one input. -/
def agentDiffsWrong : ChangeSpec := { name := "agentDiffs", fn := fun _ => fun
  | [d1, d2] => { results := [.lit (.bool false)], args := [d1, d2] }
  | _ => none }
def AgentDiffsWrongFalsely : Prop := agentDiffsRow.holds Tryz.pinned (OpenSpec.ofChange agentDiffsWrong)

/-- 'weftlaw16.AgentPlanWhole': WHATEVER THE INPUT: true; the input reads as it did. -/
def agentPlanWholeSpec : ChangeSpec := { name := "agentPlanWhole", fn := fun _ => fun
  | [d1, d2] => { results := [.lit (.bool true)], args := [d1, d2] }
  | _ => none }
def agentPlanWholeRow : OpenClaim := { program := "ytnbpodjbemfpbaagreat", sum := "ec468bc8f7f6bd4ee458b2104482fc3fc4ca938cd1a137215e96142534af2008", func := "weft/weftlaw16.AgentPlanWhole", spec := "agentPlanWhole", inPlace := ["slices.overlaps[weft/api.Route]", "slices.overlaps[weft/api.Neigh]", "slices.overlaps[weft/api.Fdb]", "internal/bytealg.Compare", "slices.overlaps[weft/api.Prefix]", "slices.overlaps[weft/api.Lease]"], unfollowed := true, recurses := true, apart := false }
def AgentPlanWholeSaid : Prop := agentPlanWholeRow.holds Tryz.pinned (OpenSpec.ofChange agentPlanWholeSpec)

/-- ITS FALSE NEIGHBOUR: 'it returns false'. Refute it at one input. -/
def agentPlanWholeWrong : ChangeSpec := { name := "agentPlanWhole", fn := fun _ => fun
  | [d1, d2] => { results := [.lit (.bool false)], args := [d1, d2] }
  | _ => none }
def AgentPlanWholeWrongFalsely : Prop := agentPlanWholeRow.holds Tryz.pinned (OpenSpec.ofChange agentPlanWholeWrong)

/-- 'weftlaw16.AgentDiffLeads': WHATEVER THE INPUT: true; the input reads as it did. -/
def agentDiffLeadsSpec : ChangeSpec := { name := "agentDiffLeads", fn := fun _ => fun
  | [d1, d2] => { results := [.lit (.bool true)], args := [d1, d2] }
  | _ => none }
def agentDiffLeadsRow : OpenClaim := { program := "ytnbpodjbemfpbaagreat", sum := "ec468bc8f7f6bd4ee458b2104482fc3fc4ca938cd1a137215e96142534af2008", func := "weft/weftlaw16.AgentDiffLeads", spec := "agentDiffLeads", inPlace := ["slices.overlaps[weft/api.Route]", "slices.overlaps[weft/api.Neigh]", "slices.overlaps[weft/api.Fdb]", "internal/bytealg.Compare", "slices.overlaps[weft/api.Prefix]", "slices.overlaps[weft/api.Lease]"], unfollowed := true, recurses := true, apart := false }
def AgentDiffLeadsSaid : Prop := agentDiffLeadsRow.holds Tryz.pinned (OpenSpec.ofChange agentDiffLeadsSpec)

/-- ITS FALSE NEIGHBOUR: 'it returns false'. Refute it at one input. -/
def agentDiffLeadsWrong : ChangeSpec := { name := "agentDiffLeads", fn := fun _ => fun
  | [d1, d2] => { results := [.lit (.bool false)], args := [d1, d2] }
  | _ => none }
def AgentDiffLeadsWrongFalsely : Prop := agentDiffLeadsRow.holds Tryz.pinned (OpenSpec.ofChange agentDiffLeadsWrong)

/-- 'weftlaw16.AgentPlays': WHATEVER THE INPUT: true; the input reads as it did. -/
def agentPlaysSpec : ChangeSpec := { name := "agentPlays", fn := fun _ => fun
  | [d1, d2, d3] => { results := [.lit (.bool true)], args := [d1, d2, d3] }
  | _ => none }
def agentPlaysRow : OpenClaim := { program := "ytnbpodjbemfpbaagreat", sum := "ec468bc8f7f6bd4ee458b2104482fc3fc4ca938cd1a137215e96142534af2008", func := "weft/weftlaw16.AgentPlays", spec := "agentPlays", inPlace := ["slices.overlaps[weft/api.Route]", "slices.overlaps[weft/api.Neigh]", "slices.overlaps[weft/api.Fdb]", "internal/bytealg.Compare", "slices.overlaps[weft/api.Prefix]", "slices.overlaps[weft/api.Lease]"], unfollowed := true, recurses := true, apart := false }
def AgentPlaysSaid : Prop := agentPlaysRow.holds Tryz.pinned (OpenSpec.ofChange agentPlaysSpec)

/-- ITS FALSE NEIGHBOUR: 'it returns false'. Refute it at one input. -/
def agentPlaysWrong : ChangeSpec := { name := "agentPlays", fn := fun _ => fun
  | [d1, d2, d3] => { results := [.lit (.bool false)], args := [d1, d2, d3] }
  | _ => none }
def AgentPlaysWrongFalsely : Prop := agentPlaysRow.holds Tryz.pinned (OpenSpec.ofChange agentPlaysWrong)

/-- 'weftlaw16.AgentQuiet': WHATEVER THE INPUT: true; the input reads as it did. -/
def agentQuietSpec : ChangeSpec := { name := "agentQuiet", fn := fun _ => fun
  | [d1, d2, d3] => { results := [.lit (.bool true)], args := [d1, d2, d3] }
  | _ => none }
def agentQuietRow : OpenClaim := { program := "ytnbpodjbemfpbaagreat", sum := "ec468bc8f7f6bd4ee458b2104482fc3fc4ca938cd1a137215e96142534af2008", func := "weft/weftlaw16.AgentQuiet", spec := "agentQuiet", inPlace := ["slices.overlaps[weft/api.Route]", "slices.overlaps[weft/api.Neigh]", "slices.overlaps[weft/api.Fdb]", "internal/bytealg.Compare", "slices.overlaps[weft/api.Prefix]", "slices.overlaps[weft/api.Lease]"], unfollowed := true, recurses := true, apart := false }
def AgentQuietSaid : Prop := agentQuietRow.holds Tryz.pinned (OpenSpec.ofChange agentQuietSpec)

/-- ITS FALSE NEIGHBOUR: 'it returns false'. Refute it at one input. -/
def agentQuietWrong : ChangeSpec := { name := "agentQuiet", fn := fun _ => fun
  | [d1, d2, d3] => { results := [.lit (.bool false)], args := [d1, d2, d3] }
  | _ => none }
def AgentQuietWrongFalsely : Prop := agentQuietRow.holds Tryz.pinned (OpenSpec.ofChange agentQuietWrong)

/-- 'weftlaw16.AgentMemory': WHATEVER THE INPUT: true; the input reads as it did. -/
def agentMemorySpec : ChangeSpec := { name := "agentMemory", fn := fun _ => fun
  | [d1, d2, d3] => { results := [.lit (.bool true)], args := [d1, d2, d3] }
  | _ => none }
def agentMemoryRow : OpenClaim := { program := "ytnbpodjbemfpbaagreat", sum := "ec468bc8f7f6bd4ee458b2104482fc3fc4ca938cd1a137215e96142534af2008", func := "weft/weftlaw16.AgentMemory", spec := "agentMemory", inPlace := ["slices.overlaps[weft/api.Route]", "slices.overlaps[weft/api.Neigh]", "slices.overlaps[weft/api.Fdb]", "internal/bytealg.Compare", "slices.overlaps[weft/api.Prefix]", "slices.overlaps[weft/api.Lease]"], unfollowed := true, recurses := true, apart := false }
def AgentMemorySaid : Prop := agentMemoryRow.holds Tryz.pinned (OpenSpec.ofChange agentMemorySpec)

/-- ITS FALSE NEIGHBOUR: 'it returns false'. Refute it at one input. -/
def agentMemoryWrong : ChangeSpec := { name := "agentMemory", fn := fun _ => fun
  | [d1, d2, d3] => { results := [.lit (.bool false)], args := [d1, d2, d3] }
  | _ => none }
def AgentMemoryWrongFalsely : Prop := agentMemoryRow.holds Tryz.pinned (OpenSpec.ofChange agentMemoryWrong)

/- THE SECOND FORM. 'bulk': how many values and letters a reading holds, each counted each time it is reached (what is shared counts as often as it is met; a slice's spare places count too). A statement '..UptoSaid' is the law's where the arguments, and the package variables that the reading takes, are together of bulk at most 1048576: NARROWER than '..Said'. Prove '..Said' where nothing that the law and all that it calls make is longer than what came in: it says more and counts as full. Else prove '..UptoSaid'. A law counts once. -/
mutual
def uptoBulk {H : Type} : DataW H → Nat
  | .lit (.string bytes) => bytes.length + 1
  | .lit _ => 1
  | .nil => 1
  | .ptr d => uptoBulk d + 1
  | .slice elems spare => uptoBulkAll elems + uptoBulkAll spare + 1
  | .agg parts => uptoBulkAll parts + 1
  | .iface _ d => uptoBulk d + 1
  | .map entries => uptoBulkEntries entries + 1
  | .held _ => 1
def uptoBulkAll {H : Type} : List (DataW H) → Nat
  | [] => 0
  | d :: r => uptoBulk d + uptoBulkAll r
def uptoBulkEntries {H : Type} : List (Lit × DataW H) → Nat
  | [] => 0
  | x :: r => uptoBulkEntry x + uptoBulkEntries r
def uptoBulkEntry {H : Type} : Lit × DataW H → Nat
  | (.string bytes, d) => bytes.length + uptoBulk d + 1
  | (_, d) => uptoBulk d + 1
 end
def uptoSmall : (H : Type) → List (DataW H) → Bool := fun _ ds => decide (uptoBulkAll ds ≤ 1048576)
def OpenSpec.upto (s : _root_.Go.ChangeSpec) : _root_.Go.OpenSpec := { _root_.Go.OpenSpec.ofChange s with cond := some uptoSmall }

/-- 'weftlaw16.AgentPlans', WHERE WHAT IT READS IS OF BULK AT MOST 1048576: true; the input reads as it did. -/
def agentPlansUptoRow : OpenClaim := { program := "ytnbpodjbemfpbaagreat", sum := "ec468bc8f7f6bd4ee458b2104482fc3fc4ca938cd1a137215e96142534af2008", func := "weft/weftlaw16.AgentPlans", spec := "agentPlans", inPlace := ["slices.overlaps[weft/api.Route]", "slices.overlaps[weft/api.Neigh]", "slices.overlaps[weft/api.Fdb]", "internal/bytealg.Compare", "slices.overlaps[weft/api.Prefix]", "slices.overlaps[weft/api.Lease]"], unfollowed := true, recurses := true, apart := false, narrowed := true }
def AgentPlansUptoSaid : Prop := agentPlansUptoRow.holds Tryz.pinned (OpenSpec.upto agentPlansSpec)

/-- 'weftlaw16.AgentDiffs', WHERE WHAT IT READS IS OF BULK AT MOST 1048576: true; the input reads as it did. -/
def agentDiffsUptoRow : OpenClaim := { program := "ytnbpodjbemfpbaagreat", sum := "ec468bc8f7f6bd4ee458b2104482fc3fc4ca938cd1a137215e96142534af2008", func := "weft/weftlaw16.AgentDiffs", spec := "agentDiffs", inPlace := ["slices.overlaps[weft/api.Route]", "slices.overlaps[weft/api.Neigh]", "slices.overlaps[weft/api.Fdb]", "internal/bytealg.Compare", "slices.overlaps[weft/api.Prefix]", "slices.overlaps[weft/api.Lease]"], unfollowed := true, recurses := true, apart := false, narrowed := true }
def AgentDiffsUptoSaid : Prop := agentDiffsUptoRow.holds Tryz.pinned (OpenSpec.upto agentDiffsSpec)

/-- 'weftlaw16.AgentPlanWhole', WHERE WHAT IT READS IS OF BULK AT MOST 1048576: true; the input reads as it did. -/
def agentPlanWholeUptoRow : OpenClaim := { program := "ytnbpodjbemfpbaagreat", sum := "ec468bc8f7f6bd4ee458b2104482fc3fc4ca938cd1a137215e96142534af2008", func := "weft/weftlaw16.AgentPlanWhole", spec := "agentPlanWhole", inPlace := ["slices.overlaps[weft/api.Route]", "slices.overlaps[weft/api.Neigh]", "slices.overlaps[weft/api.Fdb]", "internal/bytealg.Compare", "slices.overlaps[weft/api.Prefix]", "slices.overlaps[weft/api.Lease]"], unfollowed := true, recurses := true, apart := false, narrowed := true }
def AgentPlanWholeUptoSaid : Prop := agentPlanWholeUptoRow.holds Tryz.pinned (OpenSpec.upto agentPlanWholeSpec)

/-- 'weftlaw16.AgentDiffLeads', WHERE WHAT IT READS IS OF BULK AT MOST 1048576: true; the input reads as it did. -/
def agentDiffLeadsUptoRow : OpenClaim := { program := "ytnbpodjbemfpbaagreat", sum := "ec468bc8f7f6bd4ee458b2104482fc3fc4ca938cd1a137215e96142534af2008", func := "weft/weftlaw16.AgentDiffLeads", spec := "agentDiffLeads", inPlace := ["slices.overlaps[weft/api.Route]", "slices.overlaps[weft/api.Neigh]", "slices.overlaps[weft/api.Fdb]", "internal/bytealg.Compare", "slices.overlaps[weft/api.Prefix]", "slices.overlaps[weft/api.Lease]"], unfollowed := true, recurses := true, apart := false, narrowed := true }
def AgentDiffLeadsUptoSaid : Prop := agentDiffLeadsUptoRow.holds Tryz.pinned (OpenSpec.upto agentDiffLeadsSpec)

/-- 'weftlaw16.AgentPlays', WHERE WHAT IT READS IS OF BULK AT MOST 1048576: true; the input reads as it did. -/
def agentPlaysUptoRow : OpenClaim := { program := "ytnbpodjbemfpbaagreat", sum := "ec468bc8f7f6bd4ee458b2104482fc3fc4ca938cd1a137215e96142534af2008", func := "weft/weftlaw16.AgentPlays", spec := "agentPlays", inPlace := ["slices.overlaps[weft/api.Route]", "slices.overlaps[weft/api.Neigh]", "slices.overlaps[weft/api.Fdb]", "internal/bytealg.Compare", "slices.overlaps[weft/api.Prefix]", "slices.overlaps[weft/api.Lease]"], unfollowed := true, recurses := true, apart := false, narrowed := true }
def AgentPlaysUptoSaid : Prop := agentPlaysUptoRow.holds Tryz.pinned (OpenSpec.upto agentPlaysSpec)

/-- 'weftlaw16.AgentQuiet', WHERE WHAT IT READS IS OF BULK AT MOST 1048576: true; the input reads as it did. -/
def agentQuietUptoRow : OpenClaim := { program := "ytnbpodjbemfpbaagreat", sum := "ec468bc8f7f6bd4ee458b2104482fc3fc4ca938cd1a137215e96142534af2008", func := "weft/weftlaw16.AgentQuiet", spec := "agentQuiet", inPlace := ["slices.overlaps[weft/api.Route]", "slices.overlaps[weft/api.Neigh]", "slices.overlaps[weft/api.Fdb]", "internal/bytealg.Compare", "slices.overlaps[weft/api.Prefix]", "slices.overlaps[weft/api.Lease]"], unfollowed := true, recurses := true, apart := false, narrowed := true }
def AgentQuietUptoSaid : Prop := agentQuietUptoRow.holds Tryz.pinned (OpenSpec.upto agentQuietSpec)

/-- 'weftlaw16.AgentMemory', WHERE WHAT IT READS IS OF BULK AT MOST 1048576: true; the input reads as it did. -/
def agentMemoryUptoRow : OpenClaim := { program := "ytnbpodjbemfpbaagreat", sum := "ec468bc8f7f6bd4ee458b2104482fc3fc4ca938cd1a137215e96142534af2008", func := "weft/weftlaw16.AgentMemory", spec := "agentMemory", inPlace := ["slices.overlaps[weft/api.Route]", "slices.overlaps[weft/api.Neigh]", "slices.overlaps[weft/api.Fdb]", "internal/bytealg.Compare", "slices.overlaps[weft/api.Prefix]", "slices.overlaps[weft/api.Lease]"], unfollowed := true, recurses := true, apart := false, narrowed := true }
def AgentMemoryUptoSaid : Prop := agentMemoryUptoRow.holds Tryz.pinned (OpenSpec.upto agentMemorySpec)

end Rows
end Go.Proofs.YtnbpodjbemfpbaaGreat
