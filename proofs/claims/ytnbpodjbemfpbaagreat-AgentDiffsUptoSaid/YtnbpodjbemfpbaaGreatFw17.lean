/-
  Guarded operations in regions that draw their order and make or write memory.
-/
import Derived.Test.YtnbpodjbemfpbaaGreatFw16
set_option linter.unusedVariables false
set_option linter.all false
namespace Go.Proofs.YtnbpodjbemfpbaaGreat.Fw
open Go
section
variable {P : Program} {ops : Array Oper} {Q : Exit → Act → World → Prop} {n : Nat} {L : List (Nat × Value)} {a : Act} {w w0 : World} {R : Hh} {Ps Qs : List HP} {S : World → Prop} {y : Code}
theorem h_okg {i fuel d : Nat} {listed : Array Bool} {op : Op} {ty : TypeId} {pos : String} {aft : Array Edge} {v : Value} {j : Nat} {want b : Bool} {t : Nat} (hi : ops[i]? = some ⟨some d, op, ty, pos, aft, some (j, want)⟩) (hn : Region.noSelect ops = true) (hf : Region.free .any ops listed i = true) (hr : (Region.ready .any ops listed).contains i = true)
    (hs : St n L a) (hS : S w) (hj : (ops[j]?).bind (·.dst) = some t) (ht : lk L t = some (.bool b)) (hb : b = want) (h : Ok P S L ⟨some d, op, ty, pos, aft, some (j, want)⟩ v) (hd : Nat.blt d n = true)
    (k : ∀ a', St n ((d, v) :: L) a' → wpAnyH P .any ops (NP Q) S fuel (listed.setIfInBounds i true) a' w) : wpAnyH P .any ops (NP Q) S (fuel + 1) listed a w := by
  have hy : Region.wanted ⟨some d, op, ty, pos, aft, some (j, want)⟩ (yielded ops a.tmps) = true := by
    simp only [Region.wanted, yielded, hj, Option.bind_some, hs.at_ t _ ht, hb]
    simp
  exact wpAnyH_take (v := v) hi hn hf hr (fun c a w q => q.elim) (.inl ⟨hy, fun w' hw' => h _ hs.evs w' hw'⟩) hS (k _ (hs.put hd))
end
end Go.Proofs.YtnbpodjbemfpbaaGreat.Fw
