/-
  The walker's own words, fifteenth part: loops taken round by round, elements of arrays in variables. By the session; nothing here is trusted.
-/
import Derived.Test.YtnbpodjbemfpbaaGreatFw14
import Derived.LoopN
set_option linter.unusedVariables false
set_option linter.all false
namespace Go.Proofs.YtnbpodjbemfpbaaGreat.Fw
open Go
theorem rounds_s {P : Program} {Q : Exit → Act → World → Prop} {a : Act} {w : World} {c : Code} {n : Nat} (h : c.wp P (Exit.then (Code.rounds P c Q n) Q) a w) : Code.rounds P c Q (n + 1) a w := h
section
variable {P : Program} {ops : Array Oper} {Q : Exit → Act → World → Prop} {rest : List Oper} {n : Nat} {L : List (Nat × Value)} {a : Act} {w : World}
theorem g_strip {d : Option Tmp} {op : Op} {ty : TypeId} {pos : String} {aft : Array Edge} {j : Nat} {want b : Bool} {t : Nat} (hs : St n L a) (hj : (ops[j]?).bind (·.dst) = some t) (ht : lk L t = some (.bool b)) (hb : b = want)
    (h : wpList P ops Q (⟨d, op, ty, pos, aft, none⟩ :: rest) a w) : wpList P ops Q (⟨d, op, ty, pos, aft, some (j, want)⟩ :: rest) a w := by
  have hy : Region.wanted ⟨d, op, ty, pos, aft, some (j, want)⟩ (yielded ops a.tmps) = true := by
    simp only [Region.wanted, yielded, hj, Option.bind_some, hs.at_ t _ ht, hb]
    simp
  have hn : Region.wanted ⟨d, op, ty, pos, aft, none⟩ (yielded ops a.tmps) = true := by simp [Region.wanted]
  unfold wpList at h ⊢
  rw [if_pos hn] at h
  rw [if_pos hy]
  rcases h with h | h
  · refine .inl ?_
    unfold Oper.wp Oper.upon at h ⊢
    exact h
  · exact .inr h
end
section
variable {P : Program} {C : World → Prop} {L : List (Nat × Value)} {d : Option Tmp} {ty : TypeId} {pos : String} {aft : Array Edge} {g : Option (Nat × Bool)}
theorem ok_indexArr {T E : TypeId} {ag : Bool} {x ix : Operand} {K : IntKind} {i n k o r : Nat} {p : Addr} (hx : ev L x = some (.pointer (some (padd p o)))) (hi : ev L ix = some (.int K (i : Int))) (hT : arI P T = some (n, E)) (hE : tyI P E = some (ag, k)) (h1 : Nat.blt i n = true) (hr : o + i * k = r) :
    Ok P C L ⟨d, .indexAddr T x ix, ty, pos, aft, g⟩ (.pointer (some (padd p r))) := fun ρ ha w _ => by
  subst hr
  have h1' : i < n := Nat.le_of_ble_eq_true h1
  have hlt : (i : Int) < (n : Int) := by omega
  simp [execOp, ha x _ hx, ha ix _ hi, Instr.indexAt, Instr.sureAddr, asIntOf, bind, Sem.run_bind', run_underlying (arI_spec hT), h1', run_sizeOf' hE, pure, Sem.run, Result.andThen, padd_add]
end
end Go.Proofs.YtnbpodjbemfpbaaGreat.Fw
