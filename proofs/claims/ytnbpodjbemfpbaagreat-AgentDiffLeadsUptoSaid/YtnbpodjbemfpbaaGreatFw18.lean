/-
  Slices that are the walk's own or lie in a part of the frame: read, never written.
-/
import Derived.Test.YtnbpodjbemfpbaaGreatFw17
set_option linter.unusedVariables false
set_option linter.all false
namespace Go.Proofs.YtnbpodjbemfpbaaGreat.Fw
open Go
def Ro (B : Hh) (k : Nat) (E : TypeId) (v : Value) (ds : List (List Value)) : HP := fun h => (RdS B k v ds ∧ h = hnil) ∨ Sv k E v ds h
section
variable {w0 w : World} {R B : Hh} {Ps Qs : List HP} {k : Nat} {E : TypeId} {v : Value} {ds : List (List Value)}
theorem Hp.addRo (m : Hp w0 R Ps w) (h : RdS B k v ds) : Hp w0 R (Ro B k E v ds :: Ps) w :=
  m.map fun x s => ⟨hnil, x, .inl ⟨h, rfl⟩, s, hd_nil _, (hu_nil _).symm⟩
theorem Hp.toRo (m : Hp w0 R Ps w) (hP : Rem Ps (Sv k E v ds) Qs) : Hp w0 R (Ro B k E v ds :: Qs) w :=
  (m.front hP).map fun x s => s.head fun _ h => .inr h
theorem Hp.rdo (m : Hp w0 R Ps w) (hB : hle B R) (hP : Rem Ps (Ro B k E v ds) Qs) : RdS (hh w) k v ds := by
  obtain ⟨g, s, l⟩ := m.look hP
  rcases s with ⟨h, _⟩ | h
  · exact h.le (hle_trans hB m.frame)
  · exact h.reads.le l
theorem rc_ro (hB : hle B R) (hP : Rem Ps (Ro B k E v ds) Qs) : RC (Hp w0 R Ps) k v ds := fun _ m => m.rdo hB hP
end
section
variable {P : Program} {C : World → Prop} {L : List (Nat × Value)} {d : Option Tmp} {ty : TypeId} {pos : String} {aft : Array Edge} {g : Option (Nat × Bool)}
theorem ok_max {T1 T2 : TypeId} {x y : Operand} {k : IntKind} {m n r : Int} (hx : ev L x = some (.int k m)) (hy : ev L y = some (.int k n)) (hr : max m n = r) :
    Ok P C L ⟨d, .call ⟨.builtin .max, #[x, y], #[T1, T2]⟩, ty, pos, aft, g⟩ (.int k r) := fun ρ ha w' hw' => by
  subst hr
  by_cases h : n > m <;> simp [execOp, resolve, invoke, builtin, Builtin.max_, Builtin.max2, ha x _ hx, ha y _ hy, bind, Sem.run_bind', pure, Sem.run, Result.andThen, List.foldlM, h] <;> omega
end
end Go.Proofs.YtnbpodjbemfpbaaGreat.Fw
