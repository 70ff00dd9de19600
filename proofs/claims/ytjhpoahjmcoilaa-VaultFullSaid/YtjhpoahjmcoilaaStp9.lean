/-
  The step rules, ninth part: quotients and remainders of whole numbers that are not below nought.
-/
import Derived.Test.YtjhpoahjmcoilaaStp8
set_option linter.unusedSimpArgs false
set_option linter.unusedVariables false
namespace Go.Stp
open Go.RowKit
section
variable {P : Program} {l : Env} {S : World → Prop} {d : Option Nat} {ty : TypeId} {pos : String} {aft : Array Edge} {g : Option (Nat × Bool)} {x y : Operand}
theorem Y.rem {k : IntKind} {T U : TypeId} {p q : Int} (m c : Nat) (hx : opd l x = some (.int k p)) (hy : opd l y = some (.int k q)) (hp : p = (m : Int)) (hq : q = (c : Int)) (h0 : 0 < c) :
    Y P l S ⟨d, .binOp .rem T x y U, ty, pos, aft, g⟩ (.int k ((m % c : Nat) : Int)) := fun ρ hρ w _ => by
  subst hp; subst hq
  have h1 : ((c : Int) = 0) = False := by simp; omega
  have h2 : (m : Int).tmod (c : Int) = ((m % c : Nat) : Int) := rfl
  simp only [execOp, hρ x _ hx, hρ y _ hy]
  exact run_v (by simp only [eqGuard, binOp, Op.intDiv, h1, if_false, h2]; simp)
theorem Y.quo {k : IntKind} {T U : TypeId} {p q : Int} (m c : Nat) (hx : opd l x = some (.int k p)) (hy : opd l y = some (.int k q)) (hp : p = (m : Int)) (hq : q = (c : Int)) (h0 : 0 < c)
    (hr : k.wrap ((m / c : Nat) : Int) = ((m / c : Nat) : Int)) :
    Y P l S ⟨d, .binOp .quo T x y U, ty, pos, aft, g⟩ (.int k ((m / c : Nat) : Int)) := fun ρ hρ w _ => by
  subst hp; subst hq
  have h1 : ((c : Int) = 0) = False := by simp; omega
  have h2 : k.wrap ((m : Int).tdiv (c : Int)) = ((m / c : Nat) : Int) := hr
  simp only [execOp, hρ x _ hx, hρ y _ hy]
  exact run_v (by simp only [eqGuard, binOp, Op.intDiv, h1, if_false, h2]; simp)
end
end Go.Stp
