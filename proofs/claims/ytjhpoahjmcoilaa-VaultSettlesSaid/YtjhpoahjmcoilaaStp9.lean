/-
  The step rules, ninth part: quotients and remainders of whole numbers that are not below nought.
-/
import Derived.Test.YtjhpoahjmcoilaaStp8
set_option linter.unusedSimpArgs false
set_option linter.unusedVariables false
namespace Go.Stp
open Go.RowKit
section
variable {P : Program} {l : Env} {S : World → Prop} {d : Option Nat} {ty : TypeId} {pos : String} {aft : Array Edge} {g : Option (Nat × Bool)} {x y : Operand}
theorem Y.rem {k : IntKind} {T U : TypeId} {p q : Int} (m c : Nat) (hx : opd l x = some (.int k p)) (hy : opd l y = some (.int k q)) (hp : p = (m : Int)) (hq : q = (c : Int)) (h0 : 0 < c) :
    Y P l S ⟨d, .binOp .rem T x y U, ty, pos, aft, g⟩ (.int k ((m % c : Nat) : Int)) := fun ρ hρ w _ => by
  subst hp; subst hq
  have h1 : ((c : Int) = 0) = False := by simp; omega
  have h2 : (m : Int).tmod (c : Int) = ((m % c : Nat) : Int) := rfl
  simp only [execOp, hρ x _ hx, hρ y _ hy]
  exact run_v (by simp only [eqGuard, binOp, Op.intDiv, h1, if_false, h2]; simp)
theorem Y.quo {k : IntKind} {T U : TypeId} {p q : Int} (m c : Nat) (hx : opd l x = some (.int k p)) (hy : opd l y = some (.int k q)) (hp : p = (m : Int)) (hq : q = (c : Int)) (h0 : 0 < c)
    (hr : k.wrap ((m / c : Nat) : Int) = ((m / c : Nat) : Int)) :
    Y P l S ⟨d, .binOp .quo T x y U, ty, pos, aft, g⟩ (.int k ((m / c : Nat) : Int)) := fun ρ hρ w _ => by
  subst hp; subst hq
  have h1 : ((c : Int) = 0) = False := by simp; omega
  have h2 : k.wrap ((m : Int).tdiv (c : Int)) = ((m / c : Nat) : Int) := hr
  simp only [execOp, hρ x _ hx, hρ y _ hy]
  exact run_v (by simp only [eqGuard, binOp, Op.intDiv, h1, if_false, h2]; simp)
end
section
variable {P : Program} {n : Nat} {Q : Exit → Act → World → Prop} {l : Env} {σ : GW}
/-- A cut: what is known between two pieces of code; what follows is told by a name. -/
theorem E.seqK {b c : Code} (M : Env → GW → Prop) (ha : ∀ K : Act → World → Prop, (∀ l' σ' a, Fr a n l' → M l' σ' → K a σ'.w) → E P n b (Exit.then K Q) l σ) (hb : ∀ l' σ', M l' σ' → E P n c Q l' σ') : E P n (.seq b c) Q l σ :=
  E.seq (ha _ fun l' σ' a hf hM => hb l' σ' hM a hf)
theorem E.cutK {b c : Code} (M : Env → GW → Prop) (ha : ∀ K : Act → World → Prop, (∀ l' σ' a, Fr a n l' → M l' σ' → K a σ'.w) → E P n b (Exit.then K Q) l σ) (hb : ∀ l' σ', M l' σ' → E P n c Q l' σ') : E P n b (Exit.then (fun a w => c.wp P Q a w) Q) l σ :=
  ha _ fun l' σ' a hf hM => hb l' σ' hM a hf
theorem X.toK {M : Env → GW → Prop} {K : Act → World → Prop} (hK : ∀ l' σ' a, Fr a n l' → M l' σ' → K a σ'.w) (l' : Env) (hM : M l' σ) (hs : Sub l' l) : X n (Exit.then K Q .normal) l σ := fun a ha => hK l' σ a (ha.sub hs) hM
end
section
variable {P : Program} {l : Env} {S : World → Prop} {d : Option Nat} {ty : TypeId} {pos : String} {aft : Array Edge} {g : Option (Nat × Bool)} {x y : Operand}
theorem run_eqB {P : Program} {T : TypeId} {p q : Bool} (hu : P.underlying T = some .bool) (w : World) (dep : Nat) : (Op.equalIn (dep + 1) T (.bool p) (.bool q)).run P w = .ok (p == q) w := by
  have hT := run_underlying hu (w := w)
  simp [Op.equalIn, hT]
theorem Y.neqB {T U : TypeId} {p q : Bool} (hT : P.underlying T = some .bool) (hx : opd l x = some (.bool p)) (hy : opd l y = some (.bool q)) : Y P l S ⟨d, .binOp .neq T x y U, ty, pos, aft, g⟩ (.bool (!(p == q))) := fun ρ hρ w _ => by
  have h1 : (Op.equalIn 10000 T (.bool p) (.bool q)).run P w = .ok (p == q) w := run_eqB hT w 9999
  simp only [execOp, hρ x _ hx, hρ y _ hy]
  exact run_v (by simp [eqGuard, binOp, Op.equal, Op.maxDepth, h1])
theorem Y.eqlB {T U : TypeId} {p q : Bool} (hT : P.underlying T = some .bool) (hx : opd l x = some (.bool p)) (hy : opd l y = some (.bool q)) : Y P l S ⟨d, .binOp .eql T x y U, ty, pos, aft, g⟩ (.bool (p == q)) := fun ρ hρ w _ => by
  have h1 : (Op.equalIn 10000 T (.bool p) (.bool q)).run P w = .ok (p == q) w := run_eqB hT w 9999
  simp only [execOp, hρ x _ hx, hρ y _ hy]
  exact run_v (by simp [eqGuard, binOp, Op.equal, Op.maxDepth, h1])
end
end Go.Stp
