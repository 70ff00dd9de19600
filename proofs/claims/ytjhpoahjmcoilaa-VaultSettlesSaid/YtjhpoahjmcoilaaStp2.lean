/-
  The step rules, second part: one operation (O); operations that leave the world alone (Y).
-/
import Derived.Test.YtjhpoahjmcoilaaStp
set_option linter.unusedSimpArgs false
set_option linter.unusedVariables false
namespace Go.Stp
open Go.RowKit

def str (l : List UInt8) : Value := .string ⟨l.toArray⟩
theorem size_str (bs : List UInt8) : (⟨bs.toArray⟩ : ByteArray).size = bs.length := rfl

/-- Is the operation wanted, its guard's value being known? -/
def Wants (ops : Array Oper) (l : Env) (o : Oper) : Option Bool :=
  match o.guard with
  | none => some true
  | some (g, want) =>
    match (ops[g]?).bind (·.dst) with
    | none => none
    | some t => match look l t with
      | some (.bool b) => some (b == want)
      | some (.tuple _) => some false
      | _ => none
theorem Wants.spec {ops : Array Oper} {l : Env} {o : Oper} {b : Bool} {n : Nat} {a : Act} (h : Wants ops l o = some b) (ha : Fr a n l) : Region.wanted o (yielded ops a.tmps) = b := by
  unfold Wants at h
  unfold Region.wanted
  cases hg : o.guard with
  | none => simp [hg] at h ⊢; exact h
  | some gw =>
    obtain ⟨g, want⟩ := gw
    simp only [hg] at h ⊢
    cases ht : (ops[g]?).bind (·.dst) with
    | none => simp [ht] at h
    | some t =>
      simp only [ht] at h
      cases hl : look l t with
      | none => simp [hl] at h
      | some v =>
        simp only [hl] at h
        have hv := ha.2.2 t v hl
        cases v <;> simp at h
        · rename_i b'
          have hy : yielded ops a.tmps g = some b' := by
            unfold yielded
            rw [ht]
            simp [hv]
          rw [hy, ← h]
          cases b' <;> cases want <;> rfl
        · have hy : yielded ops a.tmps g = none := by
            unfold yielded
            rw [ht]
            simp [hv]
          rw [hy, h]
          rfl

/-- One operation: whatever comes behind it, if K says so of the frame and the world that it leaves. -/
def O (P : Program) (n : Nat) (ops : Array Oper) (Q : Exit → Act → World → Prop) (o : Oper) (l : Env) (σ : GW) (K : Env → GW → Prop) : Prop :=
  ∀ a (K' : Act → World → Prop), Fr a n l → (∀ l' σ' a', Fr a' n l' → K l' σ' → K' a' σ'.w) →
    if Region.wanted o (yielded ops a.tmps) then o.wp P a σ.w K' Q else K' (a.put o.dst undef) σ.w
/-- What an operation yields, in every world of S; it leaves the world alone. -/
def Y (P : Program) (l : Env) (S : World → Prop) (o : Oper) (v : Value) : Prop :=
  ∀ ρ : Operand → Value, (∀ x u, opd l x = some u → ρ x = u) → ∀ w, S w → (execOp ρ o).run P w = .ok (.value v) w

section
variable {P : Program} {n : Nat} {Q : Exit → Act → World → Prop} {l : Env} {σ : GW} {ops : Array Oper} {rest : List Oper} {o : Oper} {K : Env → GW → Prop}

theorem L.cons (h : O P n ops Q o l σ (fun l' σ' => L P n ops Q rest l' σ')) : L P n ops Q (o :: rest) l σ := fun a ha =>
  wpList_step fun K hK => h a K ha fun _ _ a' ha' hL => hK a' _ (hL a' ha')
/-- An operation that isn't wanted. -/
theorem O.not {d : Nat} (hw : Wants ops l o = some false) (hdst : o.dst = some d) (hd : Nat.blt d n = true) (h : K ((d, undef) :: l) σ) : O P n ops Q o l σ K := fun a K' ha hK => by
  rw [Wants.spec hw ha, if_neg (by simp), hdst]
  exact hK _ _ _ (ha.put undef hd) h
theorem O.y {d : Nat} {v : Value} (hy : Y P l (fun w => w = σ.w) o v) (hw : Wants ops l o = some true) (hdst : o.dst = some d) (hd : Nat.blt d n = true) (h : K ((d, v) :: l) σ) :
    O P n ops Q o l σ K := fun a K' ha hK => by
  rw [Wants.spec hw ha, if_pos rfl]
  unfold Oper.wp
  rw [hy a.eval (fun x u hx => ha.eval hx) σ.w rfl]
  simp only [Oper.upon, hdst]
  exact hK _ _ _ (ha.put v hd) h
/-- An operation that turns the world. -/
theorem O.val {d : Nat} {v : Value} {σ' : GW} (hrun : ∀ ρ : Operand → Value, (∀ x u, opd l x = some u → ρ x = u) → (execOp ρ o).run P σ.w = .ok (.value v) σ'.w)
    (hw : Wants ops l o = some true) (hdst : o.dst = some d) (hd : Nat.blt d n = true) (h : K ((d, v) :: l) σ') : O P n ops Q o l σ K := fun a K' ha hK => by
  rw [Wants.spec hw ha, if_pos rfl]
  unfold Oper.wp
  rw [hrun a.eval (fun x u hx => ha.eval hx)]
  simp only [Oper.upon, hdst]
  exact hK _ _ _ (ha.put v hd) h
theorem O.unit {σ' : GW} (hrun : ∀ ρ : Operand → Value, (∀ x u, opd l x = some u → ρ x = u) → (execOp ρ o).run P σ.w = .ok .skip σ'.w)
    (hw : Wants ops l o = some true) (hdst : o.dst = none) (h : K l σ') : O P n ops Q o l σ K := fun a K' ha hK => by
  rw [Wants.spec hw ha, if_pos rfl]
  unfold Oper.wp
  rw [hrun a.eval (fun x u hx => ha.eval hx)]
  simp only [Oper.upon, hdst]
  exact hK _ _ _ (ha.put_none undef) h
/-- An operation that writes a value nobody asks for. -/
theorem O.val0 {v : Value} {σ' : GW} (hrun : ∀ ρ : Operand → Value, (∀ x u, opd l x = some u → ρ x = u) → (execOp ρ o).run P σ.w = .ok (.value v) σ'.w)
    (hw : Wants ops l o = some true) (hdst : o.dst = none) (h : K l σ') : O P n ops Q o l σ K := fun a K' ha hK => by
  rw [Wants.spec hw ha, if_pos rfl]
  unfold Oper.wp
  rw [hrun a.eval (fun x u hx => ha.eval hx)]
  simp only [Oper.upon, hdst]
  exact hK _ _ _ (ha.put_none v) h
end

section
variable {P : Program} {l : Env} {S : World → Prop} {d : Option Nat} {ty : TypeId} {pos : String} {aft : Array Edge} {g : Option (Nat × Bool)} {x y z : Operand} {v u : Value}

theorem run_v {s : Sem Value} {v : Value} {w w' : World} (h : s.run P w = .ok v w') : (do let x ← s; pure (.value x) : Sem Next).run P w = .ok (.value v) w' := by
  simp [h]
theorem run_u {s : Sem Unit} {w w' : World} (h : s.run P w = .ok () w') : (do s; pure .skip : Sem Next).run P w = .ok .skip w' := by
  simp [h]

theorem Y.move (hx : opd l x = some v) : Y P l S ⟨d, .move x, ty, pos, aft, g⟩ v := fun ρ hρ w _ => by simp [execOp, hρ x v hx]
theorem Y.assign (hx : opd l x = some v) : Y P l S ⟨d, .assign x, ty, pos, aft, g⟩ v := fun ρ hρ w _ => by simp [execOp, hρ x v hx]
theorem Y.pickT (hx : opd l x = some (.bool true)) (hy : opd l y = some v) : Y P l S ⟨d, .pick x y z, ty, pos, aft, g⟩ v := fun ρ hρ w _ => by
  simp [execOp, hρ x _ hx, hρ y v hy, asBool]
theorem Y.pickF (hx : opd l x = some (.bool false)) (hz : opd l z = some v) : Y P l S ⟨d, .pick x y z, ty, pos, aft, g⟩ v := fun ρ hρ w _ => by
  simp [execOp, hρ x _ hx, hρ z v hz, asBool]
theorem Y.nilCheck {a : Addr} (hx : opd l x = some (.pointer (some a))) : Y P l S ⟨d, .nilCheck x, ty, pos, aft, g⟩ (.pointer (some a)) := fun ρ hρ w _ => by
  simp [execOp, hρ x _ hx]
/-- Field f of the struct type T lies off cells behind its begin. -/
def FieldAt (P : Program) (T f off : Nat) : Prop := ∀ w a, (Instr.fieldAt T (.pointer (some a)) f).run P w = .ok (.pointer (some (a.add off))) w
theorem add_none (b o k : Nat) : (⟨b, o, none⟩ : Addr).add k = ⟨b, o + k, none⟩ := by unfold Addr.add; split <;> simp_all
theorem Y.fieldAddr {T f off b o : Nat} (hf : FieldAt P T f off) (hx : opd l x = some (.pointer (some ⟨b, o, none⟩))) :
    Y P l S ⟨d, .fieldAddr T x f, ty, pos, aft, g⟩ (.pointer (some ⟨b, o + off, none⟩)) := fun ρ hρ w _ => by
  simp only [execOp, hρ x _ hx]; exact run_v (by rw [hf, add_none])
/-- Field f of a struct value of the type T is the m cells from off on (m = none: it is the one cell there). -/
def FieldOf (P : Program) (T f : Nat) (cs : List Value) (v : Value) : Prop := ∀ w, (Instr.field T (.agg cs.toArray) f).run P w = .ok v w
theorem Y.field {T f : Nat} {cs : List Value} (hf : FieldOf P T f cs v) (hx : opd l x = some (.agg cs.toArray)) : Y P l S ⟨d, .field T x f, ty, pos, aft, g⟩ v := fun ρ hρ w _ => by
  simp only [execOp, hρ x _ hx]; exact run_v (hf w)
theorem Y.extract {vs : Array Value} {i : Nat} (hx : opd l x = some (.tuple vs)) (hv : vs[i]? = some v) : Y P l S ⟨d, .extract x i, ty, pos, aft, g⟩ v := fun ρ hρ w _ => by
  simp [execOp, hρ x _ hx, Instr.extract, hv]
theorem Y.not {b : Bool} {T : TypeId} (hx : opd l x = some (.bool b)) : Y P l S ⟨d, .unOp .not T x, ty, pos, aft, g⟩ (.bool (!b)) := fun ρ hρ w _ => by
  simp [execOp, hρ x _ hx, Op.unary]
theorem Y.makeFunc {fn : Fn} {fs cs : Array Operand} (vf vc : List Value) (hf : ∀ ρ : Operand → Value, (∀ x u, opd l x = some u → ρ x = u) → fs.map ρ = vf.toArray) (hc : ∀ ρ : Operand → Value, (∀ x u, opd l x = some u → ρ x = u) → cs.map ρ = vc.toArray) :
    Y P l S ⟨d, .makeFunc fn fs cs, ty, pos, aft, g⟩ (.func fn vf.toArray vc.toArray) := fun ρ hρ w _ => by
  simp [execOp, hf ρ hρ, hc ρ hρ, Instr.makeFunc]
/-- The type T is no interface. -/
def Concrete (P : Program) (T : TypeId) : Prop := ∀ v w, (Instr.makeInterface T v).run P w = .ok (.iface T v) w
theorem Y.makeInterface {T : TypeId} (hT : Concrete P T) (hx : opd l x = some v) : Y P l S ⟨d, .makeInterface T x, ty, pos, aft, g⟩ (.iface T v) := fun ρ hρ w _ => by
  simp only [execOp, hρ x _ hx]; exact run_v (hT v w)

/-! #### whole numbers -/
section
variable {k : IntKind} {p q : Int} {T U : TypeId}
theorem Y.add (r : Int) (hx : opd l x = some (.int k p)) (hy : opd l y = some (.int k q)) (hr : k.wrap (p + q) = r) : Y P l S ⟨d, .binOp .add T x y U, ty, pos, aft, g⟩ (.int k r) := fun ρ hρ w _ => by
  simp [execOp, hρ x _ hx, hρ y _ hy, eqGuard, binOp, Op.intArith, hr]
theorem Y.sub (r : Int) (hx : opd l x = some (.int k p)) (hy : opd l y = some (.int k q)) (hr : k.wrap (p - q) = r) : Y P l S ⟨d, .binOp .sub T x y U, ty, pos, aft, g⟩ (.int k r) := fun ρ hρ w _ => by
  simp [execOp, hρ x _ hx, hρ y _ hy, eqGuard, binOp, Op.intArith, hr]
theorem Y.mul (r : Int) (hx : opd l x = some (.int k p)) (hy : opd l y = some (.int k q)) (hr : k.wrap (p * q) = r) : Y P l S ⟨d, .binOp .mul T x y U, ty, pos, aft, g⟩ (.int k r) := fun ρ hρ w _ => by
  simp [execOp, hρ x _ hx, hρ y _ hy, eqGuard, binOp, Op.intArith, hr]
theorem Y.neg (r : Int) (hx : opd l x = some (.int k p)) (hr : k.wrap (0 - p) = r) : Y P l S ⟨d, .unOp .neg T x, ty, pos, aft, g⟩ (.int k r) := fun ρ hρ w _ => by
  simp only [Int.zero_sub] at hr
  simp [execOp, hρ x _ hx, Op.unary, Op.intArith, hr]
theorem Y.lss (hx : opd l x = some (.int k p)) (hy : opd l y = some (.int k q)) : Y P l S ⟨d, .binOp .lss T x y U, ty, pos, aft, g⟩ (.bool (decide (p < q))) := fun ρ hρ w _ => by
  simp [execOp, hρ x _ hx, hρ y _ hy, eqGuard, binOp, Op.intCmp]
theorem Y.leq (hx : opd l x = some (.int k p)) (hy : opd l y = some (.int k q)) : Y P l S ⟨d, .binOp .leq T x y U, ty, pos, aft, g⟩ (.bool (decide (p ≤ q))) := fun ρ hρ w _ => by
  simp [execOp, hρ x _ hx, hρ y _ hy, eqGuard, binOp, Op.intCmp]
theorem Y.gtr (hx : opd l x = some (.int k p)) (hy : opd l y = some (.int k q)) : Y P l S ⟨d, .binOp .gtr T x y U, ty, pos, aft, g⟩ (.bool (decide (q < p))) := fun ρ hρ w _ => by
  simp [execOp, hρ x _ hx, hρ y _ hy, eqGuard, binOp, Op.intCmp]
theorem Y.geq (hx : opd l x = some (.int k p)) (hy : opd l y = some (.int k q)) : Y P l S ⟨d, .binOp .geq T x y U, ty, pos, aft, g⟩ (.bool (decide (q ≤ p))) := fun ρ hρ w _ => by
  simp [execOp, hρ x _ hx, hρ y _ hy, eqGuard, binOp, Op.intCmp]
theorem Y.eql (hx : opd l x = some (.int k p)) (hy : opd l y = some (.int k q)) : Y P l S ⟨d, .binOp .eql T x y U, ty, pos, aft, g⟩ (.bool (decide (p = q))) := fun ρ hρ w _ => by
  simp [execOp, hρ x _ hx, hρ y _ hy, eqGuard, binOp, Op.intCmp, BEq.beq]
theorem Y.neq (hx : opd l x = some (.int k p)) (hy : opd l y = some (.int k q)) : Y P l S ⟨d, .binOp .neq T x y U, ty, pos, aft, g⟩ (.bool (decide (p ≠ q))) := fun ρ hρ w _ => by
  simp [execOp, hρ x _ hx, hρ y _ hy, eqGuard, binOp, Op.intCmp, bne, BEq.beq]
theorem Y.toInt {k' : IntKind} (r : Int) (hk : P.underlying U = some (.int k')) (hs : ∃ t, P.underlying T = some t) (hx : opd l x = some (.int k p)) (hr : k'.wrap p = r) :
    Y P l S ⟨d, .convert T U x, ty, pos, aft, g⟩ (.int k' r) := fun ρ hρ w _ => by
  obtain ⟨t, ht⟩ := hs
  have h1 := run_underlying ht (w := w)
  have h2 := run_underlying hk (w := w)
  simp [execOp, hρ x _ hx, convert, h1, h2, Conv.intToInt, hr]
/-- &, |, ^ (and &^) as the model has them. -/
def bits (op : BinOp) (k : IntKind) (p q : Int) : Int :=
  match op with
  | .and => k.wrap (BitVec.ofInt k.bits p &&& BitVec.ofInt k.bits q).toNat
  | .or => k.wrap (BitVec.ofInt k.bits p ||| BitVec.ofInt k.bits q).toNat
  | .xor => k.wrap (BitVec.ofInt k.bits p ^^^ BitVec.ofInt k.bits q).toNat
  | _ => k.wrap (BitVec.ofInt k.bits p &&& ~~~BitVec.ofInt k.bits q).toNat
theorem Y.and (hx : opd l x = some (.int k p)) (hy : opd l y = some (.int k q)) : Y P l S ⟨d, .binOp .and T x y U, ty, pos, aft, g⟩ (.int k (bits .and k p q)) := fun ρ hρ w _ => by
  simp [execOp, hρ x _ hx, hρ y _ hy, eqGuard, binOp, Op.intBits, bits]
theorem Y.or (hx : opd l x = some (.int k p)) (hy : opd l y = some (.int k q)) : Y P l S ⟨d, .binOp .or T x y U, ty, pos, aft, g⟩ (.int k (bits .or k p q)) := fun ρ hρ w _ => by
  simp [execOp, hρ x _ hx, hρ y _ hy, eqGuard, binOp, Op.intBits, bits]
theorem Y.xor (hx : opd l x = some (.int k p)) (hy : opd l y = some (.int k q)) : Y P l S ⟨d, .binOp .xor T x y U, ty, pos, aft, g⟩ (.int k (bits .xor k p q)) := fun ρ hρ w _ => by
  simp [execOp, hρ x _ hx, hρ y _ hy, eqGuard, binOp, Op.intBits, bits]
theorem Y.inv (hx : opd l x = some (.int k p)) : Y P l S ⟨d, .unOp .xor T x, ty, pos, aft, g⟩ (.int k (bits .xor k (if k.signed then -1 else k.max) p)) := fun ρ hρ w _ => by
  simp [execOp, hρ x _ hx, Op.unary, Op.intBits, bits]
theorem Y.shl {k2 : IntKind} (hx : opd l x = some (.int k p)) (hy : opd l y = some (.int k2 q)) (hq : 0 ≤ q) : Y P l S ⟨d, .binOp .shl T x y U, ty, pos, aft, g⟩ (.int k (k.wrap (p * 2 ^ min q.toNat k.bits))) := fun ρ hρ w _ => by
  simp [execOp, hρ x _ hx, hρ y _ hy, eqGuard, binOp, Op.shift, Int.not_lt.2 hq]
theorem Y.shr {k2 : IntKind} (hx : opd l x = some (.int k p)) (hy : opd l y = some (.int k2 q)) (hq : 0 ≤ q) : Y P l S ⟨d, .binOp .shr T x y U, ty, pos, aft, g⟩ (.int k (p.fdiv (2 ^ min q.toNat k.bits))) := fun ρ hρ w _ => by
  simp [execOp, hρ x _ hx, hρ y _ hy, eqGuard, binOp, Op.shift, Int.not_lt.2 hq]
theorem Y.min2 {t : Array TypeId} (hx : opd l x = some (.int k p)) (hy : opd l y = some (.int k q)) : Y P l S ⟨d, .call ⟨.builtin .min, #[x, y], t⟩, ty, pos, aft, g⟩ (.int k (if q < p then q else p)) := fun ρ hρ w _ => by
  simp [execOp, resolve, invoke, builtin, Builtin.min_, Builtin.min2, hρ x _ hx, hρ y _ hy]
theorem Y.max2 {t : Array TypeId} (hx : opd l x = some (.int k p)) (hy : opd l y = some (.int k q)) : Y P l S ⟨d, .call ⟨.builtin .max, #[x, y], t⟩, ty, pos, aft, g⟩ (.int k (if p < q then q else p)) := fun ρ hρ w _ => by
  simp [execOp, resolve, invoke, builtin, Builtin.max_, Builtin.max2, hρ x _ hx, hρ y _ hy]
end

/-! #### texts -/
section
variable {p q : List UInt8} {T U : TypeId}
theorem toList_str (p : List UInt8) : (⟨p.toArray⟩ : ByteArray).toList = p := by
  rw [ByteArray.toList_eq]
theorem append_str (p q : List UInt8) : (⟨p.toArray⟩ ++ ⟨q.toArray⟩ : ByteArray) = ⟨(p ++ q).toArray⟩ := by
  apply ByteArray.ext
  simp [ByteArray.data_append]
theorem beq_dec {α : Type} [DecidableEq α] [BEq α] [LawfulBEq α] (p q : α) : (p == q) = decide (p = q) := by
  by_cases h : p = q
  · subst h; simp
  · simp [h]
/-- The order of texts: byte by byte. -/
def slt (p q : List UInt8) : Bool := Op.bytesLess p q
theorem Y.concat (hx : opd l x = some (str p)) (hy : opd l y = some (str q)) (hl : p.length + q.length ≤ 9223372036854775807) : Y P l S ⟨d, .binOp .add T x y U, ty, pos, aft, g⟩ (str (p ++ q)) := fun ρ hρ w _ => by
  have h0 : ¬ ((((⟨p.toArray⟩ : ByteArray).size + (⟨q.toArray⟩ : ByteArray).size : Nat) : Int) > IntKind.i64.max) := by
    rw [size_str, size_str]; have : IntKind.i64.max = 9223372036854775807 := by decide
    rw [this]; omega
  simp only [execOp, hρ x _ hx, hρ y _ hy]
  exact run_v (by simp only [str, eqGuard, binOp, Op.stringOp, if_neg h0, append_str]; rfl)
theorem Y.eqlS (hx : opd l x = some (str p)) (hy : opd l y = some (str q)) : Y P l S ⟨d, .binOp .eql T x y U, ty, pos, aft, g⟩ (.bool (decide (p = q))) := fun ρ hρ w _ => by
  simp only [execOp, hρ x _ hx, hρ y _ hy]
  have : (p == q) = decide (p = q) := beq_dec p q
  exact run_v (by simp [str, eqGuard, binOp, Op.stringOp, toList_str, this])
theorem Y.neqS (hx : opd l x = some (str p)) (hy : opd l y = some (str q)) : Y P l S ⟨d, .binOp .neq T x y U, ty, pos, aft, g⟩ (.bool (decide (p ≠ q))) := fun ρ hρ w _ => by
  simp only [execOp, hρ x _ hx, hρ y _ hy]
  exact run_v (by
    have : (p == q) = decide (p = q) := beq_dec p q
    simp [str, eqGuard, binOp, Op.stringOp, toList_str, this])
theorem Y.lssS (hx : opd l x = some (str p)) (hy : opd l y = some (str q)) : Y P l S ⟨d, .binOp .lss T x y U, ty, pos, aft, g⟩ (.bool (slt p q)) := fun ρ hρ w _ => by
  simp only [execOp, hρ x _ hx, hρ y _ hy]
  exact run_v (by simp only [str, eqGuard, binOp, Op.stringOp, toList_str]; rfl)
theorem Y.geqS (hx : opd l x = some (str p)) (hy : opd l y = some (str q)) : Y P l S ⟨d, .binOp .geq T x y U, ty, pos, aft, g⟩ (.bool (!slt p q)) := fun ρ hρ w _ => by
  simp only [execOp, hρ x _ hx, hρ y _ hy]
  exact run_v (by simp only [str, eqGuard, binOp, Op.stringOp, toList_str]; rfl)
theorem Y.leqS (hx : opd l x = some (str p)) (hy : opd l y = some (str q)) : Y P l S ⟨d, .binOp .leq T x y U, ty, pos, aft, g⟩ (.bool (slt p q || p == q)) := fun ρ hρ w _ => by
  simp only [execOp, hρ x _ hx, hρ y _ hy]
  exact run_v (by simp only [str, eqGuard, binOp, Op.stringOp, toList_str]; rfl)
theorem Y.gtrS (hx : opd l x = some (str p)) (hy : opd l y = some (str q)) : Y P l S ⟨d, .binOp .gtr T x y U, ty, pos, aft, g⟩ (.bool (!(slt p q || p == q))) := fun ρ hρ w _ => by
  simp only [execOp, hρ x _ hx, hρ y _ hy]
  exact run_v (by simp only [str, eqGuard, binOp, Op.stringOp, toList_str]; rfl)
/-- A byte of a text. -/
theorem Y.byte {ik : IntKind} {i : Int} (j : Nat) (b : UInt8) (hu : P.underlying T = some .string) (hx : opd l x = some (str p)) (hy : opd l y = some (.int ik i)) (hi : i = (j : Int)) (hj : p[j]? = some b) :
    Y P l S ⟨d, .index T x y, ty, pos, aft, g⟩ (.int .u8 b.toNat) := fun ρ hρ w _ => by
  subst hi
  have h1 := run_underlying hu (w := w)
  have h2 : (⟨p.toArray⟩ : ByteArray)[j]? = some b := by
    obtain ⟨hlt, hb⟩ := List.getElem?_eq_some_iff.1 hj
    have : j < (⟨p.toArray⟩ : ByteArray).size := hlt
    rw [getElem?_pos (⟨p.toArray⟩ : ByteArray) j this, ← hb]; rfl
  simp only [execOp, hρ x _ hx, hρ y _ hy]
  exact run_v (by simp [str, Instr.index, asIntOf, h1, h2])
/-- A cut of a text. -/
theorem extract_str (p : List UInt8) (a b : Nat) : (⟨p.toArray⟩ : ByteArray).extract a b = ⟨((p.drop a).take (b - a)).toArray⟩ := by
  apply ByteArray.ext
  simp [ByteArray.data_extract, List.extract_eq_take_drop]
theorem Y.sliceS {kl kh : IntKind} {i j : Int} (a b : Nat) (hu : P.underlying T = some .string) (hx : opd l x = some (str p)) (hy : opd l y = some (.int kl i)) (hz : opd l z = some (.int kh j)) (hi : i = (a : Int)) (hj : j = (b : Int))
    (hab : a ≤ b) (hb : b ≤ p.length) : Y P l S ⟨d, .slice T x (some y) (some z) none, ty, pos, aft, g⟩ (str ((p.drop a).take (b - a))) := fun ρ hρ w _ => by
  subst hi; subst hj
  have h1 := run_underlying hu (w := w)
  have h2 : b ≤ (⟨p.toArray⟩ : ByteArray).size := by rw [size_str]; exact hb
  simp only [execOp, hρ x _ hx, hρ y _ hy, hρ z _ hz, Option.map_some]
  exact run_v (by simp [str, Instr.sliceAt, Instr.slice, h1, Instr.sliceBounds, Instr.sliceBound, asIntOf, h2, hab, extract_str])
theorem Y.sliceS_lo {kl : IntKind} {i : Int} (a : Nat) (hu : P.underlying T = some .string) (hx : opd l x = some (str p)) (hy : opd l y = some (.int kl i)) (hi : i = (a : Int))
    (hab : a ≤ p.length) : Y P l S ⟨d, .slice T x (some y) none none, ty, pos, aft, g⟩ (str (p.drop a)) := fun ρ hρ w _ => by
  subst hi
  have h1 := run_underlying hu (w := w)
  have h2 : a ≤ (⟨p.toArray⟩ : ByteArray).size := by rw [size_str]; exact hab
  have h3 : (p.drop a).take (p.length - a) = p.drop a := List.take_of_length_le (by simp)
  simp only [execOp, hρ x _ hx, hρ y _ hy, Option.map_some, Option.map_none]
  exact run_v (by simp [str, Instr.sliceAt, Instr.slice, h1, Instr.sliceBounds, Instr.sliceBound, asIntOf, hab, extract_str, size_str, h3])
theorem Y.sliceS_hi {kh : IntKind} {j : Int} (b : Nat) (hu : P.underlying T = some .string) (hx : opd l x = some (str p)) (hz : opd l z = some (.int kh j)) (hj : j = (b : Int))
    (hb : b ≤ p.length) : Y P l S ⟨d, .slice T x none (some z) none, ty, pos, aft, g⟩ (str (p.take b)) := fun ρ hρ w _ => by
  subst hj
  have h1 := run_underlying hu (w := w)
  have h2 : b ≤ (⟨p.toArray⟩ : ByteArray).size := by rw [size_str]; exact hb
  simp only [execOp, hρ x _ hx, hρ z _ hz, Option.map_some, Option.map_none]
  exact run_v (by simp [str, Instr.sliceAt, Instr.slice, h1, Instr.sliceBounds, Instr.sliceBound, asIntOf, h2, extract_str])
theorem Y.lenStr {bs : List UInt8} {T : TypeId} (hu : P.underlying T = some .string) (hx : opd l x = some (str bs)) : Y P l S ⟨d, .call ⟨.builtin .len, #[x], #[T]⟩, ty, pos, aft, g⟩ (.int .i64 bs.length) := fun ρ hρ w _ => by
  have h1 := run_underlying hu (w := w)
  simp [execOp, resolve, invoke, builtin, Builtin.len_, hρ x _ hx, h1, goInt, str, size_str]
end
end
end Go.Stp
