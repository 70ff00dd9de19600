/-
  The step rules, fifth part: calls, a function's begin and end, regions that draw their order.
-/
import Derived.Test.YtjhpoahjmcoilaaStp4
import Derived.IntWalk
set_option linter.unusedSimpArgs false
set_option linter.unusedVariables false
namespace Go.Stp
open Go.RowKit

section
variable {P : Program} {n : Nat} {Q : Exit → Act → World → Prop} {l : Env} {σ : GW} {ops : Array Oper} {K : Env → GW → Prop}
  {d : Option Nat} {ty : TypeId} {pos : String} {aft : Array Edge} {g : Option (Nat × Bool)} {v : Value}

/-- The frame behind an operation: its value in its place, if it has one. -/
def putE (d : Option Nat) (v : Value) (l : Env) : Env := match d with | some t => (t, v) :: l | none => l
theorem Fr.putE {a : Act} (h : Fr a n l) (v : Value) (hd : ∀ t, d = some t → Nat.blt t n = true) : Fr (a.put d v) n (putE d v l) := by
  cases d with
  | none => exact h
  | some t => exact h.put v (hd t rfl)
def fits (d : Option Nat) (n : Nat) : Bool := match d with | some t => Nat.blt t n | none => true
theorem fits.spec (h : fits d n = true) : ∀ t, d = some t → Nat.blt t n = true := fun t e => by subst e; exact h

/-- What is called: function f with these arguments. -/
def Runs (P : Program) (o : Oper) (l : Env) (σ : GW) (f : FuncId) (vs : List Value) : Prop :=
  ∀ ρ : Operand → Value, (∀ x u, opd l x = some u → ρ x = u) → (execOp ρ o).run P σ.w = .ok (.enter f vs.toArray) σ.w
theorem O.enter {o : Oper} {f : FuncId} {vs : List Value} {cs : List Nat} {R : Value → GW → Prop} (hr : Runs P o l σ f vs) (hw : Wants ops l o = some true) (hd : fits o.dst n = true)
    (hc : Calls P f vs.toArray σ.w (Ret σ cs R)) (h : ∀ v σ', Ext σ σ' cs → R v σ' → K (putE o.dst v l) σ') : O P n ops Q o l σ K := fun a K' ha hK => by
  rw [Wants.spec hw ha, if_pos rfl]
  unfold Oper.wp
  rw [hr a.eval (fun x u hx => ha.eval hx)]
  simp only [Oper.upon]
  refine hc.mono ?_
  rintro e w' ⟨v, σ', rfl, rfl, he, hR⟩
  exact hK _ _ _ (ha.putE v (fits.spec hd)) (h v σ' he hR)
/-- The values of operands. -/
def opds (l : Env) : List Operand → List Value → Prop
  | [], vs => vs = []
  | x :: xs, vs => ∃ v r, opd l x = some v ∧ vs = v :: r ∧ opds l xs r
def vals (l : Env) : List Operand → Option (List Value)
  | [] => some []
  | x :: xs => match opd l x, vals l xs with
    | some v, some r => some (v :: r)
    | _, _ => none
theorem vals.spec {xs : List Operand} {vs : List Value} (h : vals l xs = some vs) (ρ : Operand → Value) (hρ : ∀ x u, opd l x = some u → ρ x = u) : xs.map ρ = vs := by
  induction xs generalizing vs with
  | nil => simp [vals] at h; subst h; rfl
  | cons x xs ih =>
    simp only [vals] at h
    split at h
    · rename_i v r hv hr
      simp at h; subst h
      simp [hρ x v hv, ih hr]
    · cases h
/-- A call of a function by its name. -/
def CallsTo (P : Program) (f : FuncId) : Prop := ∀ args w, (callFunc f args).run P w = .ok (.enter f args) w
theorem Runs.fn {f : FuncId} {args : List Operand} {ts : Array TypeId} {vs : List Value} (hf : CallsTo P f) (ha : vals l args = some vs) :
    Runs P ⟨d, .call ⟨.value (.func f), args.toArray, ts⟩, ty, pos, aft, g⟩ l σ f vs := fun ρ hρ => by
  have h0 := hρ (.func f) _ rfl
  simp [execOp, resolve, Deferred.ofValue, h0, invoke, vals.spec ha ρ hρ]
  exact hf _ _
/-- A call of a function value. -/
theorem Runs.val {f : FuncId} {t : Operand} {fs cs : List Value} {args : List Operand} {ts : Array TypeId} {vs : List Value} (hf : CallsTo P f) (ht : opd l t = some (.func (.func f) fs.toArray cs.toArray))
    (ha : vals l args = some vs) : Runs P ⟨d, .call ⟨.value t, args.toArray, ts⟩, ty, pos, aft, g⟩ l σ f (fs ++ vs ++ cs) := fun ρ hρ => by
  have h0 := hρ t _ ht
  simp [execOp, resolve, Deferred.ofValue, h0, invoke, vals.spec ha ρ hρ]
  exact hf _ _
/-- A call of a method of an interface value whose type is T: f. -/
def Meth (P : Program) (T : TypeId) (name : String) (f : FuncId) : Prop := ∀ v w, (Go.method (P.types.size + Made.depth) T v name).run P w = .ok (f, v) w
theorem Runs.inv {T : TypeId} {f : FuncId} {name : String} {t : Operand} {v : Value} {args : List Operand} {ts : Array TypeId} {vs : List Value} (hf : CallsTo P f) (hm : Meth P T name f) (ht : opd l t = some (.iface T v))
    (ha : vals l args = some vs) : Runs P ⟨d, .call ⟨.invoke t name, args.toArray, ts⟩, ty, pos, aft, g⟩ l σ f (v :: vs) := fun ρ hρ => by
  have h0 := hρ t _ ht
  have h1 := vals.spec ha ρ hρ
  simp only [execOp, resolve]
  simp [invoke, callMethod, h0, h1, hm v σ.w]
  exact hf _ _

/-! ### A function's begin and end -/
def envOf : Nat → List Value → Env
  | _, [] => []
  | i, v :: vs => (i, v) :: envOf (i + 1) vs
theorem envOf_look (vs : List Value) : ∀ (i t : Nat) (v : Value), look (envOf i vs) t = some v → ∃ j, t = i + j ∧ vs[j]? = some v := by
  induction vs with
  | nil => intro i t v h; cases h
  | cons u vs ih =>
    intro i t v h
    simp only [envOf, look] at h
    by_cases e : i = t
    · subst e
      have : Nat.beq i i = true := by simp
      rw [this] at h
      simp at h
      subst h
      exact ⟨0, rfl, rfl⟩
    · rw [beq_ne e] at h
      simp at h
      obtain ⟨j, hj, hv⟩ := ih _ _ _ h
      exact ⟨j + 1, by omega, by simpa using hv⟩
theorem calls {f : FuncId} {fn : Func} {c : Code} {vs : List Value} {R : Ending → World → Prop} (hf : P.funcs[f]? = some fn) (hb : fn.body = some c) (hn : fn.ntmps = n) (hv : vs.length ≤ n)
    (h : E P n c (bodyPost P fn R) (envOf 0 vs) σ) : Calls P f vs.toArray σ.w R := by
  refine calls_of_wp hf hb (h _ ⟨rfl, by simp [hn]; omega, fun t v ht => ?_⟩)
  obtain ⟨j, rfl, hj⟩ := envOf_look vs 0 t v ht
  rw [Nat.zero_add, Array.getElem?_append]
  have : j < vs.length := (List.getElem?_eq_some_iff.1 hj).1
  simp [this, ← hj]
theorem X.ret0 {fn : Func} {R : Ending → World → Prop} (hr : fn.results = #[]) (hR : R (.returned (.tuple #[])) σ.w) : X n (bodyPost P fn R .ret) l σ := fun a ha =>
  ⟨ha.1, _, results_none hr _ P _, hR⟩
theorem X.end0 {fn : Func} {R : Ending → World → Prop} (hr : fn.results = #[]) (hR : R (.returned (.tuple #[])) σ.w) : X n (bodyPost P fn R .normal) l σ := fun a ha =>
  ⟨ha.1, _, results_none hr _ P _, hR⟩
theorem Fr.get {a : Act} (ha : Fr a n l) {t : Nat} {v : Value} (h : look l t = some v) : a.tmps.getD t undef = v := by simp [Array.getD_eq_getD_getElem?, ha.2.2 t v h]
theorem X.ret1 {fn : Func} {R : Ending → World → Prop} {t : Nat} {v : Value} (hr : fn.results = #[.tmp t]) (hv : look l t = some v) (hR : R (.returned v) σ.w) : X n (bodyPost P fn R .ret) l σ := fun a ha =>
  ⟨ha.1, v, by rw [results_tmp hr, ha.get hv], hR⟩
theorem X.ret2 {fn : Func} {R : Ending → World → Prop} {t u : Nat} {v v' : Value} (hr : fn.results = #[.tmp t, .tmp u]) (hv : look l t = some v) (hv' : look l u = some v') (hR : R (.returned (.tuple #[v, v'])) σ.w) : X n (bodyPost P fn R .ret) l σ := fun a ha =>
  ⟨ha.1, _, by rw [results_tmp2 hr, ha.get hv, ha.get hv'], hR⟩
theorem X.ret3 {fn : Func} {R : Ending → World → Prop} {t u s : Nat} {v v' v'' : Value} (hr : fn.results = #[.tmp t, .tmp u, .tmp s]) (hv : look l t = some v) (hv' : look l u = some v') (hv'' : look l s = some v'')
    (hR : R (.returned (.tuple #[v, v', v''])) σ.w) : X n (bodyPost P fn R .ret) l σ := fun a ha =>
  ⟨ha.1, .tuple #[v, v', v''], by simp [results, hr, ha.2.2 t v hv, ha.2.2 u v' hv', ha.2.2 s v'' hv''], hR⟩

/-! ### A region that draws its order -/
/-- An order to walk it in: rd: an operation that yields its value whenever it comes up; ef: the one that comes up; two: whichever of two comes up. -/
inductive Pl where
  | done
  | rd (i : Nat) (r : Pl)
  | ef (i : Nat) (r : Pl)
  | two (i : Nat) (r : Pl) (j : Nat) (s : Pl)
def okPl (md : Region.Mode) (ops : Array Oper) : Nat → Pl → Array Bool → Bool
  | _, .done, ls => (Region.ready md ops ls).isEmpty
  | 0, _, _ => false
  | f + 1, .rd i r, ls => Region.free md ops ls i && (Region.ready md ops ls).contains i && okPl md ops f r (ls.setIfInBounds i true)
  | f + 1, .ef i r, ls => (Region.ready md ops ls == [i]) && okPl md ops f r (ls.setIfInBounds i true)
  | f + 1, .two i r j s, ls => (Region.ready md ops ls == [i, j]) && okPl md ops f r (ls.setIfInBounds i true) && okPl md ops f s (ls.setIfInBounds j true)
def wpPl (P : Program) (ops : Array Oper) (Q : Exit → Act → World → Prop) (S : World → Prop) : Pl → Act → World → Prop
  | .done, a, w => Q .normal a w
  | .rd i r, a, w => ∃ o v, ops[i]? = some o ∧ YieldsIf P ops S o v a ∧ S w ∧ wpPl P ops Q S r (a.put o.dst v) w
  | .ef i r, a, w => wpOp P ops Q i (fun a' w' => S w' ∧ wpPl P ops Q S r a' w') a w
  | .two i r j s, a, w => wpOp P ops Q i (fun a' w' => S w' ∧ wpPl P ops Q S r a' w') a w ∧ wpOp P ops Q j (fun a' w' => S w' ∧ wpPl P ops Q S s a' w') a w
theorem wpPl.held {S : World → Prop} {md : Region.Mode} (hs : Region.noSelect ops = true) (hQ : ∀ c a w d v, Q (.panic c) (a.put d v) w → Q (.panic c) a w) (pl : Pl) :
    ∀ (f : Nat) (ls : Array Bool) (a : Act) (w : World), okPl md ops f pl ls = true → wpPl P ops Q S pl a w → wpAnyH P md ops Q S f ls a w := by
  induction pl with
  | done =>
    intro f ls a w ho h
    exact wpAnyH_done (by simpa [okPl] using ho) h f
  | rd i r ih =>
    intro f ls a w ho h
    cases f with
    | zero => simp [okPl] at ho
    | succ f =>
      obtain ⟨o, v, hi, hy, hS, h⟩ := h
      simp only [okPl, Bool.and_eq_true] at ho
      exact wpAnyH_take hi hs ho.1.1 ho.1.2 (fun c a w => hQ c a w o.dst v) hy hS (ih f _ _ _ ho.2 h)
  | ef i r ih =>
    intro f ls a w ho h
    cases f with
    | zero => simp [okPl] at ho
    | succ f =>
      simp only [okPl, Bool.and_eq_true, beq_iff_eq] at ho
      refine wpAnyH_all ho.1 (by simp) ?_
      intro j hj
      simp at hj; subst hj
      exact wpOp_mono (fun a' w' h' => ⟨h'.1, ih f _ _ _ ho.2 h'.2⟩) h
  | two i r j s ih1 ih2 =>
    intro f ls a w ho h
    cases f with
    | zero => simp [okPl] at ho
    | succ f =>
      simp only [okPl, Bool.and_eq_true, beq_iff_eq] at ho
      refine wpAnyH_all ho.1.1 (by simp) ?_
      intro m hm
      simp at hm
      rcases hm with rfl | rfl
      · exact wpOp_mono (fun a' w' h' => ⟨h'.1, ih1 f _ _ _ ho.1.2 h'.2⟩) h.1
      · exact wpOp_mono (fun a' w' h' => ⟨h'.1, ih2 f _ _ _ ho.2 h'.2⟩) h.2
def D (P : Program) (n : Nat) (ops : Array Oper) (Q : Exit → Act → World → Prop) (S : World → Prop) (pl : Pl) (l : Env) (σ : GW) : Prop := ∀ a, Fr a n l → wpPl P ops Q S pl a σ.w
def GW.drew (σ : GW) : GW := ⟨σ.w.drew, σ.c⟩
theorem GW.ext_drew (σ : GW) : Ext σ σ.drew [] := ⟨rfl, rfl, rfl, Nat.le_refl _, fun _ _ _ => rfl, fun _ _ _ => rfl⟩
theorem E.draw {id : Nat} {os : List Oper} (pl : Pl) (S : World → Prop) (hm : P.follows .mixedOrders = true) (hs : Region.noSelect os.toArray = true)
    (hok : okPl .any os.toArray os.toArray.size pl (Array.replicate os.toArray.size false) = true)
    (hQ : ∀ c a w d v, Q (.panic c) (a.put d v) w → Q (.panic c) a w)
    (h : ∀ σ', Ext σ σ' [] → σ'.c = σ.c → σ'.w.heap = σ.w.heap → D P n os.toArray Q S pl l σ') : E P n (.region id os.toArray true) Q l σ := fun a ha =>
  wp_region_held hm (wpPl.held hs hQ pl _ _ _ _ hok (h σ.drew (GW.ext_drew σ) rfl rfl a ha))
theorem D.done {S : World → Prop} (h : X n (Q .normal) l σ) : D P n ops Q S .done l σ := h
theorem D.rd {S : World → Prop} {i t : Nat} {r : Pl} {o : Oper} {v : Value} (hi : ops[i]? = some o) (hy : Y P l S o v) (hw : Wants ops l o = some true) (hdst : o.dst = some t) (hd : Nat.blt t n = true) (hS : S σ.w)
    (h : D P n ops Q S r ((t, v) :: l) σ) : D P n ops Q S (.rd i r) l σ := fun a ha =>
  ⟨o, v, hi, .inl ⟨Wants.spec hw ha, fun w hw' => hy a.eval (fun x u hx => ha.eval hx) w hw'⟩, hS, by rw [hdst]; exact h _ (ha.put v hd)⟩
theorem D.rdNot {S : World → Prop} {i t : Nat} {r : Pl} {o : Oper} (hi : ops[i]? = some o) (hw : Wants ops l o = some false) (hdst : o.dst = some t) (hd : Nat.blt t n = true) (hS : S σ.w)
    (h : D P n ops Q S r ((t, undef) :: l) σ) : D P n ops Q S (.rd i r) l σ := fun a ha =>
  ⟨o, undef, hi, .inr ⟨Wants.spec hw ha, rfl⟩, hS, by rw [hdst]; exact h _ (ha.put undef hd)⟩
theorem O.wpOp {i : Nat} {o : Oper} {K' : Act → World → Prop} {a : Act} (hi : ops[i]? = some o) (ha : Fr a n l) (h : O P n ops Q o l σ K) (hK : ∀ l' σ' a', Fr a' n l' → K l' σ' → K' a' σ'.w) : wpOp P ops Q i K' a σ.w := by
  have := h a K' ha hK
  unfold Go.wpOp
  simp only [hi]
  split
  · rename_i hw; rw [if_pos hw] at this; exact .inl this
  · rename_i hw; rw [if_neg hw] at this; exact this
theorem D.ef {S : World → Prop} {i : Nat} {r : Pl} {o : Oper} (hi : ops[i]? = some o) (h : O P n ops Q o l σ (fun l' σ' => S σ'.w ∧ D P n ops Q S r l' σ')) : D P n ops Q S (.ef i r) l σ := fun a ha =>
  h.wpOp hi ha fun l' σ' a' ha' hK => ⟨hK.1, hK.2 a' ha'⟩
theorem D.two {S : World → Prop} {i j : Nat} {r s : Pl} {o o' : Oper} (hi : ops[i]? = some o) (hj : ops[j]? = some o') (h : O P n ops Q o l σ (fun l' σ' => S σ'.w ∧ D P n ops Q S r l' σ'))
    (h' : O P n ops Q o' l σ (fun l' σ' => S σ'.w ∧ D P n ops Q S s l' σ')) : D P n ops Q S (.two i r j s) l σ := fun a ha =>
  ⟨h.wpOp hi ha fun l' σ' a' ha' hK => ⟨hK.1, hK.2 a' ha'⟩, h'.wpOp hj ha fun l' σ' a' ha' hK => ⟨hK.1, hK.2 a' ha'⟩⟩
theorem L.setB {P : Program} {n : Nat} {ops : Array Oper} {Q : Exit → Act → World → Prop} {rest : List Oper} {l : Env} {σ : GW} {d : Nat} {b : Bool} (b' : Bool) (h : b = b') (k : L P n ops Q rest ((d, .bool b') :: l) σ) : L P n ops Q rest ((d, .bool b) :: l) σ := by subst h; exact k
theorem D.setB {P : Program} {n : Nat} {ops : Array Oper} {Q : Exit → Act → World → Prop} {S : World → Prop} {pl : Pl} {l : Env} {σ : GW} {d : Nat} {b : Bool} (b' : Bool) (h : b = b') (k : D P n ops Q S pl ((d, .bool b') :: l) σ) : D P n ops Q S pl ((d, .bool b) :: l) σ := by subst h; exact k
theorem wrap_i64 {x : Int} (h1 : -9223372036854775808 ≤ x) (h2 : x < 9223372036854775808) : IntKind.i64.wrap x = x := by
  rw [IntWalk.i64_in _ ⟨by omega, by omega⟩]
end
end Go.Stp
