/-
  The step rules, fourth part: loads, stores, new variables, literals, elements, cuts, lengths.
-/
import Derived.Test.YtjhpoahjmcoilaaStp3
set_option linter.unusedSimpArgs false
set_option linter.unusedVariables false
namespace Go.Stp
open Go.RowKit

/-! ### 1. Worlds: a new block, a block turned -/
def GW.new (σ : GW) (k : Nat) (o : Obj) : GW := ⟨σ.w.alloc o, fun i => if i = σ.w.heap.size then k else σ.c i⟩
theorem GW.heap_new (σ : GW) (k : Nat) (o : Obj) : (σ.new k o).w.heap = σ.w.heap.push o := rfl
theorem GW.col_new (σ : GW) (k : Nat) (o : Obj) (i : Nat) : (σ.new k o).c i = if i = σ.w.heap.size then k else σ.c i := rfl
theorem GW.ext_new (σ : GW) (k : Nat) (o : Obj) : Ext σ (σ.new k o) [] :=
  ⟨rfl, rfl, rfl, by simp [GW.heap_new], fun b hb _ => by simp [GW.heap_new, Array.getElem?_push, Nat.ne_of_lt hb], fun b hb _ => by simp [GW.col_new, Nat.ne_of_lt hb]⟩
theorem GW.blk_new (σ : GW) (k : Nat) (cs : List Value) (T : TypeId) : Blk (σ.new k (.cells cs.toArray T)) k σ.w.heap.size cs T :=
  ⟨by simp [GW.heap_new], by simp [GW.col_new]⟩
/-- The block b turned into o. -/
def GW.put (σ : GW) (b : Nat) (o : Obj) : GW := ⟨{ σ.w with heap := σ.w.heap.setIfInBounds b o }, σ.c⟩
theorem GW.ext_put (σ : GW) (b k : Nat) (o : Obj) (hk : σ.c b = k) : Ext σ (σ.put b o) [k] :=
  ⟨rfl, rfl, rfl, by simp [GW.put], fun i _ hc => by
    have hne : b ≠ i := fun e => hc (by subst e; simp [hk])
    simp [GW.put, Array.getElem?_setIfInBounds_ne hne], fun _ _ _ => rfl⟩
theorem GW.size_put (σ : GW) (b : Nat) (o : Obj) : (σ.put b o).w.heap.size = σ.w.heap.size := by simp [GW.put]
theorem GW.blk_put {σ : GW} {k b : Nat} {cs : List Value} {T : TypeId} (h : Blk σ k b cs T) (es : List Value) : Blk (σ.put b (.cells es.toArray T (0, 0))) k b es T :=
  ⟨by simp [GW.put, h.lt], h.col⟩
/-- The cells es in the place of those from o on. -/
def splice (cs : List Value) : Nat → List Value → List Value
  | _, [] => cs
  | o, v :: es => splice (cs.set o v) (o + 1) es
theorem splice_length (es : List Value) : ∀ (cs : List Value) (o : Nat), (splice cs o es).length = cs.length := by
  induction es with
  | nil => intro cs o; rfl
  | cons v es ih => intro cs o; simp [splice, ih]
theorem modify_eq {w : World} {b : Nat} {cs : List Value} {T : TypeId} (h : w.heap[b]? = some (.cells cs.toArray T (0, 0))) (i : Nat) (v : Value) :
    w.setCell ⟨b, i, none⟩ v = { w with heap := w.heap.setIfInBounds b (.cells (cs.set i v).toArray T (0, 0)) } := by
  unfold World.setCell
  congr 1
  apply Array.ext_getElem?
  intro j
  rw [Array.getElem?_modify, Array.getElem?_setIfInBounds]
  by_cases e : b = j
  · subst e
    obtain ⟨hlt, h2⟩ := Array.getElem?_eq_some_iff.1 h
    simp [hlt, h2]
  · simp [e]
theorem run_storeCells {P : Program} (es : List Value) : ∀ (w : World) (b o j : Nat) (cs : List Value) (T : TypeId), w.heap[b]? = some (.cells cs.toArray T (0, 0)) →
    (∀ v, v ∈ es → v.oneCell' = true) → o + j + es.length ≤ cs.length →
    (storeCells ⟨b, o, none⟩ es j).run P w = .ok () { w with heap := w.heap.setIfInBounds b (.cells (splice cs (o + j) es).toArray T (0, 0)) } := by
  induction es with
  | nil =>
    intro w b o j cs T h _ _
    simp only [storeCells, splice, Sem.run_pure]
    congr 1
    have : w.heap.setIfInBounds b (.cells cs.toArray T (0, 0)) = w.heap := by
      apply Array.ext_getElem?
      intro i
      rw [Array.getElem?_setIfInBounds]
      obtain ⟨hlt, h2⟩ := Array.getElem?_eq_some_iff.1 h
      split
      · rename_i e; subst e; simp [hlt, h2]
      · rfl
    rw [this]
  | cons v es ih =>
    intro w b o j cs T h h1 hl
    simp only [List.length_cons] at hl
    have hcell : w.cell? ⟨b, o + j, none⟩ = some (cs[o + j]'(by omega)) := by
      simp [World.cell?, h, List.getElem?_eq_getElem (show o + j < cs.length by omega)]
    have hfr : w.frozen? ⟨b, o + j, none⟩ = false := by simp [World.frozen?, h]
    have hst := run_store P w ⟨b, o + j, none⟩ v .plain (h1 v (by simp))
    rw [hcell] at hst
    simp only [hfr] at hst
    simp only [storeCells, add_none, Sem.run_bind]
    rw [hst]
    simp only [Result.andThen, Bool.false_eq_true, if_false]
    rw [modify_eq h]
    have hlt := (Array.getElem?_eq_some_iff.1 h).1
    have := ih { w with heap := w.heap.setIfInBounds b (.cells (cs.set (o + j) v).toArray T (0, 0)) } b o (j + 1) (cs.set (o + j) v) T
      (by simp [hlt]) (fun u hu => h1 u (by simp [hu])) (by simp; omega)
    rw [this]
    simp [splice, Nat.add_assoc]

/-! ### 2. Facts on types, asked of a program's tables -/
def Agg (P : Program) (T : TypeId) (b : Bool) : Prop := ∀ w, (isAgg T).run P w = .ok b w
def Size (P : Program) (T : TypeId) (s : Nat) : Prop := ∀ w, (sizeOf T).run P w = .ok s w
def Zero (P : Program) (T : TypeId) (v : Value) : Prop := ∀ w, (zeroValue T).run P w = .ok v w

section
variable {P : Program} {n : Nat} {Q : Exit → Act → World → Prop} {l : Env} {σ : GW} {ops : Array Oper} {K : Env → GW → Prop} {S : World → Prop}
  {d : Nat} {dd : Option Nat} {ty : TypeId} {pos : String} {aft : Array Edge} {g : Option (Nat × Bool)} {x y z m : Operand} {v u : Value}

/-! ### 3. Loads and stores -/
theorem Y.load1 {T : TypeId} {a : Addr} (hg : Agg P T false) (hx : opd l x = some (.pointer (some a))) (hc : ∀ w, S w → w.cell? a = some v) : Y P l S ⟨dd, .load T x, ty, pos, aft, g⟩ v := fun ρ hρ w hS => by
  simp only [execOp, hρ x _ hx]
  exact run_v (by simp [Instr.loadAt, Instr.sureAddr, loadVar, hg w, hc w hS])
theorem Y.loadN {T : TypeId} {b o : Nat} {vs : List Value} (hg : Agg P T true) (hs : Size P T vs.length) (hx : opd l x = some (.pointer (some ⟨b, o, none⟩)))
    (hc : ∀ w, S w → ∀ j v, vs[j]? = some v → w.cell? ⟨b, o + j, none⟩ = some v) : Y P l S ⟨dd, .load T x, ty, pos, aft, g⟩ (.agg vs.toArray) := fun ρ hρ w hS => by
  simp only [execOp, hρ x _ hx]
  have hr := run_loadCells_list (P := P) (w := w) ⟨b, o, none⟩ vs (fun j v hv => by rw [add_none]; exact hc w hS j v hv)
  exact run_v (by simp [Instr.loadAt, Instr.sureAddr, loadVar, hg w, hs w, hr])
/-- A store into a block that is known whole. -/
theorem O.store {T U : TypeId} {k b o : Nat} {cs es : List Value} (hb : Blk σ k b cs U) (hx : opd l x = some (.pointer (some ⟨b, o, none⟩))) (hy : opd l y = some v)
    (hv : v.cells = es.toArray) (hs : Size P T es.length) (h1 : ∀ v, v ∈ es → v.oneCell' = true) (hl : o + es.length ≤ cs.length) (hw : Wants ops l ⟨none, .store T x y, ty, pos, aft, g⟩ = some true)
    (h : ∀ σ', Ext σ σ' [k] → σ'.c = σ.c → σ'.w.heap.size = σ.w.heap.size → Blk σ' k b (splice cs o es) U → K l σ') :
    O P n ops Q ⟨none, .store T x y, ty, pos, aft, g⟩ l σ K :=
  O.unit (σ' := σ.put b (.cells (splice cs o es).toArray U (0, 0))) (fun ρ hρ => by
    simp only [execOp, hρ x _ hx, hρ y _ hy]
    have hr := run_storeCells (P := P) es σ.w b o 0 cs U hb.heap h1 (by omega)
    exact run_u (by simp [Instr.storeAt, Instr.sureAddr, storeVar, hv, hs σ.w, hr, GW.put])) hw rfl
    (h _ (GW.ext_put σ b k _ hb.col) rfl (GW.size_put ..) (GW.blk_put hb _))
/-- The same for a value of one cell. -/
theorem O.store1 {T U : TypeId} {k b o : Nat} {cs : List Value} (hb : Blk σ k b cs U) (hx : opd l x = some (.pointer (some ⟨b, o, none⟩))) (hy : opd l y = some v)
    (h1 : v.oneCell' = true) (hs : Size P T 1) (hl : o < cs.length) (hw : Wants ops l ⟨none, .store T x y, ty, pos, aft, g⟩ = some true)
    (h : ∀ σ', Ext σ σ' [k] → σ'.c = σ.c → σ'.w.heap.size = σ.w.heap.size → Blk σ' k b (cs.set o v) U → K l σ') :
    O P n ops Q ⟨none, .store T x y, ty, pos, aft, g⟩ l σ K :=
  O.store (es := [v]) hb hx hy (by cases v <;> first | rfl | cases h1) hs (by intro u hu; simp at hu; subst hu; exact h1) (by simp; omega) hw h

/-! ### 4. New variables, literals -/
theorem O.box {T : TypeId} (k : Nat) {cs : List Value} (hx : opd l x = some v) (hv : v.cells = cs.toArray) (hw : Wants ops l ⟨some d, .box T x, ty, pos, aft, g⟩ = some true) (hd : Nat.blt d n = true)
    (h : ∀ σ' b, Ext σ σ' [] → Blk σ' k b cs T → K ((d, .pointer (some ⟨b, 0, none⟩)) :: l) σ') : O P n ops Q ⟨some d, .box T x, ty, pos, aft, g⟩ l σ K :=
  O.val (σ' := σ.new k (.cells cs.toArray T)) (fun ρ hρ => by
    simp only [execOp, hρ x _ hx]
    exact run_v (by simp [Instr.box, newVar, newRow, hv, GW.new])) hw rfl hd (h _ _ (GW.ext_new ..) (GW.blk_new ..))
theorem O.alloc {T : TypeId} (k : Nat) {z : Value} {cs : List Value} (hz : Zero P T z) (hv : z.cells = cs.toArray) (hw : Wants ops l ⟨some d, .alloc T, ty, pos, aft, g⟩ = some true) (hd : Nat.blt d n = true)
    (h : ∀ σ' b, Ext σ σ' [] → Blk σ' k b cs T → K ((d, .pointer (some ⟨b, 0, none⟩)) :: l) σ') : O P n ops Q ⟨some d, .alloc T, ty, pos, aft, g⟩ l σ K :=
  O.val (σ' := σ.new k (.cells cs.toArray T)) (fun ρ hρ => by
    simp only [execOp]
    exact run_v (by simp [Instr.alloc, newVar, newRow, hz σ.w, hv, GW.new])) hw rfl hd (h _ _ (GW.ext_new ..) (GW.blk_new ..))
/-- A literal of a struct or an array: what its parts come to. -/
def BuildsTo (P : Program) (T : TypeId) (ps : List (Nat × Value)) (cs : List Value) : Prop := ∀ w, (Instr.build T ps.toArray).run P w = .ok (.agg cs.toArray) w
theorem Y.build {T : TypeId} {ps : Array (Nat × Operand)} (vs : List (Nat × Value)) {cs : List Value}
    (hp : ∀ ρ : Operand → Value, (∀ x u, opd l x = some u → ρ x = u) → (ps.map fun (i, x) => (i, ρ x)) = vs.toArray) (hb : BuildsTo P T vs cs) :
    Y P l S ⟨dd, .build T ps, ty, pos, aft, g⟩ (.agg cs.toArray) := fun ρ hρ w _ => by
  simp only [execOp]
  rw [hp ρ hρ]
  exact run_v (hb w)
/-- A literal of a slice: its cells. -/
def BuildsSl (P : Program) (T E : TypeId) (m : Nat) (ps : List (Nat × Value)) (cs : List Value) : Prop := ∀ w, (Instr.buildSlice T m ps.toArray).run P w = .ok (.slice (some ⟨w.heap.size, 0, none⟩) m m) (w.alloc (.cells cs.toArray E))
theorem O.buildSlice {T E : TypeId} (k : Nat) {m : Nat} {ps : Array (Nat × Operand)} (vs : List (Nat × Value)) {cs : List Value}
    (hp : ∀ ρ : Operand → Value, (∀ x u, opd l x = some u → ρ x = u) → (ps.map fun (i, x) => (i, ρ x)) = vs.toArray) (hb : BuildsSl P T E m vs cs) (hw : Wants ops l ⟨some d, .buildSlice T m ps, ty, pos, aft, g⟩ = some true) (hd : Nat.blt d n = true)
    (h : ∀ σ' b, Ext σ σ' [] → Blk σ' k b cs E → K ((d, .slice (some ⟨b, 0, none⟩) m m) :: l) σ') : O P n ops Q ⟨some d, .buildSlice T m ps, ty, pos, aft, g⟩ l σ K :=
  O.val (σ' := σ.new k (.cells cs.toArray E)) (fun ρ hρ => by
    simp only [execOp]
    rw [hp ρ hρ]
    exact run_v (hb σ.w)) hw rfl hd (h _ _ (GW.ext_new ..) (GW.blk_new ..))

/-! ### 5. Slices: elements, cuts, lengths -/
/-- At the place o of the block b lies the datum x. -/
def At {α : Type} (d : Kd α) (σ : GW) (b o : Nat) (x : α) : Prop := ∃ cs, d.R σ x cs ∧ ∀ j v, cs[j]? = some v → σ.w.cell? ⟨b, o + j, none⟩ = some v
theorem At.of {α : Type} {d : Kd α} {σ : GW} {k : Nat} {A : Option Addr} {xs : List α} {cs : List Value} (hr : d.Rs σ xs cs) (h : Row σ k A cs) {j : Nat} {x : α} (hx : xs[j]? = some x) (hsz : 0 < d.sz) :
    ∃ b o, A = some ⟨b, o, none⟩ ∧ At d σ b (o + j * d.sz) x := by
  have hlen := hr.len
  have hj : j < xs.length := (List.getElem?_eq_some_iff.1 hx).1
  have hmul : (j + 1) * d.sz ≤ xs.length * d.sz := Nat.mul_le_mul_right _ hj
  rw [Nat.succ_mul] at hmul
  rcases h with h | ⟨b, o, hA, _, _, h⟩
  · subst h; simp at hlen; omega
  · refine ⟨b, o, hA, _, hr.at_ hx, fun i v hv => ?_⟩
    rw [Nat.add_assoc]
    apply h
    rw [List.getElem?_take] at hv
    split at hv
    · rw [List.getElem?_drop] at hv; exact hv
    · cases hv
/-- The address of an element; where it lies is told by what lies there. -/
theorem O.indexSl {α : Type} {dk : Kd α} {T EE : TypeId} {k : Nat} {xs : List α} {ik : IntKind} {i : Int} (j : Nat) (x0 : α) (hS : Sl dk σ k v xs) (hu : P.underlying T = some (.slice EE)) (hs : Size P EE dk.sz) (hsz : 0 < dk.sz)
    (hx : opd l x = some v) (hy : opd l y = some (.int ik i)) (hi : i = (j : Int)) (hj : xs[j]? = some x0) (hw : Wants ops l ⟨some d, .indexAddr T x y, ty, pos, aft, g⟩ = some true) (hd : Nat.blt d n = true)
    (h : ∀ b o, At dk σ b o x0 → K ((d, .pointer (some ⟨b, o, none⟩)) :: l) σ) : O P n ops Q ⟨some d, .indexAddr T x y, ty, pos, aft, g⟩ l σ K := by
  obtain ⟨A, c, cs, rfl, _, _, hr, hrow⟩ := hS
  obtain ⟨b, o, rfl, hat⟩ := At.of hr hrow hj hsz
  have hjl : j < xs.length := (List.getElem?_eq_some_iff.1 hj).1
  subst hi
  refine O.val (fun ρ hρ => ?_) hw rfl hd (h b (o + j * dk.sz) hat)
  have h1 := run_underlying hu (w := σ.w)
  simp only [execOp, hρ x _ hx, hρ y _ hy]
  exact run_v (by simp [Instr.indexAt, asIntOf, h1, hs σ.w, hjl, add_none])
theorem Y.indexArr {T EE : TypeId} {len s b o : Nat} {ik : IntKind} {i : Int} (j : Nat) (hu : P.underlying T = some (.array len EE)) (hs : Size P EE s) (hx : opd l x = some (.pointer (some ⟨b, o, none⟩))) (hy : opd l y = some (.int ik i))
    (hi : i = (j : Int)) (hj : j < len) : Y P l S ⟨dd, .indexAddr T x y, ty, pos, aft, g⟩ (.pointer (some ⟨b, o + j * s, none⟩)) := fun ρ hρ w _ => by
  subst hi
  have h1 := run_underlying hu (w := w)
  simp only [execOp, hρ x _ hx, hρ y _ hy]
  exact run_v (by simp [Instr.indexAt, asIntOf, h1, hs w, hj, add_none, Instr.sureAddr])
theorem Y.indexSl {T EE : TypeId} {m c s b o : Nat} {ik : IntKind} {i : Int} (j : Nat) (hu : P.underlying T = some (.slice EE)) (hs : Size P EE s) (hx : opd l x = some (.slice (some ⟨b, o, none⟩) m c)) (hy : opd l y = some (.int ik i))
    (hi : i = (j : Int)) (hj : j < m) : Y P l S ⟨dd, .indexAddr T x y, ty, pos, aft, g⟩ (.pointer (some ⟨b, o + j * s, none⟩)) := fun ρ hρ w _ => by
  subst hi
  have h1 := run_underlying hu (w := w)
  simp only [execOp, hρ x _ hx, hρ y _ hy]
  exact run_v (by simp [Instr.indexAt, asIntOf, h1, hs w, hj, add_none])
theorem At.cell {α : Type} {f : α → Value} {h1 : ∀ x, (f x).oneCell' = true} {b o : Nat} {a : α} (h : At (Kd.sc f h1) σ b o a) : σ.w.cell? ⟨b, o, none⟩ = some (f a) := by
  obtain ⟨cs, rfl, h⟩ := h
  exact h 0 _ rfl
theorem At.slice {α : Type} {dk : Kd α} {b o : Nat} {a : List α} (h : At (kSl dk) σ b o a) : ∃ v, σ.w.cell? ⟨b, o, none⟩ = some v ∧ Sl dk σ 0 v a := by
  obtain ⟨cs, ⟨v, rfl, hv⟩, h⟩ := h
  exact ⟨v, h 0 _ rfl, hv⟩
theorem Y.lenSl {T EE : TypeId} {A : Option Addr} {a c : Nat} (hu : P.underlying T = some (.slice EE)) (hx : opd l x = some (.slice A a c)) :
    Y P l S ⟨dd, .call ⟨.builtin .len, #[x], #[T]⟩, ty, pos, aft, g⟩ (.int .i64 a) := fun ρ hρ w _ => by
  have h1 := run_underlying hu (w := w)
  simp [execOp, resolve, invoke, builtin, Builtin.len_, hρ x _ hx, h1, goInt]
/-- v[i:j], v[i:j:m]: A and the capacity behind it are told. -/
theorem Y.sliceSl {T EE : TypeId} {A : Option Addr} {a c : Nat} {s : Nat} {lo hi mx : Option Operand} (i j m : Nat) (hu : P.underlying T = some (.slice EE)) (hs : Size P EE s) (hx : opd l x = some (.slice A a c))
    (hlo : (lo = none ∧ i = 0) ∨ ∃ p k, lo = some p ∧ opd l p = some (.int k (i : Int)))
    (hhi : (hi = none ∧ j = a ∧ mx = none) ∨ ∃ p k, hi = some p ∧ opd l p = some (.int k (j : Int)))
    (hmx : (mx = none ∧ m = c) ∨ ∃ p k, mx = some p ∧ opd l p = some (.int k (m : Int)))
    (h1 : i ≤ j) (h2 : j ≤ m) (h3 : m ≤ c) :
    Y P l S ⟨dd, .slice T x lo hi mx, ty, pos, aft, g⟩ (.slice (if m = i then A else A.map (·.add (i * s))) (j - i) (m - i)) := fun ρ hρ w _ => by
  have hT := run_underlying hu (w := w)
  simp only [execOp, hρ x _ hx]
  refine run_v ?_
  have hb : (Instr.sliceBounds true a c (lo.map ρ) (hi.map ρ) (mx.map ρ)).run P w = .ok (i, j, m) w := by
    rcases hlo with ⟨rfl, rfl⟩ | ⟨p, kp, rfl, hp⟩ <;> rcases hhi with ⟨rfl, rfl, rfl⟩ | ⟨q, kq, rfl, hq⟩
    · rcases hmx with ⟨_, rfl⟩ | ⟨r, kr, h, _⟩
      · simp [Instr.sliceBounds]
      · cases h
    · rcases hmx with ⟨rfl, rfl⟩ | ⟨r, kr, rfl, hr⟩
      · simp [Instr.sliceBounds, Instr.sliceBound, asIntOf, hρ q _ hq, h2]
      · simp [Instr.sliceBounds, Instr.sliceBound, asIntOf, hρ q _ hq, hρ r _ hr, h2, h3]
    · rcases hmx with ⟨_, rfl⟩ | ⟨r, kr, h, _⟩
      · simp [Instr.sliceBounds, Instr.sliceBound, asIntOf, hρ p _ hp, h1]
      · cases h
    · rcases hmx with ⟨rfl, rfl⟩ | ⟨r, kr, rfl, hr⟩
      · simp [Instr.sliceBounds, Instr.sliceBound, asIntOf, hρ p _ hp, hρ q _ hq, h1, h2]
      · simp [Instr.sliceBounds, Instr.sliceBound, asIntOf, hρ p _ hp, hρ q _ hq, hρ r _ hr, h1, h2, h3]
  simp [Instr.sliceAt, Instr.slice, hT, hb, hs w]
end
end Go.Stp
