/-
  The step rules: a frame's known slots as a list (Env), a world with a ghost colour for each block (GW), what a piece of code does from there (E), a list of operations (L), an ending (X). One rule for each operation.
-/
import Derived.WalkKit
import Derived.OrdersHeld
import Derived.Maps.AppendAt
import Derived.KernelRfl
namespace Go.Stp
open Go.RowKit

/-! ### 1. Worlds with colours -/

/-- A world, and a ghost colour for each block (0: it is read alone). -/
structure GW where
  w : World
  c : Nat → Nat

/-- From σ to σ' only blocks of the colours cs have turned (or turned their colour); others are new. -/
structure Ext (σ σ' : GW) (cs : List Nat) : Prop where
  os : σ'.w.os = σ.w.os
  tape : σ'.w.tape = σ.w.tape
  output : σ'.w.output = σ.w.output
  size : σ.w.heap.size ≤ σ'.w.heap.size
  heap : ∀ b, b < σ.w.heap.size → σ.c b ∉ cs → σ'.w.heap[b]? = σ.w.heap[b]?
  col : ∀ b, b < σ.w.heap.size → σ.c b ∉ cs → σ'.c b = σ.c b

theorem Ext.refl (σ : GW) (cs : List Nat) : Ext σ σ cs := ⟨rfl, rfl, rfl, Nat.le_refl _, fun _ _ _ => rfl, fun _ _ _ => rfl⟩
theorem Ext.trans {a b c : GW} {cs : List Nat} (h : Ext a b cs) (k : Ext b c cs) : Ext a c cs :=
  ⟨k.os.trans h.os, k.tape.trans h.tape, k.output.trans h.output, Nat.le_trans h.size k.size,
    fun i hi hc => (k.heap i (Nat.lt_of_lt_of_le hi h.size) (by rw [h.col i hi hc]; exact hc)).trans (h.heap i hi hc),
    fun i hi hc => (k.col i (Nat.lt_of_lt_of_le hi h.size) (by rw [h.col i hi hc]; exact hc)).trans (h.col i hi hc)⟩
theorem Ext.mono {a b : GW} {cs ds : List Nat} (h : Ext a b cs) (hd : ∀ k, k ∈ cs → k ∈ ds) : Ext a b ds :=
  ⟨h.os, h.tape, h.output, h.size, fun i hi hc => h.heap i hi fun hx => hc (hd _ hx), fun i hi hc => h.col i hi fun hx => hc (hd _ hx)⟩
/-- A step that turns blocks of local colours alone (from N on: no block had one at the start), or of the colours cs. -/
theorem Ext.step {a b c : GW} {cs ds : List Nat} {N : Nat} (h : Ext a b cs) (hN : ∀ i, i < a.w.heap.size → a.c i < N) (k : Ext b c ds)
    (hd : ∀ x, x ∈ ds → x ∈ cs ∨ N ≤ x) : Ext a c cs :=
  ⟨k.os.trans h.os, k.tape.trans h.tape, k.output.trans h.output, Nat.le_trans h.size k.size,
    fun i hi hc => (k.heap i (Nat.lt_of_lt_of_le hi h.size) (by
      rw [h.col i hi hc]; intro hx; rcases hd _ hx with h1 | h1
      · exact hc h1
      · have := hN i hi; omega)).trans (h.heap i hi hc),
    fun i hi hc => (k.col i (Nat.lt_of_lt_of_le hi h.size) (by
      rw [h.col i hi hc]; intro hx; rcases hd _ hx with h1 | h1
      · exact hc h1
      · have := hN i hi; omega)).trans (h.col i hi hc)⟩

/-- A number above all colours of a world's blocks and above those of a list. -/
theorem GW.fresh (σ : GW) (cs : List Nat) : ∃ N, (∀ i, i < σ.w.heap.size → σ.c i < N) ∧ (∀ k, k ∈ cs → k < N) ∧ 0 < N := by
  have h1 : ∀ n : Nat, ∃ N, ∀ i, i < n → σ.c i < N := by
    intro n
    induction n with
    | zero => exact ⟨0, fun i hi => by omega⟩
    | succ n ih =>
      obtain ⟨N, hN⟩ := ih
      refine ⟨max N (σ.c n + 1), fun i hi => ?_⟩
      rcases Nat.lt_or_ge i n with h | h
      · have := hN i h; omega
      · have : i = n := by omega
        subst this; omega
  have h2 : ∀ l : List Nat, ∃ N, ∀ k, k ∈ l → k < N := by
    intro l
    induction l with
    | nil => exact ⟨0, fun k hk => by cases hk⟩
    | cons x l ih =>
      obtain ⟨N, hN⟩ := ih
      refine ⟨max N (x + 1), fun k hk => ?_⟩
      cases hk with
      | head => omega
      | tail _ h => have := hN k h; omega
  obtain ⟨N, hN⟩ := h1 σ.w.heap.size
  obtain ⟨M, hM⟩ := h2 cs
  exact ⟨max N M + 1, fun i hi => by have := hN i hi; omega, fun k hk => by have := hM k hk; omega, by omega⟩

/-- What a call comes to: it returns v, from σ only the colours cs have turned, and R holds. -/
def Ret (σ : GW) (cs : List Nat) (R : Value → GW → Prop) : Ending → World → Prop :=
  fun e w' => ∃ v σ', e = .returned v ∧ σ'.w = w' ∧ Ext σ σ' cs ∧ R v σ'

/-! ### 2. Frames -/
abbrev Env := List (Nat × Value)
def look : Env → Nat → Option Value
  | [], _ => none
  | (k, v) :: l, t => bif Nat.beq k t then some v else look l t
/-- The frame holds what the list says. -/
def Fr (a : Act) (n : Nat) (l : Env) : Prop := a.defers = [] ∧ a.tmps.size = n ∧ ∀ t v, look l t = some v → a.tmps[t]? = some v
def opd (l : Env) : Operand → Option Value
  | .tmp t => look l t
  | .const v => some v
  | .global g => some (.pointer (some ⟨g, 0, none⟩))
  | .func f => some (.func (.func f) #[] #[])
theorem Fr.eval {a : Act} {n : Nat} {l : Env} (h : Fr a n l) {x : Operand} {v : Value} (hx : opd l x = some v) : a.eval x = v := by
  cases x with
  | tmp t => have := h.2.2 t v hx; simp [Act.eval, Array.getD_eq_getD_getElem?, this]
  | const u => simpa [opd, Act.eval] using hx
  | global g => simpa [opd, Act.eval] using hx
  | func f => simpa [opd, Act.eval] using hx
theorem beq_ne {a b : Nat} (h : ¬ a = b) : Nat.beq a b = false := by
  cases e : Nat.beq a b
  · rfl
  · exact absurd (Nat.eq_of_beq_eq_true e) h
theorem Fr.put {a : Act} {n : Nat} {l : Env} (h : Fr a n l) {d : Nat} (v : Value) (hd : Nat.blt d n = true) : Fr (a.put (some d) v) n ((d, v) :: l) := by
  have hd' : d < n := by simpa [Nat.blt_eq] using hd
  refine ⟨h.1, by simp [Act.put, h.2.1], fun t u hu => ?_⟩
  simp only [look] at hu
  by_cases e : d = t
  · subst e
    have : Nat.beq d d = true := by simp
    rw [this] at hu
    simp at hu
    subst hu
    simp [Act.put, h.2.1, hd']
  · have : Nat.beq d t = false := beq_ne e
    rw [this] at hu
    simp at hu
    simp [Act.put, Array.getElem?_setIfInBounds_ne e, h.2.2 t u hu]
theorem Fr.put_none {a : Act} {n : Nat} {l : Env} (h : Fr a n l) (v : Value) : Fr (a.put none v) n l := h
/-- The entries of l' are what l says. -/
def Sub : Env → Env → Prop
  | [], _ => True
  | (k, v) :: r, l => look l k = some v ∧ Sub r l
theorem Sub.look {l' l : Env} (h : Sub l' l) : ∀ t v, look l' t = some v → Stp.look l t = some v := by
  induction l' with
  | nil => intro t v hv; cases hv
  | cons x r ih =>
    obtain ⟨k, u⟩ := x
    intro t v hv
    simp only [Stp.look] at hv
    by_cases e : k = t
    · subst e
      have : Nat.beq k k = true := by simp
      rw [this] at hv
      simp at hv
      subst hv
      exact h.1
    · have : Nat.beq k t = false := beq_ne e
      rw [this] at hv
      simp at hv
      exact ih h.2 t v hv
theorem Fr.sub {a : Act} {n : Nat} {l l' : Env} (h : Fr a n l) (hs : Sub l' l) : Fr a n l' := ⟨h.1, h.2.1, fun t v hv => h.2.2 t v (hs.look t v hv)⟩

/-! ### 3. Code, lists of operations, endings -/
def X (n : Nat) (q : Act → World → Prop) (l : Env) (σ : GW) : Prop := ∀ a, Fr a n l → q a σ.w
def E (P : Program) (n : Nat) (c : Code) (Q : Exit → Act → World → Prop) (l : Env) (σ : GW) : Prop := ∀ a, Fr a n l → c.wp P Q a σ.w
def L (P : Program) (n : Nat) (ops : Array Oper) (Q : Exit → Act → World → Prop) (rest : List Oper) (l : Env) (σ : GW) : Prop := ∀ a, Fr a n l → wpList P ops Q rest a σ.w

section
variable {P : Program} {n : Nat} {Q : Exit → Act → World → Prop} {l l' : Env} {σ : GW} {c x y : Code}

theorem E.sub (l' : Env) (h : E P n c Q l' σ) (hs : Sub l' l) : E P n c Q l σ := fun a ha => h a (ha.sub hs)
theorem X.sub {q : Act → World → Prop} (l' : Env) (h : X n q l' σ) (hs : Sub l' l) : X n q l σ := fun a ha => h a (ha.sub hs)
theorem E.seq (h : E P n x (Exit.then (fun a w => y.wp P Q a w) Q) l σ) : E P n (.seq x y) Q l σ := fun a ha => wp_seq (h a ha)
theorem X.next (h : E P n y Q l σ) : X n (Exit.then (fun a w => y.wp P Q a w) Q .normal) l σ := h
theorem E.skip (h : X n (Q .normal) l σ) : E P n .skip Q l σ := fun a ha => wp_skip (h a ha)
theorem E.ret (h : X n (Q .ret) l σ) : E P n .ret Q l σ := fun a ha => wp_ret (h a ha)
theorem E.exit {id : Nat} (h : X n (Q (.exit id)) l σ) : E P n (.exit id) Q l σ := fun a ha => wp_exit (h a ha)
theorem E.block {id : Nat} (h : E P n c (Exit.inBlock id Q) l σ) : E P n (.block id c) Q l σ := fun a ha => wp_block (h a ha)
theorem X.inBlock {id : Nat} (h : X n (Q .normal) l σ) : X n (Exit.inBlock id Q .normal) l σ := h
theorem X.outBlock {id : Nat} (h : X n (Q .normal) l σ) : X n (Exit.inBlock id Q (.exit id)) l σ := fun a ha => by
  show Exit.inBlock id Q (.exit id) a σ.w
  simp only [Exit.inBlock, if_true]; exact h a ha
theorem X.passBlock {id id' : Nat} (hne : Nat.beq id' id = false) (h : X n (Q (.exit id')) l σ) : X n (Exit.inBlock id Q (.exit id')) l σ := fun a ha => by
  show Exit.inBlock id Q (.exit id') a σ.w
  have : id' ≠ id := fun e => by subst e; simp at hne
  simp only [Exit.inBlock, this, if_false]; exact h a ha
theorem X.thenExit {id : Nat} {K : Act → World → Prop} (h : X n (Q (.exit id)) l σ) : X n (Exit.then K Q (.exit id)) l σ := h
theorem X.thenRet {K : Act → World → Prop} (h : X n (Q .ret) l σ) : X n (Exit.then K Q .ret) l σ := h
theorem X.blockRet {id : Nat} (h : X n (Q .ret) l σ) : X n (Exit.inBlock id Q .ret) l σ := h
theorem E.cond {t : Operand} {b : Bool} (ht : opd l t = some (.bool b)) (h1 : b = true → E P n x Q l σ) (h2 : b = false → E P n y Q l σ) : E P n (.cond t x y) Q l σ :=
  fun a ha => wp_cond_split (ha.eval ht) (fun e => h1 e a ha) (fun e => h2 e a ha)
theorem E.condT {t : Operand} (ht : opd l t = some (.bool true)) (h1 : E P n x Q l σ) : E P n (.cond t x y) Q l σ := fun a ha => wp_cond_true (ha.eval ht) (h1 a ha)
theorem E.condF {t : Operand} (ht : opd l t = some (.bool false)) (h1 : E P n y Q l σ) : E P n (.cond t x y) Q l σ := fun a ha => wp_cond_false (ha.eval ht) (h1 a ha)
theorem E.region {id : Nat} {os : List Oper} (h : L P n os.toArray Q os l σ) : E P n (.region id os.toArray false) Q l σ := fun a ha => wp_region_lit (h a ha)
theorem L.nil {ops : Array Oper} (h : X n (Q .normal) l σ) : L P n ops Q [] l σ := fun a ha => wpList_nil (h a ha)

/-- A loop: I holds at each round's head; μ goes down. -/
theorem E.loop {α : Type} (I : α → Env → GW → Prop) (μ : α → Nat) (x0 : α) (l0 : Env) (h0 : I x0 l0 σ) (hs : Sub l0 l)
    (round : ∀ x l σ, I x l σ → E P n c (Exit.then (fun a w => ∃ x' l' σ', Fr a n l' ∧ σ'.w = w ∧ I x' l' σ' ∧ μ x' < μ x) Q) l σ) : E P n (.loop c) Q l σ := by
  intro a ha b k cs
  have key : ∀ m x l σ a, μ x = m → Fr a n l → I x l σ →
      ∃ e a' w', Q e a' w' ∧ Arrives P (lone (b.at a (.code c :: .inLoop c :: k)) cs σ.w) b k cs e a' w' := by
    intro m
    induction m using Nat.strongRecOn with
    | _ m ih =>
      intro x l σ a hm hf hI
      obtain ⟨e, a₁, w₁, hq, harr⟩ := round x l σ hI a hf b (.inLoop c :: k) cs
      cases e with
      | normal =>
        obtain ⟨x', l', σ', hf', rfl, hI', hlt⟩ := hq
        obtain ⟨e₂, a₂, w₂, hq₂, harr₂⟩ := ih (μ x') (hm ▸ hlt) x' l' σ' a₁ rfl hf' hI'
        exact ⟨e₂, a₂, w₂, hq₂, .of_steps (Steps.trans harr (.one step_inLoop)) harr₂⟩
      | exit id => exact ⟨_, a₁, w₁, hq, .pass (x := .inLoop c) rfl (fun _ _ => .inl (by simp)) harr⟩
      | goto l => exact ⟨_, a₁, w₁, hq, .pass (x := .inLoop c) rfl (fun _ _ => .inl (by simp)) harr⟩
      | ret => exact ⟨_, a₁, w₁, hq, .pass (x := .inLoop c) rfl (fun _ _ => .inl (by simp)) harr⟩
      | panic ch => exact ⟨_, a₁, w₁, hq, .pass (x := .inLoop c) rfl (fun _ _ => .inl (by simp)) harr⟩
      | outgrown => exact ⟨_, a₁, w₁, hq, .pass (x := .inLoop c) rfl (fun _ _ => .inl (by simp)) harr⟩
  obtain ⟨e, a', w', hq, harr⟩ := key _ x0 l0 σ a rfl (ha.sub hs) h0
  exact ⟨e, a', w', hq, .of_steps (.one step_loop) harr⟩
theorem X.again {α : Type} {I : α → Env → GW → Prop} {μ : α → Nat} {x0 : α} (x' : α) (l' : Env) (hI : I x' l' σ) (hs : Sub l' l) (hm : μ x' < μ x0) :
    X n (Exit.then (fun a w => ∃ x' l' σ', Fr a n l' ∧ σ'.w = w ∧ I x' l' σ' ∧ μ x' < μ x0) Q .normal) l σ :=
  fun _ ha => ⟨x', l', σ, ha.sub hs, rfl, hI, hm⟩
end
end Go.Stp
