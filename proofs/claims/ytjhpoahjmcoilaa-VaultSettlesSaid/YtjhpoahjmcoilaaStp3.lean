/-
  The step rules, third part: memory. Blocks known whole (Blk), rows of cells at a slice's address (Row), kinds of data (Kd), loads, stores, allocations.
-/
import Derived.Test.YtjhpoahjmcoilaaStp2
namespace Go.Stp
open Go.RowKit

/-! ### 1. Blocks -/
/-- Block b has the colour k and holds the cells cs, of the type T. -/
structure Blk (σ : GW) (k b : Nat) (cs : List Value) (T : TypeId) : Prop where
  heap : σ.w.heap[b]? = some (.cells cs.toArray T (0, 0))
  col : σ.c b = k
theorem Blk.lt {σ : GW} {k b : Nat} {cs : List Value} {T : TypeId} (h : Blk σ k b cs T) : b < σ.w.heap.size := (Array.getElem?_eq_some_iff.1 h.heap).1
theorem Blk.ext {σ σ' : GW} {k b : Nat} {cs : List Value} {T : TypeId} {ds : List Nat} (h : Blk σ k b cs T) (e : Ext σ σ' ds) (hk : k ∉ ds) : Blk σ' k b cs T :=
  ⟨(e.heap b h.lt (by rw [h.col]; exact hk)).trans h.heap, (e.col b h.lt (by rw [h.col]; exact hk)).trans h.col⟩
theorem Blk.cell {σ : GW} {k b : Nat} {cs : List Value} {T : TypeId} (h : Blk σ k b cs T) {i : Nat} {v : Value} (hv : cs[i]? = some v) : σ.w.cell? ⟨b, i, none⟩ = some v := by
  simp [World.cell?, h.heap, hv]
theorem Blk.frozen {σ : GW} {k b : Nat} {cs : List Value} {T : TypeId} (h : Blk σ k b cs T) (i : Nat) : σ.w.frozen? ⟨b, i, none⟩ = false := by
  simp [World.frozen?, h.heap]

/-! ### 2. Rows: the cells at a slice's address -/
/-- At the address A lie the cells cs, in a block of the colour k (nothing is said if there are none). -/
def Row (σ : GW) (k : Nat) (A : Option Addr) (cs : List Value) : Prop :=
  cs = [] ∨ ∃ b o, A = some ⟨b, o, none⟩ ∧ σ.c b = k ∧ b < σ.w.heap.size ∧ ∀ j v, cs[j]? = some v → σ.w.cell? ⟨b, o + j, none⟩ = some v
theorem Row.nil (σ : GW) (k : Nat) (A : Option Addr) : Row σ k A [] := .inl rfl
theorem cell_of_heap {w w' : World} {a : Addr} (h : w'.heap[a.block]? = w.heap[a.block]?) : w'.cell? a = w.cell? a := by simp [World.cell?, h]
theorem Row.ext {σ σ' : GW} {k : Nat} {A : Option Addr} {cs : List Value} {ds : List Nat} (h : Row σ k A cs) (e : Ext σ σ' ds) (hk : k ∉ ds) : Row σ' k A cs := by
  rcases h with h | ⟨b, o, hA, hc, hb, h⟩
  · exact .inl h
  · refine .inr ⟨b, o, hA, (e.col b hb (by rw [hc]; exact hk)).trans hc, Nat.lt_of_lt_of_le hb e.size, fun j v hv => ?_⟩
    rw [cell_of_heap (a := ⟨b, o + j, none⟩) (e.heap b hb (by rw [hc]; exact hk))]
    exact h j v hv
theorem Row.at_ {σ : GW} {k : Nat} {A : Option Addr} {cs : List Value} (h : Row σ k A cs) {j : Nat} {v : Value} (hv : cs[j]? = some v) :
    ∃ b o, A = some ⟨b, o, none⟩ ∧ σ.w.cell? ⟨b, o + j, none⟩ = some v := by
  rcases h with h | ⟨b, o, hA, _, _, h⟩
  · subst h; simp at hv
  · exact ⟨b, o, hA, h j v hv⟩
/-- A cut of a row. -/
theorem Row.cut {σ : GW} {k : Nat} {b o : Nat} {cs : List Value} (h : Row σ k (some ⟨b, o, none⟩) cs) (i m : Nat) : Row σ k (some ⟨b, o + i, none⟩) ((cs.drop i).take m) := by
  rcases h with h | ⟨b', o', hA, hc, hb, h⟩
  · subst h; exact .inl (by simp)
  · injection hA with hA
    injection hA with h1 h2 _
    subst h1; subst h2
    refine .inr ⟨b, o + i, rfl, hc, hb, fun j v hv => ?_⟩
    have hv' : cs[i + j]? = some v := by
      rw [List.getElem?_take] at hv
      split at hv
      · rw [List.getElem?_drop] at hv; exact hv
      · cases hv
    have := h (i + j) v hv'
    rwa [← Nat.add_assoc] at this
theorem Row.take {σ : GW} {k : Nat} {A : Option Addr} {cs : List Value} (h : Row σ k A cs) (m : Nat) : Row σ k A (cs.take m) := by
  rcases h with h | ⟨b, o, hA, hc, hb, h⟩
  · subst h; exact .inl (by simp)
  · refine .inr ⟨b, o, hA, hc, hb, fun j v hv => h j v ?_⟩
    rw [List.getElem?_take] at hv
    split at hv
    · exact hv
    · cases hv
theorem Blk.row {σ : GW} {k b : Nat} {cs : List Value} {T : TypeId} (h : Blk σ k b cs T) : Row σ k (some ⟨b, 0, none⟩) cs :=
  .inr ⟨b, 0, rfl, h.col, h.lt, fun j v hv => by rw [Nat.zero_add]; exact h.cell hv⟩

/-! ### 3. Kinds of data: what a datum's cells say. What lies behind them has the colour 0. -/
structure Kd (α : Type) where
  sz : Nat
  R : GW → α → List Value → Prop
  len : ∀ {σ x cs}, R σ x cs → cs.length = sz
  ext : ∀ {σ σ' x cs ds}, R σ x cs → Ext σ σ' ds → 0 ∉ ds → R σ' x cs
  one : ∀ {σ x cs}, R σ x cs → ∀ v, v ∈ cs → v.oneCell' = true
/-- A kind of one cell that says all. -/
def Kd.sc {α : Type} (f : α → Value) (h1 : ∀ x, (f x).oneCell' = true) : Kd α where
  sz := 1
  R := fun _ x cs => cs = [f x]
  len := fun h => by subst h; rfl
  ext := fun h _ _ => h
  one := fun h v hv => by subst h; simp at hv; subst hv; exact h1 _
def kInt (k : IntKind) : Kd Int := .sc (Value.int k) fun _ => rfl
def kByte : Kd UInt8 := .sc (fun b => Value.int .u8 b.toNat) fun _ => rfl
def kBool : Kd Bool := .sc Value.bool fun _ => rfl
def kStr : Kd (List UInt8) := .sc str fun _ => rfl
/-- The cells cs are those of the data xs, one behind the other. -/
def Kd.Rs {α : Type} (d : Kd α) (σ : GW) : List α → List Value → Prop
  | [], cs => cs = []
  | x :: xs, cs => ∃ c r, cs = c ++ r ∧ d.R σ x c ∧ Kd.Rs d σ xs r
theorem Kd.Rs.ext {α : Type} {d : Kd α} {σ σ' : GW} {ds : List Nat} {xs : List α} {cs : List Value} (h : d.Rs σ xs cs) (e : Ext σ σ' ds) (h0 : 0 ∉ ds) : d.Rs σ' xs cs := by
  induction xs generalizing cs with
  | nil => exact h
  | cons x xs ih =>
    obtain ⟨c, r, rfl, hx, hr⟩ := h
    exact ⟨c, r, rfl, d.ext hx e h0, ih hr⟩
theorem Kd.Rs.len {α : Type} {d : Kd α} {σ : GW} {xs : List α} {cs : List Value} (h : d.Rs σ xs cs) : cs.length = xs.length * d.sz := by
  induction xs generalizing cs with
  | nil => subst h; simp
  | cons x xs ih =>
    obtain ⟨c, r, rfl, hx, hr⟩ := h
    simp [d.len hx, ih hr, Nat.succ_mul, Nat.add_comm]
theorem Kd.Rs.append {α : Type} {d : Kd α} {σ : GW} {xs ys : List α} {cs es : List Value} (h : d.Rs σ xs cs) (k : d.Rs σ ys es) : d.Rs σ (xs ++ ys) (cs ++ es) := by
  induction xs generalizing cs with
  | nil => subst h; exact k
  | cons x xs ih =>
    obtain ⟨c, r, rfl, hx, hr⟩ := h
    exact ⟨c, r ++ es, by simp, hx, ih hr⟩
theorem Kd.Rs.one {α : Type} {d : Kd α} {σ : GW} {x : α} {cs : List Value} (h : d.R σ x cs) : d.Rs σ [x] cs := ⟨cs, [], by simp, h, rfl⟩
/-- The datum at place i: its cells. -/
theorem Kd.Rs.at_ {α : Type} {d : Kd α} {σ : GW} {xs : List α} {cs : List Value} (h : d.Rs σ xs cs) {i : Nat} {x : α} (hx : xs[i]? = some x) :
    d.R σ x ((cs.drop (i * d.sz)).take d.sz) := by
  induction xs generalizing cs i with
  | nil => simp at hx
  | cons y xs ih =>
    obtain ⟨c, r, rfl, hy, hr⟩ := h
    cases i with
    | zero =>
      simp at hx; subst hx
      have := d.len hy
      simp [← this]; exact hy
    | succ i =>
      have hc := d.len hy
      have := ih hr (i := i) (by simpa using hx)
      have e : (c ++ r).drop ((i + 1) * d.sz) = r.drop (i * d.sz) := by
        rw [Nat.succ_mul, Nat.add_comm, ← hc, List.drop_append]
        simp
      rw [e]; exact this
theorem Kd.Rs.drop {α : Type} {d : Kd α} {σ : GW} {xs : List α} {cs : List Value} (h : d.Rs σ xs cs) (i : Nat) : d.Rs σ (xs.drop i) (cs.drop (i * d.sz)) := by
  induction xs generalizing cs i with
  | nil => subst h; simp [Kd.Rs]
  | cons y xs ih =>
    obtain ⟨c, r, rfl, hy, hr⟩ := h
    cases i with
    | zero => simp; exact ⟨c, r, rfl, hy, hr⟩
    | succ i =>
      have hc := d.len hy
      have e : (c ++ r).drop ((i + 1) * d.sz) = r.drop (i * d.sz) := by
        rw [Nat.succ_mul, Nat.add_comm, ← hc, List.drop_append]
        simp
      rw [e]; simpa using ih hr i
theorem Kd.Rs.take {α : Type} {d : Kd α} {σ : GW} {xs : List α} {cs : List Value} (h : d.Rs σ xs cs) (i : Nat) : d.Rs σ (xs.take i) (cs.take (i * d.sz)) := by
  induction xs generalizing cs i with
  | nil => subst h; simp [Kd.Rs]
  | cons y xs ih =>
    obtain ⟨c, r, rfl, hy, hr⟩ := h
    cases i with
    | zero => simp [Kd.Rs]
    | succ i =>
      have hc := d.len hy
      have e : (c ++ r).take ((i + 1) * d.sz) = c ++ r.take (i * d.sz) := by
        rw [Nat.succ_mul, Nat.add_comm, ← hc, List.take_append, List.take_of_length_le (Nat.le_add_right _ _)]
        simp
      rw [e]; exact ⟨c, _, rfl, hy, ih hr i⟩
/-- v is a slice that reads as xs; its own row has the colour k. -/
def Sl {α : Type} (d : Kd α) (σ : GW) (k : Nat) (v : Value) (xs : List α) : Prop :=
  ∃ A c cs, v = .slice A xs.length c ∧ xs.length ≤ c ∧ c ≤ 9223372036854775807 ∧ d.Rs σ xs cs ∧ Row σ k A cs
theorem Sl.ext {α : Type} {d : Kd α} {σ σ' : GW} {k : Nat} {v : Value} {xs : List α} {ds : List Nat} (h : Sl d σ k v xs) (e : Ext σ σ' ds) (h0 : 0 ∉ ds) (hk : k ∉ ds) : Sl d σ' k v xs := by
  obtain ⟨A, c, cs, h1, h2, h2', h3, h4⟩ := h
  exact ⟨A, c, cs, h1, h2, h2', h3.ext e h0, h4.ext e hk⟩
/-- A slice in a cell. -/
def kSl {α : Type} (d : Kd α) : Kd (List α) where
  sz := 1
  R := fun σ xs cs => ∃ v, cs = [v] ∧ Sl d σ 0 v xs
  len := fun ⟨_, h, _⟩ => by subst h; rfl
  ext := fun ⟨v, h, hs⟩ e h0 => ⟨v, h, hs.ext e h0 h0⟩
  one := fun ⟨v, h, ⟨_, _, _, hv, _⟩⟩ u hu => by subst h; simp at hu; subst hu; subst hv; rfl
def kPair {α β : Type} (d : Kd α) (e : Kd β) : Kd (α × β) where
  sz := d.sz + e.sz
  R := fun σ x cs => ∃ c r, cs = c ++ r ∧ d.R σ x.1 c ∧ e.R σ x.2 r
  len := fun ⟨_, _, h, h1, h2⟩ => by subst h; simp [d.len h1, e.len h2]
  ext := fun ⟨c, r, h, h1, h2⟩ k h0 => ⟨c, r, h, d.ext h1 k h0, e.ext h2 k h0⟩
  one := fun ⟨c, r, h, h1, h2⟩ v hv => by subst h; rcases List.mem_append.1 hv with hv | hv; exact d.one h1 v hv; exact e.one h2 v hv
def kIso {α β : Type} (d : Kd α) (f : β → α) : Kd β where
  sz := d.sz
  R := fun σ x cs => d.R σ (f x) cs
  len := fun h => d.len h
  ext := fun h e h0 => d.ext h e h0
  one := fun h => d.one h
theorem Kd.Rs.one_ {α : Type} {d : Kd α} {σ : GW} {xs : List α} {cs : List Value} (h : d.Rs σ xs cs) : ∀ v, v ∈ cs → v.oneCell' = true := by
  induction xs generalizing cs with
  | nil => subst h; intro v hv; cases hv
  | cons x xs ih =>
    obtain ⟨c, r, rfl, hx, hr⟩ := h
    intro v hv
    rcases List.mem_append.1 hv with hv | hv
    · exact d.one hx v hv
    · exact ih hr v hv
abbrev Bs (σ : GW) (k : Nat) (v : Value) (bs : List UInt8) : Prop := Sl kByte σ k v bs
end Go.Stp
