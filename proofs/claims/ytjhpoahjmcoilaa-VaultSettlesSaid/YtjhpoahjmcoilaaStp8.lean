/-
  The step rules, eighth part: colours turned, capacities, a row of zeros, bytes as texts, new slices.
-/
import Derived.Test.YtjhpoahjmcoilaaStp7
import Derived.Lib.AppendZeros
import Derived.Laws.BytesArg
import Derived.Lib.ConvBytes
set_option linter.unusedSimpArgs false
set_option linter.unusedVariables false
namespace Go.Stp
open Go.RowKit

/-- The colour k turned into k'. -/
def GW.rec_ (σ : GW) (k k' : Nat) : GW := ⟨σ.w, fun b => if σ.c b = k then k' else σ.c b⟩
theorem GW.ext_rec (σ : GW) (k k' : Nat) : Ext σ (σ.rec_ k k') [k] := ⟨rfl, rfl, rfl, Nat.le_refl _, fun _ _ _ => rfl, fun b _ hc => by
  have : σ.c b ≠ k := fun e => hc (by simp [e])
  simp [GW.rec_, this]⟩
theorem GW.w_rec (σ : GW) (k k' : Nat) : (σ.rec_ k k').w = σ.w := rfl
theorem Row.rec_ {σ : GW} {k k' : Nat} {A : Option Addr} {cs : List Value} (h : Row σ k A cs) : Row (σ.rec_ k k') k' A cs := by
  rcases h with h | ⟨b, o, hA, hc, hb, h⟩
  · exact .inl h
  · exact .inr ⟨b, o, hA, by simp [GW.rec_, hc], hb, h⟩
theorem Blk.rec_ {σ : GW} {k k' b : Nat} {cs : List Value} {T : TypeId} (h : Blk σ k b cs T) : Blk (σ.rec_ k k') k' b cs T := ⟨h.heap, by simp [GW.rec_, h.col]⟩
theorem Sl.rec_ {α : Type} {d : Kd α} {σ : GW} {k k' : Nat} {v : Value} {xs : List α} (h : Sl d σ k v xs) (hk : k ≠ 0) : Sl d (σ.rec_ k k') k' v xs := by
  obtain ⟨A, c, cs, h1, h2, h2', h3, h4⟩ := h
  exact ⟨A, c, cs, h1, h2, h2', h3.ext (σ.ext_rec k k') (by simpa using Ne.symm hk), h4.rec_⟩
theorem Ow.rec_ {α : Type} {d : Kd α} {σ : GW} {k k' : Nat} {T : TypeId} {v : Value} {xs : List α} (h : Ow d σ k T v xs) (hk : k ≠ 0) : Ow d (σ.rec_ k k') k' T v xs := by
  obtain ⟨A, c, h1, h2, h3, h⟩ := h
  refine ⟨A, c, h1, h2, h3, ?_⟩
  rcases h with h | ⟨b, o, cur, hA, hb, hl, hr⟩
  · exact .inl h
  · exact .inr ⟨b, o, cur, hA, hb.rec_, hl, hr.ext (σ.ext_rec k k') (by simpa using Ne.symm hk)⟩
/-- What is one's own is given up: from now on it is read alone. -/
theorem L.recolor {P : Program} {n : Nat} {Q : Exit → Act → World → Prop} {l : Env} {σ : GW} {ops : Array Oper} {rest : List Oper} (k k' : Nat) (h : ∀ σ', Ext σ σ' [k] → σ' = σ.rec_ k k' → L P n ops Q rest l σ') : L P n ops Q rest l σ :=
  h (σ.rec_ k k') (σ.ext_rec k k') rfl
theorem E.recolor {P : Program} {n : Nat} {Q : Exit → Act → World → Prop} {l : Env} {σ : GW} {c : Code} (k k' : Nat) (h : ∀ σ', Ext σ σ' [k] → σ' = σ.rec_ k k' → E P n c Q l σ') : E P n c Q l σ :=
  h (σ.rec_ k k') (σ.ext_rec k k') rfl
theorem X.recolor {n : Nat} {q : Act → World → Prop} {l : Env} {σ : GW} (k k' : Nat) (h : ∀ σ', Ext σ σ' [k] → σ' = σ.rec_ k k' → X n q l σ') : X n q l σ :=
  h (σ.rec_ k k') (σ.ext_rec k k') rfl
section
variable {P : Program} {n : Nat} {Q : Exit → Act → World → Prop} {l : Env} {σ : GW} {ops : Array Oper} {K : Env → GW → Prop} {S : World → Prop}
  {d : Nat} {dd : Option Nat} {ty : TypeId} {pos : String} {aft : Array Edge} {g : Option (Nat × Bool)} {x y z m : Operand} {v u : Value}
theorem Y.capSl {T EE : TypeId} {A : Option Addr} {a c : Nat} (hu : P.underlying T = some (.slice EE)) (hx : opd l x = some (.slice A a c)) :
    Y P l S ⟨dd, .call ⟨.builtin .cap, #[x], #[T]⟩, ty, pos, aft, g⟩ (.int .i64 c) := fun ρ hρ w _ => by
  have h1 := run_underlying hu (w := w)
  simp [execOp, resolve, invoke, builtin, Builtin.cap_, hρ x _ hx, h1, goInt]
theorem bytes_cells {σ : GW} {bs : List UInt8} {cs : List Value} : kByte.Rs σ bs cs ↔ cs = bs.map fun b => Value.int .u8 b.toNat := by
  induction bs generalizing cs with
  | nil => exact Iff.rfl
  | cons b bs ih =>
    constructor
    · rintro ⟨c, r, rfl, hx, hr⟩
      have : c = [Value.int .u8 b.toNat] := hx
      subst this
      rw [ih.1 hr]; rfl
    · rintro rfl
      exact ⟨[_], _, rfl, rfl, ih.2 rfl⟩
/-- string(b), b read. -/
theorem Y.toStr {T U EE : TypeId} {k : Nat} {bs : List UInt8} (hT : P.underlying T = some (.slice EE)) (hE : P.underlying EE = some (.int .u8)) (hU : P.underlying U = some .string) (hS : ∀ w, S w → ∃ τ : GW, τ.w = w ∧ Bs τ k v bs) (hx : opd l x = some v) :
    Y P l S ⟨dd, .convert T U x, ty, pos, aft, g⟩ (str bs) := fun ρ hρ w hw => by
  obtain ⟨τ, rfl, A, c, cs, rfl, _, _, hr, hrow⟩ := hS w hw
  simp only [execOp, hρ x _ hx]
  refine run_v ?_
  have hcs := bytes_cells.1 hr
  rcases hrow with h | ⟨b, o, rfl, _, _, h⟩
  · have hb : bs = [] := by subst h; simpa using hcs.symm
    subst hb
    cases A with
    | none => exact run_convert_bytes_nil τ.w T EE hT hE 0 c U hU
    | some a =>
      have h1 := run_underlying hT (w := τ.w)
      have h2 := run_underlying hU (w := τ.w)
      have h3 := run_underlying hE (w := τ.w)
      simp [convert, h1, h2, h3, Conv.bytesToString, loadCells, loadCellsFrom]
      rfl
  · have := run_convert_bytes_arg τ.w T EE hT hE b o bs.length c (bs.map fun b => (b.toNat : Int)) (by simp) (fun i hi => by
      rw [h i (.int .u8 bs[i].toNat) (by rw [hcs]; simp [hi])]
      simp [List.getD_eq_getElem?_getD, hi]) U hU
    rw [this]
    simp only [str, strOfNums, List.map_map]
    congr 3
    have : ((fun n : Int => UInt8.ofNat n.toNat) ∘ fun b : UInt8 => (b.toNat : Int)) = id := by funext b; simp
    rw [this, List.map_id]
/-- []byte(s). -/
theorem O.toBytes {T U EE : TypeId} (k : Nat) {bs : List UInt8} (hT : P.underlying T = some .string) (hU : P.underlying U = some (.slice EE)) (hE : P.underlying EE = some (.int .u8)) (hx : opd l x = some (str bs)) (hl : bs.length ≤ 9223372036854775807)
    (hw : Wants ops l ⟨some d, .convert T U x, ty, pos, aft, g⟩ = some true) (hd : Nat.blt d n = true)
    (h : ∀ v σ', Ext σ σ' [] → Bs σ' k v bs → K ((d, v) :: l) σ') : O P n ops Q ⟨some d, .convert T U x, ty, pos, aft, g⟩ l σ K := by
  have hr := Lib.run_convert_string_bytes σ.w T U EE ⟨bs.toArray⟩ hT hU hE
  have hge := grownCap_ge σ.w bs.length 0 EE
  have hle := grownCap_le_maxLen σ.w bs.length 0 EE (by simp only [maxLen]; omega)
  simp only [maxLen] at hle
  refine O.val (σ' := ⟨Lib.bytesWorld σ.w EE ⟨bs.toArray⟩, fun i => if i = σ.w.heap.size then k else σ.c i⟩) (v := .slice (some ⟨σ.w.heap.size, 0, none⟩) bs.length (grownCap σ.w bs.length 0 EE)) (fun ρ hρ => ?_) hw rfl hd (h _ _ ?_ ?_)
  · simp only [execOp, hρ x _ hx]
    exact run_v hr
  · exact ⟨rfl, rfl, rfl, by simp [Lib.bytesWorld_size], fun b hb _ => Lib.bytesWorld_at_old _ _ _ _ hb, fun b hb _ => by simp [Nat.ne_of_lt hb]⟩
  · refine ⟨_, _, _, rfl, hge, by omega, bytes_cells.2 rfl, .inr ⟨σ.w.heap.size, 0, rfl, by simp, by simp [Lib.bytesWorld_size], fun j u hu => ?_⟩⟩
    have hj : j < bs.length := by
      have := (List.getElem?_eq_some_iff.1 hu).1
      simpa using this
    rw [Nat.zero_add, Lib.bytesWorld_cell σ.w EE ⟨bs.toArray⟩ j hj, ← hu]
    simp [List.getD_eq_getElem?_getD, hj]
/-- append(nil, make([]T, n)...), n at least 1. -/
theorem O.growNil {T t tn : TypeId} {ik kn : IntKind} {i : Int} {sz bytes : Nat} (k nn : Nat) (ht : P.underlying t = some (.slice T)) (htn : P.underlying tn = some (.int kn)) (hE : Elem P T sz bytes) (hsz : 0 < sz)
    (hx : opd l x = some (.slice none 0 0)) (hy : opd l y = some (.int ik i)) (hi : i = (nn : Int)) (h0 : 0 < nn) (h48 : nn * bytes ≤ 281474976710656) (hbz : 0 < bytes)
    (hw : Wants ops l ⟨some d, .call ⟨.builtin .append, #[x, y], #[t, tn]⟩, ty, pos, aft, g⟩ = some true) (hd : Nat.blt d n = true)
    (h : ∀ σ' b c cs, Ext σ σ' [] → Blk σ' k b cs T → nn ≤ c → c ≤ 9223372036854775807 → cs.length = c * sz → K ((d, .slice (some ⟨b, 0, none⟩) nn c) :: l) σ') :
    O P n ops Q ⟨some d, .call ⟨.builtin .append, #[x, y], #[t, tn]⟩, ty, pos, aft, g⟩ l σ K := by
  subst hi
  obtain ⟨ii, z, hi, hz, hisz, rfl, hzs⟩ := hE
  have hsmall : nn ≤ 281474976710656 := Nat.le_trans (Nat.le_mul_of_pos_right _ hbz) h48
  have hr := Lib.run_append_nil_zeros σ.w t tn ty T ii z ik kn ht htn hi hz nn h0 (by omega) (by omega) h48
  have hge := grownCap_ge σ.w nn 0 T
  have hle := grownCap_le_maxLen σ.w nn 0 T (by simp only [maxLen]; omega)
  simp only [maxLen] at hle
  have hl : (Builtin.zeroCells z.cells nn ++ Builtin.zeroCells z.cells (grownCap σ.w nn 0 T - nn)).size = grownCap σ.w nn 0 T * sz := by
    rw [Array.size_append, size_zeroCells, size_zeroCells, hzs, ← Nat.add_mul]; congr 1; omega
  generalize Builtin.zeroCells z.cells nn ++ Builtin.zeroCells z.cells (grownCap σ.w nn 0 T - nn) = Z at *
  generalize grownCap σ.w nn 0 T = C at *
  have hb := GW.blk_new σ.drew k Z.toList T
  rw [Array.toArray_toList] at hb
  refine O.val (σ' := σ.drew.new k (.cells Z T)) (fun ρ hρ => ?_) hw rfl hd (h _ _ C Z.toList (((GW.ext_drew σ).trans (GW.ext_new ..))) hb hge (by omega) (by simpa using hl))
  simp [execOp, resolve, invoke, builtin, hρ x _ hx, hρ y _ hy, hr]
  exact ⟨rfl, rfl⟩
end
end Go.Stp
