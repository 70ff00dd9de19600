/-
  The step rules, seventh part: literals of structs, arrays and slices; texts as bytes and back; a slice held against nil.
-/
import Derived.Test.YtjhpoahjmcoilaaStp6
set_option linter.unusedSimpArgs false
set_option linter.unusedVariables false
namespace Go.Stp
open Go.RowKit

def fillF (place : Nat → Option (Nat × Nat)) (cs : List Value) : List (Nat × Value) → Option (List Value)
  | [] => some cs
  | (i, v) :: r =>
    match place i with
    | none => none
    | some (o, s) => if Nat.beq v.cells.toList.length s && Nat.ble (o + s) cs.length then fillF place (splice cs o v.cells.toList) r else none
theorem foldl_set (es : List Value) : ∀ (A : Array Value) (o j : Nat), (es.zipIdx j).foldl (fun cs (x : Value × Nat) => cs.setIfInBounds (o + x.2) x.1) A = (splice A.toList (o + j) es).toArray := by
  induction es with
  | nil => intro A o j; simp [splice]
  | cons v es ih =>
    intro A o j
    simp only [List.zipIdx_cons, List.foldl_cons, splice]
    rw [ih]
    simp [Nat.add_assoc]
theorem fill_eq (place : Nat → Option (Nat × Nat)) (ps : List (Nat × Value)) : ∀ (cs : List Value) (es : List Value), fillF place cs ps = some es → Instr.fill place cs.toArray ps = some es.toArray := by
  induction ps with
  | nil => intro cs es h; simp [fillF] at h; subst h; rfl
  | cons p ps ih =>
    obtain ⟨i, v⟩ := p
    intro cs es h
    simp only [fillF] at h
    unfold Instr.fill
    cases hp : place i with
    | none => simp [hp] at h
    | some os =>
      obtain ⟨o, s⟩ := os
      simp only [hp] at h ⊢
      split at h
      · rename_i hc
        simp only [Bool.and_eq_true] at hc
        have h1 : v.cells.size = s := by simpa using Nat.eq_of_beq_eq_true hc.1
        have h2 : o + s ≤ cs.length := Nat.le_of_ble_eq_true hc.2
        have h3 : ¬ ((decide (v.cells.size ≠ s) || decide (o + v.cells.size > cs.toArray.size)) = true) := by
          simp [h1]; omega
        rw [if_neg h3]
        have hf : v.cells.zipIdx.foldl (fun cs (x : Value × Nat) => cs.setIfInBounds (o + x.2) x.1) cs.toArray = (splice cs o v.cells.toList).toArray := by
          rw [← Array.foldl_toList, Array.toList_zipIdx]
          have := foldl_set v.cells.toList cs.toArray o 0
          simpa using this
        rw [hf]
        exact ih _ _ h
      · cases h
/-- The values of a literal's parts. -/
def parts (l : Env) : List (Nat × Operand) → Option (List (Nat × Value))
  | [] => some []
  | (i, x) :: xs => match opd l x, parts l xs with
    | some v, some r => some ((i, v) :: r)
    | _, _ => none
theorem parts.spec {l : Env} {xs : List (Nat × Operand)} {vs : List (Nat × Value)} (h : parts l xs = some vs) (ρ : Operand → Value) (hρ : ∀ x u, opd l x = some u → ρ x = u) : xs.toArray.map (fun (i, x) => (i, ρ x)) = vs.toArray := by
  induction xs generalizing vs with
  | nil => simp [parts] at h; subst h; simp
  | cons x xs ih =>
    obtain ⟨i, x⟩ := x
    simp only [parts] at h
    split at h
    · rename_i v r hv hr
      simp at h; subst h
      have := ih hr
      simp at this
      simp [hρ x v hv, this]
    · cases h
/-- The values, by their places from i on. -/
def enum (i : Nat) : List Value → List (Nat × Value)
  | [] => []
  | v :: vs => (i, v) :: enum (i + 1) vs
def flat : List Value → List Value
  | [] => []
  | v :: vs => v.cells.toList ++ flat vs
theorem splice_take (es : List Value) : ∀ (cs : List Value) (o : Nat), o + es.length ≤ cs.length → splice cs o es = cs.take o ++ es ++ cs.drop (o + es.length) := by
  intro cs o h
  apply List.ext_getElem?
  intro i
  rw [splice_get _ _ _ _ h, List.append_assoc, List.getElem?_append, List.getElem?_append]
  simp only [List.length_take]
  by_cases h1 : i < o
  · rw [if_neg (by omega), if_pos (by omega), List.getElem?_take, if_pos h1]
  · by_cases h2 : i < o + es.length
    · rw [if_pos (by omega), if_neg (by omega), if_pos (by omega), show min o cs.length = o by omega]
    · rw [if_neg (by omega), if_neg (by omega), if_neg (by omega), List.getElem?_drop]
      congr 1; omega
theorem fillF_enum (s : Nat) (vs : List Value) : ∀ (i : Nat) (cs : List Value), (∀ v, v ∈ vs → v.cells.toList.length = s) → (i + vs.length) * s ≤ cs.length →
    fillF (fun i => some (i * s, s)) cs (enum i vs) = some (cs.take (i * s) ++ flat vs ++ cs.drop ((i + vs.length) * s)) := by
  induction vs with
  | nil => intro i cs _ _; simp [enum, fillF, flat]
  | cons v vs ih =>
    intro i cs h1 hl
    simp only [enum, fillF, flat]
    have hv := h1 v (by simp)
    simp only [List.length_cons] at hl
    have hl2 : i * s + s + vs.length * s ≤ cs.length := by
      have : (i + (vs.length + 1)) * s = i * s + s + vs.length * s := by rw [Nat.add_mul, Nat.succ_mul]; omega
      omega
    have hc : (Nat.beq v.cells.toList.length s && Nat.ble (i * s + s) cs.length) = true := by
      simp only [Bool.and_eq_true]
      exact ⟨by rw [hv]; simp, by rw [Nat.ble_eq]; omega⟩
    rw [if_pos hc]
    have hsp : i * s + v.cells.toList.length ≤ cs.length := by rw [hv]; omega
    have e0 : (i + 1 + vs.length) * s = i * s + s + vs.length * s := by rw [Nat.add_mul, Nat.succ_mul]
    rw [ih (i + 1) _ (fun u hu => h1 u (by simp [hu])) (by rw [splice_length, e0]; exact hl2)]
    rw [splice_take _ _ _ hsp, hv]
    have e1 : (i + 1) * s = i * s + s := Nat.succ_mul i s
    have e2 : (i + (vs.length + 1)) * s = (i + 1 + vs.length) * s := by congr 1; omega
    have e3 : (i + 1 + vs.length) * s = i * s + s + vs.length * s := by rw [Nat.add_mul, e1]
    simp only [List.length_cons]
    rw [e2, e1, e3]
    have l1 : (cs.take (i * s) ++ v.cells.toList).length = i * s + s := by simp [hv] at hsp ⊢; have := hv; simp at this; omega
    congr 1
    rw [List.take_append_of_le_length (by rw [l1]; exact Nat.le_refl _), List.take_of_length_le (by rw [l1]; exact Nat.le_refl _), List.drop_append, l1, List.drop_eq_nil_of_le (by rw [l1]; omega), List.drop_drop]
    simp only [List.append_assoc, List.nil_append]
    congr 4; omega
section
variable {P : Program} {n : Nat} {Q : Exit → Act → World → Prop} {l : Env} {σ : GW} {ops : Array Oper} {K : Env → GW → Prop} {S : World → Prop}
  {d : Nat} {dd : Option Nat} {ty : TypeId} {pos : String} {aft : Array Edge} {g : Option (Nat × Bool)} {x y z m : Operand} {v u : Value}
theorem E.condTh {c1 c2 : Code} {t : Operand} {b : Bool} (ht : opd l t = some (.bool b)) (hb : b = true) (h1 : E P n c1 Q l σ) : E P n (.cond t c1 c2) Q l σ := by subst hb; exact E.condT ht h1
theorem E.condFh {c1 c2 : Code} {t : Operand} {b : Bool} (ht : opd l t = some (.bool b)) (hb : b = false) (h1 : E P n c2 Q l σ) : E P n (.cond t c1 c2) Q l σ := by subst hb; exact E.condF ht h1
/-- A loop; what follows a round is told by a name. -/
theorem E.loopK {α : Type} {c : Code} (I : α → Env → GW → Prop) (μ : α → Nat) (x0 : α) (l0 : Env) (h0 : I x0 l0 σ) (hs : Sub l0 l)
    (round : ∀ x l σ, I x l σ → ∀ K : Act → World → Prop, (∀ x' l' σ' a, Fr a n l' → I x' l' σ' → μ x' < μ x → K a σ'.w) → E P n c (Exit.then K Q) l σ) : E P n (.loop c) Q l σ :=
  E.loop I μ x0 l0 h0 hs fun x l σ hI => round x l σ hI _ fun x' l' σ' a hf hI' hm => ⟨x', l', σ', hf, rfl, hI', hm⟩
theorem X.againK {α : Type} {I : α → Env → GW → Prop} {μ : α → Nat} {x0 : α} {K : Act → World → Prop} (hK : ∀ x' l' σ' a, Fr a n l' → I x' l' σ' → μ x' < μ x0 → K a σ'.w)
    (x' : α) (l' : Env) (hI : I x' l' σ) (hs : Sub l' l) (hm : μ x' < μ x0) : X n (Exit.then K Q .normal) l σ := fun a ha => hK x' l' σ a (ha.sub hs) hI hm
theorem run_buildSlice {T EE : TypeId} {s : Nat} {zv : Value} (hu : P.underlying T = some (.slice EE)) (hs : Size P EE s) (hz : Zero P EE zv) (vs : List Value) (h1 : ∀ v, v ∈ vs → v.cells.toList.length = s) (hm : vs.length * s ≤ 16777216) (w : World) :
    (Instr.buildSlice T vs.length (enum 0 vs).toArray).run P w = .ok (.slice (some ⟨w.heap.size, 0, none⟩) vs.length vs.length) (w.alloc (.cells (flat vs).toArray EE)) := by
  have hT := run_underlying hu (w := w)
  have hne : ¬ (16777216 < vs.length * s) := by omega
  have hfill : ∀ C : Array Value, C.size = vs.length * s → Instr.fill (fun i => some (i * s, s)) C (enum 0 vs) = some (flat vs).toArray := by
    intro C hC
    have := fillF_enum s vs 0 C.toList h1 (by simp [hC])
    have h2 := fill_eq _ _ _ _ this
    simp only [Array.toArray_toList] at h2
    rw [h2]
    simp [hC]
  unfold Instr.buildSlice
  by_cases h0 : vs.length * s = 0
  · have := hfill ((Array.range (vs.length * s)).map fun x => (#[] : Array Value)[x % (#[] : Array Value).size]!) (by simp)
    simp only [Sem.run_bind, hT, Result.andThen_ok, hs w]
    simp only [h0, if_true, Nat.not_lt_zero, if_false] at this ⊢
    simp [h0] at this ⊢
    simp [this, newRow]
  · have := hfill ((Array.range (vs.length * s)).map fun x => zv.cells[x % zv.cells.size]!) (by simp)
    simp only [Sem.run_bind, hT, Result.andThen_ok, hs w]
    simp [h0, hne, hz w, this, newRow]
theorem O.slLit {T EE : TypeId} {s : Nat} {zv : Value} (k : Nat) {ps : List (Nat × Operand)} {mm : Nat} (vs : List Value) (hu : P.underlying T = some (.slice EE)) (hs : Size P EE s) (hz : Zero P EE zv)
    (hp : parts l ps = some (enum 0 vs)) (hmm : mm = vs.length) (h1 : ∀ v, v ∈ vs → v.cells.toList.length = s) (hm : vs.length * s ≤ 16777216) (hw : Wants ops l ⟨some d, .buildSlice T mm ps.toArray, ty, pos, aft, g⟩ = some true) (hd : Nat.blt d n = true)
    (h : ∀ σ' b, Ext σ σ' [] → Blk σ' k b (flat vs) EE → K ((d, .slice (some ⟨b, 0, none⟩) vs.length vs.length) :: l) σ') : O P n ops Q ⟨some d, .buildSlice T mm ps.toArray, ty, pos, aft, g⟩ l σ K := by
  subst hmm
  refine O.val (σ' := σ.new k (.cells (flat vs).toArray EE)) (fun ρ hρ => ?_) hw rfl hd (h _ _ (GW.ext_new ..) (GW.blk_new ..))
  simp only [execOp]
  rw [parts.spec hp ρ hρ]
  exact run_v (run_buildSlice hu hs hz vs h1 hm σ.w)
/-- The places of a struct's fields. -/
def Places (P : Program) (T : TypeId) (pl : List (Nat × Nat)) : Prop := ∃ fs, P.underlying T = some (.struct fs) ∧ ∀ w, (fs.mapM fun f => do pure (f.offset, ← sizeOf f.type) : Sem (Array (Nat × Nat))).run P w = .ok pl.toArray w
theorem Y.stLit {T : TypeId} {pl : List (Nat × Nat)} {zs : List Value} {ps : List (Nat × Operand)} (vs : List (Nat × Value)) {cs : List Value} (hpl : Places P T pl) (hz : Zero P T (.agg zs.toArray))
    (hp : parts l ps = some vs) (hf : fillF (fun i => pl[i]?) zs vs = some cs) : Y P l S ⟨dd, .build T ps.toArray, ty, pos, aft, g⟩ (.agg cs.toArray) := fun ρ hρ w _ => by
  obtain ⟨fs, hu, hm⟩ := hpl
  have hT := run_underlying hu (w := w)
  simp only [execOp]
  rw [parts.spec hp ρ hρ]
  have h2 := fill_eq _ _ _ _ hf
  have h3 : (fun i => pl[i]?) = (fun i : Nat => (pl.toArray)[i]?) := by funext i; simp
  rw [h3] at h2
  refine run_v ?_
  unfold Instr.build
  have hc : (Value.agg zs.toArray).cells = zs.toArray := rfl
  simp only [Sem.run_bind, hz w, Result.andThen_ok, hT, hm w, Sem.run_pure, Value.cells]
  rw [h2]
  rfl
theorem run_eqNilSl {T EE : TypeId} {A : Option Addr} {a c : Nat} (hu : P.underlying T = some (.slice EE)) (w : World) (dep : Nat) : (Op.equalIn (dep + 1) T (.slice A a c) (.slice none 0 0)).run P w = .ok A.isNone w := by
  have hT := run_underlying hu (w := w)
  cases A <;> simp [Op.equalIn, hT]
theorem run_eqNilPtr {T EE : TypeId} {A : Option Addr} (hu : P.underlying T = some (.pointer EE)) (w : World) (dep : Nat) : (Op.equalIn (dep + 1) T (.pointer A) (.pointer none)).run P w = .ok A.isNone w := by
  have hT := run_underlying hu (w := w)
  cases A <;> simp [Op.equalIn, hT]
theorem Y.eqNilSl {T U EE : TypeId} {A : Option Addr} {a c : Nat} (hu : P.underlying T = some (.slice EE)) (hx : opd l x = some (.slice A a c)) (hy : opd l y = some (.slice none 0 0)) :
    Y P l S ⟨dd, .binOp .eql T x y U, ty, pos, aft, g⟩ (.bool A.isNone) := fun ρ hρ w _ => by
  have h1 : (Op.equalIn 10000 T (.slice A a c) (.slice none 0 0)).run P w = .ok A.isNone w := run_eqNilSl hu w 9999
  simp only [execOp, hρ x _ hx, hρ y _ hy]
  exact run_v (by simp [eqGuard, binOp, Op.equal, Op.maxDepth, h1])
theorem Y.neNilSl {T U EE : TypeId} {A : Option Addr} {a c : Nat} (hu : P.underlying T = some (.slice EE)) (hx : opd l x = some (.slice A a c)) (hy : opd l y = some (.slice none 0 0)) :
    Y P l S ⟨dd, .binOp .neq T x y U, ty, pos, aft, g⟩ (.bool (!A.isNone)) := fun ρ hρ w _ => by
  have h1 : (Op.equalIn 10000 T (.slice A a c) (.slice none 0 0)).run P w = .ok A.isNone w := run_eqNilSl hu w 9999
  simp only [execOp, hρ x _ hx, hρ y _ hy]
  exact run_v (by simp [eqGuard, binOp, Op.equal, Op.maxDepth, h1])
theorem Y.eqNilPtr {T U EE : TypeId} {A : Option Addr} (hu : P.underlying T = some (.pointer EE)) (hx : opd l x = some (.pointer A)) (hy : opd l y = some (.pointer none)) :
    Y P l S ⟨dd, .binOp .eql T x y U, ty, pos, aft, g⟩ (.bool A.isNone) := fun ρ hρ w _ => by
  have h1 : (Op.equalIn 10000 T (.pointer A) (.pointer none)).run P w = .ok A.isNone w := run_eqNilPtr hu w 9999
  simp only [execOp, hρ x _ hx, hρ y _ hy]
  exact run_v (by simp [eqGuard, binOp, Op.equal, Op.maxDepth, h1])
theorem Y.neNilPtr {T U EE : TypeId} {A : Option Addr} (hu : P.underlying T = some (.pointer EE)) (hx : opd l x = some (.pointer A)) (hy : opd l y = some (.pointer none)) :
    Y P l S ⟨dd, .binOp .neq T x y U, ty, pos, aft, g⟩ (.bool (!A.isNone)) := fun ρ hρ w _ => by
  have h1 : (Op.equalIn 10000 T (.pointer A) (.pointer none)).run P w = .ok A.isNone w := run_eqNilPtr hu w 9999
  simp only [execOp, hρ x _ hx, hρ y _ hy]
  exact run_v (by simp [eqGuard, binOp, Op.equal, Op.maxDepth, h1])
end
end Go.Stp
