/-
  The step rules, sixth part: slices that are one's own (Ow): append, make; texts as bytes and back.
-/
import Derived.Test.YtjhpoahjmcoilaaStp5
import Derived.Deep.AppendSrc
import Derived.Deep.Upon
set_option linter.unusedSimpArgs false
set_option linter.unusedVariables false
namespace Go.Stp
open Go.RowKit

theorem splice_get (es : List Value) : ∀ (cs : List Value) (o i : Nat), o + es.length ≤ cs.length →
    (splice cs o es)[i]? = if o ≤ i ∧ i < o + es.length then es[i - o]? else cs[i]? := by
  induction es with
  | nil => intro cs o i _; simp [splice]; intro h1 h2; omega
  | cons v es ih =>
    intro cs o i hl
    simp only [List.length_cons] at hl
    simp only [splice, List.length_cons]
    rw [ih _ _ _ (by simp; omega)]
    by_cases h1 : o = i
    · subst h1
      rw [if_neg (by omega), if_pos (by omega)]
      simp [show o < cs.length by omega]
    · by_cases h2 : o + 1 ≤ i ∧ i < o + 1 + es.length
      · rw [if_pos h2, if_pos (by omega)]
        obtain ⟨m, hm⟩ : ∃ m, i - o = m + 1 := ⟨i - o - 1, by omega⟩
        rw [hm, show i - (o + 1) = m by omega]
        simp
      · rw [if_neg h2, if_neg (by omega), List.getElem?_set_ne h1]
theorem splice_row (cs es : List Value) (o n : Nat) (h : o + n + es.length ≤ cs.length) :
    ((splice cs (o + n) es).drop o).take (n + es.length) = (cs.drop o).take n ++ es := by
  apply List.ext_getElem?
  intro i
  have hl : ((cs.drop o).take n).length = n := by simp; omega
  rw [List.getElem?_append, hl]
  by_cases h1 : i < n + es.length
  · rw [List.getElem?_take, if_pos h1, List.getElem?_drop, splice_get _ _ _ _ h]
    by_cases h2 : i < n
    · rw [if_neg (by omega), if_pos h2, List.getElem?_take, if_pos h2, List.getElem?_drop]
    · rw [if_pos (by omega), if_neg h2, show o + i - (o + n) = i - n by omega]
  · rw [List.getElem?_take, if_neg h1, if_neg (by omega), List.getElem?_eq_none (by omega)]

/-- v is a slice of one's own that reads as xs: nil, or in a block of the colour k and the elements' type T, whose places from its begin to its capacity are nobody else's. -/
def Ow {α : Type} (d : Kd α) (σ : GW) (k : Nat) (T : TypeId) (v : Value) (xs : List α) : Prop :=
  ∃ A c, v = .slice A xs.length c ∧ xs.length ≤ c ∧ c ≤ 9223372036854775807 ∧
    ((A = none ∧ c = 0) ∨ ∃ b o cur, A = some ⟨b, o, none⟩ ∧ Blk σ k b cur T ∧ o + c * d.sz ≤ cur.length ∧ d.Rs σ xs ((cur.drop o).take (xs.length * d.sz)))
theorem Ow.nil {α : Type} (d : Kd α) (σ : GW) (k : Nat) (T : TypeId) : Ow d σ k T (.slice none 0 0) [] := ⟨none, 0, rfl, by simp, by omega, .inl ⟨rfl, rfl⟩⟩
theorem Ow.ext {α : Type} {d : Kd α} {σ σ' : GW} {k : Nat} {T : TypeId} {v : Value} {xs : List α} {ds : List Nat} (h : Ow d σ k T v xs) (e : Ext σ σ' ds) (h0 : 0 ∉ ds) (hk : k ∉ ds) : Ow d σ' k T v xs := by
  obtain ⟨A, c, h1, h2, h3, h⟩ := h
  refine ⟨A, c, h1, h2, h3, ?_⟩
  rcases h with h | ⟨b, o, cur, hA, hb, hl, hr⟩
  · exact .inl h
  · exact .inr ⟨b, o, cur, hA, hb.ext e hk, hl, hr.ext e h0⟩
theorem Ow.sl {α : Type} {d : Kd α} {σ : GW} {k : Nat} {T : TypeId} {v : Value} {xs : List α} (h : Ow d σ k T v xs) : Sl d σ k v xs := by
  obtain ⟨A, c, h1, h2, h3, h⟩ := h
  rcases h with ⟨rfl, rfl⟩ | ⟨b, o, cur, rfl, hb, hl, hr⟩
  · have : xs = [] := List.eq_nil_of_length_eq_zero (by omega)
    subst this
    exact ⟨none, 0, [], h1, h2, h3, rfl, .inl rfl⟩
  · refine ⟨_, c, _, h1, h2, h3, hr, ?_⟩
    have := (hb.row.cut o (xs.length * d.sz))
    rwa [Nat.zero_add] at this
theorem Blk.sl {α : Type} {d : Kd α} {σ : GW} {k b : Nat} {T : TypeId} {cs : List Value} {xs : List α} (h : Blk σ k b cs T) (hr : d.Rs σ xs cs) (hm : xs.length ≤ 9223372036854775807) : Sl d σ k (.slice (some ⟨b, 0, none⟩) xs.length xs.length) xs :=
  ⟨_, _, cs, rfl, Nat.le_refl _, hm, hr, h.row⟩
theorem Blk.ow {α : Type} {d : Kd α} {σ : GW} {k b : Nat} {T : TypeId} {cs : List Value} {xs : List α} (h : Blk σ k b cs T) (hr : d.Rs σ xs cs) (hm : xs.length ≤ 9223372036854775807) : Ow d σ k T (.slice (some ⟨b, 0, none⟩) xs.length xs.length) xs :=
  ⟨_, _, rfl, Nat.le_refl _, hm, .inr ⟨b, 0, cs, rfl, h, by rw [hr.len]; omega, by rw [List.drop_zero, List.take_of_length_le (by rw [hr.len]; exact Nat.le_refl _)]; exact hr⟩⟩

/-- What an element type's row of the table says. -/
def Elem (P : Program) (T : TypeId) (sz bytes : Nat) : Prop := ∃ i z, P.info? T = some i ∧ i.zero = some z ∧ i.size = sz ∧ i.bytes = bytes ∧ z.cells.size = sz
theorem Elem.of {P : Program} {T : TypeId} {sz bytes : Nat} {z : Value} (h : (P.info? T).map (fun i => (i.zero, i.size, i.bytes)) = some (some z, sz, bytes)) (hz : z.cells.size = sz) : Elem P T sz bytes := by
  obtain ⟨i, hi, h⟩ := Option.map_eq_some_iff.1 h
  simp only [Prod.mk.injEq] at h
  exact ⟨i, z, hi, h.1, h.2.1, h.2.2, hz⟩
theorem drew_room {P : Program} {w : World} {t tx ty e : TypeId} {i : TypeInfo} (ht : P.underlying t = some (.slice e)) (hi : P.info? e = some i) {b off sLen sCap : Nat} {x : Value} {n : Nat} {news : List Value} (hs : Src P i.size tx x n news w)
    (hroom : sLen + n ≤ sCap) {cs : List Value} {T : TypeId} (hb : w.heap[b]? = some (.cells cs.toArray T (0, 0))) (hl : off + sLen * i.size + news.length ≤ cs.length) :
    (Builtin.append_ #[t, tx] ty #[.slice (some ⟨b, off, none⟩) sLen sCap, x]).run P w = .ok (.slice (some ⟨b, off, none⟩) (sLen + n) sCap) { w with heap := w.heap.setIfInBounds b (.cells (splice cs (off + sLen * i.size) news).toArray T (0, 0)) } := by
  have hst := run_storeCells (P := P) news w b (off + sLen * i.size) 0 cs T hb hs.one (by omega)
  simp only [Nat.add_zero] at hst
  rcases hs.kind with ⟨e', hk⟩ | hk <;> simp [Builtin.append_, run_underlying ht, run_underlying hk, sizeOf, typeInfo, hi, hs.len, hroom, hs.cells, add_none, hst]
/-- append: to a slice of one's own, out of whatever source whose cells are those of ys. -/
theorem Ow.append {P : Program} {α : Type} {d : Kd α} {σ : GW} {k : Nat} {T t tx ty : TypeId} {v : Value} {xs ys : List α} {bytes : Nat} (hO : Ow d σ k T v xs) (hk : k ≠ 0) (ht : P.underlying t = some (.slice T)) (hE : Elem P T d.sz bytes)
    {x : Value} {news : List Value} (hs : Src P d.sz tx x ys.length news σ.w) (hn : d.Rs σ ys news) (hsz : (xs.length + ys.length) * bytes ≤ 140737488355328) (hbz : 0 < bytes) :
    ∃ v' σ', (Builtin.append_ #[t, tx] ty #[v, x]).run P σ.w = .ok v' σ'.w ∧ Ext σ σ' [k] ∧ Ow d σ' k T v' (xs ++ ys) := by
  obtain ⟨i, z, hi, hz, hisz, rfl, hzs⟩ := hE
  obtain ⟨A, c, rfl, hxc, hc63, h⟩ := hO
  have hnl : news.length = ys.length * d.sz := hn.len
  have hsmall : xs.length + ys.length ≤ 140737488355328 := Nat.le_trans (Nat.le_mul_of_pos_right _ hbz) hsz
  rw [← hisz] at hs
  have grow : ∀ (A : Option Addr) (olds : List Value), c < xs.length + ys.length →
      (Builtin.firstCells i.size xs.length (.slice A xs.length c)).run P σ.w.drew = .ok olds.toArray σ.w.drew → d.Rs σ xs olds →
      ∃ v' σ', (Builtin.append_ #[t, tx] ty #[.slice A xs.length c, x]).run P σ.w = .ok v' σ'.w ∧ Ext σ σ' [k] ∧ Ow d σ' k T v' (xs ++ ys) := by
    intro A olds hg hold hor
    have hr := run_append_grow_src σ.w t tx ty T i z ht hi hz A xs.length c olds hold x ys.length news hs hg (by omega) (growslice_fits hg hsz)
    have hge := grownCap_ge σ.w (xs.length + ys.length) c T
    have hle := grownCap_le_maxLen σ.w (xs.length + ys.length) c T (by simp only [maxLen]; omega)
    simp only [maxLen] at hle
    have hzl : (Builtin.zeroCells z.cells (grownCap σ.w (xs.length + ys.length) c T - (xs.length + ys.length))).size = (grownCap σ.w (xs.length + ys.length) c T - (xs.length + ys.length)) * d.sz := by rw [size_zeroCells, hzs]
    generalize Builtin.zeroCells z.cells (grownCap σ.w (xs.length + ys.length) c T - (xs.length + ys.length)) = Z at *
    generalize grownCap σ.w (xs.length + ys.length) c T = C at *
    have he : (olds ++ news).toArray ++ Z = (olds ++ news ++ Z.toList).toArray := by apply Array.ext'; simp
    rw [he] at hr
    refine ⟨_, σ.drew.new k (.cells (olds ++ news ++ Z.toList).toArray T), hr, ((GW.ext_drew σ).trans (GW.ext_new ..)).mono (by simp), ?_⟩
    have hol : olds.length = xs.length * d.sz := hor.len
    refine ⟨_, C, by simp, by simp; omega, hle, .inr ⟨σ.w.heap.size, 0, _, rfl, GW.blk_new σ.drew k _ T, ?_, ?_⟩⟩
    · simp only [List.length_append, hol, hnl, Array.length_toList, hzl, Nat.zero_add]
      rw [← Nat.add_mul, ← Nat.add_mul]
      exact Nat.mul_le_mul_right _ (by omega)
    · rw [List.drop_zero, List.length_append, Nat.add_mul, ← hol, ← hnl, ← List.length_append, List.take_left']
      · exact (hor.ext (((GW.ext_drew σ).trans (GW.ext_new ..)).mono (ds := []) (by simp)) (by simp)).append (hn.ext (((GW.ext_drew σ).trans (GW.ext_new ..)).mono (ds := []) (by simp)) (by simp))
      · rfl
  rcases h with ⟨rfl, rfl⟩ | ⟨b, o, cur, rfl, hb, hl, hr⟩
  · have hx0 : xs = [] := List.eq_nil_of_length_eq_zero (by omega)
    subst hx0
    rcases Nat.eq_zero_or_pos ys.length with hy | hy
    · have hy0 : ys = [] := List.eq_nil_of_length_eq_zero hy
      subst hy0
      have hn0 : news = [] := hn
      subst hn0
      exact ⟨_, σ, run_append_nothing σ.w t tx ty T i ht hi none 0 0 (by omega) x hs, Ext.refl _ _, none, 0, rfl, by simp, by omega, .inl ⟨rfl, rfl⟩⟩
    · exact grow none [] (by simp; omega) (run_firstCells_none σ.w.drew i.size 0 0 0) rfl
  · by_cases hroom : xs.length + ys.length ≤ c
    · have hm : xs.length * d.sz + ys.length * d.sz ≤ c * d.sz := by rw [← Nat.add_mul]; exact Nat.mul_le_mul_right _ hroom
      have hrun := drew_room (ty := ty) ht hi hs hroom (off := o) hb.heap (by rw [hisz, hnl]; omega)
      rw [hisz] at hrun
      refine ⟨_, σ.put b _, hrun, GW.ext_put σ b k _ hb.col, some ⟨b, o, none⟩, c, by simp, by simp; omega, hc63, .inr ⟨b, o, _, rfl, GW.blk_put hb _, by rw [splice_length]; exact hl, ?_⟩⟩
      have hsp := splice_row cur news o (xs.length * d.sz) (by rw [hnl]; omega)
      rw [List.length_append, Nat.add_mul, ← hnl, hsp]
      have he := GW.ext_put σ b k (.cells (splice cur (o + xs.length * d.sz) news).toArray T (0, 0)) hb.col
      exact (hr.ext he (by simpa using Ne.symm hk)).append (hn.ext he (by simpa using Ne.symm hk))
    · refine grow _ _ (by omega) ?_ hr
      refine run_firstCells_some σ.w.drew i.size xs.length ⟨b, o, none⟩ xs.length c _ (by rw [hr.len, hisz]) fun j v hv => ?_
      rw [add_none]
      rw [List.getElem?_take] at hv
      split at hv
      · rw [List.getElem?_drop] at hv
        exact hb.cell hv
      · cases hv

section
variable {P : Program} {n : Nat} {Q : Exit → Act → World → Prop} {l : Env} {σ : GW} {ops : Array Oper} {K : Env → GW → Prop} {S : World → Prop}
  {d : Nat} {dd : Option Nat} {ty : TypeId} {pos : String} {aft : Array Edge} {g : Option (Nat × Bool)} {x y z m : Operand} {v u : Value}
theorem Sl.src {α : Type} {dk : Kd α} {k : Nat} {ys : List α} {tx T : TypeId} (hS : Sl dk σ k u ys) (htx : P.underlying tx = some (.slice T)) :
    ∃ news, Src P dk.sz tx u ys.length news σ.w ∧ dk.Rs σ ys news := by
  obtain ⟨A, c, cs, rfl, _, _, hr, hrow⟩ := hS
  refine ⟨cs, ?_, hr⟩
  have h1 := hr.one_
  rcases hrow with h | ⟨b, o, rfl, _, _, h⟩
  · subst h
    have hl : ys.length * dk.sz = 0 := by have := hr.len; simpa using this.symm
    cases A with
    | none =>
      rcases Nat.mul_eq_zero.1 hl with h0 | h0
      · have := Src.ofNil (P := P) σ.w (size := dk.sz) htx c
        rw [h0]; exact this
      · exact ⟨.inl ⟨_, htx⟩, fun _ => rfl, by simp [Builtin.firstCells], by simp [Builtin.firstCells], by simp [h0], by simp⟩
    | some a => exact Src.ofSlice σ.w htx a _ c [] (by rw [hl]; rfl) (by simp) (by simp)
  · exact Src.ofSlice σ.w htx ⟨b, o, none⟩ _ c cs hr.len (fun j u hu => by rw [add_none]; exact h j u hu) h1
theorem O.append {α : Type} {dk : Kd α} {k k2 : Nat} {T T' t tx : TypeId} {xs ys : List α} {bytes : Nat} (hO : Ow dk σ k T v xs) (hk : k ≠ 0) (hS : Sl dk σ k2 u ys) (ht : P.underlying t = some (.slice T)) (htx : P.underlying tx = some (.slice T')) (hE : Elem P T dk.sz bytes)
    (hx : opd l x = some v) (hy : opd l y = some u) (hsz : (xs.length + ys.length) * bytes ≤ 140737488355328) (hbz : 0 < bytes) (hw : Wants ops l ⟨some d, .call ⟨.builtin .append, #[x, y], #[t, tx]⟩, ty, pos, aft, g⟩ = some true) (hd : Nat.blt d n = true)
    (h : ∀ v' σ', Ext σ σ' [k] → Ow dk σ' k T v' (xs ++ ys) → K ((d, v') :: l) σ') : O P n ops Q ⟨some d, .call ⟨.builtin .append, #[x, y], #[t, tx]⟩, ty, pos, aft, g⟩ l σ K := by
  obtain ⟨news, hs, hn⟩ := hS.src (P := P) htx
  obtain ⟨v', σ', hr, he, ho⟩ := Ow.append (ty := ty) hO hk ht hE hs hn hsz hbz
  refine O.val (σ' := σ') (fun ρ hρ => ?_) hw rfl hd (h v' σ' he ho)
  simp [execOp, resolve, invoke, builtin, hρ x _ hx, hρ y _ hy, hr]
/-- append(b, s...), s a text. -/
theorem O.appendS {k : Nat} {T t tx : TypeId} {xs ys : List UInt8} {bytes : Nat} (hO : Ow kByte σ k T v xs) (hk : k ≠ 0) (ht : P.underlying t = some (.slice T)) (htx : P.underlying tx = some .string) (hE : Elem P T 1 bytes)
    (hx : opd l x = some v) (hy : opd l y = some (str ys)) (hsz : (xs.length + ys.length) * bytes ≤ 140737488355328) (hbz : 0 < bytes) (hw : Wants ops l ⟨some d, .call ⟨.builtin .append, #[x, y], #[t, tx]⟩, ty, pos, aft, g⟩ = some true) (hd : Nat.blt d n = true)
    (h : ∀ v' σ', Ext σ σ' [k] → Ow kByte σ' k T v' (xs ++ ys) → K ((d, v') :: l) σ') : O P n ops Q ⟨some d, .call ⟨.builtin .append, #[x, y], #[t, tx]⟩, ty, pos, aft, g⟩ l σ K := by
  have hs := Src.ofString (P := P) σ.w htx ⟨ys.toArray⟩
  have hb : ∀ ys : List UInt8, kByte.Rs σ ys (ys.map fun b => Value.int .u8 b.toNat) := by
    intro ys
    induction ys with
    | nil => rfl
    | cons b ys ih => exact ⟨[_], _, rfl, rfl, ih⟩
  obtain ⟨v', σ', hr, he, ho⟩ := Ow.append (ty := ty) hO hk ht hE hs (hb ys) hsz hbz
  refine O.val (σ' := σ') (fun ρ hρ => ?_) hw rfl hd (h v' σ' he (by simpa using ho))
  rw [show (Value.string ⟨ys.toArray⟩) = str ys from rfl] at hr
  simp [execOp, resolve, invoke, builtin, hρ x _ hx, hρ y _ hy, hr]
end
end Go.Stp
