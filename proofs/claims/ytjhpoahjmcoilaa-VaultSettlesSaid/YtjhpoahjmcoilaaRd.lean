/-
  What came in, read: from the form's own reading of an argument ('DataW.trod') to the words of these texts ('Kd', 'Sl'): every old block has the colour 0.
-/
import Derived.Test.YtjhpoahjmcoilaaStp9
import Derived.ProofKit
import Derived.Deep.Slices
import Derived.Below
set_option linter.unusedSimpArgs false
set_option linter.unusedVariables false
namespace Go.Stp
open Go.ChangeShapes Go.WideShapes Go.RowKit Go.Deep
/-- The world as it came in. -/
def GW.old (w : World) : GW := ⟨w, fun _ => 0⟩
section
variable {H : Type} {enc : TypeId × Value → H} {P : Program} {w : World} {base : Nat} {spare : Nat → Bool} {held : Bool}
/-- What reads as a datum of the type T is of the kind d, and Q. -/
def Rd (enc : TypeId × Value → H) (P : Program) (w : World) (base : Nat) (spare : Nat → Bool) (held : Bool) (T : TypeId) {α : Type} (d : Kd α) (Q : α → Prop) : Prop :=
  ∀ fuel cs x, DataW.trod enc P w base spare held fuel T cs = some x → ∃ a, d.R (GW.old w) a cs ∧ Q a
theorem Rd.int {T : TypeId} {k : IntKind} (hT : P.underlying T = some (.int k)) : Rd enc P w base spare held T (kInt k) (fun n => (Lit.int k n).wf = true) := by
  intro fuel cs x h
  obtain ⟨n, rfl, rfl, hw⟩ := DataW.trod_int hT h
  exact ⟨n, rfl, hw⟩
theorem Rd.byte {T : TypeId} (hT : P.underlying T = some (.int .u8)) : Rd enc P w base spare held T kByte (fun _ => True) := by
  intro fuel cs x h
  obtain ⟨n, rfl, rfl, hw⟩ := DataW.trod_int hT h
  have hb : 0 ≤ n ∧ n ≤ 255 := by simpa [Lit.wf, IntKind.min, IntKind.max, IntKind.signed, IntKind.bits] using hw
  refine ⟨UInt8.ofNat n.toNat, ?_, trivial⟩
  show _ = [_]
  congr 2
  simp
  omega
theorem Rd.str {T : TypeId} (hT : P.underlying T = some .string) : Rd enc P w base spare held T kStr (fun s => s.length ≤ maxLen) := by
  intro fuel cs x h
  obtain ⟨s, rfl, rfl, hw⟩ := DataW.trod_string hT h
  exact ⟨s.data.toList, rfl, by simpa using hw⟩
theorem lt_of_cell {w : World} {a : Addr} {v : Value} (h : w.cell? a = some v) : a.block < w.heap.size := by
  unfold World.cell? at h
  cases hb : w.heap[a.block]? with
  | none => simp [hb] at h
  | some o => exact (Array.getElem?_eq_some_iff.1 hb).1
theorem Rd.slice {α : Type} {d : Kd α} {Q : α → Prop} {T E : TypeId} (hT : P.underlying T = some (.slice E)) (hc : P.cellsOf E = d.sz) (hsz : 0 < d.sz) (hE : Rd enc P w base spare held E d Q) :
    Rd enc P w base spare held T (kSl d) (fun xs => (∀ x, x ∈ xs → Q x) ∧ xs.length ≤ maxLen) := by
  intro fuel cs x h
  rcases open_slice hT h with ⟨rfl, _⟩ | ⟨a, len, cap, m, n, D, Pl, rfl, hb, hl, hm, hmm, hx, hi⟩
  · exact ⟨[], ⟨_, rfl, none, 0, [], rfl, by simp, by omega, rfl, .inl rfl⟩, by simp, by simp⟩
  · have hlm : len ≤ m := by rw [hmm]; split <;> omega
    have key : ∀ i, i ≤ len → ∃ xs es, xs.length = i ∧ d.Rs (GW.old w) xs es ∧ (∀ x, x ∈ xs → Q x) ∧ ∀ j v, es[j]? = some v → w.cell? (a.add j) = some v := by
      intro i
      induction i with
      | zero => intro _; exact ⟨[], [], rfl, rfl, by simp, by simp⟩
      | succ i ih =>
        intro hil
        obtain ⟨xs, es, hxl, hr, hq, hc'⟩ := ih (by omega)
        obtain ⟨cs', h1, h2⟩ := hi i (by omega)
        obtain ⟨y, hy, hqy⟩ := hE _ _ _ h2
        obtain ⟨_, hcl, hat⟩ := World.cells?_some h1
        refine ⟨xs ++ [y], es ++ cs', by simp [hxl], hr.append (Kd.Rs.one hy), ?_, ?_⟩
        · intro x hx
          rcases List.mem_append.1 hx with hx | hx
          · exact hq x hx
          · simp at hx; subst hx; exact hqy
        · intro j v hv
          have hel : es.length = i * d.sz := by rw [hr.len, hxl]
          by_cases hj : j < es.length
          · exact hc' j v (by rwa [List.getElem?_append_left hj] at hv)
          · rw [List.getElem?_append_right (by omega)] at hv
            have hlt : j - es.length < cs'.length := (List.getElem?_eq_some_iff.1 hv).1
            have := hat (j - es.length) (by omega)
            rw [hv] at this
            rw [← this, hc, Go.Deep.add_add]
            congr 2
            omega
    obtain ⟨xs, es, hxl, hr, hq, hc'⟩ := key len (Nat.le_refl _)
    subst hxl
    refine ⟨xs, ⟨_, rfl, some a, cap, es, rfl, hl, by simp only [maxLen] at hm; omega, hr, ?_⟩, hq, by omega⟩
    cases es with
    | nil => exact .inl rfl
    | cons e es =>
      have h0 := hc' 0 e rfl
      obtain ⟨b, o, s⟩ := a
      have hs : s = none := by simpa [Addr.add] using World.cell?_spot h0
      subst hs
      refine .inr ⟨b, o, rfl, rfl, ?_, fun j v hv => ?_⟩
      · have := lt_of_cell h0
        rwa [add_none] at this
      · have := hc' j v hv
        rwa [add_none] at this
/-- Behind the call: what stood there stands. -/
theorem below_of_ext {w : World} {σ' : GW} (h : Ext (GW.old w) σ' []) : Below w.heap.size w σ'.w :=
  ⟨h.os, h.tape, h.output, h.size, fun k hk => h.heap k hk (by simp)⟩
end
end Go.Stp
