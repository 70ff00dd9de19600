/-
  What came in, read, second part: bools, structs, data that are others under a new name.
-/
import Derived.Test.YtjhpoahjmcoilaaRd
set_option linter.unusedSimpArgs false
set_option linter.unusedVariables false
namespace Go.Stp
open Go.ChangeShapes Go.WideShapes Go.RowKit Go.Deep
section
variable {H : Type} {enc : TypeId × Value → H} {P : Program} {w : World} {base : Nat} {spare : Nat → Bool} {held : Bool}
theorem Rd.bool {T : TypeId} (hT : P.underlying T = some .bool) : Rd enc P w base spare held T kBool (fun _ => True) := by
  intro fuel cs x h
  obtain ⟨n, rfl, rfl⟩ := DataW.trod_bool hT h
  exact ⟨n, rfl, trivial⟩
theorem Rd.iso {α β : Type} {T : TypeId} {d : Kd α} {Q : α → Prop} (f : β → α) (g : α → β) (hfg : ∀ a, f (g a) = a) (h : Rd enc P w base spare held T d Q) : Rd enc P w base spare held T (kIso d f) (fun b => Q (f b)) := by
  intro fuel cs x hx
  obtain ⟨a, ha, hq⟩ := h fuel cs x hx
  exact ⟨g a, by show d.R _ (f (g a)) _; rw [hfg]; exact ha, by show Q (f (g a)); rw [hfg]; exact hq⟩
theorem Rd.mono {α : Type} {T : TypeId} {d : Kd α} {Q Q' : α → Prop} (h : Rd enc P w base spare held T d Q) (hQ : ∀ a, Q a → Q' a) : Rd enc P w base spare held T d Q' := by
  intro fuel cs x hx
  obtain ⟨a, ha, hq⟩ := h fuel cs x hx
  exact ⟨a, ha, hQ a hq⟩
/-- The fields fs of a struct, which begin off cells behind its begin, read as a datum of the kind d. -/
def RdF (enc : TypeId × Value → H) (P : Program) (w : World) (base : Nat) (spare : Nat → Bool) (held : Bool) (fs : List Field) (off : Nat) {α : Type} (d : Kd α) (Q : α → Prop) : Prop :=
  ∀ (fuel : Nat) (cs : List Value), (∀ f, f ∈ fs → ∃ y, DataW.trod enc P w base spare held fuel f.type ((cs.drop f.offset).take (P.cellsOf f.type)) = some y) → cs.length = off + d.sz → ∃ a, d.R (GW.old w) a (cs.drop off) ∧ Q a
theorem RdF.last {α : Type} {f : Field} {off : Nat} {d : Kd α} {Q : α → Prop} (ho : f.offset = off) (hc : P.cellsOf f.type = d.sz) (h : Rd enc P w base spare held f.type d Q) : RdF enc P w base spare held [f] off d Q := by
  intro fuel cs hf hl
  obtain ⟨y, hy⟩ := hf f (by simp)
  obtain ⟨a, ha, hq⟩ := h _ _ _ hy
  rw [hc, ho, List.take_of_length_le (by simp; omega)] at ha
  exact ⟨a, ha, hq⟩
theorem RdF.cons {α β : Type} {f : Field} {fs : List Field} {off : Nat} {d : Kd α} {e : Kd β} {Q : α → Prop} {Q' : β → Prop} (ho : f.offset = off) (hc : P.cellsOf f.type = d.sz) (h : Rd enc P w base spare held f.type d Q)
    (hr : RdF enc P w base spare held fs (off + d.sz) e Q') : RdF enc P w base spare held (f :: fs) off (kPair d e) (fun x => Q x.1 ∧ Q' x.2) := by
  intro fuel cs hf hl
  obtain ⟨y, hy⟩ := hf f (by simp)
  obtain ⟨a, ha, hq⟩ := h _ _ _ hy
  have hl' : cs.length = off + d.sz + e.sz := by rw [hl]; show off + (d.sz + e.sz) = _; omega
  obtain ⟨b, hb, hq'⟩ := hr fuel cs (fun g hg => hf g (by simp [hg])) hl'
  rw [hc, ho] at ha
  refine ⟨(a, b), ⟨_, _, ?_, ha, hb⟩, hq, hq'⟩
  rw [← List.drop_drop, List.take_append_drop]
theorem Rd.struct {α : Type} {T : TypeId} {fs : Array Field} {d : Kd α} {Q : α → Prop} (hT : P.underlying T = some (.struct fs)) (hc : P.cellsOf T = d.sz) (h : RdF enc P w base spare held fs.toList 0 d Q) : Rd enc P w base spare held T d Q := by
  intro fuel cs x hx
  obtain ⟨xs, n, rfl, rfl, hl, hlen, hf⟩ := DataW.trod_struct hT hx
  have key : ∀ f, f ∈ fs.toList → ∃ y, DataW.trod enc P w base spare held n f.type ((cs.drop f.offset).take (P.cellsOf f.type)) = some y := by
    intro f hm
    obtain ⟨i, hi⟩ := List.mem_iff_getElem?.1 hm
    have hi' : fs[i]? = some f := by simpa using hi
    have := hf i f hi'
    rw [this]
    have hlt : i < xs.length := by
      have := (Array.getElem?_eq_some_iff.1 hi').1
      omega
    exact ⟨_, List.getElem?_eq_getElem hlt⟩
  obtain ⟨a, ha, hq⟩ := h n cs key (by rw [hl, hc]; omega)
  exact ⟨a, by simpa using ha, hq⟩
end
end Go.Stp
