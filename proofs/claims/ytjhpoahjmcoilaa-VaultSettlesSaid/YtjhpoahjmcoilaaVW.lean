/- The plain law of a vault: what a disk holds behind commands, syncs, settlings and crashes. No program in sight. -/
import Derived.Test.YtjhpoahjmcoilaaVQ
set_option linter.unusedSimpArgs false
set_option linter.unusedVariables false
namespace Go.Proofs.Ytjhpoahjmcoilaa
open Go.Stp
/-- The disk d is that of a vault that did the commands done; the first sure of them are sure, the first base of them are in the checkpoint. -/
structure VInv (d : DSt) (done : List (List UInt8)) (sure base : Nat) : Prop where
  on : d.on = true
  hs : sure ≤ done.length
  hb : base ≤ sure
  state : (d.state = [] ∧ base = 0) ∨ d.state = 61 :: marks (done.take base)
  log : d.log = (((done.take sure).drop base).map frame).flatten
  waits : d.waits = (done.drop sure).map frame
theorem VInv.new (r : Nat) : VInv ⟨r, true, [], [], []⟩ [] 0 0 := ⟨rfl, by simp, by simp, .inl ⟨rfl, rfl⟩, by simp, by simp⟩
theorem VInv.do {d : DSt} {done : List (List UInt8)} {sure base : Nat} (h : VInv d done sure base) (c : List UInt8) : VInv { d with waits := d.waits ++ [frame c] } (done ++ [c]) sure base := by
  have h1 := h.hs
  have h2 := h.hb
  refine ⟨h.on, by simp; omega, h.hb, ?_, ?_, ?_⟩
  · rw [List.take_append_of_le_length (by omega)]; exact h.state
  · rw [List.take_append_of_le_length (by omega)]; exact h.log
  · rw [List.drop_append_of_le_length (by omega)]; simp [h.waits]
theorem VInv.sync {d : DSt} {done : List (List UInt8)} {sure base : Nat} (h : VInv d done sure base) : VInv { d with log := d.log ++ d.waits.flatten, waits := [] } done done.length base := by
  have h1 := h.hs
  have h2 := h.hb
  refine ⟨h.on, by omega, by omega, h.state, ?_, by simp⟩
  simp only [h.log, h.waits, List.take_length]
  rw [← List.flatten_append, ← List.map_append]
  congr 2
  conv => rhs; rw [← List.take_append_drop sure done]
  rw [List.drop_append_of_le_length (by simp; omega)]
theorem VInv.settle {d : DSt} {done : List (List UInt8)} {sure base : Nat} (h : VInv d done sure base) : VInv { d with state := 61 :: marks done, log := [], waits := [] } done done.length done.length :=
  ⟨h.on, by omega, by omega, .inr (by simp), by simp, by simp⟩
theorem VInv.lens {d : DSt} {done : List (List UInt8)} {sure base : Nat} (h : VInv d done sure base) : d.state.length ≤ (marks done).length + 1 ∧ d.log.length + d.waits.flatten.length ≤ (marks done).length + 7 * done.length ∧ d.waits.length ≤ done.length := by
  have h1 := h.hs
  have h2 := h.hb
  have hm : ∀ l : List (List UInt8), (marks l).length + 7 * l.length = ((l.map frame).flatten).length := by
    intro l
    induction l with
    | nil => simp [marks]
    | cons x l ih => simp [marks, frame_length] at ih ⊢; omega
  have hsplit : ∀ (a b : List (List UInt8)), (marks (a ++ b)).length = (marks a).length + (marks b).length := by intro a b; simp [marks]
  have e1 := hsplit (done.take base) (done.drop base)
  rw [List.take_append_drop] at e1
  have e2 := hsplit ((done.take sure).drop base) (done.drop sure)
  have e3 : (done.take sure).drop base ++ done.drop sure = done.drop base := by
    conv => rhs; rw [← List.take_append_drop sure done]
    rw [List.drop_append_of_le_length (by simp; omega)]
  rw [e3] at e2
  refine ⟨?_, ?_, ?_⟩
  · rcases h.state with ⟨hs, _⟩ | hs <;> rw [hs] <;> simp <;> omega
  · have a1 := hm ((done.take sure).drop base)
    have a2 := hm (done.drop sure)
    rw [h.log, h.waits, ← a1, ← a2]
    simp
    omega
  · rw [h.waits]; simp
theorem VInv.small {d : DSt} {done : List (List UInt8)} {sure base : Nat} (h : VInv d done sure base) (hr : d.room ≤ 100000000) (hm : (marks done).length ≤ 1000000) (hl : done.length ≤ 1000) : d.Small := by
  obtain ⟨a, b, c⟩ := h.lens
  exact ⟨hr, by omega, by omega, by omega, by omega⟩
theorem VInv.used {d : DSt} {done : List (List UInt8)} {sure base : Nat} (h : VInv d done sure base) : d.used ≤ 2 * (marks done).length + 7 * done.length + 9 := by
  obtain ⟨a, b, c⟩ := h.lens
  unfold DSt.used
  split <;> omega
theorem VInv.crash {d : DSt} {done : List (List UInt8)} {sure base : Nat} (h : VInv d done sure base) (hp : ∀ c, c ∈ done → c.length ≤ 65536) (M U : Int) (kept : Nat) (hk : kept = sure + min M.toNat (done.length - sure)) :
    scan (d.crash M U).log = ((done.take kept).drop base, (((done.take kept).drop base).map frame).flatten.length) ∧
    VInv (d.crash M U).start (done.take kept) kept base := by
  have h1 := h.hs
  have h2 := h.hb
  have hkp : d.kept M = kept - sure := by unfold DSt.kept; rw [h.waits]; simp; omega
  have e1 : (done.take sure).drop base ++ (done.drop sure).take (kept - sure) = (done.take kept).drop base := by
    have : done.take kept = done.take sure ++ (done.drop sure).take (kept - sure) := by
      rw [show kept = sure + (kept - sure) by omega, List.take_add]; simp
    rw [this, List.drop_append_of_le_length (by simp; omega)]
  have hlog : (d.crash M U).log = (((done.take kept).drop base).map frame).flatten ++ d.torn M U := by
    unfold DSt.crash
    simp only
    rw [hkp, h.log, h.waits, ← List.map_take, ← List.flatten_append, ← List.map_append, e1]
  have hsub : ∀ p, p ∈ (done.take kept).drop base → p.length ≤ 65536 := fun p hp' => hp p (List.mem_of_mem_take (List.mem_of_mem_drop hp'))
  have hscan : scan (d.crash M U).log = ((done.take kept).drop base, (((done.take kept).drop base).map frame).flatten.length) := by
    rw [hlog]
    unfold DSt.torn
    rw [hkp, h.waits]
    cases hx : ((done.drop sure).map frame)[kept - sure]? with
    | none => simpa using frames_scan _ hsub
    | some b =>
      simp only [List.getElem?_map, Option.map_eq_some_iff] at hx
      obtain ⟨x, hx, rfl⟩ := hx
      have hxm : x ∈ done := List.mem_of_mem_drop (List.mem_of_getElem? hx)
      exact frames_torn _ hsub x (hp x hxm) _ (by rw [frame_length]; omega)
  refine ⟨hscan, ?_⟩
  refine ⟨rfl, by simp; omega, by omega, ?_, ?_, ?_⟩
  · rcases h.state with hs | hs
    · exact .inl hs
    · refine .inr ?_
      show d.state = _
      rw [hs, List.take_take, Nat.min_eq_left (by omega)]
  · show ((d.crash M U).log.take (scan (d.crash M U).log).2) = _
    rw [hscan, hlog]
    rw [List.take_left' rfl, List.take_take, Nat.min_self]
  · show [] = _
    simp
end Go.Proofs.Ytjhpoahjmcoilaa
