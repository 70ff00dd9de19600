/- Walks of package disk. -/
import Derived.Test.YtjhpoahjmcoilaaTab
import Derived.Test.YtjhpoahjmcoilaaVH
import Derived.Test.YtjhpoahjmcoilaaVA
set_option linter.unusedSimpArgs false
set_option linter.unusedVariables false
namespace Go.Proofs.Ytjhpoahjmcoilaa
open Go.Stp
/-- A disk's state. -/
structure DSt where
  room : Nat
  on : Bool
  state : List UInt8
  log : List UInt8
  waits : List (List UInt8)
def DSt.used (d : DSt) : Nat := (if d.state.length = 0 then 0 else d.state.length + 8) + d.log.length + d.waits.flatten.length
structure DSt.Small (d : DSt) : Prop where
  room : d.room ≤ 100000000
  state : d.state.length ≤ 100000000
  log : d.log.length ≤ 100000000
  waits : d.waits.length ≤ 100000000
  flat : d.waits.flatten.length ≤ 100000000
/-- The disk d lies at p: its colours are k, k + 1 (the log), k + 2 (what waits). -/
def Disk (σ : GW) (k p : Nat) (d : DSt) : Prop :=
  ∃ vs vl vw, Blk σ k p [.int .i64 d.room, .bool d.on, vs, vl, vw] 56 ∧ Bs σ 0 vs d.state ∧ Ow kByte σ (k + 1) 5 vl d.log ∧ Ow (kSl kByte) σ (k + 2) 22 vw d.waits ∧ 0 < k
theorem Disk.ext {σ σ' : GW} {k p : Nat} {d : DSt} {ds : List Nat} (h : Disk σ k p d) (e : Ext σ σ' ds) (h0 : 0 ∉ ds) (h1 : k ∉ ds) (h2 : k + 1 ∉ ds) (h3 : k + 2 ∉ ds) : Disk σ' k p d := by
  obtain ⟨vs, vl, vw, hb, hs, hl, hw, hk⟩ := h
  exact ⟨vs, vl, vw, hb.ext e h1, hs.ext e h0 h0, hl.ext e h0 h2, hw.ext e h0 h3, hk⟩
theorem used_c (σ : GW) (k p : Nat) (d : DSt) (hd : Disk σ k p d) (hsm : d.Small) :
    Calls Try.prog 24 [.pointer (some ⟨p, 0, none⟩)].toArray σ.w (Ret σ [] fun r σ' => r = .int .i64 d.used) := by
  obtain ⟨vs, vl, vw, hb, hs, hol, how, hk⟩ := hd
  obtain ⟨As, cs, _, rfl, _⟩ := id hs
  obtain ⟨Al, cl, rfl, _⟩ := id hol
  obtain ⟨Aw, cw, rfl, _⟩ := id how
  have h1 := hsm.room
  have h2 := hsm.state
  have h3 := hsm.log
  have h4 := hsm.waits
  have h5 := hsm.flat
  have hpre : ∀ i, (d.waits.take i).flatten.length ≤ d.waits.flatten.length := fun i => by
    have := congrArg List.length (congrArg List.flatten (List.take_append_drop i d.waits))
    simp only [List.flatten_append, List.length_append] at this
    omega
  have hsucc : ∀ i x, d.waits[i]? = some x → (d.waits.take (i + 1)).flatten = (d.waits.take i).flatten ++ x := fun i x hx => by
    rw [List.take_add_one, hx]; simp
  refine calls Try.func24 rfl Try.ntmps24 (Nat.le_of_ble_eq_true rfl) ?_
  refine E.seq ?_
  refine E.region ?_
  refine L.cons (O.y (Y.assign rfl) rfl rfl rfl ?_)
  refine L.nil ?_
  refine X.next ?_
  refine E.seq ?_
  refine E.draw (.rd 0 (.rd 1 (.rd 2 (.rd 3 (.rd 5 (.rd 6 (.rd 7 (.rd 8 (.rd 9 (.ef 4 (.rd 10 (.rd 11 Pl.done)))))))))))) (fun w => w.cell? ⟨p, 2, none⟩ = some (.slice As d.state.length cs) ∧ w.cell? ⟨p, 3, none⟩ = some (.slice Al d.log.length cl)) Try.wide_mixed (by decide +kernel) (by decide +kernel) (by intro c a w d v h; cases d <;> exact h) ?_
  intro σd ed cd hdd_
  have hb1 := hb.ext ed (by simp)
  refine D.rd rfl (Y.move rfl) rfl rfl rfl (⟨hb1.cell rfl, hb1.cell rfl⟩) ?_
  refine D.rd rfl (Y.nilCheck rfl) rfl rfl rfl (⟨hb1.cell rfl, hb1.cell rfl⟩) ?_
  refine D.rd rfl (Y.fieldAddr T.field56_2 rfl) rfl rfl rfl (⟨hb1.cell rfl, hb1.cell rfl⟩) ?_
  refine D.rd rfl (Y.load1 Try.isAgg22 rfl (by intro w hw; first | exact hw | exact hw.1 | exact hw.2 | exact hw.2.1 | exact hw.2.2 | exact hw.2.2.1 | exact hw.2.2.2 | exact hw.2.2.2.1 | exact hw.2.2.2.2)) rfl rfl rfl (⟨hb1.cell rfl, hb1.cell rfl⟩) ?_
  refine D.rd rfl (Y.move rfl) rfl rfl rfl (⟨hb1.cell rfl, hb1.cell rfl⟩) ?_
  refine D.rd rfl (Y.nilCheck rfl) rfl rfl rfl (⟨hb1.cell rfl, hb1.cell rfl⟩) ?_
  refine D.rd rfl (Y.fieldAddr T.field56_3 rfl) rfl rfl rfl (⟨hb1.cell rfl, hb1.cell rfl⟩) ?_
  refine D.rd rfl (Y.load1 Try.isAgg22 rfl (by intro w hw; first | exact hw | exact hw.1 | exact hw.2 | exact hw.2.1 | exact hw.2.2 | exact hw.2.2.1 | exact hw.2.2.2 | exact hw.2.2.2.1 | exact hw.2.2.2.2)) rfl rfl rfl (⟨hb1.cell rfl, hb1.cell rfl⟩) ?_
  refine D.rd rfl (Y.lenSl Try.underlying22 rfl) rfl rfl rfl (⟨hb1.cell rfl, hb1.cell rfl⟩) ?_
  refine D.ef rfl (O.enter (Runs.fn Try.call29 rfl) rfl rfl (cost_c σd As d.state.length cs (by omega)) ?_)
  rintro v2 σ2 e2 rfl
  have hb2 := hb1.ext e2 (by simp)
  refine ⟨⟨hb2.cell rfl, hb2.cell rfl⟩, ?_⟩
  have hc0 : (0 : Int) ≤ (if d.state.length = 0 then 0 else (d.state.length : Int) + 8) ∧ (if d.state.length = 0 then 0 else (d.state.length : Int) + 8) ≤ 100000008 := by split <;> omega
  have hce : (if d.state.length = 0 then (0 : Int) else (d.state.length : Int) + 8) = ((if d.state.length = 0 then 0 else d.state.length + 8 : Nat) : Int) := by split <;> simp
  generalize (if d.state.length = 0 then (0 : Int) else (d.state.length : Int) + 8) = C at hc0 hce ⊢
  refine D.rd rfl (Y.add _ rfl rfl (wrap_i64 (by omega) (by omega))) rfl rfl rfl (⟨hb2.cell rfl, hb2.cell rfl⟩) ?_
  refine D.rd rfl (Y.assign rfl) rfl rfl rfl (⟨hb2.cell rfl, hb2.cell rfl⟩) ?_
  refine D.done ?_
  refine X.next ?_
  refine E.seq ?_
  refine E.seq ?_
  refine E.region ?_
  refine L.cons (O.y (Y.move rfl) rfl rfl rfl ?_)
  refine L.cons (O.y (Y.nilCheck rfl) rfl rfl rfl ?_)
  refine L.cons (O.y (Y.fieldAddr T.field56_4 rfl) rfl rfl rfl ?_)
  refine L.cons (O.y (Y.load1 Try.isAgg28 rfl (by intro w hw; subst hw; first | exact Blk.cell (by assumption) rfl | assumption)) rfl rfl rfl ?_)
  refine L.cons (O.y (Y.lenSl Try.underlying28 rfl) rfl rfl rfl ?_)
  refine L.cons (O.y (Y.move rfl) rfl rfl rfl ?_)
  refine L.nil ?_
  refine X.next ?_
  refine E.block ?_
  have T2 := ed.trans e2
  have how2 := how.ext T2 (by simp) (by simp)
  refine E.loopK (fun (i : Nat) l τ => i ≤ d.waits.length ∧ l = [(3, .int .i64 (C + d.log.length + (d.waits.take i).flatten.length)), (20, .slice Aw d.waits.length cw), (21, .int .i64 d.waits.length), (22, .int .i64 i)] ∧ τ = σ2) (fun i => d.waits.length - i) 0 [(3, .int .i64 (C + d.log.length)), (20, .slice Aw d.waits.length cw), (21, .int .i64 d.waits.length), (22, .int .i64 0)] ⟨by omega, by simp, rfl⟩ ⟨rfl, rfl, rfl, rfl, trivial⟩ ?_
  rintro i l τ ⟨hi, rfl, rfl⟩ K hK
  refine E.seq ?_
  refine E.region ?_
  refine L.cons (O.y (Y.lss rfl rfl) rfl rfl rfl ?_)
  refine L.nil ?_
  refine X.next ?_
  refine E.seq ?_
  refine E.cond rfl (fun h => ?_) (fun h => ?_)
  · skip
    simp at h
    refine E.skip ?_
    refine X.next ?_
    refine E.seq ?_
    refine E.block ?_
    refine E.seq ?_
    refine E.region ?_
    obtain ⟨x, hx⟩ : ∃ x, d.waits[i]? = some x := ⟨d.waits[i], List.getElem?_eq_getElem h⟩
    have hsx := hsucc i x hx
    have hpx := hpre (i + 1)
    rw [hsx, List.length_append] at hpx
    refine L.cons (O.indexSl i x how2.sl Try.underlying28 Try.sizeOf22 (by decide) rfl rfl rfl hx rfl rfl ?_)
    intro b1 o1 hat
    obtain ⟨vx, hcell, hvx⟩ := At.slice hat
    obtain ⟨Ax, cx, _, rfl, _⟩ := id hvx
    refine L.cons (O.y (Y.load1 Try.isAgg22 rfl (by intro w hw; subst hw; first | exact Blk.cell (by assumption) rfl | assumption)) rfl rfl rfl ?_)
    refine L.cons (O.y (Y.assign rfl) rfl rfl rfl ?_)
    refine L.nil ?_
    refine X.next ?_
    refine E.region ?_
    refine L.cons (O.y (Y.move rfl) rfl rfl rfl ?_)
    refine L.cons (O.y (Y.move rfl) rfl rfl rfl ?_)
    refine L.cons (O.y (Y.lenSl Try.underlying22 rfl) rfl rfl rfl ?_)
    refine L.cons (O.y (Y.add _ rfl rfl (wrap_i64 (by omega) (by omega))) rfl rfl rfl ?_)
    refine L.cons (O.y (Y.assign rfl) rfl rfl rfl ?_)
    refine L.nil ?_
    refine X.inBlock ?_
    refine X.next ?_
    refine E.region ?_
    refine L.cons (O.y (Y.add _ rfl rfl (wrap_i64 (by omega) (by omega))) rfl rfl rfl ?_)
    refine L.cons (O.y (Y.move rfl) rfl rfl rfl ?_)
    refine L.nil ?_
    exact X.againK hK (i + 1) _ ⟨by omega, rfl, rfl⟩ ⟨by rw [hsx, List.length_append]; exact congrArg (fun z : Int => some (Value.int .i64 z)) (by omega), rfl, rfl, rfl, trivial⟩ (by omega)
  · skip
    simp at h
    obtain rfl : i = d.waits.length := by omega
    refine E.exit ?_
    refine X.thenExit ?_
    refine X.thenExit ?_
    refine X.outBlock ?_
    refine X.next ?_
    refine E.seq ?_
    refine E.region ?_
    refine L.cons (O.y (Y.move rfl) rfl rfl rfl ?_)
    refine L.cons (O.y (Y.assign rfl) rfl rfl rfl ?_)
    refine L.nil ?_
    refine X.next ?_
    refine E.ret ?_
    refine X.ret1 Try.results24 rfl ⟨_, τ, rfl, rfl, T2, ?_⟩
    rw [List.take_length, hce]
    unfold DSt.used
    simp
theorem resize_c (σ : GW) (k p : Nat) (d : DSt) (hd : Disk σ k p d) (hsm : d.Small) (r : Int) (h0 : 0 ≤ r) (h1 : r ≤ 4194304) (hu : (d.used : Int) ≤ r) :
    Calls Try.prog 25 [.pointer (some ⟨p, 0, none⟩), .int .i64 r].toArray σ.w (Ret σ [k] fun v σ' => v = .int .i64 0 ∧ Disk σ' k p { d with room := r.toNat }) := by
  obtain ⟨vs, vl, vw, hb, hs, hol, how, hk⟩ := id hd
  obtain ⟨N, hN, hkk, hN0⟩ := σ.fresh [k, k + 1, k + 2, 0]
  obtain ⟨m, rfl⟩ := Int.eq_ofNat_of_zero_le h0
  refine calls Try.func25 rfl Try.ntmps25 (Nat.le_of_ble_eq_true rfl) ?_
  refine E.seq ?_
  refine E.region ?_
  refine L.cons (O.y (Y.assign rfl) rfl rfl rfl ?_)
  refine L.nil ?_
  refine X.next ?_
  refine E.seq ?_
  refine E.block ?_
  refine E.seq ?_
  refine E.region ?_
  refine L.cons (O.y (Y.move rfl) rfl rfl rfl ?_)
  refine L.cons (O.y (Y.lss rfl rfl) rfl rfl rfl ?_)
  refine L.cons (O.y (Y.move rfl) rfl rfl rfl ?_)
  refine L.setB (b' := false) (decide_eq_false (by omega)) ?_
  refine L.cons (O.y (Y.move rfl) rfl rfl rfl ?_)
  refine L.cons (O.y (Y.gtr rfl rfl) rfl rfl rfl ?_)
  refine L.cons (O.y (Y.pickF rfl rfl) rfl rfl rfl ?_)
  refine L.cons (O.y (Y.assign rfl) rfl rfl rfl ?_)
  refine L.nil ?_
  refine X.next ?_
  refine E.condFh rfl (decide_eq_false (by omega)) ?_
  refine E.seq ?_
  refine E.region ?_
  refine L.cons (O.y (Y.move rfl) rfl rfl rfl ?_)
  refine L.cons (O.enter (Runs.fn Try.call24 rfl) rfl rfl (used_c σ k p d hd hsm) ?_)
  rintro v1 σ1 e1 rfl
  have hb1 := hb.ext e1 (by simp)
  have T1 : Ext σ σ1 [k] := e1.mono (by simp)
  refine L.cons (O.y (Y.move rfl) rfl rfl rfl ?_)
  refine L.cons (O.y (Y.gtr rfl rfl) rfl rfl rfl ?_)
  refine L.cons (O.y (Y.assign rfl) rfl rfl rfl ?_)
  refine L.nil ?_
  refine X.next ?_
  refine E.condFh rfl (decide_eq_false (by omega)) ?_
  refine E.skip ?_
  refine X.inBlock ?_
  refine X.next ?_
  refine E.seq ?_
  refine E.region ?_
  refine L.cons (O.y (Y.move rfl) rfl rfl rfl ?_)
  refine L.cons (O.y (Y.move rfl) rfl rfl rfl ?_)
  refine L.cons (O.y (Y.nilCheck rfl) rfl rfl rfl ?_)
  refine L.cons (O.y (Y.fieldAddr T.field56_0 rfl) rfl rfl rfl ?_)
  refine L.cons (O.store1 hb1 rfl rfl rfl Try.sizeOf3 (by simp) rfl ?_)
  intro σ2 e2 hc2 hz2 hb2
  have T2 := T1.trans e2
  refine L.nil ?_
  refine X.next ?_
  refine E.seq ?_
  refine E.region ?_
  refine L.cons (O.y (Y.assign rfl) rfl rfl rfl ?_)
  refine L.nil ?_
  refine X.next ?_
  refine E.ret ?_
  exact X.ret1 Try.results25 rfl ⟨_, σ2, rfl, rfl, T2, rfl, vs, vl, vw, hb2, hs.ext T2 (by simp; omega) (by simp; omega), hol.ext T2 (by simp; omega) (by simp), how.ext T2 (by simp; omega) (by simp), hk⟩
end Go.Proofs.Ytjhpoahjmcoilaa
