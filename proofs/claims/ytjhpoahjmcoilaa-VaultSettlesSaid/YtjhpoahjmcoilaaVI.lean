/- Walks of package disk, the third part. -/
import Derived.Test.YtjhpoahjmcoilaaTab
import Derived.Test.YtjhpoahjmcoilaaVE
set_option linter.unusedSimpArgs false
set_option linter.unusedVariables false
namespace Go.Proofs.Ytjhpoahjmcoilaa
open Go.Stp
def DSt.cost (bs : List UInt8) : Nat := if bs.length = 0 then 0 else bs.length + 8
theorem checkpoint_c (σ : GW) (k p : Nat) (d : DSt) (v : Value) (bs : List UInt8) (hd : Disk σ k p d) (hon : d.on = true) (hsm : d.Small) (hw : d.waits = []) (hv : Bs σ 0 v bs) (hl : bs.length ≤ 100000000) :
    Calls Try.prog 10 [.pointer (some ⟨p, 0, none⟩), v].toArray σ.w (Ret σ [k] fun r σ' =>
      if d.room < DSt.cost bs then r = .int .i64 6 ∧ Disk σ' k p d else r = .int .i64 0 ∧ Disk σ' k p { d with state := bs, log := [] }) := by
  obtain ⟨vs, vl, vw, hb, hs, hol, how, hk⟩ := id hd
  obtain ⟨N, hN, hkk, hN0⟩ := σ.fresh [k, k + 1, k + 2, 0]
  have hkN := hkk (k + 2) (by simp)
  have hrm := hsm.room
  obtain ⟨Aw, cw, rfl, _⟩ := id how
  obtain ⟨A, c, cs, rfl, hlc, hc63, _⟩ := id hv
  have hwl : d.waits.length = 0 := by rw [hw]; rfl
  refine calls Try.func10 rfl Try.ntmps10 (Nat.le_of_ble_eq_true rfl) ?_
  refine E.seq ?_
  refine E.region ?_
  refine L.cons (O.y (Y.assign rfl) rfl rfl rfl ?_)
  refine L.nil ?_
  refine X.next ?_
  refine E.seq ?_
  refine E.block ?_
  refine E.seq ?_
  refine E.region ?_
  refine L.cons (O.y (Y.move rfl) rfl rfl rfl ?_)
  refine L.cons (O.y (Y.nilCheck rfl) rfl rfl rfl ?_)
  refine L.cons (O.y (Y.fieldAddr T.field56_1 rfl) rfl rfl rfl ?_)
  refine L.cons (O.y (Y.load1 Try.isAgg4 rfl (by intro w hw; subst hw; first | exact Blk.cell (by assumption) rfl | assumption)) rfl rfl rfl ?_)
  refine L.cons (O.y (Y.not rfl) rfl rfl rfl ?_)
  refine L.cons (O.y (Y.assign rfl) rfl rfl rfl ?_)
  refine L.nil ?_
  refine X.next ?_
  refine E.condFh rfl (by rw [hon]; rfl) ?_
  refine E.seq ?_
  refine E.region ?_
  refine L.cons (O.y (Y.move rfl) rfl rfl rfl ?_)
  refine L.cons (O.y (Y.nilCheck rfl) rfl rfl rfl ?_)
  refine L.cons (O.y (Y.fieldAddr T.field56_4 rfl) rfl rfl rfl ?_)
  refine L.cons (O.y (Y.load1 Try.isAgg28 rfl (by intro w hw; subst hw; first | exact Blk.cell (by assumption) rfl | assumption)) rfl rfl rfl ?_)
  refine L.cons (O.y (Y.lenSl Try.underlying28 rfl) rfl rfl rfl ?_)
  refine L.cons (O.y (Y.gtr rfl rfl) rfl rfl rfl ?_)
  refine L.cons (O.y (Y.assign rfl) rfl rfl rfl ?_)
  refine L.nil ?_
  refine X.next ?_
  refine E.condFh rfl (decide_eq_false (by omega)) ?_
  refine E.seq ?_
  refine E.draw (.rd 0 (.rd 2 (.rd 3 (.rd 4 (.rd 5 (.ef 1 (.rd 6 (.rd 7 Pl.done)))))))) (fun w => w.cell? ⟨p, 0, none⟩ = some (.int .i64 d.room)) Try.wide_mixed (by decide +kernel) (by decide +kernel) (by intro c a w d v h; cases d <;> exact h) ?_
  intro σd ed cd hdd_
  have hb1 := hb.ext ed (by simp)
  refine D.rd rfl (Y.move rfl) rfl rfl rfl (hb1.cell rfl) ?_
  refine D.rd rfl (Y.move rfl) rfl rfl rfl (hb1.cell rfl) ?_
  refine D.rd rfl (Y.nilCheck rfl) rfl rfl rfl (hb1.cell rfl) ?_
  refine D.rd rfl (Y.fieldAddr T.field56_0 rfl) rfl rfl rfl (hb1.cell rfl) ?_
  refine D.rd rfl (Y.load1 Try.isAgg3 rfl (by intro w hw; first | exact hw | exact hw.1 | exact hw.2 | exact hw.2.1 | exact hw.2.2 | exact hw.2.2.1 | exact hw.2.2.2 | exact hw.2.2.2.1 | exact hw.2.2.2.2)) rfl rfl rfl (hb1.cell rfl) ?_
  refine D.ef rfl (O.enter (Runs.fn Try.call29 rfl) rfl rfl (cost_c σd A bs.length c (by omega)) ?_)
  rintro v2 σ2 e2 rfl
  have hb2 := hb1.ext e2 (by simp)
  refine ⟨hb2.cell rfl, ?_⟩
  refine D.rd rfl (Y.gtr rfl rfl) rfl rfl rfl (hb2.cell rfl) ?_
  refine D.rd rfl (Y.assign rfl) rfl rfl rfl (hb2.cell rfl) ?_
  refine D.done ?_
  refine X.next ?_
  have T2 : Ext σ σ2 [k] := (ed.trans e2).mono (by simp)
  have hc0 : (if bs.length = 0 then (0 : Int) else (bs.length : Int) + 8) = (DSt.cost bs : Nat) := by unfold DSt.cost; split <;> simp
  rw [hc0]
  generalize DSt.cost bs = C
  refine E.cond rfl (fun h => ?_) (fun h => ?_)
  · skip
    simp at h
    refine E.seq ?_
    refine E.region ?_
    refine L.cons (O.y (Y.assign rfl) rfl rfl rfl ?_)
    refine L.nil ?_
    refine X.next ?_
    refine E.ret ?_
    refine X.blockRet ?_
    refine X.thenRet ?_
    refine X.ret1 Try.results10 rfl ⟨_, σ2, rfl, rfl, T2, ?_⟩
    dsimp only
    rw [if_pos (by omega)]
    exact ⟨rfl, hd.ext (ed.trans e2) (by simp) (by simp) (by simp) (by simp)⟩
  · skip
    simp at h
    refine E.skip ?_
    refine X.inBlock ?_
    refine X.next ?_
    refine E.seq ?_
    refine E.region ?_
    refine L.cons (O.y (Y.move rfl) rfl rfl rfl ?_)
    refine L.cons (O.y (Y.move rfl) rfl rfl rfl ?_)
    refine L.cons (O.y (Y.move rfl) rfl rfl rfl ?_)
    have hv2 := hv.ext (ed.trans e2) (by simp) (by simp)
    refine L.cons (O.enter (Runs.fn Try.call28 rfl) rfl rfl (clone_c σ2 0 N _ _ hv2 (by omega)) ?_)
    rintro v3 σ3 e3 ho3
    have T3 := T2.trans (e3.mono (by simp))
    have hb3 := hb2.ext e3 (by simp)
    obtain ⟨A3, c3, rfl, hl3, hc3, _⟩ := id ho3
    refine L.cons (O.y (Y.nilCheck rfl) rfl rfl rfl ?_)
    refine L.cons (O.y (Y.fieldAddr T.field56_2 rfl) rfl rfl rfl ?_)
    refine L.cons (O.store1 hb3 rfl rfl rfl Try.sizeOf22 (by simp) rfl ?_)
    intro σ4 e4 hc4 hz4 hb4
    have T4 := T3.trans e4
    refine L.cons (O.y (Y.nilCheck rfl) rfl rfl rfl ?_)
    refine L.cons (O.y (Y.fieldAddr T.field56_3 rfl) rfl rfl rfl ?_)
    refine L.cons (O.store1 hb4 rfl rfl rfl Try.sizeOf22 (by simp) rfl ?_)
    intro σ5 e5 hc5 hz5 hb5
    have T5 := T4.trans e5
    refine L.nil ?_
    refine X.next ?_
    refine E.seq ?_
    refine E.region ?_
    refine L.cons (O.y (Y.assign rfl) rfl rfl rfl ?_)
    refine L.nil ?_
    refine X.next ?_
    refine E.ret ?_
    refine X.recolor N 0 fun σ6 e6 h6 => ?_
    subst h6
    have T6 := T5.step hN e6 (by simp)
    refine X.ret1 Try.results10 rfl ⟨_, _, rfl, rfl, T6, ?_⟩
    dsimp only
    rw [if_neg (by omega)]
    have ho5 := (ho3.ext e4 (by simp; omega) (by simp; omega)).ext e5 (by simp; omega) (by simp; omega)
    exact ⟨rfl, _, _, _, hb5.ext e6 (by simp; omega), (ho5.rec_ (by omega)).sl, Ow.nil .., how.ext T6 (by simp; omega) (by simp), hk⟩
theorem append_c (σ : GW) (k p : Nat) (d : DSt) (v : Value) (bs : List UInt8) (hd : Disk σ k p d) (hon : d.on = true) (hsm : d.Small) (hv : Bs σ 0 v bs) (hl : bs.length ≤ 65536) :
    Calls Try.prog 32 [.pointer (some ⟨p, 0, none⟩), v].toArray σ.w (Ret σ [k, k + 2] fun r σ' =>
      if d.room < d.used + (8 + bs.length) then r = .int .i64 6 ∧ Disk σ' k p d else r = .int .i64 0 ∧ Disk σ' k p { d with waits := d.waits ++ [frame bs] }) := by
  obtain ⟨N, hN, hkk, hN0⟩ := σ.fresh [k, k + 1, k + 2, 0]
  have hkN := hkk (k + 2) (by simp)
  have hk : 0 < k := by obtain ⟨_, _, _, _, _, _, _, hk⟩ := hd; exact hk
  have hrm := hsm.room
  have hwm := hsm.waits
  have hus : d.used ≤ 300000008 := by
    have h2 := hsm.state
    have h3 := hsm.log
    have h5 := hsm.flat
    unfold DSt.used
    split <;> omega
  refine calls Try.func32 rfl Try.ntmps32 (Nat.le_of_ble_eq_true rfl) ?_
  obtain ⟨vs, vl, vw, hb, hs, hol, how, _⟩ := id hd
  refine E.seq ?_
  refine E.region ?_
  refine L.cons (O.y (Y.assign rfl) rfl rfl rfl ?_)
  refine L.nil ?_
  refine X.next ?_
  refine E.seq ?_
  refine E.seq ?_
  refine E.region ?_
  refine L.cons (O.y (Y.move rfl) rfl rfl rfl ?_)
  refine L.cons (O.y (Y.nilCheck rfl) rfl rfl rfl ?_)
  refine L.cons (O.y (Y.fieldAddr T.field56_1 rfl) rfl rfl rfl ?_)
  refine L.cons (O.y (Y.load1 Try.isAgg4 rfl (by intro w hw; subst hw; first | exact Blk.cell (by assumption) rfl | assumption)) rfl rfl rfl ?_)
  refine L.cons (O.y (Y.not rfl) rfl rfl rfl ?_)
  refine L.nil ?_
  refine X.next ?_
  refine E.condFh rfl (by rw [hon]; rfl) ?_
  refine E.skip ?_
  refine X.next ?_
  refine E.seq ?_
  refine E.region ?_
  refine L.cons (O.y (Y.move rfl) rfl rfl rfl ?_)
  refine L.cons (O.enter (Runs.fn Try.call37 rfl) rfl rfl (wrap_c σ 0 v bs hv hl) ?_)
  rintro v1 σ1 e1 ⟨r1, rfl, ho1⟩
  have T1 : Ext σ σ1 [k, k + 2] := e1.mono (by simp)
  have hd1 := hd.ext e1 (by simp) (by simp) (by simp) (by simp)
  obtain ⟨A1, c1, rfl, hlc1, hc1, _⟩ := id ho1
  have hfl := frame_length bs
  refine L.cons (O.y (Y.move rfl) rfl rfl rfl ?_)
  refine L.cons (O.y (Y.extract rfl rfl) rfl rfl rfl ?_)
  refine L.cons (O.y (Y.extract rfl rfl) rfl rfl rfl ?_)
  refine L.cons (O.y (Y.assign rfl) rfl rfl rfl ?_)
  refine L.cons (O.y (Y.assign rfl) rfl rfl rfl ?_)
  refine L.nil ?_
  refine X.next ?_
  refine E.seq ?_
  refine E.block ?_
  refine E.seq ?_
  refine E.region ?_
  refine L.cons (O.y (Y.move rfl) rfl rfl rfl ?_)
  refine L.cons (O.y (Y.neq rfl rfl) rfl rfl rfl ?_)
  refine L.cons (O.y (Y.assign rfl) rfl rfl rfl ?_)
  refine L.nil ?_
  refine X.next ?_
  refine E.condFh rfl (rfl) ?_
  refine E.seq ?_
  refine E.draw (.rd 0 (.rd 2 (.rd 3 (.rd 5 (.rd 6 (.rd 7 (.rd 8 (.ef 1 (.rd 4 (.rd 9 (.rd 10 Pl.done))))))))))) (fun w => w.cell? ⟨p, 0, none⟩ = some (.int .i64 d.room)) Try.wide_mixed (by decide +kernel) (by decide +kernel) (by intro c a w d v h; cases d <;> exact h) ?_
  intro σd ed cd hdd_
  have hdd := hd1.ext ed (by simp) (by simp) (by simp) (by simp)
  refine D.rd rfl (Y.move rfl) rfl rfl rfl (by obtain ⟨_, _, _, hb, _⟩ := hdd; exact hb.cell rfl) ?_
  refine D.rd rfl (Y.move rfl) rfl rfl rfl (by obtain ⟨_, _, _, hb, _⟩ := hdd; exact hb.cell rfl) ?_
  refine D.rd rfl (Y.lenSl Try.underlying22 rfl) rfl rfl rfl (by obtain ⟨_, _, _, hb, _⟩ := hdd; exact hb.cell rfl) ?_
  refine D.rd rfl (Y.move rfl) rfl rfl rfl (by obtain ⟨_, _, _, hb, _⟩ := hdd; exact hb.cell rfl) ?_
  refine D.rd rfl (Y.nilCheck rfl) rfl rfl rfl (by obtain ⟨_, _, _, hb, _⟩ := hdd; exact hb.cell rfl) ?_
  refine D.rd rfl (Y.fieldAddr T.field56_0 rfl) rfl rfl rfl (by obtain ⟨_, _, _, hb, _⟩ := hdd; exact hb.cell rfl) ?_
  refine D.rd rfl (Y.load1 Try.isAgg3 rfl (by intro w hw; first | exact hw | exact hw.1 | exact hw.2 | exact hw.2.1 | exact hw.2.2 | exact hw.2.2.1 | exact hw.2.2.2 | exact hw.2.2.2.1 | exact hw.2.2.2.2)) rfl rfl rfl (by obtain ⟨_, _, _, hb, _⟩ := hdd; exact hb.cell rfl) ?_
  refine D.ef rfl (O.enter (Runs.fn Try.call24 rfl) rfl rfl (used_c σd k p d hdd hsm) ?_)
  rintro v2 σ2 e2 rfl
  have hd2 := hdd.ext e2 (by simp) (by simp) (by simp) (by simp)
  obtain ⟨vs, vl, vw, hb2, hs2, hol2, how2, _⟩ := id hd2
  refine ⟨hb2.cell rfl, ?_⟩
  refine D.rd rfl (Y.add _ rfl rfl (wrap_i64 (by omega) (by omega))) rfl rfl rfl (hb2.cell rfl) ?_
  refine D.rd rfl (Y.gtr rfl rfl) rfl rfl rfl (hb2.cell rfl) ?_
  refine D.rd rfl (Y.assign rfl) rfl rfl rfl (hb2.cell rfl) ?_
  refine D.done ?_
  refine X.next ?_
  have T2 : Ext σ σ2 [k, k + 2] := T1.trans ((ed.trans e2).mono (by simp))
  have ho2 := (ho1.ext ed (by simp) (by simp)).ext e2 (by simp) (by simp)
  generalize d.used = U at hus ⊢
  refine E.cond rfl (fun h => ?_) (fun h => ?_)
  · skip
    simp at h
    refine E.seq ?_
    refine E.region ?_
    refine L.cons (O.y (Y.assign rfl) rfl rfl rfl ?_)
    refine L.nil ?_
    refine X.next ?_
    refine E.ret ?_
    refine X.blockRet ?_
    refine X.thenRet ?_
    refine X.ret1 Try.results32 rfl ⟨_, σ2, rfl, rfl, T2, ?_⟩
    dsimp only
    rw [if_pos (by omega)]
    exact ⟨rfl, hd2⟩
  · skip
    simp at h
    refine E.skip ?_
    refine X.inBlock ?_
    refine X.next ?_
    refine E.seq ?_
    refine E.region ?_
    refine L.cons (O.y (Y.move rfl) rfl rfl rfl ?_)
    refine L.cons (O.y (Y.move rfl) rfl rfl rfl ?_)
    refine L.cons (O.y (Y.nilCheck rfl) rfl rfl rfl ?_)
    refine L.cons (O.y (Y.fieldAddr T.field56_4 rfl) rfl rfl rfl ?_)
    refine L.cons (O.y (Y.load1 Try.isAgg28 rfl (by intro w hw; subst hw; first | exact Blk.cell (by assumption) rfl | assumption)) rfl rfl rfl ?_)
    refine L.cons (O.y (Y.move rfl) rfl rfl rfl ?_)
    obtain ⟨Aw, cw, rfl, hlw, hcw, _⟩ := id how2
    refine L.cons (O.slLit N [.slice A1 (frame bs).length c1] Try.underlying28 Try.sizeOf22 Try.zeroValue22 rfl rfl (by simp [Value.cells]) (by simp) rfl rfl ?_)
    intro σ3 b3 e3 hb3
    have ho3 := ho2.ext e3 (by simp) (by simp)
    have how3 := how2.ext e3 (by simp) (by simp)
    have hS3 : Sl (kSl kByte) σ3 N (.slice (some ⟨b3, 0, none⟩) 1 1) [frame bs] := ⟨_, _, _, rfl, by simp, by simp, ⟨[_], [], rfl, ⟨_, rfl, ho3.sl⟩, rfl⟩, hb3.row⟩
    have T3 := T2.step hN e3 (by simp)
    have hb33 := hb2.ext e3 (by simp)
    refine L.cons (O.append how3 (by omega) hS3 Try.underlying28 Try.underlying28 T.elem22 rfl rfl (by simp; omega) (by decide) rfl rfl ?_)
    intro v4 σ4 e4 ho4
    have T4 := T3.trans (e4.mono (by simp))
    have hb4 := hb33.ext e4 (by simp)
    refine L.cons (O.y (Y.nilCheck rfl) rfl rfl rfl ?_)
    refine L.cons (O.y (Y.fieldAddr T.field56_4 rfl) rfl rfl rfl ?_)
    obtain ⟨A4, c4, rfl, hl4, hc4, _⟩ := id ho4
    refine L.cons (O.store1 hb4 rfl rfl rfl Try.sizeOf28 (by simp) rfl ?_)
    intro σ5 e5 hc5 hz5 hb5
    have T5 := T4.trans (e5.mono (by simp))
    refine L.nil ?_
    refine X.next ?_
    refine E.seq ?_
    refine E.region ?_
    refine L.cons (O.y (Y.assign rfl) rfl rfl rfl ?_)
    refine L.nil ?_
    refine X.next ?_
    refine E.ret ?_
    refine X.ret1 Try.results32 rfl ⟨_, σ5, rfl, rfl, T5, ?_⟩
    dsimp only
    rw [if_neg (by omega)]
    have T25 : Ext σ2 σ5 [k, k + 2] := ((e3.mono (by simp)).trans (e4.mono (by simp))).trans (e5.mono (by simp))
    exact ⟨rfl, _, _, _, hb5, hs2.ext T25 (by simp; omega) (by simp; omega), hol2.ext T25 (by simp; omega) (by simp), ho4.ext e5 (by simp; omega) (by simp), hk⟩
theorem sync_c (σ : GW) (k p : Nat) (d : DSt) (hd : Disk σ k p d) (hon : d.on = true) (hsm : d.Small) :
    Calls Try.prog 34 [.pointer (some ⟨p, 0, none⟩)].toArray σ.w (Ret σ [k, k + 1] fun r σ' => r = .int .i64 0 ∧ Disk σ' k p { d with log := d.log ++ d.waits.flatten, waits := [] }) := by
  obtain ⟨N, hN, hkk, hN0⟩ := σ.fresh [k, k + 1, k + 2, 0]
  have hkN := hkk (k + 2) (by simp)
  obtain ⟨vs, vl, vw, hb, hs, hol, how, hk⟩ := id hd
  obtain ⟨Aw, cw, rfl, _⟩ := id how
  have h3 := hsm.log
  have h5 := hsm.flat
  refine calls Try.func34 rfl Try.ntmps34 (Nat.le_of_ble_eq_true rfl) ?_
  refine E.seq ?_
  refine E.region ?_
  refine L.cons (O.y (Y.assign rfl) rfl rfl rfl ?_)
  refine L.nil ?_
  refine X.next ?_
  refine E.seq ?_
  refine E.seq ?_
  refine E.region ?_
  refine L.cons (O.y (Y.move rfl) rfl rfl rfl ?_)
  refine L.cons (O.y (Y.nilCheck rfl) rfl rfl rfl ?_)
  refine L.cons (O.y (Y.fieldAddr T.field56_1 rfl) rfl rfl rfl ?_)
  refine L.cons (O.y (Y.load1 Try.isAgg4 rfl (by intro w hw; subst hw; first | exact Blk.cell (by assumption) rfl | assumption)) rfl rfl rfl ?_)
  refine L.cons (O.y (Y.not rfl) rfl rfl rfl ?_)
  refine L.nil ?_
  refine X.next ?_
  refine E.condFh rfl (by rw [hon]; rfl) ?_
  refine E.skip ?_
  refine X.next ?_
  refine E.seq ?_
  refine E.draw (.rd 0 (.rd 1 (.rd 2 (.rd 3 (.rd 5 (.rd 6 (.rd 7 (.rd 8 (.two 4 (.ef 9 (.ef 10 (.rd 11 (.rd 12 (.ef 13 Pl.done))))) 9 (.ef 4 (.ef 10 (.rd 11 (.rd 12 (.ef 13 Pl.done)))))))))))))) (fun w => w.cell? ⟨p, 4, none⟩ = some (.slice Aw d.waits.length cw)) Try.wide_mixed (by decide +kernel) (by decide +kernel) (by intro c a w d v h; cases d <;> exact h) ?_
  intro σd ed cd hdd_
  have hbd := hb.ext ed (by simp)
  have hold := hol.ext ed (by simp) (by simp)
  have howd := how.ext ed (by simp) (by simp)
  refine D.rd rfl (Y.move rfl) rfl rfl rfl (hbd.cell rfl) ?_
  refine D.rd rfl (Y.move rfl) rfl rfl rfl (hbd.cell rfl) ?_
  refine D.rd rfl (Y.nilCheck rfl) rfl rfl rfl (hbd.cell rfl) ?_
  refine D.rd rfl (Y.fieldAddr T.field56_3 rfl) rfl rfl rfl (hbd.cell rfl) ?_
  refine D.rd rfl (Y.move rfl) rfl rfl rfl (hbd.cell rfl) ?_
  refine D.rd rfl (Y.nilCheck rfl) rfl rfl rfl (hbd.cell rfl) ?_
  refine D.rd rfl (Y.fieldAddr T.field56_4 rfl) rfl rfl rfl (hbd.cell rfl) ?_
  refine D.rd rfl (Y.load1 Try.isAgg28 rfl (by intro w hw; first | exact hw | exact hw.1 | exact hw.2 | exact hw.2.1 | exact hw.2.2 | exact hw.2.2.1 | exact hw.2.2.2 | exact hw.2.2.2.1 | exact hw.2.2.2.2)) rfl rfl rfl (hbd.cell rfl) ?_
  refine D.two rfl rfl (O.y (Y.load1 Try.isAgg22 rfl (by intro w hw; subst hw; exact hbd.cell rfl)) rfl rfl rfl ?_) (O.enter (Runs.fn Try.call38 rfl) rfl rfl (concat_c σd (k + 2) N _ _ howd.sl (by omega)) ?_)
  · skip
    refine ⟨hbd.cell rfl, ?_⟩
    refine D.ef rfl (O.enter (Runs.fn Try.call38 rfl) rfl rfl (concat_c σd (k + 2) N _ _ howd.sl (by omega)) ?_)
    intro v2 σ2 e2 ho2
    have hb2 := hbd.ext e2 (by simp)
    refine ⟨hb2.cell rfl, ?_⟩
    have hol2 := hold.ext e2 (by simp) (by simp)
    have T2 : Ext σ σ2 [k, k + 1] := (ed.trans e2).mono (by simp)
    refine D.ef rfl (O.append hol2 (by omega) ho2.sl Try.underlying22 Try.underlying22 T.elem5 rfl rfl (by omega) (by decide) rfl rfl ?_)
    intro v3 σ3 e3 ho3
    have T3 := T2.trans (e3.mono (by simp))
    have hb3 := hb2.ext e3 (by simp)
    refine ⟨hb3.cell rfl, ?_⟩
    refine D.rd rfl (Y.nilCheck rfl) rfl rfl rfl (hb3.cell rfl) ?_
    refine D.rd rfl (Y.fieldAddr T.field56_3 rfl) rfl rfl rfl (hb3.cell rfl) ?_
    obtain ⟨A3, c3, rfl, hl3, hc3, _⟩ := id ho3
    refine D.ef rfl (O.store1 hb3 rfl rfl rfl Try.sizeOf22 (by simp) rfl ?_)
    intro σ4 e4 hc4 hz4 hb4
    have T4 := T3.trans (e4.mono (by simp))
    refine ⟨hb4.cell rfl, ?_⟩
    refine D.done ?_
    refine X.next ?_
    refine E.seq ?_
    refine E.region ?_
    refine L.cons (O.y (Y.move rfl) rfl rfl rfl ?_)
    refine L.cons (O.y (Y.nilCheck rfl) rfl rfl rfl ?_)
    refine L.cons (O.y (Y.fieldAddr T.field56_4 rfl) rfl rfl rfl ?_)
    refine L.cons (O.store1 hb4 rfl rfl rfl Try.sizeOf28 (by simp) rfl ?_)
    intro σ5 e5 hc5 hz5 hb5
    have T5 := T4.trans (e5.mono (by simp))
    refine L.nil ?_
    refine X.next ?_
    refine E.seq ?_
    refine E.region ?_
    refine L.cons (O.y (Y.assign rfl) rfl rfl rfl ?_)
    refine L.nil ?_
    refine X.next ?_
    refine E.ret ?_
    exact X.ret1 Try.results34 rfl ⟨_, σ5, rfl, rfl, T5, rfl, _, _, _, hb5, hs.ext T5 (by simp; omega) (by simp; omega), (ho3.ext e4 (by simp; omega) (by simp)).ext e5 (by simp; omega) (by simp), Ow.nil .., hk⟩
  · skip
    intro v2 σ2 e2 ho2
    have hb2 := hbd.ext e2 (by simp)
    refine ⟨hb2.cell rfl, ?_⟩
    have hol2 := hold.ext e2 (by simp) (by simp)
    have T2 : Ext σ σ2 [k, k + 1] := (ed.trans e2).mono (by simp)
    refine D.ef rfl (O.y (Y.load1 Try.isAgg22 rfl (by intro w hw; subst hw; exact hb2.cell rfl)) rfl rfl rfl ?_)
    refine ⟨hb2.cell rfl, ?_⟩
    refine D.ef rfl (O.append hol2 (by omega) ho2.sl Try.underlying22 Try.underlying22 T.elem5 rfl rfl (by omega) (by decide) rfl rfl ?_)
    intro v3 σ3 e3 ho3
    have T3 := T2.trans (e3.mono (by simp))
    have hb3 := hb2.ext e3 (by simp)
    refine ⟨hb3.cell rfl, ?_⟩
    refine D.rd rfl (Y.nilCheck rfl) rfl rfl rfl (hb3.cell rfl) ?_
    refine D.rd rfl (Y.fieldAddr T.field56_3 rfl) rfl rfl rfl (hb3.cell rfl) ?_
    obtain ⟨A3, c3, rfl, hl3, hc3, _⟩ := id ho3
    refine D.ef rfl (O.store1 hb3 rfl rfl rfl Try.sizeOf22 (by simp) rfl ?_)
    intro σ4 e4 hc4 hz4 hb4
    have T4 := T3.trans (e4.mono (by simp))
    refine ⟨hb4.cell rfl, ?_⟩
    refine D.done ?_
    refine X.next ?_
    refine E.seq ?_
    refine E.region ?_
    refine L.cons (O.y (Y.move rfl) rfl rfl rfl ?_)
    refine L.cons (O.y (Y.nilCheck rfl) rfl rfl rfl ?_)
    refine L.cons (O.y (Y.fieldAddr T.field56_4 rfl) rfl rfl rfl ?_)
    refine L.cons (O.store1 hb4 rfl rfl rfl Try.sizeOf28 (by simp) rfl ?_)
    intro σ5 e5 hc5 hz5 hb5
    have T5 := T4.trans (e5.mono (by simp))
    refine L.nil ?_
    refine X.next ?_
    refine E.seq ?_
    refine E.region ?_
    refine L.cons (O.y (Y.assign rfl) rfl rfl rfl ?_)
    refine L.nil ?_
    refine X.next ?_
    refine E.ret ?_
    exact X.ret1 Try.results34 rfl ⟨_, σ5, rfl, rfl, T5, rfl, _, _, _, hb5, hs.ext T5 (by simp; omega) (by simp; omega), (ho3.ext e4 (by simp; omega) (by simp)).ext e5 (by simp; omega) (by simp), Ow.nil .., hk⟩
end Go.Proofs.Ytjhpoahjmcoilaa
