/- Walk of the statement VaultForms. -/
import Derived.Test.YtjhpoahjmcoilaaTab
import Derived.Test.YtjhpoahjmcoilaaVQ
set_option linter.unusedSimpArgs false
set_option linter.unusedVariables false
namespace Go.Proofs.Ytjhpoahjmcoilaa
open Go.Stp
theorem vaultForms_c (σ : GW) (v : Value) (bs : List UInt8) (hv : Bs σ 0 v bs) :
    Calls Try.prog 3 [v].toArray σ.w (Ret σ [] fun r σ' => r = .bool true) := by
  obtain ⟨N, hN, hkk, hN0⟩ := σ.fresh [0]
  obtain ⟨A, c, cs, rfl, hlc, hc63, _⟩ := id hv
  refine calls Try.func3 rfl Try.ntmps3 (Nat.le_of_ble_eq_true rfl) ?_
  refine E.seq ?_
  refine E.region ?_
  refine L.cons (O.y (Y.assign rfl) rfl rfl rfl ?_)
  refine L.nil ?_
  refine X.next ?_
  refine E.seq ?_
  refine E.seq ?_
  refine E.region ?_
  refine L.cons (O.enter (Runs.fn Try.call7 rfl) rfl rfl (awake_c σ) ?_)
  rintro v0 σ0 e0 rfl
  refine L.cons (O.y (Y.not rfl) rfl rfl rfl ?_)
  refine L.nil ?_
  refine X.next ?_
  refine E.condFh rfl (rfl) ?_
  refine E.skip ?_
  refine X.next ?_
  refine E.seq ?_
  refine E.seq ?_
  refine E.region ?_
  refine L.cons (O.y (Y.move rfl) rfl rfl rfl ?_)
  refine L.cons (O.y (Y.lenSl Try.underlying22 rfl) rfl rfl rfl ?_)
  refine L.cons (O.y (Y.gtr rfl rfl) rfl rfl rfl ?_)
  refine L.nil ?_
  refine X.next ?_
  refine E.cond rfl (fun h => ?_) (fun h => ?_)
  · skip
    refine E.seq ?_
    refine E.region ?_
    refine L.cons (O.y (Y.assign rfl) rfl rfl rfl ?_)
    refine L.nil ?_
    refine X.next ?_
    refine E.ret ?_
    refine X.thenRet ?_
    exact X.ret1 Try.results3 rfl ⟨_, σ0, rfl, rfl, e0, rfl⟩
  · skip
    simp at h
    have hlen : bs.length ≤ 1000 := by omega
    refine E.skip ?_
    refine X.next ?_
    refine E.seq ?_
    refine E.region ?_
    refine L.cons (O.enter (Runs.fn Try.call8 rfl) rfl rfl (new_c σ0 N hN0 4194304 (by omega)) ?_)
    rintro v1 σ1 e1 ⟨p, rfl, hd1⟩
    have T1 : Ext σ σ1 [] := e0.trans e1
    refine L.cons (O.y (Y.move rfl) rfl rfl rfl ?_)
    refine L.cons (O.y (Y.extract rfl rfl) rfl rfl rfl ?_)
    refine L.cons (O.y (Y.extract rfl rfl) rfl rfl rfl ?_)
    refine L.cons (O.y (Y.assign rfl) rfl rfl rfl ?_)
    refine L.cons (O.y (Y.assign rfl) rfl rfl rfl ?_)
    refine L.nil ?_
    refine X.next ?_
    refine E.seq ?_
    refine E.seq ?_
    refine E.region ?_
    refine L.cons (O.y (Y.move rfl) rfl rfl rfl ?_)
    refine L.cons (O.y (Y.eqNilPtr Try.underlying24 rfl rfl) rfl rfl rfl ?_)
    refine L.nil ?_
    refine X.next ?_
    refine E.condFh rfl (rfl) ?_
    refine E.skip ?_
    refine X.next ?_
    refine E.seq ?_
    refine E.region ?_
    refine L.cons (O.y (Y.move rfl) rfl rfl rfl ?_)
    refine L.cons (O.enter (Runs.fn Try.call9 rfl) rfl rfl (start_c σ1 N (N + 3) p _ hd1 rfl (small0 _ (by omega) _) (by omega)) ?_)
    rintro v2 σ2 e2 ⟨w1, w2, rfl, _, _, hd2⟩
    simp only [scan_nil, List.take_nil] at hd2
    have T2 := T1.step hN e2 (by simp)
    refine L.nil ?_
    refine X.next ?_
    refine E.seq ?_
    refine E.region ?_
    refine L.cons (O.y (Y.move rfl) rfl rfl rfl ?_)
    refine L.cons (O.y (Y.move rfl) rfl rfl rfl ?_)
    have hv2 := hv.ext T2 (by simp) (by simp)
    refine L.cons (O.enter (Runs.fn Try.call10 rfl) rfl rfl (checkpoint_c σ2 N p _ _ bs hd2 rfl (small0 _ (by omega) _) rfl hv2 (by omega)) ?_)
    intro v3 σ3 e3 hR
    have hcost : DSt.cost bs ≤ 1008 := by unfold DSt.cost; split <;> omega
    rw [if_neg (by simp; omega)] at hR
    obtain ⟨rfl, hd3⟩ := hR
    simp only [] at hd3
    have T3 := T2.step hN e3 (by simp)
    refine L.nil ?_
    refine X.next ?_
    refine E.seq ?_
    refine E.seq ?_
    refine E.region ?_
    refine L.cons (O.y (Y.move rfl) rfl rfl rfl ?_)
    refine L.cons (O.y (Y.stLit (cs := [str [], .int .i64 0]) [] T.places37 Try.zeroValue37 rfl rfl) rfl rfl rfl ?_)
    refine L.cons (O.box (N + 3) rfl rfl rfl rfl ?_)
    intro σ4 tp4 e4 hb4
    have T4 := T3.trans e4
    have hd4 := hd3.ext e4 (by simp) (by simp) (by simp) (by simp)
    refine L.cons (O.y (Y.makeInterface T.conc35 rfl) rfl rfl rfl ?_)
    refine L.cons (O.enter (Runs.fn Try.call11 rfl) rfl rfl (openOn_c σ4 N p _ _ hd4 rfl) ?_)
    rintro v5 σ5 e5 ⟨rfl, rfl⟩
    refine L.cons (O.y (Y.move rfl) rfl rfl rfl ?_)
    refine L.cons (O.y (Y.extract rfl rfl) rfl rfl rfl ?_)
    refine L.cons (O.y (Y.extract rfl rfl) rfl rfl rfl ?_)
    refine L.cons (O.y (Y.assign rfl) rfl rfl rfl ?_)
    refine L.cons (O.y (Y.assign rfl) rfl rfl rfl ?_)
    refine L.nil ?_
    refine X.next ?_
    refine E.seq ?_
    refine E.region ?_
    refine L.cons (O.y (Y.move rfl) rfl rfl rfl ?_)
    refine L.cons (O.y (Y.neNilPtr Try.underlying32 rfl rfl) rfl rfl rfl ?_)
    refine L.cons (O.y (Y.move rfl) rfl rfl rfl ?_)
    refine L.setB (b' := false) rfl ?_
    refine L.cons (O.y (Y.move rfl) rfl rfl rfl ?_)
    refine L.cons (O.y (Y.neq rfl rfl) rfl rfl rfl ?_)
    refine L.cons (O.y (Y.pickF rfl rfl) rfl rfl rfl ?_)
    refine L.nil ?_
    refine X.next ?_
    refine E.condFh rfl (rfl) ?_
    refine E.skip ?_
    refine X.next ?_
    refine E.seq ?_
    refine E.region ?_
    refine L.cons (O.y (Y.move rfl) rfl rfl rfl ?_)
    refine L.cons (O.enter (Runs.fn Try.call12 rfl) rfl rfl (crash_c σ5 N p _ hd4 rfl ⟨by simp, by simp; omega, by simp, by simp, by simp⟩ (by simp) 0 0) ?_)
    rintro v6 σ6 e6 ⟨rfl, hd6⟩
    have hcr : (DSt.mk 4194304 true bs [] []).crash 0 0 = ⟨4194304, false, bs, [], []⟩ := by
      simp [DSt.crash, DSt.kept, DSt.torn]
    rw [hcr] at hd6
    have T6 := T4.step hN e6 (by simp)
    refine L.nil ?_
    refine X.next ?_
    refine E.seq ?_
    refine E.region ?_
    refine L.cons (O.y (Y.stLit (cs := [str [], .int .i64 0]) [] T.places37 Try.zeroValue37 rfl rfl) rfl rfl rfl ?_)
    refine L.cons (O.box (N + 3) rfl rfl rfl rfl ?_)
    intro σ7 tp e7 hb7
    have T7 := T6.trans e7
    have hd7 := hd6.ext e7 (by simp) (by simp) (by simp) (by simp)
    have hsm7 : (DSt.mk 4194304 false bs [] []).Small := ⟨by simp, by simp; omega, by simp, by simp, by simp⟩
    refine L.cons (O.y (Y.assign rfl) rfl rfl rfl ?_)
    refine L.nil ?_
    refine X.next ?_
    refine E.seq ?_
    refine E.region ?_
    refine L.cons (O.y (Y.move rfl) rfl rfl rfl ?_)
    refine L.cons (O.y (Y.move rfl) rfl rfl rfl ?_)
    refine L.cons (O.y (Y.makeInterface T.conc35 rfl) rfl rfl rfl ?_)
    by_cases hbad : bs ≠ [] ∧ bs.head? ≠ some 61
    · skip
      refine L.cons (O.enter (Runs.fn Try.call11 rfl) rfl rfl (openBad_c σ7 N p tp _ 0 _ hd7 rfl hsm7 hb7 hbad.1 hbad.2) ?_)
      rintro v8 σ8 e8 ⟨rfl, hd8⟩
      have T8 := T7.step hN e8 (by simp)
      have hv8 := hv.ext T8 (by simp) (by simp)
      obtain ⟨b, r, rfl⟩ : ∃ b r, bs = b :: r := by cases bs; exact absurd rfl hbad.1; exact ⟨_, _, rfl⟩
      have hb61 : ¬ b = 61 := by simpa using hbad.2
      refine L.cons (O.y (Y.move rfl) rfl rfl rfl ?_)
      refine L.cons (O.y (Y.extract rfl rfl) rfl rfl rfl ?_)
      refine L.cons (O.y (Y.extract rfl rfl) rfl rfl rfl ?_)
      refine L.cons (O.y (Y.assign rfl) rfl rfl rfl ?_)
      refine L.cons (O.y (Y.assign rfl) rfl rfl rfl ?_)
      refine L.nil ?_
      refine X.next ?_
      refine E.seq ?_
      refine E.seq ?_
      refine E.region ?_
      refine L.cons (O.y (Y.move rfl) rfl rfl rfl ?_)
      refine L.cons (O.y (Y.lenSl Try.underlying22 rfl) rfl rfl rfl ?_)
      refine L.cons (O.y (Y.gtr rfl rfl) rfl rfl rfl ?_)
      refine L.cons (O.y (Y.move rfl) rfl rfl rfl ?_)
      refine L.setB (b' := true) (decide_eq_true (by simp)) ?_
      refine L.cons (O.y (Y.move rfl) rfl rfl rfl ?_)
      refine L.cons (O.indexSl 0 b hv8 Try.underlying22 Try.sizeOf5 (by decide) rfl rfl rfl rfl rfl rfl ?_)
      intro b1 o1 hat
      have hcell : σ8.w.cell? ⟨b1, o1, none⟩ = some (.int .u8 b.toNat) := by
        obtain ⟨cs, hcs, h⟩ := hat
        have hcs : cs = [Value.int .u8 b.toNat] := hcs
        subst hcs
        exact h 0 _ rfl
      refine L.cons (O.y (Y.load1 Try.isAgg5 rfl (by intro w hw; subst hw; first | exact Blk.cell (by assumption) rfl | assumption)) rfl rfl rfl ?_)
      refine L.cons (O.y (Y.neq rfl rfl) rfl rfl rfl ?_)
      refine L.cons (O.y (Y.pickT rfl rfl) rfl rfl rfl ?_)
      refine L.nil ?_
      refine X.next ?_
      refine E.condTh rfl (decide_eq_true (by intro e; apply hb61; exact UInt8.toNat_inj.1 (by simpa using Int.ofNat.inj e))) ?_
      refine E.seq ?_
      refine E.region ?_
      refine L.cons (O.y (Y.move rfl) rfl rfl rfl ?_)
      refine L.cons (O.y (Y.eqNilPtr Try.underlying32 rfl rfl) rfl rfl rfl ?_)
      refine L.cons (O.y (Y.move rfl) rfl rfl rfl ?_)
      refine L.setB (b' := true) rfl ?_
      refine L.cons (O.y (Y.move rfl) rfl rfl rfl ?_)
      refine L.cons (O.y (Y.eql rfl rfl) rfl rfl rfl ?_)
      refine L.cons (O.y (Y.pickT rfl rfl) rfl rfl rfl ?_)
      refine L.cons (O.y (Y.move rfl) rfl rfl rfl ?_)
      refine L.setB (b' := true) rfl ?_
      refine L.cons (O.y (Y.move rfl) rfl rfl rfl ?_)
      refine L.cons (O.enter (Runs.fn Try.call13 rfl) rfl rfl (on_c σ8 N p _ hd8) ?_)
      rintro v9 σ9 e9 ⟨rfl, rfl⟩
      refine L.cons (O.y (Y.pickT rfl rfl) rfl rfl rfl ?_)
      refine L.cons (O.y (Y.assign rfl) rfl rfl rfl ?_)
      refine L.nil ?_
      refine X.next ?_
      refine E.ret ?_
      refine X.thenRet ?_
      exact X.ret1 Try.results3 rfl ⟨_, σ9, rfl, rfl, T8, rfl⟩
    · skip
      have hst : bs ≠ [] → bs.head? = some 61 := fun h => Classical.byContradiction fun h' => hbad ⟨h, h'⟩
      refine L.cons (O.enter (Runs.fn Try.call11 rfl) rfl rfl (open_c σ7 N p tp 0 _ hd7 rfl hsm7 hb7 hst (by simp [scan_nil, marks]; omega) (by simp [scan_nil])) ?_)
      rintro v8 σ8 e8 ⟨vp, rfl, hd8, hv8⟩
      simp only [scan_nil, show marks [] = [] from rfl, List.append_nil, List.length_nil] at hv8
      have T8 := T7.step hN e8 (by simp)
      have hs8 := hv.ext T8 (by simp) (by simp)
      have ht8 := hv8.1
      unfold Tape at ht8
      refine L.cons (O.y (Y.move rfl) rfl rfl rfl ?_)
      refine L.cons (O.y (Y.extract rfl rfl) rfl rfl rfl ?_)
      refine L.cons (O.y (Y.extract rfl rfl) rfl rfl rfl ?_)
      refine L.cons (O.y (Y.assign rfl) rfl rfl rfl ?_)
      refine L.cons (O.y (Y.assign rfl) rfl rfl rfl ?_)
      refine L.nil ?_
      refine X.next ?_
      refine E.seq ?_
      refine E.seq ?_
      refine E.region ?_
      refine L.cons (O.y (Y.move rfl) rfl rfl rfl ?_)
      refine L.cons (O.y (Y.lenSl Try.underlying22 rfl) rfl rfl rfl ?_)
      refine L.cons (O.y (Y.gtr rfl rfl) rfl rfl rfl ?_)
      refine L.cons (O.y (Y.move rfl) rfl rfl rfl ?_)
      by_cases hne : bs = []
      · skip
        subst hne
        refine L.setB (b' := false) (decide_eq_false (by simp)) ?_
        refine L.cons (O.not rfl rfl rfl ?_)
        refine L.cons (O.not rfl rfl rfl ?_)
        refine L.cons (O.not rfl rfl rfl ?_)
        refine L.cons (O.not rfl rfl rfl ?_)
        refine L.cons (O.y (Y.pickF rfl rfl) rfl rfl rfl ?_)
        refine L.nil ?_
        refine X.next ?_
        refine E.condFh rfl (rfl) ?_
        refine E.skip ?_
        refine X.next ?_
        refine E.seq ?_
        refine E.draw (.rd 0 (.rd 1 (.rd 2 (.rd 3 (.rd 4 (.rd 5 (.rd 6 (.rd 7 (.ef 8 (.rd 9 (.rd 10 (.rd 11 (.rd 12 (.rd 13 (.rd 14 (.rd 15 (.rd 16 (.rd 17 (.rd 18 (.rd 19 (.rd 20 (.rd 21 (.rd 22 (.rd 23 (.rd 24 (.rd 25 (.rd 26 (.rd 27 (.rd 28 (.rd 29 (.rd 30 (.rd 31 (.rd 32 (.ef 33 (.rd 34 (.rd 35 (.rd 36 (.rd 37 (.rd 38 Pl.done))))))))))))))))))))))))))))))))))))))) (fun w => w.cell? ⟨tp, 0, none⟩ = some (str [])) Try.wide_mixed (by decide +kernel) (by decide +kernel) (by intro c a w d v h; cases d <;> exact h) ?_
        intro σd ed cd hdd_
        have hvd := hv8.ext ed (by simp) (by simp)
        have htd := ht8.ext ed (by simp)
        refine D.rd rfl (Y.move rfl) rfl rfl rfl (htd.cell rfl) ?_
        refine D.rd rfl (Y.neNilPtr Try.underlying32 rfl rfl) rfl rfl rfl (htd.cell rfl) ?_
        refine D.rd rfl (Y.move rfl) rfl rfl rfl (htd.cell rfl) ?_
        refine D.setB (b' := true) rfl ?_
        refine D.rd rfl (Y.move rfl) rfl rfl rfl (htd.cell rfl) ?_
        refine D.rd rfl (Y.eql rfl rfl) rfl rfl rfl (htd.cell rfl) ?_
        refine D.rd rfl (Y.pickT rfl rfl) rfl rfl rfl (htd.cell rfl) ?_
        refine D.rd rfl (Y.move rfl) rfl rfl rfl (htd.cell rfl) ?_
        refine D.setB (b' := true) rfl ?_
        refine D.rd rfl (Y.move rfl) rfl rfl rfl (htd.cell rfl) ?_
        refine D.ef rfl (O.enter (Runs.fn Try.call14 rfl) rfl rfl (count_c σd N p tp vp _ _ _ hvd) ?_)
        rintro v9 σ9 e9 ⟨rfl, rfl⟩
        refine ⟨htd.cell rfl, ?_⟩
        refine D.rd rfl (Y.eql rfl rfl) rfl rfl rfl (htd.cell rfl) ?_
        refine D.rd rfl (Y.pickT rfl rfl) rfl rfl rfl (htd.cell rfl) ?_
        refine D.rd rfl (Y.move rfl) rfl rfl rfl (htd.cell rfl) ?_
        refine D.setB (b' := true) rfl ?_
        refine D.rd rfl (Y.move rfl) rfl rfl rfl (htd.cell rfl) ?_
        refine D.rd rfl (Y.lenSl Try.underlying22 rfl) rfl rfl rfl (htd.cell rfl) ?_
        refine D.rd rfl (Y.eql rfl rfl) rfl rfl rfl (htd.cell rfl) ?_
        refine D.rd rfl (Y.move rfl) rfl rfl rfl (htd.cell rfl) ?_
        refine D.setB (b' := true) rfl ?_
        refine D.rd rfl (Y.move rfl) rfl rfl rfl (htd.cell rfl) ?_
        refine D.rd rfl (Y.nilCheck rfl) rfl rfl rfl (htd.cell rfl) ?_
        refine D.rd rfl (Y.fieldAddr T.field37_0 rfl) rfl rfl rfl (htd.cell rfl) ?_
        refine D.rd rfl (Y.load1 Try.isAgg9 rfl (by intro w hw; first | exact hw | exact hw.1 | exact hw.2 | exact hw.2.1 | exact hw.2.2 | exact hw.2.2.1 | exact hw.2.2.2 | exact hw.2.2.2.1 | exact hw.2.2.2.2)) rfl rfl rfl (htd.cell rfl) ?_
        refine D.rd rfl (Y.eqlS rfl rfl) rfl rfl rfl (htd.cell rfl) ?_
        refine D.rd rfl (Y.pickT rfl rfl) rfl rfl rfl (htd.cell rfl) ?_
        refine D.rd rfl (Y.move rfl) rfl rfl rfl (htd.cell rfl) ?_
        refine D.setB (b' := true) rfl ?_
        refine D.rdNot rfl rfl rfl rfl (htd.cell rfl) ?_
        refine D.rdNot rfl rfl rfl rfl (htd.cell rfl) ?_
        refine D.rdNot rfl rfl rfl rfl (htd.cell rfl) ?_
        refine D.rdNot rfl rfl rfl rfl (htd.cell rfl) ?_
        refine D.rdNot rfl rfl rfl rfl (htd.cell rfl) ?_
        refine D.rdNot rfl rfl rfl rfl (htd.cell rfl) ?_
        refine D.rdNot rfl rfl rfl rfl (htd.cell rfl) ?_
        refine D.rdNot rfl rfl rfl rfl (htd.cell rfl) ?_
        refine D.rdNot rfl rfl rfl rfl (htd.cell rfl) ?_
        refine D.rdNot rfl rfl rfl rfl (htd.cell rfl) ?_
        refine D.ef rfl (O.not rfl rfl rfl ⟨(htd.cell rfl), ?_⟩)
        refine D.rdNot rfl rfl rfl rfl (htd.cell rfl) ?_
        refine D.rdNot rfl rfl rfl rfl (htd.cell rfl) ?_
        refine D.rd rfl (Y.pickT rfl rfl) rfl rfl rfl (htd.cell rfl) ?_
        refine D.rd rfl (Y.pickT rfl rfl) rfl rfl rfl (htd.cell rfl) ?_
        refine D.rd rfl (Y.assign rfl) rfl rfl rfl (htd.cell rfl) ?_
        refine D.done ?_
        refine X.next ?_
        refine E.ret ?_
        exact X.ret1 Try.results3 rfl ⟨_, σ9, rfl, rfl, T8.trans ed, rfl⟩
      · skip
        have h61 := hst hne
        obtain ⟨b, r, rfl⟩ : ∃ b r, bs = b :: r := by cases bs; exact absurd rfl hne; exact ⟨_, _, rfl⟩
        have hb61 : b = 61 := by simpa using h61
        subst hb61
        refine L.setB (b' := true) (decide_eq_true (by simp)) ?_
        refine L.cons (O.y (Y.move rfl) rfl rfl rfl ?_)
        refine L.cons (O.indexSl 0 61 hs8 Try.underlying22 Try.sizeOf5 (by decide) rfl rfl rfl rfl rfl rfl ?_)
        intro b1 o1 hat
        have hcell : σ8.w.cell? ⟨b1, o1, none⟩ = some (.int .u8 61) := by
          obtain ⟨cs, hcs, h⟩ := hat
          have hcs : cs = [Value.int .u8 61] := hcs
          subst hcs
          exact h 0 _ rfl
        refine L.cons (O.y (Y.load1 Try.isAgg5 rfl (by intro w hw; subst hw; first | exact Blk.cell (by assumption) rfl | assumption)) rfl rfl rfl ?_)
        refine L.cons (O.y (Y.neq rfl rfl) rfl rfl rfl ?_)
        refine L.cons (O.y (Y.pickT rfl rfl) rfl rfl rfl ?_)
        refine L.nil ?_
        refine X.next ?_
        refine E.condFh rfl (rfl) ?_
        refine E.skip ?_
        refine X.next ?_
        refine E.seq ?_
        refine E.draw (.rd 0 (.rd 1 (.rd 2 (.rd 3 (.rd 4 (.rd 5 (.rd 6 (.rd 7 (.ef 8 (.rd 9 (.rd 10 (.rd 11 (.rd 12 (.rd 13 (.rd 14 (.rd 15 (.rd 16 (.rd 17 (.rd 18 (.rd 19 (.rd 20 (.rd 21 (.rd 22 (.rd 23 (.rd 24 (.rd 25 (.rd 26 (.rd 27 (.rd 28 (.rd 29 (.rd 30 (.rd 31 (.rd 32 (.ef 33 (.rd 34 (.rd 35 (.rd 36 (.rd 37 (.rd 38 Pl.done))))))))))))))))))))))))))))))))))))))) (fun w => w.cell? ⟨tp, 0, none⟩ = some (str r)) Try.wide_mixed (by decide +kernel) (by decide +kernel) (by intro c a w d v h; cases d <;> exact h) ?_
        intro σd ed cd hdd_
        have hvd := hv8.ext ed (by simp) (by simp)
        have htd := ht8.ext ed (by simp)
        have hsd := hs8.ext ed (by simp) (by simp)
        refine D.rd rfl (Y.move rfl) rfl rfl rfl (htd.cell rfl) ?_
        refine D.rd rfl (Y.neNilPtr Try.underlying32 rfl rfl) rfl rfl rfl (htd.cell rfl) ?_
        refine D.rd rfl (Y.move rfl) rfl rfl rfl (htd.cell rfl) ?_
        refine D.setB (b' := true) rfl ?_
        refine D.rd rfl (Y.move rfl) rfl rfl rfl (htd.cell rfl) ?_
        refine D.rd rfl (Y.eql rfl rfl) rfl rfl rfl (htd.cell rfl) ?_
        refine D.rd rfl (Y.pickT rfl rfl) rfl rfl rfl (htd.cell rfl) ?_
        refine D.rd rfl (Y.move rfl) rfl rfl rfl (htd.cell rfl) ?_
        refine D.setB (b' := true) rfl ?_
        refine D.rd rfl (Y.move rfl) rfl rfl rfl (htd.cell rfl) ?_
        refine D.ef rfl (O.enter (Runs.fn Try.call14 rfl) rfl rfl (count_c σd N p tp vp _ _ _ hvd) ?_)
        rintro v9 σ9 e9 ⟨rfl, rfl⟩
        refine ⟨htd.cell rfl, ?_⟩
        refine D.rd rfl (Y.eql rfl rfl) rfl rfl rfl (htd.cell rfl) ?_
        refine D.rd rfl (Y.pickT rfl rfl) rfl rfl rfl (htd.cell rfl) ?_
        refine D.rd rfl (Y.move rfl) rfl rfl rfl (htd.cell rfl) ?_
        refine D.setB (b' := true) rfl ?_
        refine D.rd rfl (Y.move rfl) rfl rfl rfl (htd.cell rfl) ?_
        refine D.rd rfl (Y.lenSl Try.underlying22 rfl) rfl rfl rfl (htd.cell rfl) ?_
        refine D.rd rfl (Y.eql rfl rfl) rfl rfl rfl (htd.cell rfl) ?_
        refine D.rd rfl (Y.move rfl) rfl rfl rfl (htd.cell rfl) ?_
        refine D.setB (b' := false) (decide_eq_false (by simp only [List.length_cons]; omega)) ?_
        refine D.rdNot rfl rfl rfl rfl (htd.cell rfl) ?_
        refine D.rdNot rfl rfl rfl rfl (htd.cell rfl) ?_
        refine D.rdNot rfl rfl rfl rfl (htd.cell rfl) ?_
        refine D.rdNot rfl rfl rfl rfl (htd.cell rfl) ?_
        refine D.rdNot rfl rfl rfl rfl (htd.cell rfl) ?_
        refine D.rd rfl (Y.pickF rfl rfl) rfl rfl rfl (htd.cell rfl) ?_
        refine D.rd rfl (Y.move rfl) rfl rfl rfl (htd.cell rfl) ?_
        refine D.setB (b' := false) rfl ?_
        refine D.rd rfl (Y.move rfl) rfl rfl rfl (htd.cell rfl) ?_
        refine D.rd rfl (Y.lenSl Try.underlying22 rfl) rfl rfl rfl (htd.cell rfl) ?_
        refine D.rd rfl (Y.gtr rfl rfl) rfl rfl rfl (htd.cell rfl) ?_
        refine D.rd rfl (Y.move rfl) rfl rfl rfl (htd.cell rfl) ?_
        refine D.setB (b' := true) (decide_eq_true (by simp)) ?_
        refine D.rd rfl (Y.move rfl) rfl rfl rfl (htd.cell rfl) ?_
        refine D.rd rfl (Y.nilCheck rfl) rfl rfl rfl (htd.cell rfl) ?_
        refine D.rd rfl (Y.fieldAddr T.field37_0 rfl) rfl rfl rfl (htd.cell rfl) ?_
        refine D.rd rfl (Y.load1 Try.isAgg9 rfl (by intro w hw; first | exact hw | exact hw.1 | exact hw.2 | exact hw.2.1 | exact hw.2.2 | exact hw.2.2.1 | exact hw.2.2.2 | exact hw.2.2.2.1 | exact hw.2.2.2.2)) rfl rfl rfl (htd.cell rfl) ?_
        refine D.rd rfl (Y.move rfl) rfl rfl rfl (htd.cell rfl) ?_
        refine D.rd rfl (Y.sliceSl 1 (61 :: r).length c Try.underlying22 Try.sizeOf5 rfl (.inr ⟨_, _, rfl, rfl⟩) (.inl ⟨rfl, rfl, rfl⟩) (.inl ⟨rfl, rfl⟩) (by simp) (by omega) (by omega)) rfl rfl rfl (htd.cell rfl) ?_
        have hcut := Bs.cut hsd 1 (61 :: r).length (by simp) (by omega)
        have hr1 : ((61 :: r).drop 1).take ((61 :: r).length - 1) = r := by simp
        rw [hr1] at hcut
        refine D.ef rfl (O.y (Y.toStr Try.underlying22 Try.underlying5 Try.underlying9 (fun w hw => ⟨σ9, hw.symm, hcut⟩) rfl) rfl rfl rfl ?_)
        refine ⟨htd.cell rfl, ?_⟩
        refine D.rd rfl (Y.eqlS rfl rfl) rfl rfl rfl (htd.cell rfl) ?_
        refine D.rd rfl (Y.pickT rfl rfl) rfl rfl rfl (htd.cell rfl) ?_
        refine D.rd rfl (Y.pickF rfl rfl) rfl rfl rfl (htd.cell rfl) ?_
        refine D.rd rfl (Y.pickT rfl rfl) rfl rfl rfl (htd.cell rfl) ?_
        refine D.rd rfl (Y.assign rfl) rfl rfl rfl (htd.cell rfl) ?_
        refine D.done ?_
        refine X.next ?_
        refine E.ret ?_
        refine X.ret1 Try.results3 rfl ⟨_, σ9, rfl, rfl, T8.trans ed, ?_⟩
        simp
end Go.Proofs.Ytjhpoahjmcoilaa
