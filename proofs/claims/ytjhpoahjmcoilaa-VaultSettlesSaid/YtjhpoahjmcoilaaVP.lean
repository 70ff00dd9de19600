/- Walks of package vault, the third part: Open. -/
import Derived.Test.YtjhpoahjmcoilaaTab
import Derived.Test.YtjhpoahjmcoilaaVO
set_option linter.unusedSimpArgs false
set_option linter.unusedVariables false
namespace Go.Proofs.Ytjhpoahjmcoilaa
open Go.Stp
/-- A disk that was switched on. -/
def DSt.start (d : DSt) : DSt := { d with on := true, log := d.log.take (scan d.log).2 }
theorem openOn_c (σ : GW) (k p : Nat) (m : Value) (d : DSt) (hd : Disk σ k p d) (hon : d.on = true) :
    Calls Try.prog 11 [.pointer (some ⟨p, 0, none⟩), m].toArray σ.w (Ret σ [] fun r σ' => r = .tuple #[.pointer none, .int .i64 8] ∧ σ' = σ) := by
  refine calls Try.func11 rfl Try.ntmps11 (Nat.le_of_ble_eq_true rfl) ?_
  refine E.seq ?_
  refine E.region ?_
  refine L.cons (O.y (Y.assign rfl) rfl rfl rfl ?_)
  refine L.cons (O.y (Y.assign rfl) rfl rfl rfl ?_)
  refine L.nil ?_
  refine X.next ?_
  refine E.seq ?_
  refine E.region ?_
  refine L.cons (O.y (Y.move rfl) rfl rfl rfl ?_)
  refine L.cons (O.enter (Runs.fn Try.call9 rfl) rfl rfl (startOn_c σ k p d hd hon) ?_)
  rintro v1 σ1 e1 ⟨rfl, rfl⟩
  refine L.cons (O.y (Y.move rfl) rfl rfl rfl ?_)
  refine L.cons (O.y (Y.extract rfl rfl) rfl rfl rfl ?_)
  refine L.cons (O.y (Y.extract rfl rfl) rfl rfl rfl ?_)
  refine L.cons (O.y (Y.extract rfl rfl) rfl rfl rfl ?_)
  refine L.cons (O.y (Y.assign rfl) rfl rfl rfl ?_)
  refine L.cons (O.y (Y.assign rfl) rfl rfl rfl ?_)
  refine L.cons (O.y (Y.assign rfl) rfl rfl rfl ?_)
  refine L.nil ?_
  refine X.next ?_
  refine E.seq ?_
  refine E.block ?_
  refine E.seq ?_
  refine E.region ?_
  refine L.cons (O.y (Y.move rfl) rfl rfl rfl ?_)
  refine L.cons (O.y (Y.neq rfl rfl) rfl rfl rfl ?_)
  refine L.cons (O.y (Y.assign rfl) rfl rfl rfl ?_)
  refine L.nil ?_
  refine X.next ?_
  refine E.condTh rfl (rfl) ?_
  refine E.seq ?_
  refine E.region ?_
  refine L.cons (O.y (Y.move rfl) rfl rfl rfl ?_)
  refine L.cons (O.y (Y.assign rfl) rfl rfl rfl ?_)
  refine L.cons (O.y (Y.assign rfl) rfl rfl rfl ?_)
  refine L.nil ?_
  refine X.next ?_
  refine E.ret ?_
  refine X.blockRet ?_
  refine X.thenRet ?_
  exact X.ret2 Try.results11 rfl rfl ⟨_, σ1, rfl, rfl, Ext.refl _ _, rfl, rfl⟩
theorem openBad_c (σ : GW) (k p tp : Nat) (s : List UInt8) (n : Nat) (d : DSt) (hd : Disk σ k p d) (hon : d.on = false) (hsm : d.Small) (ht : Tape σ (k + 3) tp s n) (hne : d.state ≠ []) (hst : d.state.head? ≠ some 61) :
    Calls Try.prog 11 [.pointer (some ⟨p, 0, none⟩), .iface 35 (.pointer (some ⟨tp, 0, none⟩))].toArray σ.w (Ret σ [k, k + 3] fun r σ' => r = .tuple #[.pointer none, .int .i64 3] ∧ Disk σ' k p d.start) := by
  obtain ⟨N, hN, hkk, hN0⟩ := σ.fresh [k + 4]
  have hkN := hkk (k + 4) (by simp)
  have hk : 0 < k := by obtain ⟨_, _, _, _, _, _, _, hk⟩ := hd; exact hk
  have hlen : 0 < d.state.length := List.length_pos_iff.2 hne
  refine calls Try.func11 rfl Try.ntmps11 (Nat.le_of_ble_eq_true rfl) ?_
  refine E.seq ?_
  refine E.region ?_
  refine L.cons (O.y (Y.assign rfl) rfl rfl rfl ?_)
  refine L.cons (O.y (Y.assign rfl) rfl rfl rfl ?_)
  refine L.nil ?_
  refine X.next ?_
  refine E.seq ?_
  refine E.region ?_
  refine L.cons (O.y (Y.move rfl) rfl rfl rfl ?_)
  refine L.cons (O.enter (Runs.fn Try.call9 rfl) rfl rfl (start_c σ k N p d hd hon hsm (by omega)) ?_)
  rintro v1 σ1 e1 ⟨v, v2, rfl, hv, hl, hd1⟩
  have ht1 := Blk.ext ht e1 (by simp)
  obtain ⟨A, c, cs, rfl, hlc, _⟩ := id hv
  refine L.cons (O.y (Y.move rfl) rfl rfl rfl ?_)
  refine L.cons (O.y (Y.extract rfl rfl) rfl rfl rfl ?_)
  refine L.cons (O.y (Y.extract rfl rfl) rfl rfl rfl ?_)
  refine L.cons (O.y (Y.extract rfl rfl) rfl rfl rfl ?_)
  refine L.cons (O.y (Y.assign rfl) rfl rfl rfl ?_)
  refine L.cons (O.y (Y.assign rfl) rfl rfl rfl ?_)
  refine L.cons (O.y (Y.assign rfl) rfl rfl rfl ?_)
  refine L.nil ?_
  refine X.next ?_
  refine E.seq ?_
  refine E.block ?_
  refine E.seq ?_
  refine E.region ?_
  refine L.cons (O.y (Y.move rfl) rfl rfl rfl ?_)
  refine L.cons (O.y (Y.neq rfl rfl) rfl rfl rfl ?_)
  refine L.cons (O.y (Y.assign rfl) rfl rfl rfl ?_)
  refine L.nil ?_
  refine X.next ?_
  refine E.condFh rfl (rfl) ?_
  refine E.seq ?_
  refine E.region ?_
  refine L.cons (O.y (Y.move rfl) rfl rfl rfl ?_)
  refine L.cons (O.y (Y.lenSl Try.underlying22 rfl) rfl rfl rfl ?_)
  refine L.cons (O.y (Y.gtr rfl rfl) rfl rfl rfl ?_)
  refine L.cons (O.y (Y.move rfl) rfl rfl rfl ?_)
  refine L.setB (b' := true) (decide_eq_true (by omega)) ?_
  refine L.cons (O.y (Y.move rfl) rfl rfl rfl ?_)
  refine L.cons (O.y (Y.move rfl) rfl rfl rfl ?_)
  refine L.cons (O.y (Y.toStr Try.underlying22 Try.underlying5 Try.underlying9 (fun w hw => ⟨σ1, hw.symm, hv⟩) rfl) rfl rfl rfl ?_)
  refine L.cons (O.enter (Runs.inv Try.call63 T.meth35_Load_63 rfl rfl) rfl rfl (tapeLoad_c σ1 (k + 3) tp s d.state n ht1 hne) ?_)
  intro v3 σ3 e3 hR
  rw [if_neg hst] at hR
  obtain ⟨rfl, rfl⟩ := hR
  refine L.cons (O.y (Y.not rfl) rfl rfl rfl ?_)
  refine L.cons (O.y (Y.pickT rfl rfl) rfl rfl rfl ?_)
  refine L.cons (O.y (Y.assign rfl) rfl rfl rfl ?_)
  refine L.nil ?_
  refine X.next ?_
  refine E.condTh rfl (rfl) ?_
  refine E.seq ?_
  refine E.region ?_
  refine L.cons (O.y (Y.assign rfl) rfl rfl rfl ?_)
  refine L.cons (O.y (Y.assign rfl) rfl rfl rfl ?_)
  refine L.nil ?_
  refine X.next ?_
  refine E.ret ?_
  refine X.blockRet ?_
  refine X.thenRet ?_
  exact X.ret2 Try.results11 rfl rfl ⟨_, σ3, rfl, rfl, e1.mono (by simp), rfl, hd1⟩
theorem open_c (σ : GW) (k p tp : Nat) (n : Nat) (d : DSt) (hd : Disk σ k p d) (hon : d.on = false) (hsm : d.Small) (ht : Tape σ (k + 3) tp [] n) (hst : d.state ≠ [] → d.state.head? = some 61)
    (hl : d.state.length + (marks (scan d.log).1).length ≤ 100000000) (hn : n + (scan d.log).1.length ≤ 100000000) :
    Calls Try.prog 11 [.pointer (some ⟨p, 0, none⟩), .iface 35 (.pointer (some ⟨tp, 0, none⟩))].toArray σ.w (Ret σ [k, k + 3, k + 4] fun r σ' => ∃ vp, r = .tuple #[.pointer (some ⟨vp, 0, none⟩), .int .i64 0] ∧ Disk σ' k p d.start ∧
      VT σ' k p tp vp (d.state.drop 1 ++ marks (scan d.log).1) (n + (scan d.log).1.length) (scan d.log).1.length) := by
  obtain ⟨N, hN, hkk, hN0⟩ := σ.fresh [k + 4]
  have hkN := hkk (k + 4) (by simp)
  have hk : 0 < k := by obtain ⟨_, _, _, _, _, _, _, hk⟩ := hd; exact hk
  refine calls Try.func11 rfl Try.ntmps11 (Nat.le_of_ble_eq_true rfl) ?_
  refine E.seq ?_
  refine E.region ?_
  refine L.cons (O.y (Y.assign rfl) rfl rfl rfl ?_)
  refine L.cons (O.y (Y.assign rfl) rfl rfl rfl ?_)
  refine L.nil ?_
  refine X.next ?_
  refine E.seq ?_
  refine E.region ?_
  refine L.cons (O.y (Y.move rfl) rfl rfl rfl ?_)
  refine L.cons (O.enter (Runs.fn Try.call9 rfl) rfl rfl (start_c σ k N p d hd hon hsm (by omega)) ?_)
  rintro v1 σ1 e1 ⟨v, v2, rfl, hv, hl1, hd1⟩
  have ht1 := Blk.ext ht e1 (by simp)
  obtain ⟨A, c, cs, rfl, hlc, _⟩ := id hv
  have T1 : Ext σ σ1 [k, k + 3, k + 4] := e1.mono (by simp)
  have rest : ∀ (σ3 : GW), Ext σ1 σ3 [k + 3] → Tape σ3 (k + 3) tp (d.state.drop 1) n → ∃ x : Nat, True := fun _ _ _ => ⟨0, trivial⟩
  refine L.cons (O.y (Y.move rfl) rfl rfl rfl ?_)
  refine L.cons (O.y (Y.extract rfl rfl) rfl rfl rfl ?_)
  refine L.cons (O.y (Y.extract rfl rfl) rfl rfl rfl ?_)
  refine L.cons (O.y (Y.extract rfl rfl) rfl rfl rfl ?_)
  refine L.cons (O.y (Y.assign rfl) rfl rfl rfl ?_)
  refine L.cons (O.y (Y.assign rfl) rfl rfl rfl ?_)
  refine L.cons (O.y (Y.assign rfl) rfl rfl rfl ?_)
  refine L.nil ?_
  refine X.next ?_
  refine E.seq ?_
  refine E.block ?_
  refine E.seq ?_
  refine E.region ?_
  refine L.cons (O.y (Y.move rfl) rfl rfl rfl ?_)
  refine L.cons (O.y (Y.neq rfl rfl) rfl rfl rfl ?_)
  refine L.cons (O.y (Y.assign rfl) rfl rfl rfl ?_)
  refine L.nil ?_
  refine X.next ?_
  refine E.condFh rfl (rfl) ?_
  refine E.seq ?_
  refine E.region ?_
  refine L.cons (O.y (Y.move rfl) rfl rfl rfl ?_)
  refine L.cons (O.y (Y.lenSl Try.underlying22 rfl) rfl rfl rfl ?_)
  refine L.cons (O.y (Y.gtr rfl rfl) rfl rfl rfl ?_)
  refine L.cons (O.y (Y.move rfl) rfl rfl rfl ?_)
  by_cases hne : d.state = []
  · skip
    have hz : d.state.length = 0 := by rw [hne]; rfl
    refine L.setB (b' := false) (decide_eq_false (by omega)) ?_
    refine L.cons (O.not rfl rfl rfl ?_)
    refine L.cons (O.not rfl rfl rfl ?_)
    refine L.cons (O.not rfl rfl rfl ?_)
    refine L.cons (O.not rfl rfl rfl ?_)
    refine L.cons (O.not rfl rfl rfl ?_)
    refine L.cons (O.y (Y.pickF rfl rfl) rfl rfl rfl ?_)
    refine L.cons (O.y (Y.assign rfl) rfl rfl rfl ?_)
    refine L.nil ?_
    refine X.next ?_
    refine E.condFh rfl (rfl) ?_
    refine E.skip ?_
    refine X.inBlock ?_
    refine X.next ?_
    refine E.seq ?_
    refine E.region ?_
    refine L.cons (O.y (Y.move rfl) rfl rfl rfl ?_)
    refine L.cons (O.y (Y.move rfl) rfl rfl rfl ?_)
    refine L.cons (O.y (Y.stLit (cs := [.pointer (some ⟨p, 0, none⟩), .iface 35 (.pointer (some ⟨tp, 0, none⟩)), .int .i64 0]) [(0, .pointer (some ⟨p, 0, none⟩)), (1, .iface 35 (.pointer (some ⟨tp, 0, none⟩)))] T.places66 Try.zeroValue66 rfl rfl) rfl rfl rfl ?_)
    refine L.cons (O.box (k + 4) rfl rfl rfl rfl ?_)
    intro σ4 vp e4 hb4
    have ht4 := Blk.ext ht1 e4 (by simp)
    have hl4 := hl1.ext e4 (by simp) (by simp)
    refine L.cons (O.y (Y.assign rfl) rfl rfl rfl ?_)
    refine L.nil ?_
    refine X.next ?_
    refine E.seq ?_
    refine E.region ?_
    refine L.cons (O.y (Y.move rfl) rfl rfl rfl ?_)
    refine L.cons (O.y (Y.move rfl) rfl rfl rfl ?_)
    refine L.cons (O.y (Y.makeFunc [.pointer (some ⟨vp, 0, none⟩)] [] (fun ρ h => by simp [h (.tmp 36) _ rfl]) (fun ρ h => by simp)) rfl rfl rfl ?_)
    refine L.cons (O.enter (Runs.fn Try.call30 rfl) rfl rfl (each_c σ4 k N p tp vp v2 (scan d.log).1 [] n 0 hl4.sl (by omega) (by omega) ⟨ht4, hb4⟩ (by simp; omega) (by omega) (by omega)) ?_)
    rintro v5 σ5 e5 ⟨rfl, h5⟩
    refine L.nil ?_
    refine X.next ?_
    refine E.seq ?_
    refine E.region ?_
    refine L.cons (O.y (Y.move rfl) rfl rfl rfl ?_)
    refine L.cons (O.y (Y.assign rfl) rfl rfl rfl ?_)
    refine L.cons (O.y (Y.assign rfl) rfl rfl rfl ?_)
    refine L.nil ?_
    refine X.next ?_
    refine E.ret ?_
    refine X.ret2 Try.results11 rfl rfl ⟨_, σ5, rfl, rfl, (T1.trans (e4.mono (by simp))).trans (e5.mono (by simp)), vp, rfl, ?_, ?_⟩
    · exact (hd1.ext e4 (by simp) (by simp) (by simp) (by simp)).ext e5 (by simp) (by simp) (by simp) (by simp)
    · rw [hne]; simpa using h5
  · skip
    have hz : 0 < d.state.length := List.length_pos_iff.2 hne
    refine L.setB (b' := true) (decide_eq_true (by omega)) ?_
    refine L.cons (O.y (Y.move rfl) rfl rfl rfl ?_)
    refine L.cons (O.y (Y.move rfl) rfl rfl rfl ?_)
    refine L.cons (O.y (Y.toStr Try.underlying22 Try.underlying5 Try.underlying9 (fun w hw => ⟨σ1, hw.symm, hv⟩) rfl) rfl rfl rfl ?_)
    refine L.cons (O.enter (Runs.inv Try.call63 T.meth35_Load_63 rfl rfl) rfl rfl (tapeLoad_c σ1 (k + 3) tp [] d.state n ht1 hne) ?_)
    intro v3 σ3 e3 hR
    rw [if_pos (hst hne)] at hR
    obtain ⟨rfl, ht3⟩ := hR
    have hl3 := hl1.ext e3 (by simp) (by simp; omega)
    refine L.cons (O.y (Y.not rfl) rfl rfl rfl ?_)
    refine L.cons (O.y (Y.pickT rfl rfl) rfl rfl rfl ?_)
    refine L.cons (O.y (Y.assign rfl) rfl rfl rfl ?_)
    refine L.nil ?_
    refine X.next ?_
    refine E.condFh rfl (rfl) ?_
    refine E.skip ?_
    refine X.inBlock ?_
    refine X.next ?_
    refine E.seq ?_
    refine E.region ?_
    refine L.cons (O.y (Y.move rfl) rfl rfl rfl ?_)
    refine L.cons (O.y (Y.move rfl) rfl rfl rfl ?_)
    refine L.cons (O.y (Y.stLit (cs := [.pointer (some ⟨p, 0, none⟩), .iface 35 (.pointer (some ⟨tp, 0, none⟩)), .int .i64 0]) [(0, .pointer (some ⟨p, 0, none⟩)), (1, .iface 35 (.pointer (some ⟨tp, 0, none⟩)))] T.places66 Try.zeroValue66 rfl rfl) rfl rfl rfl ?_)
    refine L.cons (O.box (k + 4) rfl rfl rfl rfl ?_)
    intro σ4 vp e4 hb4
    have ht4 := Blk.ext ht3 e4 (by simp)
    have hl4 := hl3.ext e4 (by simp) (by simp)
    refine L.cons (O.y (Y.assign rfl) rfl rfl rfl ?_)
    refine L.nil ?_
    refine X.next ?_
    refine E.seq ?_
    refine E.region ?_
    refine L.cons (O.y (Y.move rfl) rfl rfl rfl ?_)
    refine L.cons (O.y (Y.move rfl) rfl rfl rfl ?_)
    refine L.cons (O.y (Y.makeFunc [.pointer (some ⟨vp, 0, none⟩)] [] (fun ρ h => by simp [h (.tmp 36) _ rfl]) (fun ρ h => by simp)) rfl rfl rfl ?_)
    refine L.cons (O.enter (Runs.fn Try.call30 rfl) rfl rfl (each_c σ4 k N p tp vp v2 (scan d.log).1 (d.state.drop 1) n 0 hl4.sl (by omega) (by omega) ⟨ht4, hb4⟩ (by simp; omega) (by omega) (by omega)) ?_)
    rintro v5 σ5 e5 ⟨rfl, h5⟩
    refine L.nil ?_
    refine X.next ?_
    refine E.seq ?_
    refine E.region ?_
    refine L.cons (O.y (Y.move rfl) rfl rfl rfl ?_)
    refine L.cons (O.y (Y.assign rfl) rfl rfl rfl ?_)
    refine L.cons (O.y (Y.assign rfl) rfl rfl rfl ?_)
    refine L.nil ?_
    refine X.next ?_
    refine E.ret ?_
    refine X.ret2 Try.results11 rfl rfl ⟨_, σ5, rfl, rfl, ((T1.trans (e3.mono (by simp))).trans (e4.mono (by simp))).trans (e5.mono (by simp)), vp, rfl, ?_, ?_⟩
    · exact ((hd1.ext e3 (by simp) (by simp) (by simp) (by simp)).ext e4 (by simp) (by simp) (by simp) (by simp)).ext e5 (by simp) (by simp) (by simp) (by simp)
    · simpa using h5
theorem opened_c (σ : GW) (k p : Nat) (d : DSt) (hd : Disk σ k p d) (hon : d.on = false) (hsm : d.Small) (hst : d.state ≠ [] → d.state.head? = some 61)
    (hl : d.state.length + (marks (scan d.log).1).length ≤ 100000000) (hn : (scan d.log).1.length ≤ 100000000) :
    Calls Try.prog 16 [.pointer (some ⟨p, 0, none⟩)].toArray σ.w (Ret σ [k, k + 3, k + 4] fun r σ' => ∃ vp tp n, r = .tuple #[.pointer (some ⟨vp, 0, none⟩), .pointer (some ⟨tp, 0, none⟩)] ∧ Disk σ' k p d.start ∧
      VT σ' k p tp vp (d.state.drop 1 ++ marks (scan d.log).1) n (scan d.log).1.length ∧ n = (scan d.log).1.length) := by
  have hk : 0 < k := by obtain ⟨_, _, _, _, _, _, _, hk⟩ := hd; exact hk
  refine calls Try.func16 rfl Try.ntmps16 (Nat.le_of_ble_eq_true rfl) ?_
  refine E.seq ?_
  refine E.region ?_
  refine L.cons (O.y (Y.assign rfl) rfl rfl rfl ?_)
  refine L.cons (O.y (Y.assign rfl) rfl rfl rfl ?_)
  refine L.nil ?_
  refine X.next ?_
  refine E.seq ?_
  refine E.region ?_
  refine L.cons (O.y (Y.stLit (cs := [str [], .int .i64 0]) [] T.places37 Try.zeroValue37 rfl rfl) rfl rfl rfl ?_)
  refine L.cons (O.box (k + 3) rfl rfl rfl rfl ?_)
  intro σ1 tp e1 hb1
  refine L.cons (O.y (Y.assign rfl) rfl rfl rfl ?_)
  refine L.nil ?_
  refine X.next ?_
  refine E.seq ?_
  refine E.seq ?_
  refine E.region ?_
  refine L.cons (O.y (Y.move rfl) rfl rfl rfl ?_)
  refine L.cons (O.y (Y.eqNilPtr Try.underlying24 rfl rfl) rfl rfl rfl ?_)
  refine L.nil ?_
  refine X.next ?_
  refine E.condFh rfl (rfl) ?_
  refine E.skip ?_
  refine X.next ?_
  refine E.seq ?_
  refine E.region ?_
  refine L.cons (O.y (Y.move rfl) rfl rfl rfl ?_)
  refine L.cons (O.y (Y.move rfl) rfl rfl rfl ?_)
  refine L.cons (O.y (Y.makeInterface T.conc35 rfl) rfl rfl rfl ?_)
  refine L.cons (O.enter (Runs.fn Try.call11 rfl) rfl rfl (open_c σ1 k p tp 0 d (hd.ext e1 (by simp) (by simp) (by simp) (by simp)) hon hsm hb1 hst hl (by omega)) ?_)
  rintro v2 σ2 e2 ⟨vp, rfl, hd2, hv2⟩
  refine L.cons (O.y (Y.move rfl) rfl rfl rfl ?_)
  refine L.cons (O.y (Y.extract rfl rfl) rfl rfl rfl ?_)
  refine L.cons (O.y (Y.extract rfl rfl) rfl rfl rfl ?_)
  refine L.cons (O.y (Y.assign rfl) rfl rfl rfl ?_)
  refine L.cons (O.y (Y.assign rfl) rfl rfl rfl ?_)
  refine L.nil ?_
  refine X.next ?_
  refine E.seq ?_
  refine E.seq ?_
  refine E.region ?_
  refine L.cons (O.y (Y.move rfl) rfl rfl rfl ?_)
  refine L.cons (O.y (Y.neq rfl rfl) rfl rfl rfl ?_)
  refine L.nil ?_
  refine X.next ?_
  refine E.condFh rfl (rfl) ?_
  refine E.skip ?_
  refine X.next ?_
  refine E.seq ?_
  refine E.region ?_
  refine L.cons (O.y (Y.move rfl) rfl rfl rfl ?_)
  refine L.cons (O.y (Y.move rfl) rfl rfl rfl ?_)
  refine L.cons (O.y (Y.assign rfl) rfl rfl rfl ?_)
  refine L.cons (O.y (Y.assign rfl) rfl rfl rfl ?_)
  refine L.nil ?_
  refine X.next ?_
  refine E.ret ?_
  exact X.ret2 Try.results16 rfl rfl ⟨_, σ2, rfl, rfl, (e1.mono (by simp)).trans e2, vp, tp, _, rfl, hd2, hv2, by omega⟩
end Go.Proofs.Ytjhpoahjmcoilaa
