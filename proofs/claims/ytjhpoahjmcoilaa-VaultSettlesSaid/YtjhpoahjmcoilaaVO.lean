/- Walks of package vault, the second part. -/
import Derived.Test.YtjhpoahjmcoilaaTab
import Derived.Test.YtjhpoahjmcoilaaVL
set_option linter.unusedSimpArgs false
set_option linter.unusedVariables false
namespace Go.Proofs.Ytjhpoahjmcoilaa
open Go.Stp
theorem count_c (σ : GW) (k p tp vp : Nat) (s : List UInt8) (n c : Nat) (h : VT σ k p tp vp s n c) :
    Calls Try.prog 14 [.pointer (some ⟨vp, 0, none⟩)].toArray σ.w (Ret σ [] fun r σ' => r = .int .i64 c ∧ σ' = σ) := by
  obtain ⟨ht, hv⟩ := h
  refine calls Try.func14 rfl Try.ntmps14 (Nat.le_of_ble_eq_true rfl) ?_
  refine E.seq ?_
  refine E.region ?_
  refine L.cons (O.y (Y.assign rfl) rfl rfl rfl ?_)
  refine L.nil ?_
  refine X.next ?_
  refine E.seq ?_
  refine E.region ?_
  refine L.cons (O.y (Y.move rfl) rfl rfl rfl ?_)
  refine L.cons (O.y (Y.nilCheck rfl) rfl rfl rfl ?_)
  refine L.cons (O.y (Y.fieldAddr T.field66_2 rfl) rfl rfl rfl ?_)
  refine L.cons (O.y (Y.load1 Try.isAgg3 rfl (by intro w hw; subst hw; first | exact Blk.cell (by assumption) rfl | assumption)) rfl rfl rfl ?_)
  refine L.cons (O.y (Y.assign rfl) rfl rfl rfl ?_)
  refine L.nil ?_
  refine X.next ?_
  refine E.ret ?_
  exact X.ret1 Try.results14 rfl ⟨_, σ, rfl, rfl, Ext.refl _ _, rfl, rfl⟩
theorem sure_c (σ : GW) (k p tp vp : Nat) (s : List UInt8) (n c : Nat) (d : DSt) (h : VT σ k p tp vp s n c) (hd : Disk σ k p d) :
    Calls Try.prog 22 [.pointer (some ⟨vp, 0, none⟩)].toArray σ.w (Ret σ [] fun r σ' => r = .bool (decide (d.waits.length = 0)) ∧ σ' = σ) := by
  obtain ⟨ht, hv⟩ := h
  refine calls Try.func22 rfl Try.ntmps22 (Nat.le_of_ble_eq_true rfl) ?_
  refine E.seq ?_
  refine E.region ?_
  refine L.cons (O.y (Y.assign rfl) rfl rfl rfl ?_)
  refine L.nil ?_
  refine X.next ?_
  refine E.seq ?_
  refine E.region ?_
  refine L.cons (O.y (Y.move rfl) rfl rfl rfl ?_)
  refine L.cons (O.y (Y.nilCheck rfl) rfl rfl rfl ?_)
  refine L.cons (O.y (Y.fieldAddr T.field66_0 rfl) rfl rfl rfl ?_)
  refine L.cons (O.y (Y.load1 Try.isAgg24 rfl (by intro w hw; subst hw; first | exact Blk.cell (by assumption) rfl | assumption)) rfl rfl rfl ?_)
  refine L.cons (O.enter (Runs.fn Try.call35 rfl) rfl rfl (waiting_c σ k p d hd) ?_)
  rintro v1 σ1 e1 ⟨rfl, rfl⟩
  refine L.cons (O.y (Y.eql rfl rfl) rfl rfl rfl ?_)
  refine L.cons (O.y (Y.assign rfl) rfl rfl rfl ?_)
  refine L.nil ?_
  refine X.next ?_
  refine E.ret ?_
  refine X.ret1 Try.results22 rfl ⟨_, σ1, rfl, rfl, Ext.refl _ _, ?_, rfl⟩
  congr 1
  simp
theorem vsync_c (σ : GW) (k p tp vp : Nat) (s : List UInt8) (n c : Nat) (d : DSt) (h : VT σ k p tp vp s n c) (hd : Disk σ k p d) (hon : d.on = true) (hsm : d.Small) :
    Calls Try.prog 19 [.pointer (some ⟨vp, 0, none⟩)].toArray σ.w (Ret σ [k, k + 1] fun r σ' => r = .int .i64 0 ∧ Disk σ' k p { d with log := d.log ++ d.waits.flatten, waits := [] } ∧ VT σ' k p tp vp s n c) := by
  have hv := h.2
  refine calls Try.func19 rfl Try.ntmps19 (Nat.le_of_ble_eq_true rfl) ?_
  refine E.seq ?_
  refine E.region ?_
  refine L.cons (O.y (Y.assign rfl) rfl rfl rfl ?_)
  refine L.nil ?_
  refine X.next ?_
  refine E.seq ?_
  refine E.region ?_
  refine L.cons (O.y (Y.move rfl) rfl rfl rfl ?_)
  refine L.cons (O.y (Y.nilCheck rfl) rfl rfl rfl ?_)
  refine L.cons (O.y (Y.fieldAddr T.field66_0 rfl) rfl rfl rfl ?_)
  refine L.cons (O.y (Y.load1 Try.isAgg24 rfl (by intro w hw; subst hw; first | exact Blk.cell (by assumption) rfl | assumption)) rfl rfl rfl ?_)
  refine L.cons (O.enter (Runs.fn Try.call34 rfl) rfl rfl (sync_c σ k p d hd hon hsm) ?_)
  rintro v1 σ1 e1 ⟨rfl, hd1⟩
  refine L.cons (O.y (Y.assign rfl) rfl rfl rfl ?_)
  refine L.nil ?_
  refine X.next ?_
  refine E.ret ?_
  exact X.ret1 Try.results19 rfl ⟨_, σ1, rfl, rfl, e1, rfl, hd1, h.ext e1 (by simp) (by simp)⟩
theorem vdo_c (σ : GW) (k p tp vp : Nat) (s cmd : List UInt8) (n c : Nat) (d : DSt) (h : VT σ k p tp vp s n c) (hd : Disk σ k p d) (hon : d.on = true) (hsm : d.Small) (hcl : cmd.length ≤ 65536)
    (hl : s.length + cmd.length ≤ 100000000) (hn : n ≤ 100000000) (hc : c ≤ 100000000) :
    Calls Try.prog 17 [.pointer (some ⟨vp, 0, none⟩), str cmd].toArray σ.w (Ret σ [k, k + 2, k + 3, k + 4] fun r σ' =>
      if d.room < d.used + (8 + cmd.length) then r = .tuple #[str [], .int .i64 6] ∧ Disk σ' k p d ∧ VT σ' k p tp vp s n c
      else r = .tuple #[str (digs s.length []), .int .i64 0] ∧ Disk σ' k p { d with waits := d.waits ++ [frame cmd] } ∧ VT σ' k p tp vp (s ++ cmd ++ [124]) (n + 1) (c + 1)) := by
  have hv := h.2
  have hk : 0 < k := by obtain ⟨_, _, _, _, _, _, _, hk⟩ := hd; exact hk
  refine calls Try.func17 rfl Try.ntmps17 (Nat.le_of_ble_eq_true rfl) ?_
  refine E.seq ?_
  refine E.region ?_
  refine L.cons (O.y (Y.assign rfl) rfl rfl rfl ?_)
  refine L.cons (O.y (Y.assign rfl) rfl rfl rfl ?_)
  refine L.nil ?_
  refine X.next ?_
  refine E.seq ?_
  refine E.seq ?_
  refine E.region ?_
  refine L.cons (O.y (Y.move rfl) rfl rfl rfl ?_)
  refine L.cons (O.y (Y.nilCheck rfl) rfl rfl rfl ?_)
  refine L.cons (O.y (Y.fieldAddr T.field66_0 rfl) rfl rfl rfl ?_)
  refine L.cons (O.y (Y.load1 Try.isAgg24 rfl (by intro w hw; subst hw; first | exact Blk.cell (by assumption) rfl | assumption)) rfl rfl rfl ?_)
  refine L.cons (O.y (Y.move rfl) rfl rfl rfl ?_)
  refine L.cons (O.toBytes 0 Try.underlying9 Try.underlying22 Try.underlying5 rfl (by omega) rfl rfl ?_)
  intro v1 σ1 e1 hv1
  have hd1 := hd.ext e1 (by simp) (by simp) (by simp) (by simp)
  have h1 := h.ext e1 (by simp) (by simp)
  refine L.cons (O.enter (Runs.fn Try.call32 rfl) rfl rfl (append_c σ1 k p d v1 cmd hd1 hon hsm hv1 hcl) ?_)
  intro v2 σ2 e2 hR
  have T2 : Ext σ σ2 [k, k + 2, k + 3, k + 4] := (e1.mono (by simp)).trans (e2.mono (by simp))
  have h2 := h1.ext e2 (by simp) (by simp)
  by_cases hfull : d.room < d.used + (8 + cmd.length)
  · rw [if_pos hfull] at hR
    obtain ⟨rfl, hd2⟩ := hR
    refine L.cons (O.y (Y.assign rfl) rfl rfl rfl ?_)
    refine L.nil ?_
    refine X.next ?_
    refine E.seq ?_
    refine E.region ?_
    refine L.cons (O.y (Y.move rfl) rfl rfl rfl ?_)
    refine L.cons (O.y (Y.neq rfl rfl) rfl rfl rfl ?_)
    refine L.nil ?_
    refine X.next ?_
    refine E.condTh rfl (rfl) ?_
    refine E.seq ?_
    refine E.region ?_
    refine L.cons (O.y (Y.move rfl) rfl rfl rfl ?_)
    refine L.cons (O.y (Y.assign rfl) rfl rfl rfl ?_)
    refine L.cons (O.y (Y.assign rfl) rfl rfl rfl ?_)
    refine L.nil ?_
    refine X.next ?_
    refine E.ret ?_
    refine X.thenRet ?_
    refine X.ret2 Try.results17 rfl rfl ⟨_, σ2, rfl, rfl, T2, ?_⟩
    dsimp only
    rw [if_pos hfull]
    exact ⟨rfl, hd2, h2⟩
  · rw [if_neg hfull] at hR
    obtain ⟨rfl, hd2⟩ := hR
    refine L.cons (O.y (Y.assign rfl) rfl rfl rfl ?_)
    refine L.nil ?_
    refine X.next ?_
    refine E.seq ?_
    refine E.region ?_
    refine L.cons (O.y (Y.move rfl) rfl rfl rfl ?_)
    refine L.cons (O.y (Y.neq rfl rfl) rfl rfl rfl ?_)
    refine L.nil ?_
    refine X.next ?_
    refine E.condFh rfl (rfl) ?_
    refine E.skip ?_
    refine X.next ?_
    refine E.seq ?_
    refine E.region ?_
    refine L.cons (O.y (Y.move rfl) rfl rfl rfl ?_)
    refine L.cons (O.y (Y.move rfl) rfl rfl rfl ?_)
    refine L.cons (O.enter (Runs.fn Try.call31 rfl) rfl rfl (done_c σ2 k p tp vp s cmd n c h2 hl hn hc) ?_)
    rintro v3 σ3 e3 ⟨rfl, h3⟩
    refine L.cons (O.y (Y.assign rfl) rfl rfl rfl ?_)
    refine L.cons (O.y (Y.assign rfl) rfl rfl rfl ?_)
    refine L.nil ?_
    refine X.next ?_
    refine E.ret ?_
    refine X.ret2 Try.results17 rfl rfl ⟨_, σ3, rfl, rfl, T2.trans (e3.mono (by simp)), ?_⟩
    dsimp only
    rw [if_neg hfull]
    exact ⟨rfl, hd2.ext e3 (by simp) (by simp) (by simp) (by simp), h3⟩
theorem settle_c (σ : GW) (k p tp vp : Nat) (s : List UInt8) (n c : Nat) (d : DSt) (h : VT σ k p tp vp s n c) (hd : Disk σ k p d) (hon : d.on = true) (hsm : d.Small) (hlog : d.log.length + d.waits.flatten.length ≤ 100000000) (hl : s.length ≤ 10000000) :
    Calls Try.prog 18 [.pointer (some ⟨vp, 0, none⟩)].toArray σ.w (Ret σ [k, k + 1] fun r σ' => VT σ' k p tp vp s n c ∧
      if d.room < s.length + 9 then r = .int .i64 6 ∧ Disk σ' k p { d with log := d.log ++ d.waits.flatten, waits := [] }
      else r = .int .i64 0 ∧ Disk σ' k p { d with state := 61 :: s, log := [], waits := [] }) := by
  obtain ⟨N, hN, hkk, hN0⟩ := σ.fresh [k + 4]
  have hkN := hkk (k + 4) (by simp)
  have hk : 0 < k := by obtain ⟨_, _, _, _, _, _, _, hk⟩ := hd; exact hk
  refine calls Try.func18 rfl Try.ntmps18 (Nat.le_of_ble_eq_true rfl) ?_
  refine E.seq ?_
  refine E.region ?_
  refine L.cons (O.y (Y.assign rfl) rfl rfl rfl ?_)
  refine L.nil ?_
  refine X.next ?_
  refine E.seq ?_
  refine E.seq ?_
  refine E.region ?_
  refine L.cons (O.y (Y.move rfl) rfl rfl rfl ?_)
  refine L.cons (O.enter (Runs.fn Try.call19 rfl) rfl rfl (vsync_c σ k p tp vp s n c d h hd hon hsm) ?_)
  rintro v1 σ1 e1 ⟨rfl, hd1, h1⟩
  refine L.cons (O.y (Y.assign rfl) rfl rfl rfl ?_)
  refine L.nil ?_
  refine X.next ?_
  refine E.seq ?_
  refine E.region ?_
  refine L.cons (O.y (Y.move rfl) rfl rfl rfl ?_)
  refine L.cons (O.y (Y.neq rfl rfl) rfl rfl rfl ?_)
  refine L.nil ?_
  refine X.next ?_
  refine E.condFh rfl (rfl) ?_
  refine E.skip ?_
  refine X.next ?_
  refine E.seq ?_
  refine E.draw (.rd 0 (.rd 1 (.rd 2 (.rd 3 (.rd 4 (.rd 5 (.rd 6 (.rd 7 (.ef 8 (.ef 9 (.ef 10 (.ef 11 (.ef 12 (.rd 13 Pl.done)))))))))))))) (fun w => w.cell? ⟨vp, 0, none⟩ = some (.pointer (some ⟨p, 0, none⟩)) ∧ w.cell? ⟨vp, 1, none⟩ = some (.iface 35 (.pointer (some ⟨tp, 0, none⟩)))) Try.wide_mixed (by decide +kernel) (by decide +kernel) (by intro c a w d v h; cases d <;> exact h) ?_
  intro σd ed cd hdd_
  have hd2 := hd1.ext ed (by simp) (by simp) (by simp) (by simp)
  have h2 := h1.ext ed (by simp) (by simp)
  refine D.rd rfl (Y.move rfl) rfl rfl rfl (⟨h2.2.cell rfl, h2.2.cell rfl⟩) ?_
  refine D.rd rfl (Y.nilCheck rfl) rfl rfl rfl (⟨h2.2.cell rfl, h2.2.cell rfl⟩) ?_
  refine D.rd rfl (Y.fieldAddr T.field66_0 rfl) rfl rfl rfl (⟨h2.2.cell rfl, h2.2.cell rfl⟩) ?_
  refine D.rd rfl (Y.load1 Try.isAgg24 rfl (by intro w hw; first | exact hw | exact hw.1 | exact hw.2 | exact hw.2.1 | exact hw.2.2 | exact hw.2.2.1 | exact hw.2.2.2 | exact hw.2.2.2.1 | exact hw.2.2.2.2)) rfl rfl rfl (⟨h2.2.cell rfl, h2.2.cell rfl⟩) ?_
  refine D.rd rfl (Y.move rfl) rfl rfl rfl (⟨h2.2.cell rfl, h2.2.cell rfl⟩) ?_
  refine D.rd rfl (Y.nilCheck rfl) rfl rfl rfl (⟨h2.2.cell rfl, h2.2.cell rfl⟩) ?_
  refine D.rd rfl (Y.fieldAddr T.field66_1 rfl) rfl rfl rfl (⟨h2.2.cell rfl, h2.2.cell rfl⟩) ?_
  refine D.rd rfl (Y.load1 Try.isAgg63 rfl (by intro w hw; first | exact hw | exact hw.1 | exact hw.2 | exact hw.2.1 | exact hw.2.2 | exact hw.2.2.1 | exact hw.2.2.2 | exact hw.2.2.2.1 | exact hw.2.2.2.2)) rfl rfl rfl (⟨h2.2.cell rfl, h2.2.cell rfl⟩) ?_
  refine D.ef rfl (O.enter (Runs.inv Try.call64 T.meth35_Save_64 rfl rfl) rfl rfl (tapeSave_c σd (k + 3) tp s n h2.1 (by omega)) ?_)
  rintro v3 σ3 e3 ⟨rfl, rfl⟩
  refine ⟨⟨h2.2.cell rfl, h2.2.cell rfl⟩, ?_⟩
  refine D.ef rfl (O.toBytes 0 Try.underlying9 Try.underlying22 Try.underlying5 rfl (by simp; omega) rfl rfl ?_)
  intro v4 σ4 e4 hv4
  have hd4 := hd2.ext e4 (by simp) (by simp) (by simp) (by simp)
  have h4 := h2.ext e4 (by simp) (by simp)
  refine ⟨⟨h4.2.cell rfl, h4.2.cell rfl⟩, ?_⟩
  refine D.ef rfl (O.enter (Runs.fn Try.call10 rfl) rfl rfl (checkpoint_c σ4 k p _ v4 (61 :: s) hd4 hon ⟨hsm.room, hsm.state, by simpa using hlog, by simp, by simp⟩ rfl hv4 (by simp; omega)) ?_)
  intro v5 σ5 e5 hR
  have h5 := h4.ext e5 (by simp) (by simp)
  refine ⟨⟨h5.2.cell rfl, h5.2.cell rfl⟩, ?_⟩
  obtain ⟨a, rfl, hQ⟩ : ∃ a, v5 = .int .i64 a ∧ (if d.room < s.length + 9 then a = 6 ∧ Disk σ5 k p { d with log := d.log ++ d.waits.flatten, waits := [] } else a = 0 ∧ Disk σ5 k p { d with state := 61 :: s, log := [], waits := [] }) := by
    have hcst : DSt.cost (61 :: s) = s.length + 9 := by simp [DSt.cost]
    rw [hcst] at hR
    split at hR
    · rename_i hlt; exact ⟨6, hR.1, by rw [if_pos hlt]; exact ⟨rfl, hR.2⟩⟩
    · rename_i hlt; exact ⟨0, hR.1, by rw [if_neg hlt]; exact ⟨rfl, hR.2⟩⟩
  refine D.ef rfl (O.slLit N [.int .i64 a, .int .i64 0] Try.underlying75 Try.sizeOf25 Try.zeroValue25 rfl rfl (by simp [Value.cells]) (by simp) rfl rfl ?_)
  intro σ6 b6 e6 hb6
  have h6 := h5.ext e6 (by simp) (by simp)
  refine ⟨⟨h6.2.cell rfl, h6.2.cell rfl⟩, ?_⟩
  refine D.ef rfl (O.enter (Runs.fn Try.call33 rfl) rfl rfl (or_c σ6 b6 N a hb6) ?_)
  rintro v7 σ7 e7 ⟨rfl, rfl⟩
  refine ⟨⟨h6.2.cell rfl, h6.2.cell rfl⟩, ?_⟩
  refine D.rd rfl (Y.assign rfl) rfl rfl rfl (⟨h6.2.cell rfl, h6.2.cell rfl⟩) ?_
  refine D.done ?_
  refine X.next ?_
  refine E.ret ?_
  have T6 : Ext σ σ7 [k, k + 1] := (((e1.trans (ed.mono (by simp))).trans (e4.mono (by simp))).trans (e5.mono (by simp))).trans (e6.mono (by simp))
  refine X.ret1 Try.results18 rfl ⟨_, σ7, rfl, rfl, T6, h6, ?_⟩
  split at hQ
  · rename_i hlt
    obtain ⟨rfl, hQ⟩ := hQ
    rw [if_pos hlt]
    exact ⟨rfl, hQ.ext e6 (by simp) (by simp) (by simp) (by simp)⟩
  · rename_i hlt
    obtain ⟨rfl, hQ⟩ := hQ
    rw [if_neg hlt]
    exact ⟨rfl, hQ.ext e6 (by simp) (by simp) (by simp) (by simp)⟩
end Go.Proofs.Ytjhpoahjmcoilaa
