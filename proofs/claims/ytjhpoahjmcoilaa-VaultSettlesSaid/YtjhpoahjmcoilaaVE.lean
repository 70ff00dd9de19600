/- Walks of package disk, the second part. -/
import Derived.Test.YtjhpoahjmcoilaaTab
import Derived.Test.YtjhpoahjmcoilaaVD
set_option linter.unusedSimpArgs false
set_option linter.unusedVariables false
namespace Go.Proofs.Ytjhpoahjmcoilaa
open Go.Stp
theorem X.same {n : Nat} {q : Act → World → Prop} {l : Env} {σ σ' : GW} (hw : σ'.w = σ.w) (h : X n q l σ') : X n q l σ := fun a ha => by
  have := h a ha
  rwa [hw] at this
theorem Disk.recol {σ : GW} {N k p : Nat} {d : DSt} (h : Disk σ N p d) (hk : 0 < k) (hN : k + 2 < N) : ∃ τ, Ext σ τ [N, N + 1, N + 2] ∧ τ.w = σ.w ∧ Disk τ k p d := by
  obtain ⟨vs, vl, vw, hb, hs, hl, hw, h0⟩ := h
  have e1 := σ.ext_rec N k
  have e2 := (σ.rec_ N k).ext_rec (N + 1) (k + 1)
  have e3 := ((σ.rec_ N k).rec_ (N + 1) (k + 1)).ext_rec (N + 2) (k + 2)
  refine ⟨((σ.rec_ N k).rec_ (N + 1) (k + 1)).rec_ (N + 2) (k + 2), ((e1.mono (by simp)).trans (e2.mono (by simp))).trans (e3.mono (by simp)), rfl, vs, vl, vw, ?_, ?_, ?_, ?_, hk⟩
  · exact (hb.rec_.ext e2 (by simp; omega)).ext e3 (by simp; omega)
  · exact ((hs.ext e1 (by simp; omega) (by simp; omega)).ext e2 (by simp) (by simp)).ext e3 (by simp) (by simp)
  · exact ((hl.ext e1 (by simp; omega) (by simp)).rec_ (by omega)).ext e3 (by simp) (by simp; omega)
  · exact ((hw.ext e1 (by simp; omega) (by simp)).ext e2 (by simp) (by simp)).rec_ (by omega)
theorem Ow.cutCap {α : Type} {d : Kd α} {σ : GW} {k : Nat} {T : TypeId} {A : Option Addr} {len c : Nat} {xs : List α} (h : Ow d σ k T (.slice A len c) xs) (n : Nat) (hn : n ≤ len) : Ow d σ k T (.slice A n n) (xs.take n) := by
  obtain ⟨A', c', he, h1, h2, h⟩ := h
  injection he with hA hl hc
  subst hA; subst hl; subst hc
  have hlen : (xs.take n).length = n := by simp; omega
  refine ⟨A, n, by rw [hlen], by omega, by omega, ?_⟩
  rcases h with ⟨rfl, rfl⟩ | ⟨b, o, cur, rfl, hb, hr, hR⟩
  · exact .inl ⟨rfl, by omega⟩
  · refine .inr ⟨b, o, cur, rfl, hb, Nat.le_trans (Nat.add_le_add_left (Nat.mul_le_mul_right _ (by omega)) _) hr, ?_⟩
    have := hR.take n
    rw [hlen]
    rwa [List.take_take, Nat.min_eq_left (Nat.mul_le_mul_right _ hn)] at this
theorem new_c (σ : GW) (k : Nat) (hk : 0 < k) (r : Nat) (h1 : r ≤ 4194304) :
    Calls Try.prog 8 [.int .i64 r].toArray σ.w (Ret σ [] fun v σ' => ∃ p, v = .tuple #[.pointer (some ⟨p, 0, none⟩), .int .i64 0] ∧ Disk σ' k p ⟨r, false, [], [], []⟩) := by
  obtain ⟨N, hN, hkk, hN0⟩ := σ.fresh [k, k + 1, k + 2, 0]
  have hkN := hkk (k + 2) (by simp)
  refine calls Try.func8 rfl Try.ntmps8 (Nat.le_of_ble_eq_true rfl) ?_
  refine E.seq ?_
  refine E.region ?_
  refine L.cons (O.y (Y.assign rfl) rfl rfl rfl ?_)
  refine L.cons (O.y (Y.assign rfl) rfl rfl rfl ?_)
  refine L.nil ?_
  refine X.next ?_
  refine E.seq ?_
  refine E.region ?_
  refine L.cons (O.y (Y.stLit (cs := [.int .i64 0, .bool false, .slice none 0 0, .slice none 0 0, .slice none 0 0]) [] T.places56 Try.zeroValue56 rfl rfl) rfl rfl rfl ?_)
  refine L.cons (O.box N rfl rfl rfl rfl ?_)
  intro σ1 p e1 hb1
  have T1 := (Ext.refl σ []).step hN e1 (by simp)
  refine L.cons (O.y (Y.assign rfl) rfl rfl rfl ?_)
  refine L.nil ?_
  refine X.next ?_
  refine E.seq ?_
  refine E.seq ?_
  refine E.region ?_
  refine L.cons (O.y (Y.move rfl) rfl rfl rfl ?_)
  refine L.cons (O.y (Y.move rfl) rfl rfl rfl ?_)
  have hd1 : Disk σ1 N p ⟨0, false, [], [], []⟩ := ⟨_, _, _, hb1, ⟨none, 0, [], rfl, by simp, by omega, rfl, .inl rfl⟩, Ow.nil .., Ow.nil .., hN0⟩
  refine L.cons (O.enter (Runs.fn Try.call25 rfl) rfl rfl (resize_c σ1 N p _ hd1 ⟨by simp, by simp, by simp, by simp, by simp⟩ r (by omega) (by omega) (by simp [DSt.used])) ?_)
  rintro v2 σ2 e2 ⟨rfl, hd2⟩
  have T2 := T1.step hN e2 (by simp)
  refine L.cons (O.y (Y.assign rfl) rfl rfl rfl ?_)
  refine L.nil ?_
  refine X.next ?_
  refine E.seq ?_
  refine E.region ?_
  refine L.cons (O.y (Y.move rfl) rfl rfl rfl ?_)
  refine L.cons (O.y (Y.neq rfl rfl) rfl rfl rfl ?_)
  refine L.nil ?_
  refine X.next ?_
  refine E.condFh rfl (decide_eq_false (by omega)) ?_
  refine E.skip ?_
  refine X.next ?_
  refine E.seq ?_
  refine E.region ?_
  refine L.cons (O.y (Y.move rfl) rfl rfl rfl ?_)
  refine L.cons (O.y (Y.assign rfl) rfl rfl rfl ?_)
  refine L.cons (O.y (Y.assign rfl) rfl rfl rfl ?_)
  refine L.nil ?_
  refine X.next ?_
  refine E.ret ?_
  obtain ⟨σ3, e3, h3, hd3⟩ := hd2.recol (k := k) (by omega) (by omega)
  refine X.same h3 ?_
  exact X.ret2 Try.results8 rfl rfl ⟨_, σ3, rfl, h3.symm ▸ rfl, T2.step hN e3 (by simp), p, rfl, hd3⟩


theorem on_c (σ : GW) (k p : Nat) (d : DSt) (hd : Disk σ k p d) :
    Calls Try.prog 13 [.pointer (some ⟨p, 0, none⟩)].toArray σ.w (Ret σ [] fun r σ' => r = .bool d.on ∧ σ' = σ) := by
  obtain ⟨vs, vl, vw, hb, hs, hol, how, hk⟩ := hd
  refine calls Try.func13 rfl Try.ntmps13 (Nat.le_of_ble_eq_true rfl) ?_
  refine E.seq ?_
  refine E.region ?_
  refine L.cons (O.y (Y.assign rfl) rfl rfl rfl ?_)
  refine L.nil ?_
  refine X.next ?_
  refine E.seq ?_
  refine E.region ?_
  refine L.cons (O.y (Y.move rfl) rfl rfl rfl ?_)
  refine L.cons (O.y (Y.nilCheck rfl) rfl rfl rfl ?_)
  refine L.cons (O.y (Y.fieldAddr T.field56_1 rfl) rfl rfl rfl ?_)
  refine L.cons (O.y (Y.load1 Try.isAgg4 rfl (by intro w hw; subst hw; first | exact Blk.cell (by assumption) rfl | assumption)) rfl rfl rfl ?_)
  refine L.cons (O.y (Y.assign rfl) rfl rfl rfl ?_)
  refine L.nil ?_
  refine X.next ?_
  refine E.ret ?_
  exact X.ret1 Try.results13 rfl ⟨_, σ, rfl, rfl, Ext.refl _ _, rfl, rfl⟩
theorem waiting_c (σ : GW) (k p : Nat) (d : DSt) (hd : Disk σ k p d) :
    Calls Try.prog 35 [.pointer (some ⟨p, 0, none⟩)].toArray σ.w (Ret σ [] fun r σ' => r = .int .i64 d.waits.length ∧ σ' = σ) := by
  obtain ⟨vs, vl, vw, hb, hs, hol, how, hk⟩ := hd
  obtain ⟨Aw, cw, rfl, _⟩ := id how
  refine calls Try.func35 rfl Try.ntmps35 (Nat.le_of_ble_eq_true rfl) ?_
  refine E.seq ?_
  refine E.region ?_
  refine L.cons (O.y (Y.assign rfl) rfl rfl rfl ?_)
  refine L.nil ?_
  refine X.next ?_
  refine E.seq ?_
  refine E.region ?_
  refine L.cons (O.y (Y.move rfl) rfl rfl rfl ?_)
  refine L.cons (O.y (Y.nilCheck rfl) rfl rfl rfl ?_)
  refine L.cons (O.y (Y.fieldAddr T.field56_4 rfl) rfl rfl rfl ?_)
  refine L.cons (O.y (Y.load1 Try.isAgg28 rfl (by intro w hw; subst hw; first | exact Blk.cell (by assumption) rfl | assumption)) rfl rfl rfl ?_)
  refine L.cons (O.y (Y.lenSl Try.underlying28 rfl) rfl rfl rfl ?_)
  refine L.cons (O.y (Y.assign rfl) rfl rfl rfl ?_)
  refine L.nil ?_
  refine X.next ?_
  refine E.ret ?_
  exact X.ret1 Try.results35 rfl ⟨_, σ, rfl, rfl, Ext.refl _ _, rfl, rfl⟩
theorem startOn_c (σ : GW) (k p : Nat) (d : DSt) (hd : Disk σ k p d) (hon : d.on = true) :
    Calls Try.prog 9 [.pointer (some ⟨p, 0, none⟩)].toArray σ.w (Ret σ [] fun r σ' => r = .tuple #[.slice none 0 0, .slice none 0 0, .int .i64 8] ∧ σ' = σ) := by
  obtain ⟨vs, vl, vw, hb, hs, hol, how, hk⟩ := hd
  refine calls Try.func9 rfl Try.ntmps9 (Nat.le_of_ble_eq_true rfl) ?_
  refine E.seq ?_
  refine E.region ?_
  refine L.cons (O.y (Y.assign rfl) rfl rfl rfl ?_)
  refine L.cons (O.y (Y.assign rfl) rfl rfl rfl ?_)
  refine L.cons (O.y (Y.assign rfl) rfl rfl rfl ?_)
  refine L.nil ?_
  refine X.next ?_
  refine E.seq ?_
  refine E.seq ?_
  refine E.region ?_
  refine L.cons (O.y (Y.move rfl) rfl rfl rfl ?_)
  refine L.cons (O.y (Y.nilCheck rfl) rfl rfl rfl ?_)
  refine L.cons (O.y (Y.fieldAddr T.field56_1 rfl) rfl rfl rfl ?_)
  refine L.cons (O.y (Y.load1 Try.isAgg4 rfl (by intro w hw; subst hw; first | exact Blk.cell (by assumption) rfl | assumption)) rfl rfl rfl ?_)
  refine L.nil ?_
  refine X.next ?_
  refine E.condTh rfl (hon) ?_
  refine E.seq ?_
  refine E.region ?_
  refine L.cons (O.y (Y.assign rfl) rfl rfl rfl ?_)
  refine L.cons (O.y (Y.assign rfl) rfl rfl rfl ?_)
  refine L.cons (O.y (Y.assign rfl) rfl rfl rfl ?_)
  refine L.nil ?_
  refine X.next ?_
  refine E.ret ?_
  refine X.thenRet ?_
  exact X.ret3 Try.results9 rfl rfl rfl ⟨_, σ, rfl, rfl, Ext.refl _ _, rfl, rfl⟩
theorem start_c (σ : GW) (k k3 p : Nat) (d : DSt) (hd : Disk σ k p d) (hon : d.on = false) (hsm : d.Small) (hk3 : k3 < k ∨ k + 2 < k3) :
    Calls Try.prog 9 [.pointer (some ⟨p, 0, none⟩)].toArray σ.w (Ret σ [k] fun r σ' => ∃ v1 v2, r = .tuple #[v1, v2, .int .i64 0] ∧ Bs σ' 0 v1 d.state ∧ Ow (kSl kByte) σ' k3 22 v2 (scan d.log).1 ∧ Disk σ' k p { d with on := true, log := d.log.take (scan d.log).2 }) := by
  obtain ⟨vs, vl, vw, hb, hs, hol, how, hk⟩ := id hd
  obtain ⟨N, hN, hkk, hN0⟩ := σ.fresh [k, k + 1, k + 2, 0, k3]
  have hkN := hkk (k + 2) (by simp)
  have hk3N := hkk k3 (by simp)
  have h1 := hsm.state
  have h2 := hsm.log
  obtain ⟨Al, cl, rfl, hlc, hc63, _⟩ := id hol
  refine calls Try.func9 rfl Try.ntmps9 (Nat.le_of_ble_eq_true rfl) ?_
  refine E.seq ?_
  refine E.region ?_
  refine L.cons (O.y (Y.assign rfl) rfl rfl rfl ?_)
  refine L.cons (O.y (Y.assign rfl) rfl rfl rfl ?_)
  refine L.cons (O.y (Y.assign rfl) rfl rfl rfl ?_)
  refine L.nil ?_
  refine X.next ?_
  refine E.seq ?_
  refine E.seq ?_
  refine E.region ?_
  refine L.cons (O.y (Y.move rfl) rfl rfl rfl ?_)
  refine L.cons (O.y (Y.nilCheck rfl) rfl rfl rfl ?_)
  refine L.cons (O.y (Y.fieldAddr T.field56_1 rfl) rfl rfl rfl ?_)
  refine L.cons (O.y (Y.load1 Try.isAgg4 rfl (by intro w hw; subst hw; first | exact Blk.cell (by assumption) rfl | assumption)) rfl rfl rfl ?_)
  refine L.nil ?_
  refine X.next ?_
  refine E.condFh rfl (hon) ?_
  refine E.skip ?_
  refine X.next ?_
  refine E.seq ?_
  refine E.region ?_
  refine L.cons (O.y (Y.move rfl) rfl rfl rfl ?_)
  refine L.cons (O.y (Y.nilCheck rfl) rfl rfl rfl ?_)
  refine L.cons (O.y (Y.fieldAddr T.field56_1 rfl) rfl rfl rfl ?_)
  refine L.cons (O.store1 hb rfl rfl rfl Try.sizeOf4 (by simp) rfl ?_)
  intro σ1 e1 hc1 hz1 hb1
  have T1 : Ext σ σ1 [k] := e1
  have hol1 := hol.ext T1 (by simp; omega) (by simp)
  refine L.nil ?_
  refine X.next ?_
  refine E.seq ?_
  refine E.region ?_
  refine L.cons (O.y (Y.move rfl) rfl rfl rfl ?_)
  refine L.cons (O.y (Y.nilCheck rfl) rfl rfl rfl ?_)
  refine L.cons (O.y (Y.fieldAddr T.field56_3 rfl) rfl rfl rfl ?_)
  refine L.cons (O.y (Y.load1 Try.isAgg22 rfl (by intro w hw; subst hw; first | exact Blk.cell (by assumption) rfl | assumption)) rfl rfl rfl ?_)
  refine L.cons (O.enter (Runs.fn Try.call26 rfl) rfl rfl (scan_c σ1 (k + 1) N _ _ _ hol1.sl (by omega)) ?_)
  rintro v2 σ2 e2 ⟨r1, rfl, hr1, hle⟩
  have T2 := T1.trans (e2.mono (by simp))
  have hb2 := hb1.ext e2 (by simp)
  have hol2 := hol1.ext e2 (by simp) (by simp)
  refine L.cons (O.y (Y.move rfl) rfl rfl rfl ?_)
  refine L.cons (O.y (Y.extract rfl rfl) rfl rfl rfl ?_)
  refine L.cons (O.y (Y.extract rfl rfl) rfl rfl rfl ?_)
  refine L.cons (O.y (Y.assign rfl) rfl rfl rfl ?_)
  refine L.cons (O.y (Y.assign rfl) rfl rfl rfl ?_)
  refine L.nil ?_
  refine X.next ?_
  refine E.seq ?_
  refine E.region ?_
  refine L.cons (O.y (Y.move rfl) rfl rfl rfl ?_)
  refine L.cons (O.y (Y.move rfl) rfl rfl rfl ?_)
  refine L.cons (O.y (Y.nilCheck rfl) rfl rfl rfl ?_)
  refine L.cons (O.y (Y.fieldAddr T.field56_3 rfl) rfl rfl rfl ?_)
  refine L.cons (O.y (Y.load1 Try.isAgg22 rfl (by intro w hw; subst hw; first | exact Blk.cell (by assumption) rfl | assumption)) rfl rfl rfl ?_)
  refine L.cons (O.y (Y.move rfl) rfl rfl rfl ?_)
  refine L.cons (O.y (Y.move rfl) rfl rfl rfl ?_)
  refine L.cons (O.y (Y.sliceSl 0 (scan d.log).2 (scan d.log).2 Try.underlying22 Try.sizeOf5 rfl (.inl ⟨rfl, rfl⟩) (.inr ⟨_, _, rfl, rfl⟩) (.inr ⟨_, _, rfl, rfl⟩) (by omega) (by omega) (by omega)) rfl rfl rfl ?_)
  refine L.cons (O.y (Y.nilCheck rfl) rfl rfl rfl ?_)
  refine L.cons (O.y (Y.fieldAddr T.field56_3 rfl) rfl rfl rfl ?_)
  simp only [Nat.zero_mul, addr_add0, Nat.sub_zero, ite_self]
  refine L.cons (O.store1 hb2 rfl rfl rfl Try.sizeOf22 (by simp) rfl ?_)
  intro σ3 e3 hc3 hz3 hb3
  have T3 := T2.trans e3
  refine L.nil ?_
  refine X.next ?_
  refine E.seq ?_
  refine E.region ?_
  refine L.cons (O.y (Y.move rfl) rfl rfl rfl ?_)
  refine L.cons (O.y (Y.nilCheck rfl) rfl rfl rfl ?_)
  refine L.cons (O.y (Y.fieldAddr T.field56_2 rfl) rfl rfl rfl ?_)
  refine L.cons (O.y (Y.load1 Try.isAgg22 rfl (by intro w hw; subst hw; first | exact Blk.cell (by assumption) rfl | assumption)) rfl rfl rfl ?_)
  have hs3 := hs.ext T3 (by simp; omega) (by simp; omega)
  obtain ⟨As, cs, _, rfl, _⟩ := id hs3
  refine L.cons (O.enter (Runs.fn Try.call28 rfl) rfl rfl (clone_c σ3 0 (N + 1) _ _ hs3 (by omega)) ?_)
  rintro v4 σ4 e4 ho4
  have T4 := T3.trans (e4.mono (by simp))
  obtain ⟨A4, c4, rfl, hl4, hc4, _⟩ := id ho4
  refine L.cons (O.enter (Runs.fn Try.call27 rfl) rfl rfl (clip_c σ4 A4 _ c4 (by omega)) ?_)
  rintro v5 σ5 e5 ⟨rfl, rfl⟩
  refine L.cons (O.y (Y.move rfl) rfl rfl rfl ?_)
  refine L.cons (O.y (Y.assign rfl) rfl rfl rfl ?_)
  refine L.cons (O.y (Y.assign rfl) rfl rfl rfl ?_)
  refine L.cons (O.y (Y.assign rfl) rfl rfl rfl ?_)
  refine L.nil ?_
  refine X.next ?_
  refine E.ret ?_
  have ho5 := Ow.cutCap ho4 d.state.length (Nat.le_refl _)
  rw [List.take_length] at ho5
  refine X.recolor (N + 1) 0 fun σ6 e6 h6 => ?_
  subst h6
  have ho6 := ho5.rec_ (k' := 0) (by omega)
  have hr4 := ((hr1.ext e3 (by simp; omega) (by simp; omega)).ext e4 (by simp) (by simp)).ext e6 (by simp) (by simp)
  refine X.recolor N k3 fun σ7 e7 h7 => ?_
  subst h7
  have T7 := (T4.step hN e6 (by simp)).step hN e7 (by simp)
  have hbf := ((hb3.ext e4 (by simp)).ext e6 (by simp; omega)).ext e7 (by simp; omega)
  have holf := ((Ow.cutCap hol2 _ hle).ext (e3.trans (e4.mono (by simp))) (by simp; omega) (by simp)).ext e6 (by simp) (by simp; omega)
  refine X.ret3 Try.results9 rfl rfl rfl ⟨_, _, rfl, rfl, T7, _, _, rfl, ho6.sl.ext e7 (by simp; omega) (by simp; omega), hr4.rec_ (by omega), _, _, _, hbf, hs.ext T7 (by simp; omega) (by simp; omega), holf.ext e7 (by simp; omega) (by simp; omega), how.ext T7 (by simp; omega) (by simp), hk⟩
end Go.Proofs.Ytjhpoahjmcoilaa
