/- Walks of package disk, the fourth part: a crash. -/
import Derived.Test.YtjhpoahjmcoilaaTab
import Derived.Test.YtjhpoahjmcoilaaVI
set_option linter.unusedSimpArgs false
set_option linter.unusedVariables false
namespace Go.Proofs.Ytjhpoahjmcoilaa
open Go.Stp
theorem Sl.takeN {α : Type} {d : Kd α} {σ : GW} {k : Nat} {A : Option Addr} {len c : Nat} {xs : List α} (h : Sl d σ k (.slice A len c) xs) (n : Nat) (hn : n ≤ len) : Sl d σ k (.slice A n c) (xs.take n) := by
  obtain ⟨A', c', cs, he, h1, h2, h3, h4⟩ := h
  injection he with hA hl hc
  subst hA; subst hl; subst hc
  have hlen : (xs.take n).length = n := by simp; omega
  exact ⟨A, c, _, by rw [hlen], by omega, h2, h3.take n, h4.take _⟩
def DSt.kept (d : DSt) (M : Int) : Nat := min M.toNat d.waits.length
def DSt.torn (d : DSt) (M T : Int) : List UInt8 := match d.waits[d.kept M]? with
  | none => []
  | some b => b.take (min T.toNat (b.length - 1))
def DSt.crash (d : DSt) (M T : Int) : DSt := { d with on := false, log := d.log ++ (d.waits.take (d.kept M)).flatten ++ d.torn M T, waits := [] }
theorem flatten_at_le {xss : List (List UInt8)} {i : Nat} {x : List UInt8} (hx : xss[i]? = some x) : (xss.take i).flatten.length + x.length ≤ xss.flatten.length := by
  have h1 : xss.flatten = (xss.take i).flatten ++ x ++ (xss.drop (i + 1)).flatten := by
    conv => lhs; rw [← List.take_append_drop (i + 1) xss]
    rw [List.flatten_append, List.take_add_one, hx]; simp
  have h2 := congrArg List.length h1
  simp only [List.length_append] at h2
  omega
theorem crash_c (σ : GW) (k p : Nat) (d : DSt) (hd : Disk σ k p d) (hon : d.on = true) (hsm : d.Small) (hne : ∀ b, b ∈ d.waits → b ≠ []) (M U : Int) :
    Calls Try.prog 12 [.pointer (some ⟨p, 0, none⟩), .int .i64 M, .int .i64 U].toArray σ.w (Ret σ [k, k + 1] fun r σ' => r = .tuple #[] ∧ Disk σ' k p (d.crash M U)) := by
  obtain ⟨N, hN, hkk, hN0⟩ := σ.fresh [k, k + 1, k + 2, 0]
  have hkN := hkk (k + 2) (by simp)
  obtain ⟨vs, vl, vw, hb, hs, hol, how, hk⟩ := id hd
  obtain ⟨Aw, cw, rfl, hlw, hcw, _⟩ := id how
  have h3 := hsm.log
  have h4 := hsm.waits
  have h5 := hsm.flat
  have hsucc : ∀ i x, d.waits[i]? = some x → (d.waits.take (i + 1)).flatten = (d.waits.take i).flatten ++ x := fun i x hx => by
    rw [List.take_add_one, hx]; simp
  obtain ⟨kp, hkp⟩ : ∃ kp, kp = d.kept M := ⟨_, rfl⟩
  have hkp' : kp = min M.toNat d.waits.length := hkp
  have hkeep : (if (d.waits.length : Int) < (if M < 0 then 0 else M) then (d.waits.length : Int) else (if M < 0 then 0 else M)) = (kp : Int) := by split <;> split at * <;> omega
  refine calls Try.func12 rfl Try.ntmps12 (Nat.le_of_ble_eq_true rfl) ?_
  refine E.seq ?_
  refine E.seq ?_
  refine E.region ?_
  refine L.cons (O.y (Y.move rfl) rfl rfl rfl ?_)
  refine L.cons (O.y (Y.nilCheck rfl) rfl rfl rfl ?_)
  refine L.cons (O.y (Y.fieldAddr T.field56_1 rfl) rfl rfl rfl ?_)
  refine L.cons (O.y (Y.load1 Try.isAgg4 rfl (by intro w hw; subst hw; first | exact Blk.cell (by assumption) rfl | assumption)) rfl rfl rfl ?_)
  refine L.cons (O.y (Y.not rfl) rfl rfl rfl ?_)
  refine L.nil ?_
  refine X.next ?_
  refine E.condFh rfl (by rw [hon]; rfl) ?_
  refine E.skip ?_
  refine X.next ?_
  refine E.seq ?_
  refine E.region ?_
  refine L.cons (O.y (Y.move rfl) rfl rfl rfl ?_)
  refine L.cons (O.y (Y.max2 rfl rfl) rfl rfl rfl ?_)
  refine L.cons (O.y (Y.move rfl) rfl rfl rfl ?_)
  refine L.cons (O.y (Y.nilCheck rfl) rfl rfl rfl ?_)
  refine L.cons (O.y (Y.fieldAddr T.field56_4 rfl) rfl rfl rfl ?_)
  refine L.cons (O.y (Y.load1 Try.isAgg28 rfl (by intro w hw; subst hw; first | exact Blk.cell (by assumption) rfl | assumption)) rfl rfl rfl ?_)
  refine L.cons (O.y (Y.lenSl Try.underlying28 rfl) rfl rfl rfl ?_)
  refine L.cons (O.y (Y.min2 rfl rfl) rfl rfl rfl ?_)
  refine L.cons (O.y (Y.assign rfl) rfl rfl rfl ?_)
  refine L.nil ?_
  refine X.next ?_
  refine E.seq ?_
  refine E.seq ?_
  refine E.region ?_
  refine L.cons (O.y (Y.move rfl) rfl rfl rfl ?_)
  refine L.cons (O.y (Y.nilCheck rfl) rfl rfl rfl ?_)
  refine L.cons (O.y (Y.fieldAddr T.field56_4 rfl) rfl rfl rfl ?_)
  refine L.cons (O.y (Y.load1 Try.isAgg28 rfl (by intro w hw; subst hw; first | exact Blk.cell (by assumption) rfl | assumption)) rfl rfl rfl ?_)
  refine L.cons (O.y (Y.move rfl) rfl rfl rfl ?_)
  rw [hkeep]
  refine L.cons (O.y (Y.sliceSl 0 kp cw Try.underlying28 Try.sizeOf22 rfl (.inl ⟨rfl, rfl⟩) (.inr ⟨_, _, rfl, rfl⟩) (.inl ⟨rfl, rfl⟩) (by omega) (by omega) (by omega)) rfl rfl rfl ?_)
  refine L.cons (O.y (Y.lenSl Try.underlying28 rfl) rfl rfl rfl ?_)
  refine L.cons (O.y (Y.move rfl) rfl rfl rfl ?_)
  refine L.nil ?_
  refine X.next ?_
  refine E.block ?_
  simp only [Nat.zero_mul, addr_add0, Nat.sub_zero, ite_self]
  have hSk := Sl.takeN how.sl kp (by omega)
  refine E.loopK (fun (i : Nat) l τ => i ≤ kp ∧ l = [(0, .pointer (some ⟨p, 0, none⟩)), (1, .int .i64 kp), (2, .int .i64 U), (27, .slice Aw kp cw), (28, .int .i64 kp), (29, .int .i64 i)] ∧ Ext σ τ [k, k + 1] ∧ ∃ vl, Blk τ k p [.int .i64 d.room, .bool d.on, vs, vl, .slice Aw d.waits.length cw] 56 ∧ Ow kByte τ (k + 1) 5 vl (d.log ++ (d.waits.take i).flatten)) (fun i => kp - i) 0 [(0, .pointer (some ⟨p, 0, none⟩)), (1, .int .i64 kp), (2, .int .i64 U), (27, .slice Aw kp cw), (28, .int .i64 kp), (29, .int .i64 0)] ⟨by omega, by simp, Ext.refl _ _, vl, hb, by simpa using hol⟩ ⟨rfl, rfl, rfl, rfl, rfl, rfl, trivial⟩ ?_
  rintro i l τ ⟨hi, rfl, T1, vl1, hb1, hol1⟩ K hK
  refine E.seq ?_
  refine E.region ?_
  refine L.cons (O.y (Y.lss rfl rfl) rfl rfl rfl ?_)
  refine L.nil ?_
  refine X.next ?_
  refine E.seq ?_
  refine E.cond rfl (fun h => ?_) (fun h => ?_)
  · skip
    simp at h
    refine E.skip ?_
    refine X.next ?_
    refine E.seq ?_
    refine E.block ?_
    refine E.seq ?_
    refine E.region ?_
    obtain ⟨x, hx⟩ : ∃ x, d.waits[i]? = some x := ⟨d.waits[i]'(by omega), List.getElem?_eq_getElem (by omega)⟩
    have hx' : (d.waits.take kp)[i]? = some x := by rw [List.getElem?_take, if_pos h]; exact hx
    have hsx := hsucc i x hx
    have hpx := flatten_at_le hx
    refine L.cons (O.indexSl i x (hSk.ext T1 (by simp; omega) (by simp)) Try.underlying28 Try.sizeOf22 (by decide) rfl rfl rfl hx' rfl rfl ?_)
    intro b1 o1 hat
    obtain ⟨vx, hcell, hvx⟩ := At.slice hat
    obtain ⟨Ax, cx, _, rfl, _⟩ := id hvx
    refine L.cons (O.y (Y.load1 Try.isAgg22 rfl (by intro w hw; subst hw; first | exact Blk.cell (by assumption) rfl | assumption)) rfl rfl rfl ?_)
    refine L.cons (O.y (Y.assign rfl) rfl rfl rfl ?_)
    refine L.nil ?_
    refine X.next ?_
    refine E.region ?_
    refine L.cons (O.y (Y.move rfl) rfl rfl rfl ?_)
    refine L.cons (O.y (Y.move rfl) rfl rfl rfl ?_)
    refine L.cons (O.y (Y.nilCheck rfl) rfl rfl rfl ?_)
    refine L.cons (O.y (Y.fieldAddr T.field56_3 rfl) rfl rfl rfl ?_)
    refine L.cons (O.y (Y.load1 Try.isAgg22 rfl (by intro w hw; subst hw; first | exact Blk.cell (by assumption) rfl | assumption)) rfl rfl rfl ?_)
    refine L.cons (O.y (Y.move rfl) rfl rfl rfl ?_)
    refine L.cons (O.append hol1 (by omega) hvx Try.underlying22 Try.underlying22 T.elem5 rfl rfl (by rw [List.length_append]; omega) (by decide) rfl rfl ?_)
    intro v3 τ3 e3 ho3
    rw [List.append_assoc, ← hsx] at ho3
    have T3 := T1.trans (e3.mono (by simp))
    have hb3 := hb1.ext e3 (by simp)
    refine L.cons (O.y (Y.nilCheck rfl) rfl rfl rfl ?_)
    refine L.cons (O.y (Y.fieldAddr T.field56_3 rfl) rfl rfl rfl ?_)
    obtain ⟨A3, c3, rfl, hl3, hc3, _⟩ := id ho3
    refine L.cons (O.store1 hb3 rfl rfl rfl Try.sizeOf22 (by simp) rfl ?_)
    intro τ4 e4 hc4 hz4 hb4
    have T4 := T3.trans (e4.mono (by simp))
    refine L.nil ?_
    refine X.inBlock ?_
    refine X.next ?_
    refine E.region ?_
    refine L.cons (O.y (Y.add _ rfl rfl (wrap_i64 (by omega) (by omega))) rfl rfl rfl ?_)
    refine L.cons (O.y (Y.move rfl) rfl rfl rfl ?_)
    refine L.nil ?_
    have ho4 := ho3.ext e4 (by simp; omega) (by simp)
    exact X.againK hK (i + 1) _ ⟨by omega, rfl, T4, _, hb4, ho4⟩ ⟨rfl, rfl, rfl, rfl, rfl, rfl, trivial⟩ (by omega)
  · skip
    simp at h
    obtain rfl : i = kp := by omega
    clear hK
    refine E.exit ?_
    refine X.thenExit ?_
    refine X.thenExit ?_
    refine X.outBlock ?_
    refine X.next ?_
    refine E.seq ?_
    refine E.seq ?_
    refine E.region ?_
    refine L.cons (O.y (Y.move rfl) rfl rfl rfl ?_)
    refine L.cons (O.y (Y.move rfl) rfl rfl rfl ?_)
    refine L.cons (O.y (Y.nilCheck rfl) rfl rfl rfl ?_)
    refine L.cons (O.y (Y.fieldAddr T.field56_4 rfl) rfl rfl rfl ?_)
    refine L.cons (O.y (Y.load1 Try.isAgg28 rfl (by intro w hw; subst hw; first | exact Blk.cell (by assumption) rfl | assumption)) rfl rfl rfl ?_)
    refine L.cons (O.y (Y.lenSl Try.underlying28 rfl) rfl rfl rfl ?_)
    refine L.cons (O.y (Y.lss rfl rfl) rfl rfl rfl ?_)
    refine L.nil ?_
    refine X.next ?_
    have hS1 := how.ext T1 (by simp; omega) (by simp)
    refine E.cond rfl (fun h9 => ?_) (fun h9 => ?_)
    · skip
      simp at h9
      refine E.seq ?_
      refine E.region ?_
      refine L.cons (O.y (Y.move rfl) rfl rfl rfl ?_)
      refine L.cons (O.y (Y.nilCheck rfl) rfl rfl rfl ?_)
      refine L.cons (O.y (Y.fieldAddr T.field56_4 rfl) rfl rfl rfl ?_)
      refine L.cons (O.y (Y.load1 Try.isAgg28 rfl (by intro w hw; subst hw; first | exact Blk.cell (by assumption) rfl | assumption)) rfl rfl rfl ?_)
      refine L.cons (O.y (Y.move rfl) rfl rfl rfl ?_)
      obtain ⟨x, hx⟩ : ∃ x, d.waits[i]? = some x := ⟨d.waits[i], List.getElem?_eq_getElem h9⟩
      have hpx := flatten_at_le hx
      have hxn : 0 < x.length := List.length_pos_iff.2 (hne x (List.mem_of_getElem? hx))
      refine L.cons (O.indexSl i x hS1.sl Try.underlying28 Try.sizeOf22 (by decide) rfl rfl rfl hx rfl rfl ?_)
      intro b1 o1 hat
      obtain ⟨vx, hcell, hvx⟩ := At.slice hat
      obtain ⟨Ax, cx, _, rfl, hlx, hcx, _⟩ := id hvx
      refine L.cons (O.y (Y.load1 Try.isAgg22 rfl (by intro w hw; subst hw; first | exact Blk.cell (by assumption) rfl | assumption)) rfl rfl rfl ?_)
      refine L.cons (O.y (Y.assign rfl) rfl rfl rfl ?_)
      refine L.nil ?_
      refine X.next ?_
      refine E.draw (.rd 0 (.rd 1 (.rd 2 (.rd 3 (.rd 5 (.rd 6 (.rd 7 (.rd 8 (.rd 9 (.rd 10 (.rd 11 (.rd 12 (.ef 4 (.ef 13 (.rd 14 (.rd 15 (.ef 16 Pl.done))))))))))))))))) (fun _ => True) Try.wide_mixed (by decide +kernel) (by decide +kernel) (by intro c a w d v h; cases d <;> exact h) ?_
      intro σd ed cd hdd_
      refine D.rd rfl (Y.move rfl) rfl rfl rfl (trivial) ?_
      refine D.rd rfl (Y.move rfl) rfl rfl rfl (trivial) ?_
      refine D.rd rfl (Y.nilCheck rfl) rfl rfl rfl (trivial) ?_
      refine D.rd rfl (Y.fieldAddr T.field56_3 rfl) rfl rfl rfl (trivial) ?_
      refine D.rd rfl (Y.move rfl) rfl rfl rfl (trivial) ?_
      refine D.rd rfl (Y.move rfl) rfl rfl rfl (trivial) ?_
      refine D.rd rfl (Y.max2 rfl rfl) rfl rfl rfl (trivial) ?_
      refine D.rd rfl (Y.move rfl) rfl rfl rfl (trivial) ?_
      refine D.rd rfl (Y.lenSl Try.underlying22 rfl) rfl rfl rfl (trivial) ?_
      refine D.rd rfl (Y.sub _ rfl rfl (wrap_i64 (by omega) (by omega))) rfl rfl rfl (trivial) ?_
      refine D.rd rfl (Y.min2 rfl rfl) rfl rfl rfl (trivial) ?_
      obtain ⟨tn, htn⟩ : ∃ tn, tn = min U.toNat (x.length - 1) := ⟨_, rfl⟩
      have htorn : (if ((x.length : Int) - 1) < (if U < 0 then 0 else U) then ((x.length : Int) - 1) else (if U < 0 then 0 else U)) = (tn : Int) := by split <;> split at * <;> omega
      rw [htorn]
      refine D.rd rfl (Y.sliceSl 0 tn cx Try.underlying22 Try.sizeOf5 rfl (.inl ⟨rfl, rfl⟩) (.inr ⟨_, _, rfl, rfl⟩) (.inl ⟨rfl, rfl⟩) (by omega) (by omega) (by omega)) rfl rfl rfl (trivial) ?_
      simp only [Nat.zero_mul, addr_add0, Nat.sub_zero, ite_self]
      have hbd := hb1.ext ed (by simp)
      have hold := hol1.ext ed (by simp) (by simp)
      have hvd := Sl.takeN (hvx.ext ed (by simp) (by simp)) tn (by omega)
      refine D.ef rfl (O.y (Y.load1 Try.isAgg22 rfl (by intro w hw; subst hw; exact hbd.cell rfl)) rfl rfl rfl ?_)
      refine ⟨trivial, ?_⟩
      refine D.ef rfl (O.append hold (by omega) hvd Try.underlying22 Try.underlying22 T.elem5 rfl rfl (by rw [List.length_append, List.length_take]; omega) (by decide) rfl rfl ?_)
      intro v3 τ3 e3 ho3
      have T3 := (T1.trans (ed.mono (by simp))).trans (e3.mono (by simp))
      have hb3 := hbd.ext e3 (by simp)
      refine ⟨trivial, ?_⟩
      refine D.rd rfl (Y.nilCheck rfl) rfl rfl rfl (trivial) ?_
      refine D.rd rfl (Y.fieldAddr T.field56_3 rfl) rfl rfl rfl (trivial) ?_
      obtain ⟨A3, c3, rfl, hl3, hc3, _⟩ := id ho3
      refine D.ef rfl (O.store1 hb3 rfl rfl rfl Try.sizeOf22 (by simp) rfl ?_)
      intro τ4 e4 hc4 hz4 hb4
      have T4 := T3.trans (e4.mono (by simp))
      refine ⟨trivial, ?_⟩
      refine D.done ?_
      refine X.next ?_
      refine E.region ?_
      refine L.cons (O.y (Y.move rfl) rfl rfl rfl ?_)
      refine L.cons (O.y (Y.move rfl) rfl rfl rfl ?_)
      refine L.cons (O.y (Y.nilCheck rfl) rfl rfl rfl ?_)
      refine L.cons (O.y (Y.fieldAddr T.field56_1 rfl) rfl rfl rfl ?_)
      refine L.cons (O.store1 hb4 rfl rfl rfl Try.sizeOf4 (by simp) rfl ?_)
      intro τ5 e5 hc5 hz5 hb5
      refine L.cons (O.y (Y.nilCheck rfl) rfl rfl rfl ?_)
      refine L.cons (O.y (Y.fieldAddr T.field56_4 rfl) rfl rfl rfl ?_)
      refine L.cons (O.store1 hb5 rfl rfl rfl Try.sizeOf28 (by simp) rfl ?_)
      intro τ6 e6 hc6 hz6 hb6
      have T6 := (T4.trans (e5.mono (by simp))).trans (e6.mono (by simp))
      refine L.nil ?_
      have hcr : d.crash M U = ⟨d.room, false, d.state, d.log ++ (d.waits.take i).flatten ++ x.take tn, []⟩ := by
        unfold DSt.crash DSt.torn
        rw [← hkp, hx, htn]
      rw [hcr]
      exact X.end0 Try.results12 ⟨_, τ6, rfl, rfl, T6, rfl, _, _, _, hb6, hs.ext T6 (by simp; omega) (by simp; omega), ((ho3.ext e4 (by simp; omega) (by simp)).ext e5 (by simp; omega) (by simp)).ext e6 (by simp; omega) (by simp), Ow.nil .., hk⟩
    · skip
      simp at h9
      refine E.skip ?_
      refine X.next ?_
      refine E.region ?_
      refine L.cons (O.y (Y.move rfl) rfl rfl rfl ?_)
      refine L.cons (O.y (Y.move rfl) rfl rfl rfl ?_)
      refine L.cons (O.y (Y.nilCheck rfl) rfl rfl rfl ?_)
      refine L.cons (O.y (Y.fieldAddr T.field56_1 rfl) rfl rfl rfl ?_)
      refine L.cons (O.store1 hb1 rfl rfl rfl Try.sizeOf4 (by simp) rfl ?_)
      intro τ5 e5 hc5 hz5 hb5
      refine L.cons (O.y (Y.nilCheck rfl) rfl rfl rfl ?_)
      refine L.cons (O.y (Y.fieldAddr T.field56_4 rfl) rfl rfl rfl ?_)
      refine L.cons (O.store1 hb5 rfl rfl rfl Try.sizeOf28 (by simp) rfl ?_)
      intro τ6 e6 hc6 hz6 hb6
      have T6 := (T1.trans (e5.mono (by simp))).trans (e6.mono (by simp))
      refine L.nil ?_
      have hcr : d.crash M U = ⟨d.room, false, d.state, d.log ++ (d.waits.take i).flatten ++ [], []⟩ := by
        unfold DSt.crash DSt.torn
        rw [← hkp, List.getElem?_eq_none h9]
      rw [hcr, List.append_nil]
      exact X.end0 Try.results12 ⟨_, τ6, rfl, rfl, T6, rfl, _, _, _, hb6, hs.ext T6 (by simp; omega) (by simp; omega), (hol1.ext e5 (by simp; omega) (by simp)).ext e6 (by simp; omega) (by simp), Ow.nil .., hk⟩
end Go.Proofs.Ytjhpoahjmcoilaa
