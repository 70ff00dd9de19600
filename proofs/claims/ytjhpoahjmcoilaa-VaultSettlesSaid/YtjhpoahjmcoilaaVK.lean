/- Walks of the tape: a machine. -/
import Derived.Test.YtjhpoahjmcoilaaTab
import Derived.Test.YtjhpoahjmcoilaaVJ
set_option linter.unusedSimpArgs false
set_option linter.unusedVariables false
namespace Go.Proofs.Ytjhpoahjmcoilaa
open Go.Stp
def dec10 : List UInt8 := [48, 49, 50, 51, 52, 53, 54, 55, 56, 57]
def digs (n : Nat) (s : List UInt8) : List UInt8 :=
  if h : n ≤ 9 then (dec10.drop n).take 1 ++ s else digs (n / 10) ((dec10.drop (n % 10)).take 1 ++ s)
termination_by n
theorem digits_c (σ : GW) (n : Nat) (hn : n ≤ 1000000000) :
    Calls Try.prog 20 [.int .i64 (n : Int)].toArray σ.w (Ret σ [] fun r σ' => r = str (digs n []) ∧ σ' = σ) := by
  refine calls Try.func20 rfl Try.ntmps20 (Nat.le_of_ble_eq_true rfl) ?_
  refine E.seq ?_
  refine E.region ?_
  refine L.cons (O.y (Y.assign rfl) rfl rfl rfl ?_)
  refine L.nil ?_
  refine X.next ?_
  refine E.seq ?_
  refine E.region ?_
  refine L.cons (O.y (Y.assign rfl) rfl rfl rfl ?_)
  refine L.nil ?_
  refine X.next ?_
  refine E.seq ?_
  refine E.block ?_
  refine E.loopK (fun (i : Nat) l τ => (∃ s, digs i s = digs n [] ∧ s.length + i ≤ n ∧ l = [(0, .int .i64 (i : Int)), (3, str s)]) ∧ τ = σ) (fun i => i) n [(0, .int .i64 (n : Int)), (3, str [])] ⟨⟨[], rfl, by simp, rfl⟩, rfl⟩ ⟨rfl, rfl, trivial⟩ ?_
  rintro i l τ ⟨⟨s, hs, hl, rfl⟩, rfl⟩ K hK
  refine E.seq ?_
  refine E.seq ?_
  refine E.region ?_
  refine L.cons (O.y (Y.move rfl) rfl rfl rfl ?_)
  refine L.cons (O.y (Y.gtr rfl rfl) rfl rfl rfl ?_)
  refine L.nil ?_
  refine X.next ?_
  refine E.cond rfl (fun h => ?_) (fun h => ?_)
  · skip
    simp at h
    refine E.skip ?_
    refine X.next ?_
    refine E.block ?_
    refine E.seq ?_
    refine E.region ?_
    refine L.cons (O.y (Y.move rfl) rfl rfl rfl ?_)
    refine L.cons (O.y (Y.rem i 10 rfl rfl rfl rfl (by decide)) rfl rfl rfl ?_)
    refine L.cons (O.y (Y.move rfl) rfl rfl rfl ?_)
    refine L.cons (O.y (Y.rem i 10 rfl rfl rfl rfl (by decide)) rfl rfl rfl ?_)
    refine L.cons (O.y (Y.add _ rfl rfl (wrap_i64 (by omega) (by omega))) rfl rfl rfl ?_)
    refine L.cons (O.y (Y.sliceS (p := dec10) (i % 10) (i % 10 + 1) Try.underlying9 rfl rfl rfl rfl (by simp) (by omega) (by simp [dec10]; omega)) rfl rfl rfl ?_)
    refine L.cons (O.y (Y.move rfl) rfl rfl rfl ?_)
    refine L.cons (O.y (Y.concat rfl rfl (by first | omega | (simp; omega))) rfl rfl rfl ?_)
    refine L.cons (O.y (Y.assign rfl) rfl rfl rfl ?_)
    refine L.nil ?_
    refine X.next ?_
    refine E.region ?_
    refine L.cons (O.y (Y.move rfl) rfl rfl rfl ?_)
    refine L.cons (O.y (Y.quo i 10 rfl rfl rfl rfl (by decide) (wrap_i64 (by omega) (by omega))) rfl rfl rfl ?_)
    refine L.cons (O.y (Y.assign rfl) rfl rfl rfl ?_)
    refine L.nil ?_
    refine X.inBlock ?_
    have hd : digs i s = digs (i / 10) ((dec10.drop (i % 10)).take 1 ++ s) := by
      rw [digs, dif_neg (by omega)]
    refine X.againK hK (i / 10) _ ⟨⟨_, hd.symm.trans hs, ?_, rfl⟩, rfl⟩ ⟨rfl, by rw [show i % 10 + 1 - i % 10 = 1 by omega]; rfl, trivial⟩ (by omega)
    simp; omega
  · skip
    simp at h
    clear hK
    refine E.exit ?_
    refine X.thenExit ?_
    refine X.thenExit ?_
    refine X.outBlock ?_
    refine X.next ?_
    refine E.seq ?_
    refine E.seq ?_
    refine E.region ?_
    refine L.cons (O.y (Y.move rfl) rfl rfl rfl ?_)
    refine L.cons (O.y (Y.lss rfl rfl) rfl rfl rfl ?_)
    refine L.nil ?_
    refine X.next ?_
    refine E.condFh rfl (decide_eq_false (by omega)) ?_
    refine E.skip ?_
    refine X.next ?_
    refine E.seq ?_
    refine E.region ?_
    refine L.cons (O.y (Y.move rfl) rfl rfl rfl ?_)
    refine L.cons (O.y (Y.move rfl) rfl rfl rfl ?_)
    refine L.cons (O.y (Y.add _ rfl rfl (wrap_i64 (by omega) (by omega))) rfl rfl rfl ?_)
    refine L.cons (O.y (Y.sliceS (p := dec10) i (i + 1) Try.underlying9 rfl rfl rfl rfl (by simp) (by omega) (by simp [dec10]; omega)) rfl rfl rfl ?_)
    refine L.cons (O.y (Y.move rfl) rfl rfl rfl ?_)
    refine L.cons (O.y (Y.concat rfl rfl (by first | omega | (simp; omega))) rfl rfl rfl ?_)
    refine L.cons (O.y (Y.assign rfl) rfl rfl rfl ?_)
    refine L.nil ?_
    refine X.next ?_
    refine E.ret ?_
    refine X.ret1 Try.results20 rfl ⟨_, τ, rfl, rfl, Ext.refl _ _, ?_, rfl⟩
    rw [← hs, digs, dif_pos (by omega)]
    simp
/-- The tape at tp. -/
def Tape (σ : GW) (k tp : Nat) (s : List UInt8) (n : Nat) : Prop := Blk σ k tp [str s, .int .i64 n] 37
theorem tapeDo_c (σ : GW) (k tp : Nat) (s cmd : List UInt8) (n : Nat) (hb : Tape σ k tp s n) (hl : s.length + cmd.length ≤ 100000000) (hn : n ≤ 100000000) :
    Calls Try.prog 62 [.pointer (some ⟨tp, 0, none⟩), str cmd].toArray σ.w (Ret σ [k] fun r σ' => r = str (digs s.length []) ∧ Tape σ' k tp (s ++ cmd ++ [124]) (n + 1)) := by
  unfold Tape at *
  refine calls Try.func62 rfl Try.ntmps62 (Nat.le_of_ble_eq_true rfl) ?_
  refine E.seq ?_
  refine E.region ?_
  refine L.cons (O.y (Y.assign rfl) rfl rfl rfl ?_)
  refine L.nil ?_
  refine X.next ?_
  refine E.seq ?_
  refine E.region ?_
  refine L.cons (O.y (Y.move rfl) rfl rfl rfl ?_)
  refine L.cons (O.y (Y.nilCheck rfl) rfl rfl rfl ?_)
  refine L.cons (O.y (Y.fieldAddr T.field37_0 rfl) rfl rfl rfl ?_)
  refine L.cons (O.y (Y.load1 Try.isAgg9 rfl (by intro w hw; subst hw; first | exact Blk.cell (by assumption) rfl | assumption)) rfl rfl rfl ?_)
  refine L.cons (O.y (Y.lenStr Try.underlying9 rfl) rfl rfl rfl ?_)
  refine L.cons (O.y (Y.assign rfl) rfl rfl rfl ?_)
  refine L.nil ?_
  refine X.next ?_
  refine E.seq ?_
  refine E.region ?_
  refine L.cons (O.y (Y.move rfl) rfl rfl rfl ?_)
  refine L.cons (O.y (Y.move rfl) rfl rfl rfl ?_)
  refine L.cons (O.y (Y.nilCheck rfl) rfl rfl rfl ?_)
  refine L.cons (O.y (Y.fieldAddr T.field37_0 rfl) rfl rfl rfl ?_)
  refine L.cons (O.y (Y.load1 Try.isAgg9 rfl (by intro w hw; subst hw; first | exact Blk.cell (by assumption) rfl | assumption)) rfl rfl rfl ?_)
  refine L.cons (O.y (Y.move rfl) rfl rfl rfl ?_)
  refine L.cons (O.y (Y.concat rfl rfl (by first | omega | (simp; omega))) rfl rfl rfl ?_)
  refine L.cons (O.y (Y.concat rfl rfl (by first | omega | (simp; omega))) rfl rfl rfl ?_)
  refine L.cons (O.y (Y.nilCheck rfl) rfl rfl rfl ?_)
  refine L.cons (O.y (Y.fieldAddr T.field37_0 rfl) rfl rfl rfl ?_)
  refine L.cons (O.store1 hb rfl rfl rfl Try.sizeOf9 (by simp [str, Value.cells]) rfl ?_)
  intro σ1 e1 hc1 hz1 hb1
  refine L.nil ?_
  refine X.next ?_
  refine E.seq ?_
  refine E.region ?_
  refine L.cons (O.y (Y.move rfl) rfl rfl rfl ?_)
  refine L.cons (O.y (Y.nilCheck rfl) rfl rfl rfl ?_)
  refine L.cons (O.y (Y.fieldAddr T.field37_1 rfl) rfl rfl rfl ?_)
  refine L.cons (O.y (Y.load1 Try.isAgg3 rfl (by intro w hw; subst hw; first | exact Blk.cell (by assumption) rfl | assumption)) rfl rfl rfl ?_)
  refine L.cons (O.y (Y.add _ rfl rfl (wrap_i64 (by omega) (by omega))) rfl rfl rfl ?_)
  refine L.cons (O.y (Y.nilCheck rfl) rfl rfl rfl ?_)
  refine L.cons (O.y (Y.fieldAddr T.field37_1 rfl) rfl rfl rfl ?_)
  refine L.cons (O.store1 hb1 rfl rfl rfl Try.sizeOf3 (by simp) rfl ?_)
  intro σ2 e2 hc2 hz2 hb2
  refine L.nil ?_
  refine X.next ?_
  refine E.seq ?_
  refine E.region ?_
  refine L.cons (O.y (Y.move rfl) rfl rfl rfl ?_)
  refine L.cons (O.enter (Runs.fn Try.call20 rfl) rfl rfl (digits_c σ2 s.length (by omega)) ?_)
  rintro v3 σ3 e3 ⟨rfl, rfl⟩
  refine L.cons (O.y (Y.assign rfl) rfl rfl rfl ?_)
  refine L.nil ?_
  refine X.next ?_
  refine E.ret ?_
  exact X.ret1 Try.results62 rfl ⟨_, σ3, rfl, rfl, e1.trans e2, rfl, hb2⟩
theorem tapeSave_c (σ : GW) (k tp : Nat) (s : List UInt8) (n : Nat) (hb : Tape σ k tp s n) (hl : s.length ≤ 100000000) :
    Calls Try.prog 64 [.pointer (some ⟨tp, 0, none⟩)].toArray σ.w (Ret σ [] fun r σ' => r = str (61 :: s) ∧ σ' = σ) := by
  unfold Tape at *
  refine calls Try.func64 rfl Try.ntmps64 (Nat.le_of_ble_eq_true rfl) ?_
  refine E.seq ?_
  refine E.region ?_
  refine L.cons (O.y (Y.assign rfl) rfl rfl rfl ?_)
  refine L.nil ?_
  refine X.next ?_
  refine E.seq ?_
  refine E.region ?_
  refine L.cons (O.y (Y.move rfl) rfl rfl rfl ?_)
  refine L.cons (O.y (Y.nilCheck rfl) rfl rfl rfl ?_)
  refine L.cons (O.y (Y.fieldAddr T.field37_0 rfl) rfl rfl rfl ?_)
  refine L.cons (O.y (Y.load1 Try.isAgg9 rfl (by intro w hw; subst hw; first | exact Blk.cell (by assumption) rfl | assumption)) rfl rfl rfl ?_)
  refine L.cons (O.y (Y.concat rfl rfl (by first | omega | (simp; omega))) rfl rfl rfl ?_)
  refine L.cons (O.y (Y.assign rfl) rfl rfl rfl ?_)
  refine L.nil ?_
  refine X.next ?_
  refine E.ret ?_
  exact X.ret1 Try.results64 rfl ⟨_, σ, rfl, rfl, Ext.refl _ _, rfl, rfl⟩
theorem tapeLoad_c (σ : GW) (k tp : Nat) (s st : List UInt8) (n : Nat) (hb : Tape σ k tp s n) (hne : st ≠ []) :
    Calls Try.prog 63 [.pointer (some ⟨tp, 0, none⟩), str st].toArray σ.w (Ret σ [k] fun r σ' => if st.head? = some 61 then r = .bool true ∧ Tape σ' k tp (st.drop 1) n else r = .bool false ∧ σ' = σ) := by
  unfold Tape at *
  obtain ⟨b, st, rfl⟩ : ∃ b r, st = b :: r := by cases st; exact absurd rfl hne; exact ⟨_, _, rfl⟩
  refine calls Try.func63 rfl Try.ntmps63 (Nat.le_of_ble_eq_true rfl) ?_
  refine E.seq ?_
  refine E.region ?_
  refine L.cons (O.y (Y.assign rfl) rfl rfl rfl ?_)
  refine L.nil ?_
  refine X.next ?_
  refine E.seq ?_
  refine E.seq ?_
  refine E.region ?_
  refine L.cons (O.y (Y.move rfl) rfl rfl rfl ?_)
  refine L.cons (O.y (Y.eqlS rfl rfl) rfl rfl rfl ?_)
  refine L.cons (O.y (Y.move rfl) rfl rfl rfl ?_)
  refine L.setB (b' := false) (decide_eq_false (by simp)) ?_
  refine L.cons (O.y (Y.move rfl) rfl rfl rfl ?_)
  refine L.cons (O.y (Y.byte 0 b Try.underlying9 rfl rfl rfl rfl) rfl rfl rfl ?_)
  refine L.cons (O.y (Y.neq rfl rfl) rfl rfl rfl ?_)
  refine L.cons (O.y (Y.pickF rfl rfl) rfl rfl rfl ?_)
  refine L.nil ?_
  refine X.next ?_
  refine E.cond rfl (fun h => ?_) (fun h => ?_)
  · skip
    have h : ¬ b = 61 := by intro e; subst e; simp at h
    refine E.seq ?_
    refine E.region ?_
    refine L.cons (O.y (Y.assign rfl) rfl rfl rfl ?_)
    refine L.nil ?_
    refine X.next ?_
    refine E.ret ?_
    refine X.thenRet ?_
    refine X.ret1 Try.results63 rfl ⟨_, σ, rfl, rfl, Ext.refl _ _, ?_⟩
    dsimp only
    rw [if_neg (by simpa using h)]
    exact ⟨rfl, rfl⟩
  · skip
    have h : b = 61 := by
      have h : (b.toNat : Int) = 61 := by simpa using h
      exact UInt8.toNat_inj.1 (by simpa using Int.ofNat.inj h)
    refine E.skip ?_
    refine X.next ?_
    refine E.seq ?_
    refine E.region ?_
    refine L.cons (O.y (Y.move rfl) rfl rfl rfl ?_)
    refine L.cons (O.y (Y.move rfl) rfl rfl rfl ?_)
    refine L.cons (O.y (Y.sliceS_lo 1 Try.underlying9 rfl rfl rfl (by simp)) rfl rfl rfl ?_)
    refine L.cons (O.y (Y.nilCheck rfl) rfl rfl rfl ?_)
    refine L.cons (O.y (Y.fieldAddr T.field37_0 rfl) rfl rfl rfl ?_)
    refine L.cons (O.store1 hb rfl rfl rfl Try.sizeOf9 (by simp [str, Value.cells]) rfl ?_)
    intro σ1 e1 hc1 hz1 hb1
    refine L.nil ?_
    refine X.next ?_
    refine E.seq ?_
    refine E.region ?_
    refine L.cons (O.y (Y.assign rfl) rfl rfl rfl ?_)
    refine L.nil ?_
    refine X.next ?_
    refine E.ret ?_
    refine X.ret1 Try.results63 rfl ⟨_, σ1, rfl, rfl, e1, ?_⟩
    dsimp only
    rw [if_pos (by simpa using h)]
    exact ⟨rfl, hb1⟩
end Go.Proofs.Ytjhpoahjmcoilaa
