/- Walk of the statement VaultSettles. -/
import Derived.Test.YtjhpoahjmcoilaaTab
import Derived.Test.YtjhpoahjmcoilaaVZ
set_option linter.unusedSimpArgs false
set_option linter.unusedVariables false
namespace Go.Proofs.Ytjhpoahjmcoilaa
open Go.Stp
/-- The registers of VaultSettles behind its begin. -/
def sEnv (A : Option Addr) (len cap p q vp tp wp up : Nat) (i : Nat) : Env :=
  [(0, .slice A len cap), (3, .pointer (some ⟨p, 0, none⟩)), (5, .pointer (some ⟨q, 0, none⟩)), (7, .pointer (some ⟨vp, 0, none⟩)), (8, .pointer (some ⟨tp, 0, none⟩)), (9, .pointer (some ⟨wp, 0, none⟩)), (10, .pointer (some ⟨up, 0, none⟩)), (11, .int .i64 (i : Int))]
/-- What VaultSettles knows behind i of the calls l. -/
def sInv (σ τ : GW) (N p q : Nat) (A : Option Addr) (cap : Nat) (l : List Act) (ii i : Nat) (e : Env) : Prop :=
  ∃ done vp tp wp up sure base c, e = sEnv A l.length cap p q vp tp wp up ii ∧ Ext σ τ [] ∧ Vt τ N p tp vp done sure base c i ∧ Vt τ (N + 10) q up wp done sure 0 done.length i ∧
    c ≤ done.length ∧ done.length ≤ i ∧ (marks done).length ≤ bulk (l.take i)
theorem vaultSettles_c (σ : GW) (v : Value) (l : List Act) (hv : Sl kAct σ 0 v l) :
    Calls Try.prog 4 [v].toArray σ.w (Ret σ [] fun r σ' => r = .bool true) := by
  obtain ⟨N, hN, hkk, hN0⟩ := σ.fresh [0]
  obtain ⟨A, cap, cs, rfl, hlc, hc63, _⟩ := id hv
  refine calls Try.func4 rfl Try.ntmps4 (Nat.le_of_ble_eq_true rfl) ?_
  refine E.seq ?_
  refine E.region ?_
  refine L.cons (O.y (Y.assign rfl) rfl rfl rfl ?_)
  refine L.nil ?_
  refine X.next ?_
  refine E.seq ?_
  refine E.seq ?_
  refine E.region ?_
  refine L.cons (O.enter (Runs.fn Try.call7 rfl) rfl rfl (awake_c σ) ?_)
  rintro v0 σ0 e0 rfl
  refine L.cons (O.y (Y.not rfl) rfl rfl rfl ?_)
  refine L.nil ?_
  refine X.next ?_
  refine E.condFh rfl (rfl) ?_
  refine E.skip ?_
  refine X.next ?_
  refine E.seq ?_
  refine E.seq ?_
  refine E.region ?_
  refine L.cons (O.y (Y.move rfl) rfl rfl rfl ?_)
  have hv0 := hv.ext e0 (by simp) (by simp)
  refine L.cons (O.enter (Runs.fn Try.call15 rfl) rfl rfl (light_c σ0 0 _ l hv0) ?_)
  rintro v1 σ1 e1 ⟨b, rfl, hlight, rfl⟩
  refine L.cons (O.y (Y.not rfl) rfl rfl rfl ?_)
  refine L.nil ?_
  refine X.next ?_
  refine E.cond rfl (fun hb => ?_) (fun hb => ?_)
  · skip
    refine E.seq ?_
    refine E.region ?_
    refine L.cons (O.y (Y.assign rfl) rfl rfl rfl ?_)
    refine L.nil ?_
    refine X.next ?_
    refine E.ret ?_
    refine X.thenRet ?_
    exact X.ret1 Try.results4 rfl (⟨_, σ1, rfl, rfl, e0, rfl⟩)
  · skip
    obtain rfl : b = true := by simpa using hb
    obtain ⟨hl60, hbk⟩ := hlight rfl
    refine E.skip ?_
    refine X.next ?_
    refine E.seq ?_
    refine E.region ?_
    refine L.cons (O.enter (Runs.fn Try.call8 rfl) rfl rfl (new_c σ1 N hN0 4194304 (by omega)) ?_)
    rintro v2 σ2 e2 ⟨p, rfl, hd2⟩
    have T2 : Ext σ σ2 [] := e0.trans e2
    refine L.cons (O.y (Y.move rfl) rfl rfl rfl ?_)
    refine L.cons (O.y (Y.extract rfl rfl) rfl rfl rfl ?_)
    refine L.cons (O.y (Y.extract rfl rfl) rfl rfl rfl ?_)
    refine L.cons (O.y (Y.assign rfl) rfl rfl rfl ?_)
    refine L.cons (O.y (Y.assign rfl) rfl rfl rfl ?_)
    refine L.nil ?_
    refine X.next ?_
    refine E.seq ?_
    refine E.region ?_
    refine L.cons (O.enter (Runs.fn Try.call8 rfl) rfl rfl (new_c σ2 (N + 10) (by omega) 4194304 (by omega)) ?_)
    rintro v3 σ3 e3 ⟨q, rfl, hq3⟩
    have T3 : Ext σ σ3 [] := T2.trans e3
    have hd3 := hd2.ext e3 (by simp only [List.mem_cons, List.not_mem_nil, or_false, not_false_eq_true] <;> omega) (by simp only [List.mem_cons, List.not_mem_nil, or_false, not_false_eq_true] <;> omega) (by simp only [List.mem_cons, List.not_mem_nil, or_false, not_false_eq_true] <;> omega) (by simp only [List.mem_cons, List.not_mem_nil, or_false, not_false_eq_true] <;> omega)
    refine L.cons (O.y (Y.move rfl) rfl rfl rfl ?_)
    refine L.cons (O.y (Y.extract rfl rfl) rfl rfl rfl ?_)
    refine L.cons (O.y (Y.extract rfl rfl) rfl rfl rfl ?_)
    refine L.cons (O.y (Y.assign rfl) rfl rfl rfl ?_)
    refine L.cons (O.y (Y.assign rfl) rfl rfl rfl ?_)
    refine L.nil ?_
    refine X.next ?_
    refine E.seq ?_
    refine E.region ?_
    refine L.cons (O.y (Y.move rfl) rfl rfl rfl ?_)
    refine L.cons (O.enter (Runs.fn Try.call16 rfl) rfl rfl (dk_open σ3 N p [] 0 (Dk.new hd3)) ?_)
    rintro v4 σ4 e4 ⟨vp, tp, rfl, hv4⟩
    have T4 := T3.step hN e4 (by simp)
    have hq4 := hq3.ext e4 (by simp only [List.mem_cons, List.not_mem_nil, or_false, not_false_eq_true] <;> omega) (by simp only [List.mem_cons, List.not_mem_nil, or_false, not_false_eq_true] <;> omega) (by simp only [List.mem_cons, List.not_mem_nil, or_false, not_false_eq_true] <;> omega) (by simp only [List.mem_cons, List.not_mem_nil, or_false, not_false_eq_true] <;> omega)
    refine L.cons (O.y (Y.move rfl) rfl rfl rfl ?_)
    refine L.cons (O.y (Y.extract rfl rfl) rfl rfl rfl ?_)
    refine L.cons (O.y (Y.extract rfl rfl) rfl rfl rfl ?_)
    refine L.cons (O.y (Y.assign rfl) rfl rfl rfl ?_)
    refine L.cons (O.y (Y.assign rfl) rfl rfl rfl ?_)
    refine L.nil ?_
    refine X.next ?_
    refine E.seq ?_
    refine E.region ?_
    refine L.cons (O.y (Y.move rfl) rfl rfl rfl ?_)
    refine L.cons (O.enter (Runs.fn Try.call16 rfl) rfl rfl (dk_open σ4 (N + 10) q [] 0 (Dk.new hq4)) ?_)
    rintro v5 σ5 e5 ⟨wp, up, rfl, hw5⟩
    have T5 := T4.step hN e5 (by simp; omega)
    have hv5 := hv4.ext e5 (by simp only [List.mem_cons, List.not_mem_nil, or_false, not_false_eq_true] <;> omega) (by simp only [List.mem_cons, List.not_mem_nil, or_false, not_false_eq_true] <;> omega) (by simp only [List.mem_cons, List.not_mem_nil, or_false, not_false_eq_true] <;> omega) (by simp only [List.mem_cons, List.not_mem_nil, or_false, not_false_eq_true] <;> omega) (by simp only [List.mem_cons, List.not_mem_nil, or_false, not_false_eq_true] <;> omega) (by simp only [List.mem_cons, List.not_mem_nil, or_false, not_false_eq_true] <;> omega)
    refine L.cons (O.y (Y.move rfl) rfl rfl rfl ?_)
    refine L.cons (O.y (Y.extract rfl rfl) rfl rfl rfl ?_)
    refine L.cons (O.y (Y.extract rfl rfl) rfl rfl rfl ?_)
    refine L.cons (O.y (Y.assign rfl) rfl rfl rfl ?_)
    refine L.cons (O.y (Y.assign rfl) rfl rfl rfl ?_)
    refine L.nil ?_
    refine X.next ?_
    refine E.seq ?_
    refine E.seq ?_
    refine E.region ?_
    refine L.cons (O.y (Y.assign rfl) rfl rfl rfl ?_)
    refine L.nil ?_
    refine X.next ?_
    refine E.block ?_
    refine E.loopK (fun (i : Nat) e τ => i ≤ l.length ∧ sInv σ τ N p q A cap l i i e) (fun i => l.length - i) 0 (sEnv A l.length cap p q vp tp wp up 0)
      ⟨by omega, [], vp, tp, wp, up, 0, 0, 0, rfl, T5, hv5, hw5, by simp, by simp, by simp [marks]⟩ (by repeat' first | exact True.intro | refine ⟨rfl, ?_⟩) ?_
    rintro i e τ ⟨hi, done, vp, tp, wp, up, sure, base, c, rfl, T0, hvt, hwt, hcd, hdl, hml⟩ K hK
    obtain ⟨hn1, hn2, hn3, hn4, hn5, hn6⟩ := hvt.nums
    unfold sEnv
    refine E.seq ?_
    refine E.seq ?_
    refine E.region ?_
    refine L.cons (O.y (Y.move rfl) rfl rfl rfl ?_)
    refine L.cons (O.y (Y.move rfl) rfl rfl rfl ?_)
    refine L.cons (O.y (Y.lenSl Try.underlying41 rfl) rfl rfl rfl ?_)
    refine L.cons (O.y (Y.lss rfl rfl) rfl rfl rfl ?_)
    refine L.nil ?_
    refine X.next ?_
    refine E.cond rfl (fun h => ?_) (fun h => ?_)
    · skip
      simp at h
      obtain ⟨x, hx⟩ : ∃ x, l[i]? = some x := ⟨l[i], List.getElem?_eq_getElem h⟩
      have hmt := bulk_take l i x hx
      have hmle : bulk (l.take (i + 1)) ≤ bulk l := by
        have := marks_le (l.map (·.cmd)) (i + 1)
        unfold bulk
        rw [List.map_take]; exact this
      obtain ⟨b, o, rfl, hat⟩ := actAt (hv.ext T0 (by simp) (by simp)) hx
      obtain ⟨hk0, hk1, hk2, hk3⟩ := At.act hat
      refine E.skip ?_
      refine X.next ?_
      refine E.seq ?_
      refine E.block ?_
      refine E.seq ?_
      refine E.seq ?_
      refine E.region ?_
      refine L.cons (O.y (Y.move rfl) rfl rfl rfl ?_)
      refine L.cons (O.y (Y.eqNilPtr Try.underlying32 rfl rfl) rfl rfl rfl ?_)
      refine L.cons (O.y (Y.move rfl) rfl rfl rfl ?_)
      refine L.setB (b' := false) rfl ?_
      refine L.cons (O.y (Y.move rfl) rfl rfl rfl ?_)
      refine L.cons (O.y (Y.eqNilPtr Try.underlying32 rfl rfl) rfl rfl rfl ?_)
      refine L.cons (O.y (Y.pickF rfl rfl) rfl rfl rfl ?_)
      refine L.nil ?_
      refine X.next ?_
      refine E.condFh rfl (rfl) ?_
      refine E.skip ?_
      refine X.next ?_
      refine E.seq ?_
      refine E.seq ?_
      refine E.region ?_
      refine L.cons (O.y (Y.move rfl) rfl rfl rfl ?_)
      refine L.cons (O.y (Y.move rfl) rfl rfl rfl ?_)
      refine L.cons (O.y (Y.indexSl i Try.underlying41 Try.sizeOf46 rfl rfl rfl h) rfl rfl rfl ?_)
      refine L.cons (O.y (Y.fieldAddr T.field46_0 rfl) rfl rfl rfl ?_)
      refine L.cons (O.y (Y.load1 Try.isAgg3 rfl (by intro w hw; subst hw; first | exact Blk.cell (by assumption) rfl | assumption)) rfl rfl rfl ?_)
      refine L.nil ?_
      refine X.next ?_
      refine E.cutK (fun e' τ' => sInv σ τ' N p q (some ⟨b, o, none⟩) cap l i (i + 1) e') (fun Kc hC => ?_) ?_
      · clear hK
        refine E.block ?_
        refine E.seq ?_
        refine E.region ?_
        refine L.cons (O.y (Y.eql rfl rfl) rfl rfl rfl ?_)
        refine L.cons (O.y (Y.assign rfl) rfl rfl rfl ?_)
        refine L.nil ?_
        refine X.next ?_
        refine E.cond rfl (fun h1 => ?_) (fun h1 => ?_)
        · skip
          refine E.seq ?_
          refine E.region ?_
          refine L.cons (O.y (Y.move rfl) rfl rfl rfl ?_)
          refine L.cons (O.y (Y.move rfl) rfl rfl rfl ?_)
          refine L.cons (O.y (Y.move rfl) rfl rfl rfl ?_)
          refine L.cons (O.y (Y.indexSl i Try.underlying41 Try.sizeOf46 rfl rfl rfl h) rfl rfl rfl ?_)
          refine L.cons (O.y (Y.fieldAddr T.field46_1 rfl) rfl rfl rfl ?_)
          refine L.cons (O.y (Y.load1 Try.isAgg9 rfl (by intro w hw; subst hw; first | exact Blk.cell (by assumption) rfl | assumption)) rfl rfl rfl ?_)
          refine L.cons (O.enter (Runs.fn Try.call17 rfl) rfl rfl (vt_do τ N p tp vp done sure base c i hvt x.cmd (by omega) (by omega) (by omega)) ?_)
          rintro v6 σ6 e6 ⟨rfl, hv6⟩
          have T6 := T0.step hN e6 (by simp)
          have hw6 := hwt.ext e6 (by simp only [List.mem_cons, List.not_mem_nil, or_false, not_false_eq_true] <;> omega) (by simp only [List.mem_cons, List.not_mem_nil, or_false, not_false_eq_true] <;> omega) (by simp only [List.mem_cons, List.not_mem_nil, or_false, not_false_eq_true] <;> omega) (by simp only [List.mem_cons, List.not_mem_nil, or_false, not_false_eq_true] <;> omega) (by simp only [List.mem_cons, List.not_mem_nil, or_false, not_false_eq_true] <;> omega) (by simp only [List.mem_cons, List.not_mem_nil, or_false, not_false_eq_true] <;> omega)
          obtain ⟨_, hk6, _, _⟩ := At.act (actCell (hv.ext T6 (by simp) (by simp)) hx)
          refine L.cons (O.y (Y.move rfl) rfl rfl rfl ?_)
          refine L.cons (O.y (Y.extract rfl rfl) rfl rfl rfl ?_)
          refine L.cons (O.y (Y.extract rfl rfl) rfl rfl rfl ?_)
          refine L.cons (O.y (Y.assign rfl) rfl rfl rfl ?_)
          refine L.cons (O.y (Y.assign rfl) rfl rfl rfl ?_)
          refine L.nil ?_
          refine X.next ?_
          refine E.seq ?_
          refine E.region ?_
          refine L.cons (O.y (Y.move rfl) rfl rfl rfl ?_)
          refine L.cons (O.y (Y.move rfl) rfl rfl rfl ?_)
          refine L.cons (O.y (Y.move rfl) rfl rfl rfl ?_)
          refine L.cons (O.y (Y.indexSl i Try.underlying41 Try.sizeOf46 rfl rfl rfl h) rfl rfl rfl ?_)
          refine L.cons (O.y (Y.fieldAddr T.field46_1 rfl) rfl rfl rfl ?_)
          refine L.cons (O.y (Y.load1 Try.isAgg9 rfl (by intro w hw; subst hw; first | exact Blk.cell (by assumption) rfl | assumption)) rfl rfl rfl ?_)
          refine L.cons (O.enter (Runs.fn Try.call17 rfl) rfl rfl (vt_do σ6 (N + 10) q up wp done sure 0 done.length i hw6 x.cmd (by omega) (by omega) (by omega)) ?_)
          rintro v7 σ7 e7 ⟨rfl, hw7⟩
          have T7 := T6.step hN e7 (by simp; omega)
          have hv7 := hv6.ext e7 (by simp only [List.mem_cons, List.not_mem_nil, or_false, not_false_eq_true] <;> omega) (by simp only [List.mem_cons, List.not_mem_nil, or_false, not_false_eq_true] <;> omega) (by simp only [List.mem_cons, List.not_mem_nil, or_false, not_false_eq_true] <;> omega) (by simp only [List.mem_cons, List.not_mem_nil, or_false, not_false_eq_true] <;> omega) (by simp only [List.mem_cons, List.not_mem_nil, or_false, not_false_eq_true] <;> omega) (by simp only [List.mem_cons, List.not_mem_nil, or_false, not_false_eq_true] <;> omega)
          refine L.cons (O.y (Y.move rfl) rfl rfl rfl ?_)
          refine L.cons (O.y (Y.extract rfl rfl) rfl rfl rfl ?_)
          refine L.cons (O.y (Y.extract rfl rfl) rfl rfl rfl ?_)
          refine L.cons (O.y (Y.assign rfl) rfl rfl rfl ?_)
          refine L.cons (O.y (Y.assign rfl) rfl rfl rfl ?_)
          refine L.nil ?_
          refine X.next ?_
          refine E.seq ?_
          refine E.region ?_
          refine L.cons (O.y (Y.move rfl) rfl rfl rfl ?_)
          refine L.cons (O.y (Y.move rfl) rfl rfl rfl ?_)
          refine L.cons (O.y (Y.neqS rfl rfl) rfl rfl rfl ?_)
          refine L.cons (O.y (Y.move rfl) rfl rfl rfl ?_)
          refine L.setB (b' := false) (by simp) ?_
          refine L.cons (O.y (Y.move rfl) rfl rfl rfl ?_)
          refine L.cons (O.y (Y.move rfl) rfl rfl rfl ?_)
          refine L.cons (O.y (Y.neq rfl rfl) rfl rfl rfl ?_)
          refine L.cons (O.y (Y.pickF rfl rfl) rfl rfl rfl ?_)
          refine L.nil ?_
          refine X.next ?_
          refine E.condFh rfl (rfl) ?_
          refine E.skip ?_
          refine X.inBlock ?_
          have hms := congrArg List.length (marks_snoc done x.cmd)
          simp only [List.length_append, List.length_singleton] at hms
          rw [show done.length + 1 = (done ++ [x.cmd]).length by simp] at hw7
          exact X.toK hC _ ⟨done ++ [x.cmd], vp, tp, wp, up, sure, base, c + 1, rfl, T7, hv7, hw7, by simp; omega, by simp; omega, by omega⟩ (by repeat' first | exact True.intro | refine ⟨rfl, ?_⟩)
        · skip
          refine E.seq ?_
          refine E.seq ?_
          refine E.region ?_
          refine L.cons (O.y (Y.eql rfl rfl) rfl rfl rfl ?_)
          refine L.cons (O.y (Y.assign rfl) rfl rfl rfl ?_)
          refine L.nil ?_
          refine X.next ?_
          refine E.cutK (fun e' τ' => τ' = τ ∧ ∃ b' : Bool, e' = (86, .bool b') :: (55, .int .i64 x.kind) :: sEnv (some ⟨b, o, none⟩) l.length cap p q vp tp wp up i) (fun Kc hC => ?_) ?_
          · skip
            refine E.cond rfl (fun h2 => ?_) (fun h2 => ?_)
            · skip
              refine E.skip ?_
              exact X.toK hC _ ⟨rfl, _, rfl⟩ (by repeat' first | exact True.intro | refine ⟨rfl, ?_⟩)
            · skip
              refine E.region ?_
              refine L.cons (O.y (Y.eql rfl rfl) rfl rfl rfl ?_)
              refine L.cons (O.y (Y.assign rfl) rfl rfl rfl ?_)
              refine L.nil ?_
              exact X.toK hC _ ⟨rfl, _, rfl⟩ (by repeat' first | exact True.intro | refine ⟨rfl, ?_⟩)
          · skip
            rintro e' τ' ⟨rfl, b', rfl⟩
            unfold sEnv
            refine E.cond rfl (fun h2 => ?_) (fun h2 => ?_)
            · skip
              refine E.seq ?_
              refine E.region ?_
              refine L.cons (O.y (Y.move rfl) rfl rfl rfl ?_)
              refine L.cons (O.enter (Runs.fn Try.call18 rfl) rfl rfl (vt_settle τ' N p tp vp done sure base c i hvt) ?_)
              rintro v6 σ6 e6 ⟨rfl, hv6⟩
              have T6 := T0.step hN e6 (by simp)
              have hw6 := hwt.ext e6 (by simp only [List.mem_cons, List.not_mem_nil, or_false, not_false_eq_true] <;> omega) (by simp only [List.mem_cons, List.not_mem_nil, or_false, not_false_eq_true] <;> omega) (by simp only [List.mem_cons, List.not_mem_nil, or_false, not_false_eq_true] <;> omega) (by simp only [List.mem_cons, List.not_mem_nil, or_false, not_false_eq_true] <;> omega) (by simp only [List.mem_cons, List.not_mem_nil, or_false, not_false_eq_true] <;> omega) (by simp only [List.mem_cons, List.not_mem_nil, or_false, not_false_eq_true] <;> omega)
              refine L.cons (O.y (Y.move rfl) rfl rfl rfl ?_)
              refine L.cons (O.enter (Runs.fn Try.call19 rfl) rfl rfl (vt_sync σ6 (N + 10) q up wp done sure 0 done.length i hw6) ?_)
              rintro v7 σ7 e7 ⟨rfl, hw7⟩
              have T7 := T6.step hN e7 (by simp; omega)
              have hv7 := hv6.ext e7 (by simp only [List.mem_cons, List.not_mem_nil, or_false, not_false_eq_true] <;> omega) (by simp only [List.mem_cons, List.not_mem_nil, or_false, not_false_eq_true] <;> omega) (by simp only [List.mem_cons, List.not_mem_nil, or_false, not_false_eq_true] <;> omega) (by simp only [List.mem_cons, List.not_mem_nil, or_false, not_false_eq_true] <;> omega) (by simp only [List.mem_cons, List.not_mem_nil, or_false, not_false_eq_true] <;> omega) (by simp only [List.mem_cons, List.not_mem_nil, or_false, not_false_eq_true] <;> omega)
              refine L.cons (O.y (Y.neq rfl rfl) rfl rfl rfl ?_)
              refine L.nil ?_
              refine X.next ?_
              refine E.condFh rfl (rfl) ?_
              refine E.skip ?_
              refine X.inBlock ?_
              exact X.toK hC _ ⟨done, vp, tp, wp, up, done.length, done.length, c, rfl, T7, Vt.up hv7 (by omega), Vt.up hw7 (by omega), hcd, by omega, by omega⟩ (by repeat' first | exact True.intro | refine ⟨rfl, ?_⟩)
            · skip
              refine E.seq ?_
              refine E.region ?_
              refine L.cons (O.y (Y.eql rfl rfl) rfl rfl rfl ?_)
              refine L.cons (O.y (Y.assign rfl) rfl rfl rfl ?_)
              refine L.nil ?_
              refine X.next ?_
              refine E.cond rfl (fun h4 => ?_) (fun h4 => ?_)
              · skip
                refine E.seq ?_
                obtain ⟨kp, hkp⟩ : ∃ kp, kp = sure + min x.m.toNat (done.length - sure) := ⟨_, rfl⟩
                have hkl : (done.take kp).length = kp := by simp; omega
                have hml7 := marks_le done kp
                have hkm : kp ≤ done.length := by omega
                have hbk : base ≤ kp := by omega
                refine E.draw (.rd 0 (.rd 1 (.rd 2 (.rd 3 (.rd 4 (.rd 5 (.rd 6 (.rd 7 (.rd 8 (.rd 9 (.rd 10 (.ef 11 Pl.done)))))))))))) (fun w => w.cell? ⟨b, o + i * 4 + 2, none⟩ = some (.int .i64 x.m) ∧ w.cell? ⟨b, o + i * 4 + 3, none⟩ = some (.int .i64 x.n)) Try.wide_mixed (by decide +kernel) (by decide +kernel) (by intro c a w d v h; cases d <;> exact h) ?_
                intro σd ed cd hdd_
                have Td := T0.trans ed
                obtain ⟨_, _, hq2, hq3⟩ := At.act (actCell (hv.ext Td (by simp) (by simp)) hx)
                refine D.rd rfl (Y.move rfl) rfl rfl rfl (⟨hq2, hq3⟩) ?_
                refine D.rd rfl (Y.move rfl) rfl rfl rfl (⟨hq2, hq3⟩) ?_
                refine D.rd rfl (Y.move rfl) rfl rfl rfl (⟨hq2, hq3⟩) ?_
                refine D.rd rfl (Y.indexSl i Try.underlying41 Try.sizeOf46 rfl rfl rfl h) rfl rfl rfl (⟨hq2, hq3⟩) ?_
                refine D.rd rfl (Y.fieldAddr T.field46_2 rfl) rfl rfl rfl (⟨hq2, hq3⟩) ?_
                refine D.rd rfl (Y.load1 Try.isAgg3 rfl (by intro w hw; first | exact hw | exact hw.1 | exact hw.2 | exact hw.2.1 | exact hw.2.2 | exact hw.2.2.1 | exact hw.2.2.2 | exact hw.2.2.2.1 | exact hw.2.2.2.2)) rfl rfl rfl (⟨hq2, hq3⟩) ?_
                refine D.rd rfl (Y.move rfl) rfl rfl rfl (⟨hq2, hq3⟩) ?_
                refine D.rd rfl (Y.move rfl) rfl rfl rfl (⟨hq2, hq3⟩) ?_
                refine D.rd rfl (Y.indexSl i Try.underlying41 Try.sizeOf46 rfl rfl rfl h) rfl rfl rfl (⟨hq2, hq3⟩) ?_
                refine D.rd rfl (Y.fieldAddr T.field46_3 rfl) rfl rfl rfl (⟨hq2, hq3⟩) ?_
                refine D.rd rfl (Y.load1 Try.isAgg3 rfl (by intro w hw; first | exact hw | exact hw.1 | exact hw.2 | exact hw.2.1 | exact hw.2.2 | exact hw.2.2.1 | exact hw.2.2.2 | exact hw.2.2.2.1 | exact hw.2.2.2.2)) rfl rfl rfl (⟨hq2, hq3⟩) ?_
                have hvd := hvt.ext ed (by simp) (by simp) (by simp) (by simp) (by simp) (by simp)
                have hwd := hwt.ext ed (by simp) (by simp) (by simp) (by simp) (by simp) (by simp)
                refine D.ef rfl (O.enter (Runs.fn Try.call12 rfl) rfl rfl (vt_crash σd N p tp vp done sure base c i hvd x.m x.n kp hkp) ?_)
                rintro v6 σ6 e6 ⟨rfl, hd6⟩
                have T6 := Td.step hN e6 (by simp)
                have hw6 := hwd.ext e6 (by simp only [List.mem_cons, List.not_mem_nil, or_false, not_false_eq_true] <;> omega) (by simp only [List.mem_cons, List.not_mem_nil, or_false, not_false_eq_true] <;> omega) (by simp only [List.mem_cons, List.not_mem_nil, or_false, not_false_eq_true] <;> omega) (by simp only [List.mem_cons, List.not_mem_nil, or_false, not_false_eq_true] <;> omega) (by simp only [List.mem_cons, List.not_mem_nil, or_false, not_false_eq_true] <;> omega) (by simp only [List.mem_cons, List.not_mem_nil, or_false, not_false_eq_true] <;> omega)
                obtain ⟨_, _, hr2, hr3⟩ := At.act (actCell (hv.ext T6 (by simp) (by simp)) hx)
                refine ⟨⟨hr2, hr3⟩, ?_⟩
                refine D.done ?_
                refine X.next ?_
                refine E.seq ?_
                refine E.draw (.rd 0 (.rd 1 (.rd 2 (.rd 3 (.rd 4 (.rd 5 (.rd 6 (.rd 7 (.rd 8 (.rd 9 (.rd 10 (.ef 11 Pl.done)))))))))))) (fun w => w.cell? ⟨b, o + i * 4 + 2, none⟩ = some (.int .i64 x.m) ∧ w.cell? ⟨b, o + i * 4 + 3, none⟩ = some (.int .i64 x.n)) Try.wide_mixed (by decide +kernel) (by decide +kernel) (by intro c a w d v h; cases d <;> exact h) ?_
                intro σq eq cq hqq_
                have Tq := T6.trans eq
                obtain ⟨_, _, hs2, hs3⟩ := At.act (actCell (hv.ext Tq (by simp) (by simp)) hx)
                refine D.rd rfl (Y.move rfl) rfl rfl rfl (⟨hs2, hs3⟩) ?_
                refine D.rd rfl (Y.move rfl) rfl rfl rfl (⟨hs2, hs3⟩) ?_
                refine D.rd rfl (Y.move rfl) rfl rfl rfl (⟨hs2, hs3⟩) ?_
                refine D.rd rfl (Y.indexSl i Try.underlying41 Try.sizeOf46 rfl rfl rfl h) rfl rfl rfl (⟨hs2, hs3⟩) ?_
                refine D.rd rfl (Y.fieldAddr T.field46_2 rfl) rfl rfl rfl (⟨hs2, hs3⟩) ?_
                refine D.rd rfl (Y.load1 Try.isAgg3 rfl (by intro w hw; first | exact hw | exact hw.1 | exact hw.2 | exact hw.2.1 | exact hw.2.2 | exact hw.2.2.1 | exact hw.2.2.2 | exact hw.2.2.2.1 | exact hw.2.2.2.2)) rfl rfl rfl (⟨hs2, hs3⟩) ?_
                refine D.rd rfl (Y.move rfl) rfl rfl rfl (⟨hs2, hs3⟩) ?_
                refine D.rd rfl (Y.move rfl) rfl rfl rfl (⟨hs2, hs3⟩) ?_
                refine D.rd rfl (Y.indexSl i Try.underlying41 Try.sizeOf46 rfl rfl rfl h) rfl rfl rfl (⟨hs2, hs3⟩) ?_
                refine D.rd rfl (Y.fieldAddr T.field46_3 rfl) rfl rfl rfl (⟨hs2, hs3⟩) ?_
                refine D.rd rfl (Y.load1 Try.isAgg3 rfl (by intro w hw; first | exact hw | exact hw.1 | exact hw.2 | exact hw.2.1 | exact hw.2.2 | exact hw.2.2.1 | exact hw.2.2.2 | exact hw.2.2.2.1 | exact hw.2.2.2.2)) rfl rfl rfl (⟨hs2, hs3⟩) ?_
                have hdq := hd6.ext eq (by simp) (by simp) (by simp) (by simp)
                have hwq := hw6.ext eq (by simp) (by simp) (by simp) (by simp) (by simp) (by simp)
                refine D.ef rfl (O.enter (Runs.fn Try.call12 rfl) rfl rfl (vt_crash σq (N + 10) q up wp done sure 0 done.length i hwq x.m x.n kp hkp) ?_)
                rintro v7 σ7 e7 ⟨rfl, hq7⟩
                have T7 := Tq.step hN e7 (by simp; omega)
                have hd7 := hdq.ext e7 (by simp only [List.mem_cons, List.not_mem_nil, or_false, not_false_eq_true] <;> omega) (by simp only [List.mem_cons, List.not_mem_nil, or_false, not_false_eq_true] <;> omega) (by simp only [List.mem_cons, List.not_mem_nil, or_false, not_false_eq_true] <;> omega) (by simp only [List.mem_cons, List.not_mem_nil, or_false, not_false_eq_true] <;> omega)
                obtain ⟨_, _, ht2, ht3⟩ := At.act (actCell (hv.ext T7 (by simp) (by simp)) hx)
                refine ⟨⟨ht2, ht3⟩, ?_⟩
                refine D.done ?_
                refine X.next ?_
                refine E.seq ?_
                refine E.region ?_
                refine L.cons (O.y (Y.move rfl) rfl rfl rfl ?_)
                refine L.cons (O.enter (Runs.fn Try.call16 rfl) rfl rfl (dk_open σ7 N p (done.take kp) base hd7) ?_)
                rintro v8 σ8 e8 ⟨vp8, tp8, rfl, hv8⟩
                have T8 := T7.step hN e8 (by simp)
                have hq8 := hq7.ext e8 (by simp only [List.mem_cons, List.not_mem_nil, or_false, not_false_eq_true] <;> omega) (by simp only [List.mem_cons, List.not_mem_nil, or_false, not_false_eq_true] <;> omega) (by simp only [List.mem_cons, List.not_mem_nil, or_false, not_false_eq_true] <;> omega) (by simp only [List.mem_cons, List.not_mem_nil, or_false, not_false_eq_true] <;> omega)
                refine L.cons (O.y (Y.move rfl) rfl rfl rfl ?_)
                refine L.cons (O.y (Y.extract rfl rfl) rfl rfl rfl ?_)
                refine L.cons (O.y (Y.extract rfl rfl) rfl rfl rfl ?_)
                refine L.cons (O.y (Y.assign rfl) rfl rfl rfl ?_)
                refine L.cons (O.y (Y.assign rfl) rfl rfl rfl ?_)
                refine L.nil ?_
                refine X.next ?_
                refine E.region ?_
                refine L.cons (O.y (Y.move rfl) rfl rfl rfl ?_)
                refine L.cons (O.enter (Runs.fn Try.call16 rfl) rfl rfl (dk_open σ8 (N + 10) q (done.take kp) 0 hq8) ?_)
                rintro v9 σ9 e9 ⟨wp9, up9, rfl, hw9⟩
                have T9 := T8.step hN e9 (by simp; omega)
                have hv9 := hv8.ext e9 (by simp only [List.mem_cons, List.not_mem_nil, or_false, not_false_eq_true] <;> omega) (by simp only [List.mem_cons, List.not_mem_nil, or_false, not_false_eq_true] <;> omega) (by simp only [List.mem_cons, List.not_mem_nil, or_false, not_false_eq_true] <;> omega) (by simp only [List.mem_cons, List.not_mem_nil, or_false, not_false_eq_true] <;> omega) (by simp only [List.mem_cons, List.not_mem_nil, or_false, not_false_eq_true] <;> omega) (by simp only [List.mem_cons, List.not_mem_nil, or_false, not_false_eq_true] <;> omega)
                rw [Nat.sub_zero] at hw9
                refine L.cons (O.y (Y.move rfl) rfl rfl rfl ?_)
                refine L.cons (O.y (Y.extract rfl rfl) rfl rfl rfl ?_)
                refine L.cons (O.y (Y.extract rfl rfl) rfl rfl rfl ?_)
                refine L.cons (O.y (Y.assign rfl) rfl rfl rfl ?_)
                refine L.cons (O.y (Y.assign rfl) rfl rfl rfl ?_)
                refine L.nil ?_
                refine X.inBlock ?_
                exact X.toK hC _ ⟨done.take kp, vp8, tp8, wp9, up9, (done.take kp).length, base, (done.take kp).length - base, rfl, T9, Vt.up hv9 (by omega), Vt.up hw9 (by omega), by omega, by omega, by omega⟩ (by repeat' first | exact True.intro | refine ⟨rfl, ?_⟩)
              · skip
                refine E.skip ?_
                refine X.inBlock ?_
                exact X.toK hC _ ⟨done, vp, tp, wp, up, sure, base, c, rfl, T0, Vt.up hvt (by omega), Vt.up hwt (by omega), hcd, by omega, by omega⟩ (by repeat' first | exact True.intro | refine ⟨rfl, ?_⟩)
      · skip
        rintro e' τ' ⟨done, vp, tp, wp, up, sure, base, c, rfl, T0, hvt, hwt, hcd, hdl, hml⟩
        unfold sEnv
        refine E.seq ?_
        refine E.draw (.rd 0 (.rd 1 (.rd 2 (.rd 3 (.rd 4 (.rd 5 (.rd 6 (.rd 7 (.rd 8 Pl.done))))))))) (fun w => w.cell? ⟨tp, 0, none⟩ = some (str (marks done)) ∧ w.cell? ⟨up, 0, none⟩ = some (str (marks done))) Try.wide_mixed (by decide +kernel) (by decide +kernel) (by intro c a w d v h; cases d <;> exact h) ?_
        intro σq eq cq hq_
        have Tq := T0.trans eq
        have hvq := hvt.ext eq (by simp) (by simp) (by simp) (by simp) (by simp) (by simp)
        have hwq := hwt.ext eq (by simp) (by simp) (by simp) (by simp) (by simp) (by simp)
        refine D.rd rfl (Y.move rfl) rfl rfl rfl (⟨vt_tape hvq, vt_tape hwq⟩) ?_
        refine D.rd rfl (Y.nilCheck rfl) rfl rfl rfl (⟨vt_tape hvq, vt_tape hwq⟩) ?_
        refine D.rd rfl (Y.fieldAddr T.field37_0 rfl) rfl rfl rfl (⟨vt_tape hvq, vt_tape hwq⟩) ?_
        refine D.rd rfl (Y.load1 Try.isAgg9 rfl (by intro w hw; first | exact hw | exact hw.1 | exact hw.2 | exact hw.2.1 | exact hw.2.2 | exact hw.2.2.1 | exact hw.2.2.2 | exact hw.2.2.2.1 | exact hw.2.2.2.2)) rfl rfl rfl (⟨vt_tape hvq, vt_tape hwq⟩) ?_
        refine D.rd rfl (Y.move rfl) rfl rfl rfl (⟨vt_tape hvq, vt_tape hwq⟩) ?_
        refine D.rd rfl (Y.nilCheck rfl) rfl rfl rfl (⟨vt_tape hvq, vt_tape hwq⟩) ?_
        refine D.rd rfl (Y.fieldAddr T.field37_0 rfl) rfl rfl rfl (⟨vt_tape hvq, vt_tape hwq⟩) ?_
        refine D.rd rfl (Y.load1 Try.isAgg9 rfl (by intro w hw; first | exact hw | exact hw.1 | exact hw.2 | exact hw.2.1 | exact hw.2.2 | exact hw.2.2.1 | exact hw.2.2.2 | exact hw.2.2.2.1 | exact hw.2.2.2.2)) rfl rfl rfl (⟨vt_tape hvq, vt_tape hwq⟩) ?_
        refine D.rd rfl (Y.neqS rfl rfl) rfl rfl rfl (⟨vt_tape hvq, vt_tape hwq⟩) ?_
        refine D.done ?_
        refine X.next ?_
        refine E.condFh rfl ((by simp)) ?_
        refine E.skip ?_
        refine X.inBlock ?_
        refine X.next ?_
        refine E.region ?_
        refine L.cons (O.y (Y.move rfl) rfl rfl rfl ?_)
        refine L.cons (O.y (Y.add _ rfl rfl (wrap_i64 (by omega) (by omega))) rfl rfl rfl ?_)
        refine L.cons (O.y (Y.assign rfl) rfl rfl rfl ?_)
        refine L.nil ?_
        exact X.againK hK (i + 1) _ ⟨by omega, done, vp, tp, wp, up, sure, base, c, rfl, Tq, hvq, hwq, hcd, hdl, hml⟩ (by repeat' first | exact True.intro | refine ⟨rfl, ?_⟩) (by omega)
    · skip
      simp at h
      clear hK
      refine E.exit ?_
      refine X.thenExit ?_
      refine X.thenExit ?_
      refine X.outBlock ?_
      refine X.next ?_
      refine E.seq ?_
      refine E.region ?_
      refine L.cons (O.y (Y.move rfl) rfl rfl rfl ?_)
      refine L.cons (O.y (Y.neNilPtr Try.underlying32 rfl rfl) rfl rfl rfl ?_)
      refine L.cons (O.y (Y.move rfl) rfl rfl rfl ?_)
      refine L.setB (b' := true) rfl ?_
      refine L.cons (O.y (Y.move rfl) rfl rfl rfl ?_)
      refine L.cons (O.y (Y.neNilPtr Try.underlying32 rfl rfl) rfl rfl rfl ?_)
      refine L.cons (O.y (Y.pickT rfl rfl) rfl rfl rfl ?_)
      refine L.cons (O.y (Y.move rfl) rfl rfl rfl ?_)
      refine L.setB (b' := true) rfl ?_
      refine L.cons (O.y (Y.move rfl) rfl rfl rfl ?_)
      refine L.cons (O.enter (Runs.fn Try.call14 rfl) rfl rfl (vt_count τ N p tp vp _ _ _ _ _ hvt) ?_)
      rintro v8 σ8 e8 ⟨rfl, rfl⟩
      refine L.cons (O.y (Y.move rfl) rfl rfl rfl ?_)
      refine L.cons (O.enter (Runs.fn Try.call14 rfl) rfl rfl (vt_count σ8 (N + 10) q up wp _ _ _ _ _ hwt) ?_)
      rintro v9 σ9 e9 ⟨rfl, rfl⟩
      refine L.cons (O.y (Y.leq rfl rfl) rfl rfl rfl ?_)
      refine L.cons (O.y (Y.pickT rfl rfl) rfl rfl rfl ?_)
      refine L.cons (O.y (Y.assign rfl) rfl rfl rfl ?_)
      refine L.nil ?_
      refine X.next ?_
      refine E.ret ?_
      refine X.ret1 Try.results4 rfl (⟨_, σ9, rfl, rfl, T0, ?_⟩)
      simp; omega
end Go.Proofs.Ytjhpoahjmcoilaa
