/- Walk of the statement VaultPlays. -/
import Derived.Test.YtjhpoahjmcoilaaTab
import Derived.Test.YtjhpoahjmcoilaaVZ
set_option linter.unusedSimpArgs false
set_option linter.unusedVariables false
namespace Go.Proofs.Ytjhpoahjmcoilaa
open Go.Stp
/-- The registers of VaultPlays behind its begin. -/
def pEnv (A : Option Addr) (len cap p vp tp : Nat) (vd : Value) (su sn : Int) (i : Nat) : Env :=
  [(0, .slice A len cap), (3, .pointer (some ⟨p, 0, none⟩)), (5, .pointer (some ⟨vp, 0, none⟩)), (6, .pointer (some ⟨tp, 0, none⟩)), (7, vd), (8, .int .i64 su), (9, .int .i64 sn), (10, .int .i64 (i : Int))]
/-- What VaultPlays knows behind i of the calls l. -/
def pInv (σ τ : GW) (N p : Nat) (A : Option Addr) (cap : Nat) (l : List Act) (ii i : Nat) (e : Env) : Prop :=
  ∃ done vp tp sure base c, ∃ vd : Value, ∃ su sn : Int, e = pEnv A l.length cap p vp tp vd su sn ii ∧ Ext σ τ [] ∧ Vt τ N p tp vp done sure base c i ∧ Ow kStr τ (N + 5) 9 vd done ∧
    su = sure ∧ sn = (done.length : Int) - base ∧ done.length ≤ i ∧ (marks done).length ≤ bulk (l.take i)
theorem vaultPlays_c (σ : GW) (v : Value) (l : List Act) (hv : Sl kAct σ 0 v l) :
    Calls Try.prog 5 [v].toArray σ.w (Ret σ [] fun r σ' => r = .bool true) := by
  obtain ⟨N, hN, hkk, hN0⟩ := σ.fresh [0]
  obtain ⟨A, cap, cs, rfl, hlc, hc63, _⟩ := id hv
  refine calls Try.func5 rfl Try.ntmps5 (Nat.le_of_ble_eq_true rfl) ?_
  refine E.seq ?_
  refine E.region ?_
  refine L.cons (O.y (Y.assign rfl) rfl rfl rfl ?_)
  refine L.nil ?_
  refine X.next ?_
  refine E.seq ?_
  refine E.seq ?_
  refine E.region ?_
  refine L.cons (O.enter (Runs.fn Try.call7 rfl) rfl rfl (awake_c σ) ?_)
  rintro v0 σ0 e0 rfl
  refine L.cons (O.y (Y.not rfl) rfl rfl rfl ?_)
  refine L.nil ?_
  refine X.next ?_
  refine E.condFh rfl (rfl) ?_
  refine E.skip ?_
  refine X.next ?_
  refine E.seq ?_
  refine E.seq ?_
  refine E.region ?_
  refine L.cons (O.y (Y.move rfl) rfl rfl rfl ?_)
  have hv0 := hv.ext e0 (by simp) (by simp)
  refine L.cons (O.enter (Runs.fn Try.call15 rfl) rfl rfl (light_c σ0 0 _ l hv0) ?_)
  rintro v1 σ1 e1 ⟨b, rfl, hlight, rfl⟩
  refine L.cons (O.y (Y.not rfl) rfl rfl rfl ?_)
  refine L.nil ?_
  refine X.next ?_
  refine E.cond rfl (fun hb => ?_) (fun hb => ?_)
  · skip
    refine E.seq ?_
    refine E.region ?_
    refine L.cons (O.y (Y.assign rfl) rfl rfl rfl ?_)
    refine L.nil ?_
    refine X.next ?_
    refine E.ret ?_
    refine X.thenRet ?_
    exact X.ret1 Try.results5 rfl (⟨_, σ1, rfl, rfl, e0, rfl⟩)
  · skip
    obtain rfl : b = true := by simpa using hb
    obtain ⟨hl60, hbk⟩ := hlight rfl
    refine E.skip ?_
    refine X.next ?_
    refine E.seq ?_
    refine E.region ?_
    refine L.cons (O.enter (Runs.fn Try.call8 rfl) rfl rfl (new_c σ1 N hN0 4194304 (by omega)) ?_)
    rintro v2 σ2 e2 ⟨p, rfl, hd2⟩
    have T2 : Ext σ σ2 [] := e0.trans e2
    refine L.cons (O.y (Y.move rfl) rfl rfl rfl ?_)
    refine L.cons (O.y (Y.extract rfl rfl) rfl rfl rfl ?_)
    refine L.cons (O.y (Y.extract rfl rfl) rfl rfl rfl ?_)
    refine L.cons (O.y (Y.assign rfl) rfl rfl rfl ?_)
    refine L.cons (O.y (Y.assign rfl) rfl rfl rfl ?_)
    refine L.nil ?_
    refine X.next ?_
    refine E.seq ?_
    refine E.region ?_
    refine L.cons (O.y (Y.move rfl) rfl rfl rfl ?_)
    refine L.cons (O.enter (Runs.fn Try.call16 rfl) rfl rfl (dk_open σ2 N p [] 0 (Dk.new hd2)) ?_)
    rintro v3 σ3 e3 ⟨vp, tp, rfl, hv3⟩
    have T3 := T2.step hN e3 (by simp)
    refine L.cons (O.y (Y.move rfl) rfl rfl rfl ?_)
    refine L.cons (O.y (Y.extract rfl rfl) rfl rfl rfl ?_)
    refine L.cons (O.y (Y.extract rfl rfl) rfl rfl rfl ?_)
    refine L.cons (O.y (Y.assign rfl) rfl rfl rfl ?_)
    refine L.cons (O.y (Y.assign rfl) rfl rfl rfl ?_)
    refine L.nil ?_
    refine X.next ?_
    refine E.seq ?_
    refine E.seq ?_
    refine E.region ?_
    refine L.cons (O.y (Y.move rfl) rfl rfl rfl ?_)
    refine L.cons (O.y (Y.eqNilPtr Try.underlying32 rfl rfl) rfl rfl rfl ?_)
    refine L.nil ?_
    refine X.next ?_
    refine E.condFh rfl (rfl) ?_
    refine E.skip ?_
    refine X.next ?_
    refine E.seq ?_
    refine E.region ?_
    refine L.cons (O.y (Y.assign rfl) rfl rfl rfl ?_)
    refine L.nil ?_
    refine X.next ?_
    refine E.seq ?_
    refine E.region ?_
    refine L.cons (O.y (Y.assign rfl) rfl rfl rfl ?_)
    refine L.nil ?_
    refine X.next ?_
    refine E.seq ?_
    refine E.region ?_
    refine L.cons (O.y (Y.assign rfl) rfl rfl rfl ?_)
    refine L.nil ?_
    refine X.next ?_
    refine E.seq ?_
    refine E.seq ?_
    refine E.region ?_
    refine L.cons (O.y (Y.assign rfl) rfl rfl rfl ?_)
    refine L.nil ?_
    refine X.next ?_
    refine E.block ?_
    refine E.loopK (fun (i : Nat) e τ => i ≤ l.length ∧ pInv σ τ N p A cap l i i e) (fun i => l.length - i) 0 (pEnv A l.length cap p vp tp (.slice none 0 0) 0 0 0)
      ⟨by omega, [], vp, tp, 0, 0, 0, _, 0, 0, rfl, T3, hv3, Ow.nil .., rfl, rfl, by simp, by simp [marks]⟩ (by repeat' first | exact True.intro | refine ⟨rfl, ?_⟩) ?_
    rintro i e τ ⟨hi, done, vp, tp, sure, base, c, vd, su, sn, rfl, T0, hvt, hod, hsu, hsn, hdl, hml⟩ K hK
    obtain ⟨hn1, hn2, hn3, hn4, hn5, hn6⟩ := hvt.nums
    unfold pEnv
    refine E.seq ?_
    refine E.seq ?_
    refine E.region ?_
    refine L.cons (O.y (Y.move rfl) rfl rfl rfl ?_)
    refine L.cons (O.y (Y.move rfl) rfl rfl rfl ?_)
    refine L.cons (O.y (Y.lenSl Try.underlying41 rfl) rfl rfl rfl ?_)
    refine L.cons (O.y (Y.lss rfl rfl) rfl rfl rfl ?_)
    refine L.nil ?_
    refine X.next ?_
    refine E.cond rfl (fun h => ?_) (fun h => ?_)
    · skip
      simp at h
      obtain ⟨x, hx⟩ : ∃ x, l[i]? = some x := ⟨l[i], List.getElem?_eq_getElem h⟩
      have hmt := bulk_take l i x hx
      have hmle : bulk (l.take (i + 1)) ≤ bulk l := by
        have := marks_le (l.map (·.cmd)) (i + 1)
        unfold bulk
        rw [List.map_take]; exact this
      obtain ⟨b, o, rfl, hat⟩ := actAt (hv.ext T0 (by simp) (by simp)) hx
      obtain ⟨hk0, hk1, hk2, hk3⟩ := At.act hat
      refine E.skip ?_
      refine X.next ?_
      refine E.seq ?_
      refine E.block ?_
      refine E.seq ?_
      refine E.seq ?_
      refine E.region ?_
      refine L.cons (O.y (Y.move rfl) rfl rfl rfl ?_)
      refine L.cons (O.y (Y.move rfl) rfl rfl rfl ?_)
      refine L.cons (O.y (Y.indexSl i Try.underlying41 Try.sizeOf46 rfl rfl rfl h) rfl rfl rfl ?_)
      refine L.cons (O.y (Y.fieldAddr T.field46_0 rfl) rfl rfl rfl ?_)
      refine L.cons (O.y (Y.load1 Try.isAgg3 rfl (by intro w hw; subst hw; first | exact Blk.cell (by assumption) rfl | assumption)) rfl rfl rfl ?_)
      refine L.nil ?_
      refine X.next ?_
      refine E.cutK (fun e' τ' => pInv σ τ' N p (some ⟨b, o, none⟩) cap l i (i + 1) e') (fun Kc hC => ?_) ?_
      · clear hK
        refine E.block ?_
        refine E.seq ?_
        refine E.region ?_
        refine L.cons (O.y (Y.eql rfl rfl) rfl rfl rfl ?_)
        refine L.cons (O.y (Y.assign rfl) rfl rfl rfl ?_)
        refine L.nil ?_
        refine X.next ?_
        have htp := vt_tape hvt
        refine E.cond rfl (fun h1 => ?_) (fun h1 => ?_)
        · skip
          refine E.seq ?_
          refine E.region ?_
          refine L.cons (O.y (Y.move rfl) rfl rfl rfl ?_)
          refine L.cons (O.y (Y.nilCheck rfl) rfl rfl rfl ?_)
          refine L.cons (O.y (Y.fieldAddr T.field37_0 rfl) rfl rfl rfl ?_)
          refine L.cons (O.y (Y.load1 Try.isAgg9 rfl (by intro w hw; subst hw; first | exact Blk.cell (by assumption) rfl | assumption)) rfl rfl rfl ?_)
          refine L.cons (O.y (Y.lenStr Try.underlying9 rfl) rfl rfl rfl ?_)
          refine L.cons (O.y (Y.assign rfl) rfl rfl rfl ?_)
          refine L.nil ?_
          refine X.next ?_
          refine E.seq ?_
          refine E.region ?_
          refine L.cons (O.y (Y.move rfl) rfl rfl rfl ?_)
          refine L.cons (O.y (Y.move rfl) rfl rfl rfl ?_)
          refine L.cons (O.y (Y.move rfl) rfl rfl rfl ?_)
          refine L.cons (O.y (Y.indexSl i Try.underlying41 Try.sizeOf46 rfl rfl rfl h) rfl rfl rfl ?_)
          refine L.cons (O.y (Y.fieldAddr T.field46_1 rfl) rfl rfl rfl ?_)
          refine L.cons (O.y (Y.load1 Try.isAgg9 rfl (by intro w hw; subst hw; first | exact Blk.cell (by assumption) rfl | assumption)) rfl rfl rfl ?_)
          refine L.cons (O.enter (Runs.fn Try.call17 rfl) rfl rfl (vt_do τ N p tp vp done sure base c i hvt x.cmd (by omega) (by omega) (by omega)) ?_)
          rintro v4 σ4 e4 ⟨rfl, hv4⟩
          have T4 := T0.step hN e4 (by simp)
          have hod4 := hod.ext e4 (by simp; omega) (by simp)
          obtain ⟨_, hk4, _, _⟩ := At.act (actCell (hv.ext T4 (by simp) (by simp)) hx)
          refine L.cons (O.y (Y.move rfl) rfl rfl rfl ?_)
          refine L.cons (O.y (Y.extract rfl rfl) rfl rfl rfl ?_)
          refine L.cons (O.y (Y.extract rfl rfl) rfl rfl rfl ?_)
          refine L.cons (O.y (Y.assign rfl) rfl rfl rfl ?_)
          refine L.cons (O.y (Y.assign rfl) rfl rfl rfl ?_)
          refine L.nil ?_
          refine X.next ?_
          refine E.seq ?_
          refine E.seq ?_
          refine E.region ?_
          refine L.cons (O.y (Y.move rfl) rfl rfl rfl ?_)
          refine L.cons (O.y (Y.neq rfl rfl) rfl rfl rfl ?_)
          refine L.cons (O.y (Y.move rfl) rfl rfl rfl ?_)
          refine L.setB (b' := false) rfl ?_
          refine L.cons (O.y (Y.move rfl) rfl rfl rfl ?_)
          refine L.cons (O.y (Y.move rfl) rfl rfl rfl ?_)
          refine L.cons (O.enter (Runs.fn Try.call20 rfl) rfl rfl (digits_c σ4 (marks done).length (by omega)) ?_)
          rintro v5 σ5 e5 ⟨rfl, rfl⟩
          refine L.cons (O.y (Y.neqS rfl rfl) rfl rfl rfl ?_)
          refine L.cons (O.y (Y.pickF rfl rfl) rfl rfl rfl ?_)
          refine L.nil ?_
          refine X.next ?_
          refine E.condFh rfl ((by simp)) ?_
          refine E.skip ?_
          refine X.next ?_
          refine E.seq ?_
          refine E.region ?_
          refine L.cons (O.y (Y.move rfl) rfl rfl rfl ?_)
          refine L.cons (O.y (Y.move rfl) rfl rfl rfl ?_)
          refine L.cons (O.y (Y.move rfl) rfl rfl rfl ?_)
          refine L.cons (O.y (Y.indexSl i Try.underlying41 Try.sizeOf46 rfl rfl rfl h) rfl rfl rfl ?_)
          refine L.cons (O.y (Y.fieldAddr T.field46_1 rfl) rfl rfl rfl ?_)
          refine L.cons (O.y (Y.load1 Try.isAgg9 rfl (by intro w hw; subst hw; first | exact Blk.cell (by assumption) rfl | assumption)) rfl rfl rfl ?_)
          refine L.cons (O.slLit (N + 6) [str x.cmd] Try.underlying50 Try.sizeOf9 Try.zeroValue9 rfl rfl (by simp [str, Value.cells]) (by simp) rfl rfl ?_)
          intro σ6 b6 e6 hb6
          have hS6 : Sl kStr σ6 (N + 6) (.slice (some ⟨b6, 0, none⟩) 1 1) [x.cmd] := ⟨_, _, _, rfl, by simp, by simp, ⟨[_], [], rfl, rfl, rfl⟩, hb6.row⟩
          refine L.cons (O.append (hod4.ext e6 (by simp) (by simp)) (by omega) hS6 Try.underlying50 Try.underlying50 T.elem9 rfl rfl (by simp; omega) (by decide) rfl rfl ?_)
          intro v7 σ7 e7 ho7
          have T7 := (T4.trans e6).step hN e7 (by simp)
          have hv7 := (hv4.ext e6 (by simp) (by simp) (by simp) (by simp) (by simp) (by simp)).ext e7 (by simp) (by simp) (by simp) (by simp) (by simp) (by simp)
          refine L.cons (O.y (Y.assign rfl) rfl rfl rfl ?_)
          refine L.nil ?_
          refine X.next ?_
          refine E.region ?_
          refine L.cons (O.y (Y.move rfl) rfl rfl rfl ?_)
          refine L.cons (O.y (Y.add _ rfl rfl (wrap_i64 (by omega) (by omega))) rfl rfl rfl ?_)
          refine L.cons (O.y (Y.assign rfl) rfl rfl rfl ?_)
          refine L.nil ?_
          refine X.inBlock ?_
          have hms := congrArg List.length (marks_snoc done x.cmd)
          simp only [List.length_append, List.length_singleton] at hms
          exact X.toK hC _ ⟨done ++ [x.cmd], vp, tp, sure, base, c + 1, v7, su, sn + 1, rfl, T7, hv7, ho7, hsu, by simp; omega, by simp; omega, by omega⟩ (by repeat' first | exact True.intro | refine ⟨rfl, ?_⟩)
        · skip
          refine E.seq ?_
          refine E.region ?_
          refine L.cons (O.y (Y.eql rfl rfl) rfl rfl rfl ?_)
          refine L.cons (O.y (Y.assign rfl) rfl rfl rfl ?_)
          refine L.nil ?_
          refine X.next ?_
          refine E.cond rfl (fun h2 => ?_) (fun h2 => ?_)
          · skip
            refine E.seq ?_
            refine E.seq ?_
            refine E.region ?_
            refine L.cons (O.y (Y.move rfl) rfl rfl rfl ?_)
            refine L.cons (O.enter (Runs.fn Try.call19 rfl) rfl rfl (vt_sync τ N p tp vp done sure base c i hvt) ?_)
            rintro v4 σ4 e4 ⟨rfl, hv4⟩
            have T4 := T0.step hN e4 (by simp)
            have hod4 := hod.ext e4 (by simp; omega) (by simp)
            refine L.cons (O.y (Y.neq rfl rfl) rfl rfl rfl ?_)
            refine L.nil ?_
            refine X.next ?_
            refine E.condFh rfl (rfl) ?_
            obtain ⟨Ad, kd, hvd_, _⟩ := id hod
            subst hvd_
            refine E.skip ?_
            refine X.next ?_
            refine E.region ?_
            refine L.cons (O.y (Y.move rfl) rfl rfl rfl ?_)
            refine L.cons (O.y (Y.lenSl Try.underlying50 rfl) rfl rfl rfl ?_)
            refine L.cons (O.y (Y.assign rfl) rfl rfl rfl ?_)
            refine L.nil ?_
            refine X.inBlock ?_
            exact X.toK hC _ ⟨done, vp, tp, done.length, base, c, _, (done.length : Int), sn, rfl, T4, Vt.up hv4 (by omega), hod4, rfl, hsn, by omega, by omega⟩ (by repeat' first | exact True.intro | refine ⟨rfl, ?_⟩)
          · skip
            refine E.seq ?_
            refine E.region ?_
            refine L.cons (O.y (Y.eql rfl rfl) rfl rfl rfl ?_)
            refine L.cons (O.y (Y.assign rfl) rfl rfl rfl ?_)
            refine L.nil ?_
            refine X.next ?_
            refine E.cond rfl (fun h3 => ?_) (fun h3 => ?_)
            · skip
              refine E.seq ?_
              refine E.seq ?_
              refine E.region ?_
              refine L.cons (O.y (Y.move rfl) rfl rfl rfl ?_)
              refine L.cons (O.enter (Runs.fn Try.call18 rfl) rfl rfl (vt_settle τ N p tp vp done sure base c i hvt) ?_)
              rintro v4 σ4 e4 ⟨rfl, hv4⟩
              have T4 := T0.step hN e4 (by simp)
              have hod4 := hod.ext e4 (by simp; omega) (by simp)
              refine L.cons (O.y (Y.neq rfl rfl) rfl rfl rfl ?_)
              refine L.nil ?_
              refine X.next ?_
              refine E.condFh rfl (rfl) ?_
              obtain ⟨Ad, kd, hvd_, _⟩ := id hod
              subst hvd_
              refine E.skip ?_
              refine X.next ?_
              refine E.seq ?_
              refine E.region ?_
              refine L.cons (O.y (Y.move rfl) rfl rfl rfl ?_)
              refine L.cons (O.y (Y.lenSl Try.underlying50 rfl) rfl rfl rfl ?_)
              refine L.cons (O.y (Y.assign rfl) rfl rfl rfl ?_)
              refine L.nil ?_
              refine X.next ?_
              refine E.region ?_
              refine L.cons (O.y (Y.assign rfl) rfl rfl rfl ?_)
              refine L.nil ?_
              refine X.inBlock ?_
              exact X.toK hC _ ⟨done, vp, tp, done.length, done.length, c, _, (done.length : Int), 0, rfl, T4, Vt.up hv4 (by omega), hod4, rfl, by omega, by omega, by omega⟩ (by repeat' first | exact True.intro | refine ⟨rfl, ?_⟩)
            · skip
              refine E.seq ?_
              refine E.region ?_
              refine L.cons (O.y (Y.eql rfl rfl) rfl rfl rfl ?_)
              refine L.cons (O.y (Y.assign rfl) rfl rfl rfl ?_)
              refine L.nil ?_
              refine X.next ?_
              refine E.cond rfl (fun h4 => ?_) (fun h4 => ?_)
              · skip
                refine E.seq ?_
                refine E.region ?_
                refine L.cons (O.y (Y.move rfl) rfl rfl rfl ?_)
                refine L.cons (O.y (Y.move rfl) rfl rfl rfl ?_)
                refine L.cons (O.y (Y.move rfl) rfl rfl rfl ?_)
                refine L.cons (O.y (Y.indexSl i Try.underlying41 Try.sizeOf46 rfl rfl rfl h) rfl rfl rfl ?_)
                obtain ⟨Ad, kd, hvd_, hdk, hdk2, _⟩ := id hod
                subst hvd_
                refine L.cons (O.y (Y.fieldAddr T.field46_2 rfl) rfl rfl rfl ?_)
                refine L.cons (O.y (Y.load1 Try.isAgg3 rfl (by intro w hw; subst hw; first | exact Blk.cell (by assumption) rfl | assumption)) rfl rfl rfl ?_)
                refine L.cons (O.y (Y.max2 rfl rfl) rfl rfl rfl ?_)
                refine L.cons (O.y (Y.move rfl) rfl rfl rfl ?_)
                refine L.cons (O.y (Y.lenSl Try.underlying50 rfl) rfl rfl rfl ?_)
                refine L.cons (O.y (Y.move rfl) rfl rfl rfl ?_)
                refine L.cons (O.y (Y.sub _ rfl rfl (wrap_i64 (by omega) (by omega))) rfl rfl rfl ?_)
                refine L.cons (O.y (Y.min2 rfl rfl) rfl rfl rfl ?_)
                refine L.cons (O.y (Y.add _ rfl rfl (wrap_i64 (by omega) (by omega))) rfl rfl rfl ?_)
                refine L.cons (O.y (Y.assign rfl) rfl rfl rfl ?_)
                refine L.nil ?_
                refine X.next ?_
                refine E.seq ?_
                refine E.region ?_
                refine L.cons (O.y (Y.move rfl) rfl rfl rfl ?_)
                refine L.cons (O.y (Y.move rfl) rfl rfl rfl ?_)
                refine L.cons (O.y (Y.lenSl Try.underlying50 rfl) rfl rfl rfl ?_)
                refine L.cons (O.y (Y.move rfl) rfl rfl rfl ?_)
                refine L.cons (O.y (Y.sub _ rfl rfl (wrap_i64 (by omega) (by omega))) rfl rfl rfl ?_)
                refine L.cons (O.y (Y.sub _ rfl rfl (wrap_i64 (by omega) (by omega))) rfl rfl rfl ?_)
                refine L.cons (O.y (Y.assign rfl) rfl rfl rfl ?_)
                refine L.nil ?_
                refine X.next ?_
                refine E.seq ?_
                refine E.region ?_
                obtain ⟨kp, hkp⟩ : ∃ kp, kp = sure + min x.m.toNat (done.length - sure) := ⟨_, rfl⟩
                have hkeep : su + (if (done.length : Int) - su < (if x.m < 0 then 0 else x.m) then (done.length : Int) - su else (if x.m < 0 then 0 else x.m)) = (kp : Int) := by split <;> split at * <;> omega
                rw [hkeep]
                refine L.cons (O.slLit (N + 5) [] Try.underlying50 Try.sizeOf9 Try.zeroValue9 rfl rfl (by simp) (by simp) rfl rfl ?_)
                intro σ4 b4 e4 hb4
                have ho4 : Ow kStr σ4 (N + 5) 9 (.slice (some ⟨b4, 0, none⟩) 0 0) [] := Blk.ow (xs := []) hb4 rfl (by simp)
                refine L.cons (O.y (Y.move rfl) rfl rfl rfl ?_)
                refine L.cons (O.y (Y.move rfl) rfl rfl rfl ?_)
                refine L.cons (O.y (Y.sliceSl 0 kp kd Try.underlying50 Try.sizeOf9 rfl (.inl ⟨rfl, rfl⟩) (.inr ⟨_, _, rfl, rfl⟩) (.inl ⟨rfl, rfl⟩) (by omega) (by omega) (by omega)) rfl rfl rfl ?_)
                simp only [Nat.zero_mul, addr_add0, Nat.sub_zero, ite_self]
                have hSk := Sl.takeN (hod.ext e4 (by simp) (by simp)).sl kp (by omega)
                have hkl : (done.take kp).length = kp := by simp; omega
                rw [← hkl] at hSk
                refine L.cons (O.append ho4 (by omega) hSk Try.underlying50 Try.underlying50 T.elem9 rfl (by rw [hkl]; rfl) (by simp; omega) (by decide) rfl rfl ?_)
                intro v5 σ5 e5 ho5
                rw [List.nil_append, hkl] at ho5
                have T5 := (T0.trans e4).step hN e5 (by simp)
                have hv5 := (hvt.ext e4 (by simp) (by simp) (by simp) (by simp) (by simp) (by simp)).ext e5 (by simp) (by simp) (by simp) (by simp) (by simp) (by simp)
                refine L.cons (O.y (Y.assign rfl) rfl rfl rfl ?_)
                refine L.nil ?_
                refine X.next ?_
                refine E.seq ?_
                refine E.region ?_
                refine L.cons (O.y (Y.move rfl) rfl rfl rfl ?_)
                refine L.cons (O.y (Y.assign rfl) rfl rfl rfl ?_)
                refine L.nil ?_
                refine X.next ?_
                refine E.seq ?_
                refine E.draw (.rd 0 (.rd 1 (.rd 2 (.rd 3 (.rd 4 (.rd 5 (.rd 6 (.rd 7 (.rd 8 (.rd 9 (.rd 10 (.ef 11 Pl.done)))))))))))) (fun w => w.cell? ⟨b, o + i * 4 + 2, none⟩ = some (.int .i64 x.m) ∧ w.cell? ⟨b, o + i * 4 + 3, none⟩ = some (.int .i64 x.n)) Try.wide_mixed (by decide +kernel) (by decide +kernel) (by intro c a w d v h; cases d <;> exact h) ?_
                intro σd ed cd hdd_
                have Td := T5.trans ed
                obtain ⟨_, _, hq2, hq3⟩ := At.act (actCell (hv.ext Td (by simp) (by simp)) hx)
                refine D.rd rfl (Y.move rfl) rfl rfl rfl (⟨hq2, hq3⟩) ?_
                refine D.rd rfl (Y.move rfl) rfl rfl rfl (⟨hq2, hq3⟩) ?_
                refine D.rd rfl (Y.move rfl) rfl rfl rfl (⟨hq2, hq3⟩) ?_
                refine D.rd rfl (Y.indexSl i Try.underlying41 Try.sizeOf46 rfl rfl rfl h) rfl rfl rfl (⟨hq2, hq3⟩) ?_
                refine D.rd rfl (Y.fieldAddr T.field46_2 rfl) rfl rfl rfl (⟨hq2, hq3⟩) ?_
                refine D.rd rfl (Y.load1 Try.isAgg3 rfl (by intro w hw; first | exact hw | exact hw.1 | exact hw.2 | exact hw.2.1 | exact hw.2.2 | exact hw.2.2.1 | exact hw.2.2.2 | exact hw.2.2.2.1 | exact hw.2.2.2.2)) rfl rfl rfl (⟨hq2, hq3⟩) ?_
                refine D.rd rfl (Y.move rfl) rfl rfl rfl (⟨hq2, hq3⟩) ?_
                refine D.rd rfl (Y.move rfl) rfl rfl rfl (⟨hq2, hq3⟩) ?_
                refine D.rd rfl (Y.indexSl i Try.underlying41 Try.sizeOf46 rfl rfl rfl h) rfl rfl rfl (⟨hq2, hq3⟩) ?_
                refine D.rd rfl (Y.fieldAddr T.field46_3 rfl) rfl rfl rfl (⟨hq2, hq3⟩) ?_
                refine D.rd rfl (Y.load1 Try.isAgg3 rfl (by intro w hw; first | exact hw | exact hw.1 | exact hw.2 | exact hw.2.1 | exact hw.2.2 | exact hw.2.2.1 | exact hw.2.2.2 | exact hw.2.2.2.1 | exact hw.2.2.2.2)) rfl rfl rfl (⟨hq2, hq3⟩) ?_
                have hvd := hv5.ext ed (by simp) (by simp) (by simp) (by simp) (by simp) (by simp)
                refine D.ef rfl (O.enter (Runs.fn Try.call12 rfl) rfl rfl (vt_crash σd N p tp vp done sure base c i hvd x.m x.n kp hkp) ?_)
                rintro v6 σ6 e6 ⟨rfl, hd6⟩
                have T6 := Td.step hN e6 (by simp)
                obtain ⟨_, _, hr2, hr3⟩ := At.act (actCell (hv.ext T6 (by simp) (by simp)) hx)
                refine ⟨⟨hr2, hr3⟩, ?_⟩
                refine D.done ?_
                refine X.next ?_
                refine E.seq ?_
                refine E.region ?_
                refine L.cons (O.y (Y.move rfl) rfl rfl rfl ?_)
                refine L.cons (O.enter (Runs.fn Try.call16 rfl) rfl rfl (dk_open σ6 N p (done.take kp) base hd6) ?_)
                rintro v7 σ7 e7 ⟨vp7, tp7, rfl, hv7⟩
                have T7 := T6.step hN e7 (by simp)
                have ho7 := ((ho5.ext ed (by simp) (by simp)).ext e6 (by simp; omega) (by simp)).ext e7 (by simp; omega) (by simp)
                rw [hkl] at hv7
                have hml7 := marks_le done kp
                have hkm : kp ≤ done.length := by omega
                have hbk : base ≤ kp := by omega
                refine L.cons (O.y (Y.move rfl) rfl rfl rfl ?_)
                refine L.cons (O.y (Y.extract rfl rfl) rfl rfl rfl ?_)
                refine L.cons (O.y (Y.extract rfl rfl) rfl rfl rfl ?_)
                refine L.cons (O.y (Y.assign rfl) rfl rfl rfl ?_)
                refine L.cons (O.y (Y.assign rfl) rfl rfl rfl ?_)
                refine L.nil ?_
                refine X.next ?_
                refine E.seq ?_
                refine E.region ?_
                refine L.cons (O.y (Y.move rfl) rfl rfl rfl ?_)
                refine L.cons (O.y (Y.eqNilPtr Try.underlying32 rfl rfl) rfl rfl rfl ?_)
                refine L.cons (O.y (Y.move rfl) rfl rfl rfl ?_)
                refine L.setB (b' := false) rfl ?_
                refine L.cons (O.y (Y.move rfl) rfl rfl rfl ?_)
                refine L.cons (O.enter (Runs.fn Try.call14 rfl) rfl rfl (vt_count σ7 N p tp7 vp7 _ _ _ _ _ hv7) ?_)
                rintro v8 σ8 e8 ⟨rfl, rfl⟩
                refine L.cons (O.y (Y.move rfl) rfl rfl rfl ?_)
                refine L.cons (O.y (Y.neq rfl rfl) rfl rfl rfl ?_)
                refine L.cons (O.y (Y.pickF rfl rfl) rfl rfl rfl ?_)
                refine L.nil ?_
                refine X.next ?_
                refine E.condFh rfl (decide_eq_false (by omega)) ?_
                refine E.skip ?_
                refine X.inBlock ?_
                exact X.toK hC _ ⟨done.take kp, vp7, tp7, kp, base, kp - base, v5, (kp : Int), sn - ((done.length : Int) - (kp : Int)), rfl, T7, Vt.up hv7 (by omega), ho7, rfl, by omega, by omega, by omega⟩ (by repeat' first | exact True.intro | refine ⟨rfl, ?_⟩)
              · skip
                refine E.skip ?_
                refine X.inBlock ?_
                exact X.toK hC _ ⟨done, vp, tp, sure, base, c, vd, su, sn, rfl, T0, Vt.up hvt (by omega), hod, hsu, hsn, by omega, by omega⟩ (by repeat' first | exact True.intro | refine ⟨rfl, ?_⟩)
      · skip
        rintro e' τ' ⟨done, vp, tp, sure, base, c, vd, su, sn, rfl, T0, hvt, hod, hsu, hsn, hdl, hml⟩
        obtain ⟨hn1, hn2, hn3, hn4, hn5, hn6⟩ := hvt.nums
        obtain ⟨Ad, kd, hvd_, hdk, hdk2, _⟩ := id hod
        subst hvd_
        unfold pEnv
        refine E.seq ?_
        refine E.draw (.rd 0 (.rd 1 (.rd 2 (.rd 3 (.rd 4 (.ef 5 (.rd 6 (.rd 7 (.rd 8 (.rd 10 (.rd 11 (.rd 12 (.rd 13 (.ef 9 (.rd 14 (.rd 15 Pl.done)))))))))))))))) (fun w => w.cell? ⟨tp, 0, none⟩ = some (str (marks done))) Try.wide_mixed (by decide +kernel) (by decide +kernel) (by intro c a w d v h; cases d <;> exact h) ?_
        intro σq eq cq hq_
        have Tq := T0.trans eq
        have hvq := hvt.ext eq (by simp) (by simp) (by simp) (by simp) (by simp) (by simp)
        have hoq := hod.ext eq (by simp) (by simp)
        refine D.rd rfl (Y.move rfl) rfl rfl rfl (vt_tape hvq) ?_
        refine D.rd rfl (Y.nilCheck rfl) rfl rfl rfl (vt_tape hvq) ?_
        refine D.rd rfl (Y.fieldAddr T.field37_0 rfl) rfl rfl rfl (vt_tape hvq) ?_
        refine D.rd rfl (Y.load1 Try.isAgg9 rfl (by intro w hw; first | exact hw | exact hw.1 | exact hw.2 | exact hw.2.1 | exact hw.2.2 | exact hw.2.2.1 | exact hw.2.2.2 | exact hw.2.2.2.1 | exact hw.2.2.2.2)) rfl rfl rfl (vt_tape hvq) ?_
        refine D.rd rfl (Y.move rfl) rfl rfl rfl (vt_tape hvq) ?_
        refine D.ef rfl (O.enter (Runs.fn Try.call21 rfl) rfl rfl (all_c σq (N + 5) _ done hoq.sl (by omega)) ?_)
        rintro v8 σ8 e8 ⟨rfl, rfl⟩
        refine ⟨vt_tape hvq, ?_⟩
        refine D.rd rfl (Y.neqS rfl rfl) rfl rfl rfl (vt_tape hvq) ?_
        refine D.rd rfl (Y.move rfl) rfl rfl rfl (vt_tape hvq) ?_
        refine D.setB (b' := false) (by simp) ?_
        refine D.rd rfl (Y.move rfl) rfl rfl rfl (vt_tape hvq) ?_
        refine D.rd rfl (Y.move rfl) rfl rfl rfl (vt_tape hvq) ?_
        refine D.rd rfl (Y.move rfl) rfl rfl rfl (vt_tape hvq) ?_
        refine D.rd rfl (Y.lenSl Try.underlying50 rfl) rfl rfl rfl (vt_tape hvq) ?_
        refine D.rd rfl (Y.eql rfl rfl) rfl rfl rfl (vt_tape hvq) ?_
        refine D.ef rfl (O.enter (Runs.fn Try.call22 rfl) rfl rfl (vt_sure σ8 N p tp vp _ _ _ _ _ hvq) ?_)
        rintro v9 σ9 e9 ⟨rfl, rfl⟩
        refine ⟨vt_tape hvq, ?_⟩
        refine D.rd rfl (Y.neqB Try.underlying4 rfl rfl) rfl rfl rfl (vt_tape hvq) ?_
        refine D.rd rfl (Y.pickF rfl rfl) rfl rfl rfl (vt_tape hvq) ?_
        refine D.done ?_
        refine X.next ?_
        refine E.condFh rfl ((by simp; omega)) ?_
        refine E.skip ?_
        refine X.inBlock ?_
        refine X.next ?_
        refine E.region ?_
        refine L.cons (O.y (Y.move rfl) rfl rfl rfl ?_)
        refine L.cons (O.y (Y.add _ rfl rfl (wrap_i64 (by omega) (by omega))) rfl rfl rfl ?_)
        refine L.cons (O.y (Y.assign rfl) rfl rfl rfl ?_)
        refine L.nil ?_
        exact X.againK hK (i + 1) _ ⟨by omega, done, vp, tp, sure, base, c, _, su, sn, rfl, Tq, hvq, hoq, hsu, hsn, hdl, hml⟩ (by repeat' first | exact True.intro | refine ⟨rfl, ?_⟩) (by omega)
    · skip
      simp at h
      clear hK
      refine E.exit ?_
      refine X.thenExit ?_
      refine X.thenExit ?_
      refine X.outBlock ?_
      refine X.next ?_
      refine E.seq ?_
      refine E.region ?_
      refine L.cons (O.y (Y.assign rfl) rfl rfl rfl ?_)
      refine L.nil ?_
      refine X.next ?_
      refine E.ret ?_
      exact X.ret1 Try.results5 rfl (⟨_, τ, rfl, rfl, T0, rfl⟩)
end Go.Proofs.Ytjhpoahjmcoilaa
