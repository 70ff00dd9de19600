/- Walks of the statements' own helpers. -/
import Derived.Test.YtjhpoahjmcoilaaTab
import Derived.Test.YtjhpoahjmcoilaaVP
set_option linter.unusedSimpArgs false
set_option linter.unusedVariables false
namespace Go.Proofs.Ytjhpoahjmcoilaa
open Go.Stp
theorem frames_torn (ps : List (List UInt8)) (hp : ∀ p, p ∈ ps → p.length ≤ 65536) (x : List UInt8) (hx : x.length ≤ 65536) (m : Nat) (hm : m < 8 + x.length) :
    scan ((ps.map frame).flatten ++ (frame x).take m) = (ps, (ps.map frame).flatten.length) := scan_frames ps hp _ (view_torn x m hx hm)
theorem frames_scan (ps : List (List UInt8)) (hp : ∀ p, p ∈ ps → p.length ≤ 65536) : scan (ps.map frame).flatten = (ps, (ps.map frame).flatten.length) := by
  have := scan_frames ps hp [] view_nil
  simpa using this
theorem scan_nil : scan [] = ([], 0) := by simpa using frames_scan [] (by simp)
theorem small0 (r : Nat) (hr : r ≤ 100000000) (b : Bool) : (DSt.mk r b [] [] []).Small := ⟨hr, by simp, by simp, by simp, by simp⟩
theorem start0 (r : Nat) : (DSt.mk r false [] [] []).start = ⟨r, true, [], [], []⟩ := by simp [DSt.start]
theorem awake_c (σ : GW) :
    Calls Try.prog 7 ([] : List Value).toArray σ.w (Ret σ [] fun r σ' => r = .bool true) := by
  obtain ⟨N, hN, hkk, hN0⟩ := σ.fresh [0]
  refine calls Try.func7 rfl Try.ntmps7 (Nat.le_of_ble_eq_true rfl) ?_
  refine E.seq ?_
  refine E.region ?_
  refine L.cons (O.y (Y.assign rfl) rfl rfl rfl ?_)
  refine L.nil ?_
  refine X.next ?_
  refine E.seq ?_
  refine E.region ?_
  refine L.cons (O.enter (Runs.fn Try.call8 rfl) rfl rfl (new_c σ N hN0 1000 (by omega)) ?_)
  rintro v1 σ1 e1 ⟨p, rfl, hd1⟩
  refine L.cons (O.y (Y.move rfl) rfl rfl rfl ?_)
  refine L.cons (O.y (Y.extract rfl rfl) rfl rfl rfl ?_)
  refine L.cons (O.y (Y.extract rfl rfl) rfl rfl rfl ?_)
  refine L.cons (O.y (Y.assign rfl) rfl rfl rfl ?_)
  refine L.cons (O.y (Y.assign rfl) rfl rfl rfl ?_)
  refine L.nil ?_
  refine X.next ?_
  refine E.seq ?_
  refine E.region ?_
  refine L.cons (O.y (Y.move rfl) rfl rfl rfl ?_)
  refine L.cons (O.enter (Runs.fn Try.call16 rfl) rfl rfl (opened_c σ1 N p _ hd1 rfl (small0 _ (by omega) _) (by simp) (by simp [scan_nil, marks]) (by simp [scan_nil])) ?_)
  rintro v2 σ2 e2 ⟨vp, tp, n, rfl, hd2, hv2, rfl⟩
  simp only [scan_nil, start0, List.drop_nil, List.nil_append, List.length_nil, show marks [] = [] from rfl] at hd2 hv2
  have T2 : Ext σ σ2 [] := ((Ext.refl σ []).step hN e1 (by simp)).step hN e2 (by simp)
  refine L.cons (O.y (Y.move rfl) rfl rfl rfl ?_)
  refine L.cons (O.y (Y.extract rfl rfl) rfl rfl rfl ?_)
  refine L.cons (O.y (Y.extract rfl rfl) rfl rfl rfl ?_)
  refine L.cons (O.y (Y.assign rfl) rfl rfl rfl ?_)
  refine L.cons (O.y (Y.assign rfl) rfl rfl rfl ?_)
  refine L.nil ?_
  refine X.next ?_
  refine E.seq ?_
  refine E.seq ?_
  refine E.region ?_
  refine L.cons (O.y (Y.move rfl) rfl rfl rfl ?_)
  refine L.cons (O.y (Y.eqNilPtr Try.underlying32 rfl rfl) rfl rfl rfl ?_)
  refine L.nil ?_
  refine X.next ?_
  refine E.condFh rfl (rfl) ?_
  refine E.skip ?_
  refine X.next ?_
  refine E.seq ?_
  refine E.region ?_
  refine L.cons (O.y (Y.move rfl) rfl rfl rfl ?_)
  refine L.cons (O.enter (Runs.fn Try.call17 rfl) rfl rfl (vdo_c σ2 N p tp vp [] [97] 0 0 _ hv2 hd2 rfl (small0 _ (by omega) _) (by simp) (by simp) (by simp) (by simp)) ?_)
  intro v3 σ3 e3 hR
  rw [if_neg (by simp [DSt.used])] at hR
  obtain ⟨rfl, hd3, hv3⟩ := hR
  have T3 := T2.step hN e3 (by simp)
  refine L.cons (O.y (Y.move rfl) rfl rfl rfl ?_)
  refine L.cons (O.y (Y.extract rfl rfl) rfl rfl rfl ?_)
  refine L.cons (O.y (Y.extract rfl rfl) rfl rfl rfl ?_)
  refine L.cons (O.y (Y.assign rfl) rfl rfl rfl ?_)
  refine L.cons (O.y (Y.assign rfl) rfl rfl rfl ?_)
  refine L.nil ?_
  refine X.next ?_
  refine E.seq ?_
  refine E.region ?_
  refine L.cons (O.y (Y.move rfl) rfl rfl rfl ?_)
  have hsm3 : (DSt.mk 1000 true [] [] ([] ++ [frame [97]])).Small := ⟨by simp, by simp, by simp, by simp, by simp [frame_length]⟩
  refine L.cons (O.enter (Runs.fn Try.call19 rfl) rfl rfl (vsync_c σ3 N p tp vp _ _ _ _ hv3 hd3 rfl hsm3) ?_)
  rintro v4 σ4 e4 ⟨rfl, hd4, hv4⟩
  have T4 := T3.step hN e4 (by simp)
  refine L.nil ?_
  refine X.next ?_
  refine E.seq ?_
  refine E.region ?_
  refine L.cons (O.y (Y.move rfl) rfl rfl rfl ?_)
  have hsm4 : (DSt.mk 1000 true [] ([] ++ ([] ++ [frame [97]]).flatten) []).Small := ⟨by simp, by simp, by simp [frame_length], by simp, by simp⟩
  refine L.cons (O.enter (Runs.fn Try.call17 rfl) rfl rfl (vdo_c σ4 N p tp vp _ [98] _ _ _ hv4 hd4 rfl hsm4 (by simp) (by simp) (by simp) (by simp)) ?_)
  intro v5 σ5 e5 hR
  rw [if_neg (by simp [DSt.used, frame_length])] at hR
  obtain ⟨rfl, hd5, hv5⟩ := hR
  have T5 := T4.step hN e5 (by simp)
  refine L.nil ?_
  refine X.next ?_
  refine E.seq ?_
  refine E.region ?_
  refine L.cons (O.y (Y.move rfl) rfl rfl rfl ?_)
  have hsm5 : (DSt.mk 1000 true [] ([] ++ ([] ++ [frame [97]]).flatten) ([] ++ [frame [98]])).Small := ⟨by simp, by simp, by simp [frame_length], by simp, by simp [frame_length]⟩
  have hne5 : ∀ b, b ∈ (DSt.mk 1000 true [] ([] ++ ([] ++ [frame [97]]).flatten) ([] ++ [frame [98]])).waits → b ≠ [] := by
    intro b hb; simp at hb; subst hb; intro e; have := congrArg List.length e; simp [frame_length] at this
  refine L.cons (O.enter (Runs.fn Try.call12 rfl) rfl rfl (crash_c σ5 N p _ hd5 rfl hsm5 hne5 0 0) ?_)
  rintro v6 σ6 e6 ⟨rfl, hd6⟩
  have hcr : (DSt.mk 1000 true [] ([] ++ ([] ++ [frame [97]]).flatten) ([] ++ [frame [98]])).crash 0 0 = ⟨1000, false, [], ([[97]].map frame).flatten, []⟩ := by
    simp [DSt.crash, DSt.kept, DSt.torn]
  rw [hcr] at hd6
  have T6 := T5.step hN e6 (by simp)
  have hsc := frames_scan [[97]] (by simp)
  refine L.nil ?_
  refine X.next ?_
  refine E.seq ?_
  refine E.region ?_
  refine L.cons (O.y (Y.move rfl) rfl rfl rfl ?_)
  refine L.cons (O.enter (Runs.fn Try.call16 rfl) rfl rfl (opened_c σ6 N p _ hd6 rfl ⟨by simp, by simp, by simp [frame_length], by simp, by simp⟩ (by simp) (by simp only [hsc]; simp [marks]) (by simp only [hsc]; simp)) ?_)
  rintro v7 σ7 e7 ⟨vp7, tp7, n7, rfl, hd7, hv7, rfl⟩
  simp only [hsc] at hd7 hv7
  have T7 := T6.step hN e7 (by simp)
  have hdg : digs ([] : List UInt8).length [] = [48] := by simp [digs, dec10]
  refine L.cons (O.y (Y.move rfl) rfl rfl rfl ?_)
  refine L.cons (O.y (Y.extract rfl rfl) rfl rfl rfl ?_)
  refine L.cons (O.y (Y.extract rfl rfl) rfl rfl rfl ?_)
  refine L.cons (O.y (Y.assign rfl) rfl rfl rfl ?_)
  refine L.cons (O.y (Y.assign rfl) rfl rfl rfl ?_)
  refine L.nil ?_
  refine X.next ?_
  refine E.seq ?_
  refine E.region ?_
  refine L.cons (O.y (Y.move rfl) rfl rfl rfl ?_)
  refine L.cons (O.y (Y.neNilPtr Try.underlying32 rfl rfl) rfl rfl rfl ?_)
  refine L.cons (O.y (Y.move rfl) rfl rfl rfl ?_)
  refine L.setB (b' := true) rfl ?_
  refine L.cons (O.y (Y.move rfl) rfl rfl rfl ?_)
  refine L.cons (O.y (Y.eqlS rfl rfl) rfl rfl rfl ?_)
  refine L.cons (O.y (Y.pickT rfl rfl) rfl rfl rfl ?_)
  refine L.cons (O.y (Y.move rfl) rfl rfl rfl ?_)
  refine L.setB (b' := true) (by rw [hdg]; rfl) ?_
  refine L.cons (O.y (Y.move rfl) rfl rfl rfl ?_)
  refine L.cons (O.y (Y.eql rfl rfl) rfl rfl rfl ?_)
  refine L.cons (O.y (Y.pickT rfl rfl) rfl rfl rfl ?_)
  refine L.cons (O.y (Y.move rfl) rfl rfl rfl ?_)
  refine L.setB (b' := true) rfl ?_
  have ht7 := hv7.1
  unfold Tape at ht7
  refine L.cons (O.y (Y.move rfl) rfl rfl rfl ?_)
  refine L.cons (O.y (Y.nilCheck rfl) rfl rfl rfl ?_)
  refine L.cons (O.y (Y.fieldAddr T.field37_0 rfl) rfl rfl rfl ?_)
  refine L.cons (O.y (Y.load1 Try.isAgg9 rfl (by intro w hw; subst hw; first | exact Blk.cell (by assumption) rfl | assumption)) rfl rfl rfl ?_)
  refine L.cons (O.y (Y.eqlS rfl rfl) rfl rfl rfl ?_)
  refine L.cons (O.y (Y.pickT rfl rfl) rfl rfl rfl ?_)
  refine L.cons (O.y (Y.move rfl) rfl rfl rfl ?_)
  refine L.setB (b' := true) rfl ?_
  refine L.cons (O.y (Y.move rfl) rfl rfl rfl ?_)
  refine L.cons (O.enter (Runs.fn Try.call14 rfl) rfl rfl (count_c σ7 N p tp7 vp7 _ _ _ hv7) ?_)
  rintro v8 σ8 e8 ⟨rfl, rfl⟩
  refine L.cons (O.y (Y.eql rfl rfl) rfl rfl rfl ?_)
  refine L.cons (O.y (Y.pickT rfl rfl) rfl rfl rfl ?_)
  refine L.cons (O.y (Y.assign rfl) rfl rfl rfl ?_)
  refine L.nil ?_
  refine X.next ?_
  refine E.ret ?_
  exact X.ret1 Try.results7 rfl ⟨_, σ8, rfl, rfl, T7, rfl⟩
end Go.Proofs.Ytjhpoahjmcoilaa
