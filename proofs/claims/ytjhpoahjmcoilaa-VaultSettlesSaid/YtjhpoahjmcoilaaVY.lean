/- Walk of the statement VaultFull. -/
import Derived.Test.YtjhpoahjmcoilaaTab
import Derived.Test.YtjhpoahjmcoilaaVX
set_option linter.unusedSimpArgs false
set_option linter.unusedVariables false
namespace Go.Proofs.Ytjhpoahjmcoilaa
open Go.Stp
theorem Sl.addr {α : Type} {d : Kd α} {σ : GW} {k : Nat} {A : Option Addr} {len c : Nat} {xs : List α} (h : Sl d σ k (.slice A len c) xs) {j : Nat} {x : α} (hx : xs[j]? = some x) (hsz : 0 < d.sz) :
    ∃ b o, A = some ⟨b, o, none⟩ ∧ At d σ b (o + j * d.sz) x := by
  obtain ⟨A', c', cs, he, _, _, hr, hrow⟩ := h
  injection he with hA _ _
  subst hA
  exact At.of hr hrow hx hsz
theorem strAt {σ : GW} {k : Nat} {A : Option Addr} {len c : Nat} {xs : List (List UInt8)} (h : Sl kStr σ k (.slice A len c) xs) {j : Nat} {x : List UInt8} (hx : xs[j]? = some x) :
    ∃ b o, A = some ⟨b, o, none⟩ ∧ σ.w.cell? ⟨b, o + j * 1, none⟩ = some (str x) := by
  obtain ⟨b, o, hA, hat⟩ := Sl.addr h hx (by decide)
  exact ⟨b, o, hA, At.cell (f := str) (h1 := fun _ => rfl) hat⟩
theorem strCell {σ : GW} {k b o : Nat} {len c : Nat} {xs : List (List UInt8)} (h : Sl kStr σ k (.slice (some ⟨b, o, none⟩) len c) xs) {j : Nat} {x : List UInt8} (hx : xs[j]? = some x) :
    σ.w.cell? ⟨b, o + j * 1, none⟩ = some (str x) := by
  obtain ⟨b', o', he, h⟩ := strAt h hx
  injection he with he
  injection he with h1 h2
  subst h1; subst h2
  exact h
theorem marks_drop_le (l : List (List UInt8)) (i : Nat) : (marks (l.drop i)).length ≤ (marks l).length := by
  have := congrArg List.length (congrArg marks (List.take_append_drop i l))
  simp only [marks, List.map_append, List.flatten_append, List.length_append] at this ⊢
  omega
theorem VInv.text {d : DSt} {done : List (List UInt8)} {sure base : Nat} (h : VInv d done sure base) : d.state.drop 1 ++ marks (done.drop base) = marks done := by
  have hs : marks (done.take base) ++ marks (done.drop base) = marks done := by
    unfold marks
    rw [← List.flatten_append, ← List.map_append, List.take_append_drop]
  rcases h.state with ⟨h1, rfl⟩ | h1
  · rw [h1]; simp
  · rw [h1]; exact hs
theorem VInv.head {d : DSt} {done : List (List UInt8)} {sure base : Nat} (h : VInv d done sure base) : d.state ≠ [] → d.state.head? = some 61 := by
  intro hn
  rcases h.state with ⟨h1, _⟩ | h1
  · exact absurd h1 hn
  · rw [h1]; rfl
theorem vaultFull_c (σ : GW) (v : Value) (room : Int) (l : List (List UInt8)) (hv : Sl kStr σ 0 v l) :
    Calls Try.prog 6 [.int .i64 room, v].toArray σ.w (Ret σ [] fun r σ' => r = .bool true) := by
  obtain ⟨N, hN, hkk, hN0⟩ := σ.fresh [0]
  obtain ⟨A, cap, cs, rfl, hlc, hc63, _⟩ := id hv
  refine calls Try.func6 rfl Try.ntmps6 (Nat.le_of_ble_eq_true rfl) ?_
  refine E.seq ?_
  refine E.region ?_
  refine L.cons (O.y (Y.assign rfl) rfl rfl rfl ?_)
  refine L.nil ?_
  refine X.next ?_
  refine E.seq ?_
  refine E.seq ?_
  refine E.region ?_
  refine L.cons (O.enter (Runs.fn Try.call7 rfl) rfl rfl (awake_c σ) ?_)
  rintro v0 σ0 e0 rfl
  refine L.cons (O.y (Y.not rfl) rfl rfl rfl ?_)
  refine L.nil ?_
  refine X.next ?_
  refine E.condFh rfl (rfl) ?_
  refine E.skip ?_
  refine X.next ?_
  refine E.seq ?_
  refine E.seq ?_
  refine E.region ?_
  refine L.cons (O.y (Y.move rfl) rfl rfl rfl ?_)
  refine L.cons (O.y (Y.lenSl Try.underlying50 rfl) rfl rfl rfl ?_)
  refine L.cons (O.y (Y.gtr rfl rfl) rfl rfl rfl ?_)
  refine L.cons (O.y (Y.move rfl) rfl rfl rfl ?_)
  have hv0 := hv.ext e0 (by simp) (by simp)
  by_cases hl : l.length ≤ 30
  · skip
    refine L.setB (b' := false) (decide_eq_false (by omega)) ?_
    refine L.cons (O.y (Y.move rfl) rfl rfl rfl ?_)
    refine L.cons (O.enter (Runs.fn Try.call23 rfl) rfl rfl (bulk_c σ0 0 _ l hv0) ?_)
    rintro v1 σ1 e1 ⟨n, rfl, hbulk, rfl⟩
    refine L.cons (O.y (Y.gtr rfl rfl) rfl rfl rfl ?_)
    refine L.cons (O.y (Y.pickF rfl rfl) rfl rfl rfl ?_)
    refine L.cons (O.y (Y.move rfl) rfl rfl rfl ?_)
    by_cases hn : n ≤ 3000
    · skip
      have hm := hbulk hn
      refine L.setB (b' := false) (decide_eq_false (by omega)) ?_
      refine L.cons (O.y (Y.move rfl) rfl rfl rfl ?_)
      refine L.cons (O.y (Y.lss rfl rfl) rfl rfl rfl ?_)
      refine L.cons (O.y (Y.pickF rfl rfl) rfl rfl rfl ?_)
      refine L.cons (O.y (Y.move rfl) rfl rfl rfl ?_)
      by_cases hr0 : 0 ≤ room
      · skip
        refine L.setB (b' := false) (decide_eq_false (by omega)) ?_
        refine L.cons (O.y (Y.move rfl) rfl rfl rfl ?_)
        refine L.cons (O.y (Y.gtr rfl rfl) rfl rfl rfl ?_)
        refine L.cons (O.y (Y.pickF rfl rfl) rfl rfl rfl ?_)
        refine L.nil ?_
        refine X.next ?_
        refine E.cond rfl (fun hr1 => ?_) (fun hr1 => ?_)
        · skip
          refine E.seq ?_
          refine E.region ?_
          refine L.cons (O.y (Y.assign rfl) rfl rfl rfl ?_)
          refine L.nil ?_
          refine X.next ?_
          refine E.ret ?_
          refine X.thenRet ?_
          exact X.ret1 Try.results6 rfl ⟨_, σ1, rfl, rfl, e0, rfl⟩
        · skip
          simp at hr1
          obtain ⟨rm, rfl⟩ := Int.eq_ofNat_of_zero_le hr0
          refine E.skip ?_
          refine X.next ?_
          refine E.seq ?_
          refine E.region ?_
          refine L.cons (O.y (Y.move rfl) rfl rfl rfl ?_)
          refine L.cons (O.enter (Runs.fn Try.call8 rfl) rfl rfl (new_c σ1 N hN0 rm (by omega)) ?_)
          rintro v2 σ2 e2 ⟨p, rfl, hd2⟩
          have T2 : Ext σ σ2 [] := e0.trans e2
          refine L.cons (O.y (Y.move rfl) rfl rfl rfl ?_)
          refine L.cons (O.y (Y.extract rfl rfl) rfl rfl rfl ?_)
          refine L.cons (O.y (Y.extract rfl rfl) rfl rfl rfl ?_)
          refine L.cons (O.y (Y.assign rfl) rfl rfl rfl ?_)
          refine L.cons (O.y (Y.assign rfl) rfl rfl rfl ?_)
          refine L.nil ?_
          refine X.next ?_
          refine E.seq ?_
          refine E.region ?_
          refine L.cons (O.y (Y.move rfl) rfl rfl rfl ?_)
          refine L.cons (O.enter (Runs.fn Try.call16 rfl) rfl rfl (opened_c σ2 N p _ hd2 rfl (small0 _ (by omega) _) (by simp) (by simp [scan_nil, marks]) (by simp [scan_nil])) ?_)
          rintro v3 σ3 e3 ⟨vp, tp, m, rfl, hd3, hv3, rfl⟩
          simp only [scan_nil, start0, List.drop_nil, List.nil_append, List.length_nil, show marks [] = [] from rfl] at hd3 hv3
          have T3 := T2.step hN e3 (by simp)
          refine L.cons (O.y (Y.move rfl) rfl rfl rfl ?_)
          refine L.cons (O.y (Y.extract rfl rfl) rfl rfl rfl ?_)
          refine L.cons (O.y (Y.extract rfl rfl) rfl rfl rfl ?_)
          refine L.cons (O.y (Y.assign rfl) rfl rfl rfl ?_)
          refine L.cons (O.y (Y.assign rfl) rfl rfl rfl ?_)
          refine L.nil ?_
          refine X.next ?_
          refine E.seq ?_
          refine E.seq ?_
          refine E.region ?_
          refine L.cons (O.y (Y.move rfl) rfl rfl rfl ?_)
          refine L.cons (O.y (Y.eqNilPtr Try.underlying32 rfl rfl) rfl rfl rfl ?_)
          refine L.nil ?_
          refine X.next ?_
          refine E.condFh rfl (rfl) ?_
          refine E.skip ?_
          refine X.next ?_
          refine E.seq ?_
          refine E.region ?_
          refine L.cons (O.y (Y.assign rfl) rfl rfl rfl ?_)
          refine L.nil ?_
          refine X.next ?_
          refine E.seq ?_
          refine E.seq ?_
          refine E.region ?_
          refine L.cons (O.y (Y.assign rfl) rfl rfl rfl ?_)
          refine L.nil ?_
          refine X.next ?_
          refine E.block ?_
          refine E.loopK (fun (i : Nat) e τ => ∃ done d m vd, i ≤ l.length ∧ e = [(0, .int .i64 (rm : Int)), (1, .slice A l.length cap), (5, .pointer (some ⟨p, 0, none⟩)), (7, .pointer (some ⟨vp, 0, none⟩)), (8, .pointer (some ⟨tp, 0, none⟩)), (9, vd), (10, .int .i64 (i : Int))] ∧ Ext σ τ [] ∧
            Disk τ N p d ∧ d.room = rm ∧ VInv d done 0 0 ∧ VT τ N p tp vp (marks done) m done.length ∧ Ow kStr τ (N + 5) 9 vd done ∧ done.length ≤ i ∧ m ≤ i ∧ (marks done).length ≤ (marks (l.take i)).length ∧ ∀ c, c ∈ done → c.length ≤ 3000) (fun i => l.length - i) 0
            [(0, .int .i64 (rm : Int)), (1, .slice A l.length cap), (5, .pointer (some ⟨p, 0, none⟩)), (7, .pointer (some ⟨vp, 0, none⟩)), (8, .pointer (some ⟨tp, 0, none⟩)), (9, .slice none 0 0), (10, .int .i64 0)]
            ⟨[], _, _, _, by omega, rfl, T3, hd3, rfl, VInv.new rm, hv3, Ow.nil .., by simp, by simp, by simp, by simp⟩ ⟨rfl, rfl, rfl, rfl, rfl, rfl, rfl, trivial⟩ ?_
          rintro i e τ ⟨done, d, m, vd, hi, rfl, T0, hd, rfl, hI, hvt, hod, hdl, hmi, hml, hdc⟩ K hK
          refine E.seq ?_
          refine E.seq ?_
          refine E.region ?_
          refine L.cons (O.y (Y.move rfl) rfl rfl rfl ?_)
          refine L.cons (O.y (Y.move rfl) rfl rfl rfl ?_)
          refine L.cons (O.y (Y.lenSl Try.underlying50 rfl) rfl rfl rfl ?_)
          refine L.cons (O.y (Y.lss rfl rfl) rfl rfl rfl ?_)
          refine L.nil ?_
          refine X.next ?_
          refine E.cond rfl (fun h => ?_) (fun h => ?_)
          · skip
            simp at h
            refine E.skip ?_
            refine X.next ?_
            refine E.seq ?_
            refine E.block ?_
            refine E.seq ?_
            refine E.region ?_
            refine L.cons (O.y (Y.move rfl) rfl rfl rfl ?_)
            refine L.cons (O.y (Y.move rfl) rfl rfl rfl ?_)
            refine L.cons (O.y (Y.move rfl) rfl rfl rfl ?_)
            obtain ⟨x, hx⟩ : ∃ x, l[i]? = some x := ⟨l[i], List.getElem?_eq_getElem h⟩
            have hmt := congrArg List.length (marks_take l i x hx)
            have hmle := marks_le l (i + 1)
            simp only [List.length_append, List.length_singleton] at hmt
            obtain ⟨b, o, rfl, hcell⟩ := strAt (hv.ext T0 (by simp) (by simp)) hx
            refine L.cons (O.y (Y.indexSl i Try.underlying50 Try.sizeOf9 rfl rfl rfl h) rfl rfl rfl ?_)
            refine L.cons (O.y (Y.load1 Try.isAgg9 rfl (by intro w hw; subst hw; first | exact Blk.cell (by assumption) rfl | assumption)) rfl rfl rfl ?_)
            have hsm := hI.small (by omega) (by omega) (by omega)
            refine L.cons (O.enter (Runs.fn Try.call17 rfl) rfl rfl (vdo_c τ N p tp vp (marks done) x m done.length d hvt hd hI.on hsm (by omega) (by omega) (by omega) (by omega)) ?_)
            intro v4 σ4 e4 hR
            have T4 := T0.step hN e4 (by simp)
            have hod4 := hod.ext e4 (by simp; omega) (by simp)
            by_cases hfull : d.room < d.used + (8 + x.length)
            · rw [if_pos hfull] at hR
              obtain ⟨rfl, hd4, hv4⟩ := hR
              refine L.cons (O.y (Y.move rfl) rfl rfl rfl ?_)
              refine L.cons (O.y (Y.extract rfl rfl) rfl rfl rfl ?_)
              refine L.cons (O.y (Y.extract rfl rfl) rfl rfl rfl ?_)
              refine L.cons (O.y (Y.assign rfl) rfl rfl rfl ?_)
              refine L.cons (O.y (Y.assign rfl) rfl rfl rfl ?_)
              refine L.nil ?_
              refine X.next ?_
              refine E.seq ?_
              refine E.seq ?_
              refine E.region ?_
              refine L.cons (O.y (Y.move rfl) rfl rfl rfl ?_)
              refine L.cons (O.y (Y.eql rfl rfl) rfl rfl rfl ?_)
              refine L.nil ?_
              refine X.next ?_
              refine E.condFh rfl (rfl) ?_
              refine E.seq ?_
              refine E.draw (.rd 0 (.rd 1 (.rd 2 (.rd 3 (.rd 4 (.rd 5 (.rd 6 (.rd 7 (.rd 9 (.rd 10 (.rd 11 (.rd 12 (.rd 13 (.rd 14 (.rd 15 (.rd 16 (.ef 8 (.rd 17 (.rd 18 Pl.done))))))))))))))))))) (fun w => w.cell? ⟨b, o + i * 1, none⟩ = some (str x)) Try.wide_mixed (by decide +kernel) (by decide +kernel) (by intro c a w d v h; cases d <;> exact h) ?_
              intro σd ed cd hdd_
              have hcd := strCell ((hv.ext T4 (by simp) (by simp)).ext ed (by simp) (by simp)) hx
              have hdd := hd4.ext ed (by simp) (by simp) (by simp) (by simp)
              refine D.rd rfl (Y.move rfl) rfl rfl rfl (hcd) ?_
              refine D.rd rfl (Y.neq rfl rfl) rfl rfl rfl (hcd) ?_
              refine D.rd rfl (Y.move rfl) rfl rfl rfl (hcd) ?_
              refine D.setB (b' := false) rfl ?_
              refine D.rd rfl (Y.move rfl) rfl rfl rfl (hcd) ?_
              refine D.rd rfl (Y.neqS rfl rfl) rfl rfl rfl (hcd) ?_
              refine D.rd rfl (Y.pickF rfl rfl) rfl rfl rfl (hcd) ?_
              refine D.rd rfl (Y.move rfl) rfl rfl rfl (hcd) ?_
              refine D.setB (b' := false) rfl ?_
              refine D.rd rfl (Y.move rfl) rfl rfl rfl (hcd) ?_
              refine D.rd rfl (Y.move rfl) rfl rfl rfl (hcd) ?_
              refine D.rd rfl (Y.sub _ rfl rfl (wrap_i64 (by omega) (by omega))) rfl rfl rfl (hcd) ?_
              refine D.rd rfl (Y.move rfl) rfl rfl rfl (hcd) ?_
              refine D.rd rfl (Y.move rfl) rfl rfl rfl (hcd) ?_
              refine D.rd rfl (Y.indexSl i Try.underlying50 Try.sizeOf9 rfl rfl rfl h) rfl rfl rfl (hcd) ?_
              refine D.rd rfl (Y.load1 Try.isAgg9 rfl (by intro w hw; first | exact hw | exact hw.1 | exact hw.2 | exact hw.2.1 | exact hw.2.2 | exact hw.2.2.1 | exact hw.2.2.2 | exact hw.2.2.2.1 | exact hw.2.2.2.2)) rfl rfl rfl (hcd) ?_
              refine D.rd rfl (Y.lenStr Try.underlying9 rfl) rfl rfl rfl (hcd) ?_
              refine D.rd rfl (Y.sub _ rfl rfl (wrap_i64 (by omega) (by omega))) rfl rfl rfl (hcd) ?_
              refine D.ef rfl (O.enter (Runs.fn Try.call24 rfl) rfl rfl (used_c σd N p d hdd hsm) ?_)
              rintro v5 σ5 e5 rfl
              have hc5 := strCell (((hv.ext T4 (by simp) (by simp)).ext ed (by simp) (by simp)).ext e5 (by simp) (by simp)) hx
              refine ⟨hc5, ?_⟩
              refine D.rd rfl (Y.leq rfl rfl) rfl rfl rfl (hc5) ?_
              refine D.rd rfl (Y.pickF rfl rfl) rfl rfl rfl (hc5) ?_
              refine D.done ?_
              refine X.next ?_
              refine E.condFh rfl (decide_eq_false (by omega)) ?_
              refine E.skip ?_
              refine X.next ?_
              refine E.seq ?_
              obtain ⟨Ad, kd, hvd_, _⟩ := id ((hod4.ext ed (by simp) (by simp)).ext e5 (by simp) (by simp))
              subst hvd_
              refine E.draw (.rd 0 (.rd 1 (.rd 2 (.rd 3 (.rd 4 (.ef 5 (.rd 6 (.rd 7 (.rd 8 (.rd 10 (.rd 11 (.ef 9 (.rd 12 (.rd 13 Pl.done)))))))))))))) (fun w => w.cell? ⟨tp, 0, none⟩ = some (str (marks (done)))) Try.wide_mixed (by decide +kernel) (by decide +kernel) (by intro c a w d v h; cases d <;> exact h) ?_
              intro σq eq cq hq_
              have hvq := (((hv4.ext ed (by simp) (by simp)).ext e5 (by simp) (by simp))).ext eq (by simp) (by simp)
              have htq : Blk σq (N + 3) tp _ 37 := hvq.1
              have hoq := ((hod4.ext ed (by simp) (by simp)).ext e5 (by simp) (by simp)).ext eq (by simp) (by simp)
              refine D.rd rfl (Y.move rfl) rfl rfl rfl (htq.cell rfl) ?_
              refine D.rd rfl (Y.nilCheck rfl) rfl rfl rfl (htq.cell rfl) ?_
              refine D.rd rfl (Y.fieldAddr T.field37_0 rfl) rfl rfl rfl (htq.cell rfl) ?_
              refine D.rd rfl (Y.load1 Try.isAgg9 rfl (by intro w hw; first | exact hw | exact hw.1 | exact hw.2 | exact hw.2.1 | exact hw.2.2 | exact hw.2.2.1 | exact hw.2.2.2 | exact hw.2.2.2.1 | exact hw.2.2.2.2)) rfl rfl rfl (htq.cell rfl) ?_
              refine D.rd rfl (Y.move rfl) rfl rfl rfl (htq.cell rfl) ?_
              refine D.ef rfl (O.enter (Runs.fn Try.call21 rfl) rfl rfl (all_c σq (N + 5) _ _ hoq.sl (by first | omega | (rw [marks_snoc]; simp only [List.length_append, List.length_singleton]; omega))) ?_)
              rintro v8 σ8 e8 ⟨rfl, rfl⟩
              refine ⟨htq.cell rfl, ?_⟩
              refine D.rd rfl (Y.neqS rfl rfl) rfl rfl rfl (htq.cell rfl) ?_
              refine D.rd rfl (Y.move rfl) rfl rfl rfl (htq.cell rfl) ?_
              refine D.setB (b' := false) (by simp) ?_
              refine D.rd rfl (Y.move rfl) rfl rfl rfl (htq.cell rfl) ?_
              refine D.rd rfl (Y.move rfl) rfl rfl rfl (htq.cell rfl) ?_
              refine D.rd rfl (Y.lenSl Try.underlying50 rfl) rfl rfl rfl (htq.cell rfl) ?_
              refine D.ef rfl (O.enter (Runs.fn Try.call14 rfl) rfl rfl (count_c σ8 N p tp vp _ _ _ hvq) ?_)
              rintro v9 σ9 e9 ⟨rfl, rfl⟩
              refine ⟨htq.cell rfl, ?_⟩
              refine D.rd rfl (Y.neq rfl rfl) rfl rfl rfl (htq.cell rfl) ?_
              refine D.rd rfl (Y.pickF rfl rfl) rfl rfl rfl (htq.cell rfl) ?_
              refine D.done ?_
              refine X.next ?_
              refine E.condFh rfl ((by simp)) ?_
              refine E.skip ?_
              refine X.inBlock ?_
              refine X.next ?_
              refine E.region ?_
              refine L.cons (O.y (Y.move rfl) rfl rfl rfl ?_)
              refine L.cons (O.y (Y.add _ rfl rfl (wrap_i64 (by omega) (by omega))) rfl rfl rfl ?_)
              refine L.cons (O.y (Y.assign rfl) rfl rfl rfl ?_)
              refine L.nil ?_
              have hdq := (hdd.ext e5 (by simp) (by simp) (by simp) (by simp)).ext eq (by simp) (by simp) (by simp) (by simp)
              exact X.againK hK (i + 1) _ ⟨done, d, m, _, by omega, rfl, ((T4.trans ed).trans e5).trans eq, hdq, rfl, hI, hvq, hoq, by omega, by omega, by omega, hdc⟩ ⟨rfl, rfl, rfl, rfl, rfl, rfl, rfl, trivial⟩ (by omega)
            · rw [if_neg hfull] at hR
              obtain ⟨rfl, hd4, hv4⟩ := hR
              refine L.cons (O.y (Y.move rfl) rfl rfl rfl ?_)
              refine L.cons (O.y (Y.extract rfl rfl) rfl rfl rfl ?_)
              refine L.cons (O.y (Y.extract rfl rfl) rfl rfl rfl ?_)
              refine L.cons (O.y (Y.assign rfl) rfl rfl rfl ?_)
              refine L.cons (O.y (Y.assign rfl) rfl rfl rfl ?_)
              refine L.nil ?_
              refine X.next ?_
              refine E.seq ?_
              refine E.seq ?_
              refine E.region ?_
              refine L.cons (O.y (Y.move rfl) rfl rfl rfl ?_)
              refine L.cons (O.y (Y.eql rfl rfl) rfl rfl rfl ?_)
              refine L.nil ?_
              refine X.next ?_
              refine E.condTh rfl (rfl) ?_
              refine E.region ?_
              refine L.cons (O.y (Y.move rfl) rfl rfl rfl ?_)
              refine L.cons (O.y (Y.move rfl) rfl rfl rfl ?_)
              refine L.cons (O.y (Y.move rfl) rfl rfl rfl ?_)
              refine L.cons (O.y (Y.indexSl i Try.underlying50 Try.sizeOf9 rfl rfl rfl h) rfl rfl rfl ?_)
              have hc4 := strCell (hv.ext T4 (by simp) (by simp)) hx
              refine L.cons (O.y (Y.load1 Try.isAgg9 rfl (by intro w hw; subst hw; first | exact Blk.cell (by assumption) rfl | assumption)) rfl rfl rfl ?_)
              refine L.cons (O.slLit (N + 6) [str x] Try.underlying50 Try.sizeOf9 Try.zeroValue9 rfl rfl (by simp [str, Value.cells]) (by simp) rfl rfl ?_)
              intro σ5 b5 e5 hb5
              have hS5 : Sl kStr σ5 (N + 6) (.slice (some ⟨b5, 0, none⟩) 1 1) [x] := ⟨_, _, _, rfl, by simp, by simp, ⟨[_], [], rfl, rfl, rfl⟩, hb5.row⟩
              refine L.cons (O.append (hod4.ext e5 (by simp) (by simp)) (by omega) hS5 Try.underlying50 Try.underlying50 T.elem9 rfl rfl (by simp; omega) (by decide) rfl rfl ?_)
              intro v6 σ6 e6 ho6
              have T6 := (T4.trans e5).step hN e6 (by simp)
              have hd6 := (hd4.ext e5 (by simp) (by simp) (by simp) (by simp)).ext e6 (by simp) (by simp) (by simp) (by simp)
              have hv6 := (hv4.ext e5 (by simp) (by simp)).ext e6 (by simp) (by simp)
              rw [← marks_snoc, show done.length + 1 = (done ++ [x]).length by simp] at hv6
              refine L.cons (O.y (Y.assign rfl) rfl rfl rfl ?_)
              refine L.nil ?_
              refine X.next ?_
              refine E.seq ?_
              obtain ⟨Ad, kd, hvd_, _⟩ := id ho6
              subst hvd_
              refine E.draw (.rd 0 (.rd 1 (.rd 2 (.rd 3 (.rd 4 (.ef 5 (.rd 6 (.rd 7 (.rd 8 (.rd 10 (.rd 11 (.ef 9 (.rd 12 (.rd 13 Pl.done)))))))))))))) (fun w => w.cell? ⟨tp, 0, none⟩ = some (str (marks (done ++ [x])))) Try.wide_mixed (by decide +kernel) (by decide +kernel) (by intro c a w d v h; cases d <;> exact h) ?_
              intro σq eq cq hq_
              have hvq := hv6.ext eq (by simp) (by simp)
              have htq : Blk σq (N + 3) tp _ 37 := hvq.1
              have hoq := ho6.ext eq (by simp) (by simp)
              refine D.rd rfl (Y.move rfl) rfl rfl rfl (htq.cell rfl) ?_
              refine D.rd rfl (Y.nilCheck rfl) rfl rfl rfl (htq.cell rfl) ?_
              refine D.rd rfl (Y.fieldAddr T.field37_0 rfl) rfl rfl rfl (htq.cell rfl) ?_
              refine D.rd rfl (Y.load1 Try.isAgg9 rfl (by intro w hw; first | exact hw | exact hw.1 | exact hw.2 | exact hw.2.1 | exact hw.2.2 | exact hw.2.2.1 | exact hw.2.2.2 | exact hw.2.2.2.1 | exact hw.2.2.2.2)) rfl rfl rfl (htq.cell rfl) ?_
              refine D.rd rfl (Y.move rfl) rfl rfl rfl (htq.cell rfl) ?_
              refine D.ef rfl (O.enter (Runs.fn Try.call21 rfl) rfl rfl (all_c σq (N + 5) _ _ hoq.sl (by first | omega | (rw [marks_snoc]; simp only [List.length_append, List.length_singleton]; omega))) ?_)
              rintro v8 σ8 e8 ⟨rfl, rfl⟩
              refine ⟨htq.cell rfl, ?_⟩
              refine D.rd rfl (Y.neqS rfl rfl) rfl rfl rfl (htq.cell rfl) ?_
              refine D.rd rfl (Y.move rfl) rfl rfl rfl (htq.cell rfl) ?_
              refine D.setB (b' := false) (by simp) ?_
              refine D.rd rfl (Y.move rfl) rfl rfl rfl (htq.cell rfl) ?_
              refine D.rd rfl (Y.move rfl) rfl rfl rfl (htq.cell rfl) ?_
              refine D.rd rfl (Y.lenSl Try.underlying50 rfl) rfl rfl rfl (htq.cell rfl) ?_
              refine D.ef rfl (O.enter (Runs.fn Try.call14 rfl) rfl rfl (count_c σ8 N p tp vp _ _ _ hvq) ?_)
              rintro v9 σ9 e9 ⟨rfl, rfl⟩
              refine ⟨htq.cell rfl, ?_⟩
              refine D.rd rfl (Y.neq rfl rfl) rfl rfl rfl (htq.cell rfl) ?_
              refine D.rd rfl (Y.pickF rfl rfl) rfl rfl rfl (htq.cell rfl) ?_
              refine D.done ?_
              refine X.next ?_
              refine E.condFh rfl ((by simp)) ?_
              refine E.skip ?_
              refine X.inBlock ?_
              refine X.next ?_
              refine E.region ?_
              refine L.cons (O.y (Y.move rfl) rfl rfl rfl ?_)
              refine L.cons (O.y (Y.add _ rfl rfl (wrap_i64 (by omega) (by omega))) rfl rfl rfl ?_)
              refine L.cons (O.y (Y.assign rfl) rfl rfl rfl ?_)
              refine L.nil ?_
              have hdq := hd6.ext eq (by simp) (by simp) (by simp) (by simp)
              have hms := congrArg List.length (marks_snoc done x)
              simp only [List.length_append, List.length_singleton] at hms
              refine X.againK hK (i + 1) _ ⟨done ++ [x], _, m + 1, _, by omega, rfl, T6.trans eq, hdq, rfl, hI.do x, hvq, hoq, by simp; omega, by omega, by omega, ?_⟩ ⟨rfl, rfl, rfl, rfl, rfl, rfl, rfl, trivial⟩ (by omega)
              intro c hc
              rcases List.mem_append.1 hc with hc | hc
              · exact hdc c hc
              · simp at hc; subst hc; omega
          · skip
            simp at h
            obtain rfl : i = l.length := by omega
            clear hK
            refine E.exit ?_
            refine X.thenExit ?_
            refine X.thenExit ?_
            refine X.outBlock ?_
            refine X.next ?_
            refine E.seq ?_
            refine E.seq ?_
            refine E.region ?_
            refine L.cons (O.y (Y.move rfl) rfl rfl rfl ?_)
            have hsm := hI.small (by omega) (by rw [List.take_length] at hml; omega) (by omega)
            rw [List.take_length] at hml
            obtain ⟨la, lb, lc⟩ := hI.lens
            refine L.cons (O.enter (Runs.fn Try.call18 rfl) rfl rfl (settle_c τ N p tp vp (marks done) m done.length d hvt hd hI.on hsm (by omega) (by omega)) ?_)
            rintro v4 σ4 e4 ⟨hv4, hR⟩
            have T4 := T0.step hN e4 (by simp)
            obtain ⟨a, d9, b9, rfl, ha, hd9, hI9, hr9⟩ : ∃ (a : Int) (d9 : DSt) (b9 : Nat), v4 = .int .i64 a ∧ (a = 0 ∨ a = 6 ∧ d.room < (marks done).length + 9) ∧ Disk σ4 N p d9 ∧ VInv d9 done done.length b9 ∧ d9.room = d.room := by
              split at hR
              · rename_i hlt; exact ⟨6, _, 0, hR.1, .inr ⟨rfl, hlt⟩, hR.2, hI.sync, rfl⟩
              · exact ⟨0, _, done.length, hR.1, .inl rfl, hR.2, hI.settle, rfl⟩
            have hc9 := hI9.crash (fun c hc => by have := hdc c hc; omega) 0 0 done.length (by simp)
            rw [List.take_length] at hc9
            obtain ⟨hsc, hI10⟩ := hc9
            have hm9 := hI9.small (by omega) (by omega) (by omega)
            have hne9 : ∀ b, b ∈ d9.waits → b ≠ [] := by
              intro b hb
              rw [hI9.waits] at hb
              simp at hb
            have htq : Blk σ4 (N + 3) tp _ 37 := hv4.1
            refine L.cons (O.y (Y.assign rfl) rfl rfl rfl ?_)
            refine L.nil ?_
            refine X.next ?_
            refine E.seq ?_
            refine E.region ?_
            refine L.cons (O.y (Y.move rfl) rfl rfl rfl ?_)
            refine L.cons (O.y (Y.neq rfl rfl) rfl rfl rfl ?_)
            refine L.cons (O.y (Y.move rfl) rfl rfl rfl ?_)
            rcases ha with rfl | ⟨rfl, hlt⟩
            · skip
              refine L.setB (b' := false) rfl ?_
              refine L.cons (O.not rfl rfl rfl ?_)
              refine L.cons (O.not rfl rfl rfl ?_)
              refine L.cons (O.not rfl rfl rfl ?_)
              refine L.cons (O.not rfl rfl rfl ?_)
              refine L.cons (O.not rfl rfl rfl ?_)
              refine L.cons (O.not rfl rfl rfl ?_)
              refine L.cons (O.not rfl rfl rfl ?_)
              refine L.cons (O.not rfl rfl rfl ?_)
              refine L.cons (O.not rfl rfl rfl ?_)
              refine L.cons (O.not rfl rfl rfl ?_)
              refine L.cons (O.not rfl rfl rfl ?_)
              refine L.cons (O.not rfl rfl rfl ?_)
              refine L.cons (O.y (Y.pickF rfl rfl) rfl rfl rfl ?_)
              refine L.cons (O.y (Y.move rfl) rfl rfl rfl ?_)
              refine L.setB (b' := false) rfl ?_
              refine L.cons (O.y (Y.move rfl) rfl rfl rfl ?_)
              refine L.cons (O.enter (Runs.fn Try.call22 rfl) rfl rfl (sure_c σ4 N p tp vp _ _ _ d9 hv4 hd9) ?_)
              rintro v5 σ5 e5 ⟨rfl, rfl⟩
              have hw0 : d9.waits.length = 0 := by rw [hI9.waits]; simp
              refine L.cons (O.y (Y.not rfl) rfl rfl rfl ?_)
              refine L.cons (O.y (Y.pickF rfl rfl) rfl rfl rfl ?_)
              refine L.nil ?_
              refine X.next ?_
              refine E.condFh rfl ((by simp [hw0])) ?_
              refine E.skip ?_
              refine X.next ?_
              refine E.seq ?_
              refine E.region ?_
              refine L.cons (O.y (Y.move rfl) rfl rfl rfl ?_)
              refine L.cons (O.enter (Runs.fn Try.call12 rfl) rfl rfl (crash_c σ5 N p d9 hd9 hI9.on hm9 hne9 0 0) ?_)
              rintro v6 σ6 e6 ⟨rfl, hd6⟩
              have T6 := T4.step hN e6 (by simp)
              refine L.nil ?_
              refine X.next ?_
              refine E.seq ?_
              refine E.region ?_
              refine L.cons (O.y (Y.move rfl) rfl rfl rfl ?_)
              have hw9 : d9.waits = [] := List.length_eq_zero_iff.1 hw0
              have hcr : d9.crash 0 0 = ⟨d9.room, false, d9.state, d9.log, []⟩ := by simp [DSt.crash, DSt.torn, hw9]
              have hdl := marks_drop_le done b9
              refine L.cons (O.enter (Runs.fn Try.call16 rfl) rfl rfl (opened_c σ6 N p (d9.crash 0 0) hd6 rfl (by rw [hcr]; exact ⟨hm9.room, hm9.state, hm9.log, by simp, by simp⟩) hI9.head (by rw [hsc]; have := hI9.lens.1; show d9.state.length + (marks (done.drop b9)).length ≤ _; omega) (by rw [hsc]; simp; omega)) ?_)
              rintro v7 σ7 e7 ⟨vp7, tp7, n7, rfl, hd7, hv7, rfl⟩
              rw [hsc, show (d9.crash 0 0).state = d9.state from rfl, hI9.text] at hv7
              have T7 := T6.step hN e7 (by simp)
              have ho7 := ((hod.ext e4 (by simp; omega) (by simp)).ext e6 (by simp; omega) (by simp)).ext e7 (by simp; omega) (by simp)
              refine L.cons (O.y (Y.move rfl) rfl rfl rfl ?_)
              refine L.cons (O.y (Y.extract rfl rfl) rfl rfl rfl ?_)
              refine L.cons (O.y (Y.extract rfl rfl) rfl rfl rfl ?_)
              refine L.cons (O.y (Y.assign rfl) rfl rfl rfl ?_)
              refine L.cons (O.y (Y.assign rfl) rfl rfl rfl ?_)
              refine L.nil ?_
              refine X.next ?_
              refine E.seq ?_
              refine E.draw (.rd 0 (.rd 1 (.rd 2 (.rd 3 (.rd 4 (.rd 5 (.rd 6 (.rd 7 (.ef 8 (.rd 9 (.rd 10 (.rd 11 Pl.done)))))))))))) (fun w => w.cell? ⟨tp7, 0, none⟩ = some (str (marks done))) Try.wide_mixed (by decide +kernel) (by decide +kernel) (by intro c a w d v h; cases d <;> exact h) ?_
              intro σq eq cq hq_
              have hvq := hv7.ext eq (by simp) (by simp)
              have htz : Blk σq (N + 3) tp7 _ 37 := hvq.1
              have hoq := ho7.ext eq (by simp) (by simp)
              refine D.rd rfl (Y.move rfl) rfl rfl rfl (htz.cell rfl) ?_
              refine D.rd rfl (Y.neNilPtr Try.underlying32 rfl rfl) rfl rfl rfl (htz.cell rfl) ?_
              refine D.rd rfl (Y.move rfl) rfl rfl rfl (htz.cell rfl) ?_
              refine D.setB (b' := true) rfl ?_
              refine D.rd rfl (Y.move rfl) rfl rfl rfl (htz.cell rfl) ?_
              refine D.rd rfl (Y.nilCheck rfl) rfl rfl rfl (htz.cell rfl) ?_
              refine D.rd rfl (Y.fieldAddr T.field37_0 rfl) rfl rfl rfl (htz.cell rfl) ?_
              refine D.rd rfl (Y.load1 Try.isAgg9 rfl (by intro w hw; first | exact hw | exact hw.1 | exact hw.2 | exact hw.2.1 | exact hw.2.2 | exact hw.2.2.1 | exact hw.2.2.2 | exact hw.2.2.2.1 | exact hw.2.2.2.2)) rfl rfl rfl (htz.cell rfl) ?_
              refine D.rd rfl (Y.move rfl) rfl rfl rfl (htz.cell rfl) ?_
              refine D.ef rfl (O.enter (Runs.fn Try.call21 rfl) rfl rfl (all_c σq (N + 5) _ _ hoq.sl (by omega)) ?_)
              rintro v8 σ8 e8 ⟨rfl, rfl⟩
              refine ⟨htz.cell rfl, ?_⟩
              refine D.rd rfl (Y.eqlS rfl rfl) rfl rfl rfl (htz.cell rfl) ?_
              refine D.rd rfl (Y.pickT rfl rfl) rfl rfl rfl (htz.cell rfl) ?_
              refine D.rd rfl (Y.assign rfl) rfl rfl rfl (htz.cell rfl) ?_
              refine D.done ?_
              refine X.next ?_
              refine E.ret ?_
              refine X.ret1 Try.results6 rfl ⟨_, σ8, rfl, rfl, T7.trans eq, ?_⟩
              simp
            · skip
              refine L.setB (b' := true) rfl ?_
              refine L.cons (O.y (Y.move rfl) rfl rfl rfl ?_)
              refine L.cons (O.y (Y.neq rfl rfl) rfl rfl rfl ?_)
              refine L.cons (O.y (Y.move rfl) rfl rfl rfl ?_)
              refine L.setB (b' := false) rfl ?_
              refine L.cons (O.y (Y.move rfl) rfl rfl rfl ?_)
              refine L.cons (O.y (Y.nilCheck rfl) rfl rfl rfl ?_)
              refine L.cons (O.y (Y.fieldAddr T.field37_0 rfl) rfl rfl rfl ?_)
              refine L.cons (O.y (Y.load1 Try.isAgg9 rfl (by intro w hw; subst hw; first | exact Blk.cell (by assumption) rfl | assumption)) rfl rfl rfl ?_)
              refine L.cons (O.y (Y.lenStr Try.underlying9 rfl) rfl rfl rfl ?_)
              refine L.cons (O.y (Y.move rfl) rfl rfl rfl ?_)
              refine L.cons (O.y (Y.sub _ rfl rfl (wrap_i64 (by omega) (by omega))) rfl rfl rfl ?_)
              refine L.cons (O.y (Y.leq rfl rfl) rfl rfl rfl ?_)
              refine L.cons (O.y (Y.pickF rfl rfl) rfl rfl rfl ?_)
              refine L.cons (O.y (Y.pickT rfl rfl) rfl rfl rfl ?_)
              refine L.cons (O.y (Y.move rfl) rfl rfl rfl ?_)
              refine L.setB (b' := false) (decide_eq_false (by omega)) ?_
              refine L.cons (O.y (Y.move rfl) rfl rfl rfl ?_)
              refine L.cons (O.enter (Runs.fn Try.call22 rfl) rfl rfl (sure_c σ4 N p tp vp _ _ _ d9 hv4 hd9) ?_)
              rintro v5 σ5 e5 ⟨rfl, rfl⟩
              have hw0 : d9.waits.length = 0 := by rw [hI9.waits]; simp
              refine L.cons (O.y (Y.not rfl) rfl rfl rfl ?_)
              refine L.cons (O.y (Y.pickF rfl rfl) rfl rfl rfl ?_)
              refine L.nil ?_
              refine X.next ?_
              refine E.condFh rfl ((by simp [hw0])) ?_
              refine E.skip ?_
              refine X.next ?_
              refine E.seq ?_
              refine E.region ?_
              refine L.cons (O.y (Y.move rfl) rfl rfl rfl ?_)
              refine L.cons (O.enter (Runs.fn Try.call12 rfl) rfl rfl (crash_c σ5 N p d9 hd9 hI9.on hm9 hne9 0 0) ?_)
              rintro v6 σ6 e6 ⟨rfl, hd6⟩
              have T6 := T4.step hN e6 (by simp)
              refine L.nil ?_
              refine X.next ?_
              refine E.seq ?_
              refine E.region ?_
              refine L.cons (O.y (Y.move rfl) rfl rfl rfl ?_)
              have hw9 : d9.waits = [] := List.length_eq_zero_iff.1 hw0
              have hcr : d9.crash 0 0 = ⟨d9.room, false, d9.state, d9.log, []⟩ := by simp [DSt.crash, DSt.torn, hw9]
              have hdl := marks_drop_le done b9
              refine L.cons (O.enter (Runs.fn Try.call16 rfl) rfl rfl (opened_c σ6 N p (d9.crash 0 0) hd6 rfl (by rw [hcr]; exact ⟨hm9.room, hm9.state, hm9.log, by simp, by simp⟩) hI9.head (by rw [hsc]; have := hI9.lens.1; show d9.state.length + (marks (done.drop b9)).length ≤ _; omega) (by rw [hsc]; simp; omega)) ?_)
              rintro v7 σ7 e7 ⟨vp7, tp7, n7, rfl, hd7, hv7, rfl⟩
              rw [hsc, show (d9.crash 0 0).state = d9.state from rfl, hI9.text] at hv7
              have T7 := T6.step hN e7 (by simp)
              have ho7 := ((hod.ext e4 (by simp; omega) (by simp)).ext e6 (by simp; omega) (by simp)).ext e7 (by simp; omega) (by simp)
              refine L.cons (O.y (Y.move rfl) rfl rfl rfl ?_)
              refine L.cons (O.y (Y.extract rfl rfl) rfl rfl rfl ?_)
              refine L.cons (O.y (Y.extract rfl rfl) rfl rfl rfl ?_)
              refine L.cons (O.y (Y.assign rfl) rfl rfl rfl ?_)
              refine L.cons (O.y (Y.assign rfl) rfl rfl rfl ?_)
              refine L.nil ?_
              refine X.next ?_
              refine E.seq ?_
              refine E.draw (.rd 0 (.rd 1 (.rd 2 (.rd 3 (.rd 4 (.rd 5 (.rd 6 (.rd 7 (.ef 8 (.rd 9 (.rd 10 (.rd 11 Pl.done)))))))))))) (fun w => w.cell? ⟨tp7, 0, none⟩ = some (str (marks done))) Try.wide_mixed (by decide +kernel) (by decide +kernel) (by intro c a w d v h; cases d <;> exact h) ?_
              intro σq eq cq hq_
              have hvq := hv7.ext eq (by simp) (by simp)
              have htz : Blk σq (N + 3) tp7 _ 37 := hvq.1
              have hoq := ho7.ext eq (by simp) (by simp)
              refine D.rd rfl (Y.move rfl) rfl rfl rfl (htz.cell rfl) ?_
              refine D.rd rfl (Y.neNilPtr Try.underlying32 rfl rfl) rfl rfl rfl (htz.cell rfl) ?_
              refine D.rd rfl (Y.move rfl) rfl rfl rfl (htz.cell rfl) ?_
              refine D.setB (b' := true) rfl ?_
              refine D.rd rfl (Y.move rfl) rfl rfl rfl (htz.cell rfl) ?_
              refine D.rd rfl (Y.nilCheck rfl) rfl rfl rfl (htz.cell rfl) ?_
              refine D.rd rfl (Y.fieldAddr T.field37_0 rfl) rfl rfl rfl (htz.cell rfl) ?_
              refine D.rd rfl (Y.load1 Try.isAgg9 rfl (by intro w hw; first | exact hw | exact hw.1 | exact hw.2 | exact hw.2.1 | exact hw.2.2 | exact hw.2.2.1 | exact hw.2.2.2 | exact hw.2.2.2.1 | exact hw.2.2.2.2)) rfl rfl rfl (htz.cell rfl) ?_
              refine D.rd rfl (Y.move rfl) rfl rfl rfl (htz.cell rfl) ?_
              refine D.ef rfl (O.enter (Runs.fn Try.call21 rfl) rfl rfl (all_c σq (N + 5) _ _ hoq.sl (by omega)) ?_)
              rintro v8 σ8 e8 ⟨rfl, rfl⟩
              refine ⟨htz.cell rfl, ?_⟩
              refine D.rd rfl (Y.eqlS rfl rfl) rfl rfl rfl (htz.cell rfl) ?_
              refine D.rd rfl (Y.pickT rfl rfl) rfl rfl rfl (htz.cell rfl) ?_
              refine D.rd rfl (Y.assign rfl) rfl rfl rfl (htz.cell rfl) ?_
              refine D.done ?_
              refine X.next ?_
              refine E.ret ?_
              refine X.ret1 Try.results6 rfl ⟨_, σ8, rfl, rfl, T7.trans eq, ?_⟩
              simp
      · skip
        refine L.setB (b' := true) (decide_eq_true (by omega)) ?_
        refine L.cons (O.not rfl rfl rfl ?_)
        refine L.cons (O.not rfl rfl rfl ?_)
        refine L.cons (O.y (Y.pickT rfl rfl) rfl rfl rfl ?_)
        refine L.nil ?_
        refine X.next ?_
        refine E.condTh rfl (rfl) ?_
        refine E.seq ?_
        refine E.region ?_
        refine L.cons (O.y (Y.assign rfl) rfl rfl rfl ?_)
        refine L.nil ?_
        refine X.next ?_
        refine E.ret ?_
        refine X.thenRet ?_
        exact X.ret1 Try.results6 rfl ⟨_, σ1, rfl, rfl, e0, rfl⟩
    · skip
      refine L.setB (b' := true) (decide_eq_true (by omega)) ?_
      refine L.cons (O.not rfl rfl rfl ?_)
      refine L.cons (O.not rfl rfl rfl ?_)
      refine L.cons (O.y (Y.pickT rfl rfl) rfl rfl rfl ?_)
      refine L.cons (O.y (Y.move rfl) rfl rfl rfl ?_)
      refine L.setB (b' := true) rfl ?_
      refine L.cons (O.not rfl rfl rfl ?_)
      refine L.cons (O.not rfl rfl rfl ?_)
      refine L.cons (O.y (Y.pickT rfl rfl) rfl rfl rfl ?_)
      refine L.nil ?_
      refine X.next ?_
      refine E.condTh rfl (rfl) ?_
      refine E.seq ?_
      refine E.region ?_
      refine L.cons (O.y (Y.assign rfl) rfl rfl rfl ?_)
      refine L.nil ?_
      refine X.next ?_
      refine E.ret ?_
      refine X.thenRet ?_
      exact X.ret1 Try.results6 rfl ⟨_, σ1, rfl, rfl, e0, rfl⟩
  · skip
    refine L.setB (b' := true) (decide_eq_true (by omega)) ?_
    refine L.cons (O.not rfl rfl rfl ?_)
    refine L.cons (O.not rfl rfl rfl ?_)
    refine L.cons (O.not rfl rfl rfl ?_)
    refine L.cons (O.y (Y.pickT rfl rfl) rfl rfl rfl ?_)
    refine L.cons (O.y (Y.move rfl) rfl rfl rfl ?_)
    refine L.setB (b' := true) rfl ?_
    refine L.cons (O.not rfl rfl rfl ?_)
    refine L.cons (O.not rfl rfl rfl ?_)
    refine L.cons (O.y (Y.pickT rfl rfl) rfl rfl rfl ?_)
    refine L.cons (O.y (Y.move rfl) rfl rfl rfl ?_)
    refine L.setB (b' := true) rfl ?_
    refine L.cons (O.not rfl rfl rfl ?_)
    refine L.cons (O.not rfl rfl rfl ?_)
    refine L.cons (O.y (Y.pickT rfl rfl) rfl rfl rfl ?_)
    refine L.nil ?_
    refine X.next ?_
    refine E.condTh rfl (rfl) ?_
    refine E.seq ?_
    refine E.region ?_
    refine L.cons (O.y (Y.assign rfl) rfl rfl rfl ?_)
    refine L.nil ?_
    refine X.next ?_
    refine E.ret ?_
    refine X.thenRet ?_
    exact X.ret1 Try.results6 rfl ⟨_, σ0, rfl, rfl, e0, rfl⟩
end Go.Proofs.Ytjhpoahjmcoilaa
