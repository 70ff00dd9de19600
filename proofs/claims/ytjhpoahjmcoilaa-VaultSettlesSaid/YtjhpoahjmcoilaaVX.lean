/- Walks of the statements' helpers: All, Bulk, light. -/
import Derived.Test.YtjhpoahjmcoilaaTab
import Derived.Test.YtjhpoahjmcoilaaVW
set_option linter.unusedSimpArgs false
set_option linter.unusedVariables false
namespace Go.Proofs.Ytjhpoahjmcoilaa
open Go.Stp
theorem marks_take (l : List (List UInt8)) (i : Nat) (x : List UInt8) (hx : l[i]? = some x) : marks (l.take (i + 1)) = marks (l.take i) ++ x ++ [124] := by
  rw [List.take_add_one, hx]; exact marks_snoc _ _
theorem marks_le (l : List (List UInt8)) (i : Nat) : (marks (l.take i)).length ≤ (marks l).length := by
  have := congrArg List.length (congrArg marks (List.take_append_drop i l))
  simp only [marks, List.map_append, List.flatten_append, List.length_append] at this ⊢
  omega
theorem all_c (σ : GW) (k : Nat) (v : Value) (l : List (List UInt8)) (hv : Sl kStr σ k v l) (hl : (marks l).length ≤ 100000000) :
    Calls Try.prog 21 [v].toArray σ.w (Ret σ [] fun r σ' => r = str (marks l) ∧ σ' = σ) := by
  obtain ⟨A, cap, _, rfl, hlc, hc63, _⟩ := id hv
  refine calls Try.func21 rfl Try.ntmps21 (Nat.le_of_ble_eq_true rfl) ?_
  refine E.seq ?_
  refine E.region ?_
  refine L.cons (O.y (Y.assign rfl) rfl rfl rfl ?_)
  refine L.nil ?_
  refine X.next ?_
  refine E.seq ?_
  refine E.region ?_
  refine L.cons (O.y (Y.assign rfl) rfl rfl rfl ?_)
  refine L.nil ?_
  refine X.next ?_
  refine E.seq ?_
  refine E.seq ?_
  refine E.region ?_
  refine L.cons (O.y (Y.assign rfl) rfl rfl rfl ?_)
  refine L.nil ?_
  refine X.next ?_
  refine E.block ?_
  refine E.loopK (fun (i : Nat) e τ => (i ≤ l.length ∧ e = [(0, .slice A l.length cap), (3, str (marks (l.take i))), (4, .int .i64 (i : Int))]) ∧ τ = σ) (fun i => l.length - i) 0 [(0, .slice A l.length cap), (3, str []), (4, .int .i64 0)] ⟨⟨by omega, rfl⟩, rfl⟩ ⟨rfl, rfl, rfl, trivial⟩ ?_
  rintro i e τ ⟨⟨hi, rfl⟩, rfl⟩ K hK
  refine E.seq ?_
  refine E.seq ?_
  refine E.region ?_
  refine L.cons (O.y (Y.move rfl) rfl rfl rfl ?_)
  refine L.cons (O.y (Y.move rfl) rfl rfl rfl ?_)
  refine L.cons (O.y (Y.lenSl Try.underlying50 rfl) rfl rfl rfl ?_)
  refine L.cons (O.y (Y.lss rfl rfl) rfl rfl rfl ?_)
  refine L.nil ?_
  refine X.next ?_
  refine E.cond rfl (fun h => ?_) (fun h => ?_)
  · skip
    simp at h
    refine E.skip ?_
    refine X.next ?_
    refine E.seq ?_
    refine E.block ?_
    refine E.region ?_
    refine L.cons (O.y (Y.move rfl) rfl rfl rfl ?_)
    refine L.cons (O.y (Y.move rfl) rfl rfl rfl ?_)
    refine L.cons (O.y (Y.move rfl) rfl rfl rfl ?_)
    obtain ⟨x, hx⟩ : ∃ x, l[i]? = some x := ⟨l[i], List.getElem?_eq_getElem h⟩
    have hm := marks_take l i x hx
    have hml := marks_le l (i + 1)
    rw [hm] at hml
    simp only [List.length_append, List.length_singleton] at hml
    refine L.cons (O.indexSl i x hv Try.underlying50 Try.sizeOf9 (by decide) rfl rfl rfl hx rfl rfl ?_)
    intro b1 o1 hat
    have hcell := At.cell hat
    refine L.cons (O.y (Y.load1 Try.isAgg9 rfl (by intro w hw; subst hw; first | exact Blk.cell (by assumption) rfl | assumption)) rfl rfl rfl ?_)
    refine L.cons (O.y (Y.concat rfl rfl (by first | omega | (simp; omega))) rfl rfl rfl ?_)
    refine L.cons (O.y (Y.concat rfl rfl (by first | omega | (simp; omega))) rfl rfl rfl ?_)
    refine L.cons (O.y (Y.assign rfl) rfl rfl rfl ?_)
    refine L.nil ?_
    refine X.inBlock ?_
    refine X.next ?_
    refine E.region ?_
    refine L.cons (O.y (Y.move rfl) rfl rfl rfl ?_)
    refine L.cons (O.y (Y.add _ rfl rfl (wrap_i64 (by omega) (by omega))) rfl rfl rfl ?_)
    refine L.cons (O.y (Y.assign rfl) rfl rfl rfl ?_)
    refine L.nil ?_
    exact X.againK hK (i + 1) _ ⟨⟨by omega, rfl⟩, rfl⟩ ⟨rfl, by rw [hm]; rfl, rfl, trivial⟩ (by omega)
  · skip
    simp at h
    obtain rfl : i = l.length := by omega
    clear hK
    refine E.exit ?_
    refine X.thenExit ?_
    refine X.thenExit ?_
    refine X.outBlock ?_
    refine X.next ?_
    refine E.seq ?_
    refine E.region ?_
    refine L.cons (O.y (Y.move rfl) rfl rfl rfl ?_)
    refine L.cons (O.y (Y.assign rfl) rfl rfl rfl ?_)
    refine L.nil ?_
    refine X.next ?_
    refine E.ret ?_
    rw [List.take_length]
    exact X.ret1 Try.results21 rfl ⟨_, τ, rfl, rfl, Ext.refl _ _, rfl, rfl⟩
theorem bulk_c (σ : GW) (k : Nat) (v : Value) (l : List (List UInt8)) (hv : Sl kStr σ k v l) :
    Calls Try.prog 23 [v, .int .i64 3000].toArray σ.w (Ret σ [] fun r σ' => ∃ n : Int, r = .int .i64 n ∧ (n ≤ 3000 → (marks l).length ≤ 3000) ∧ σ' = σ) := by
  obtain ⟨A, cap, _, rfl, hlc, hc63, _⟩ := id hv
  refine calls Try.func23 rfl Try.ntmps23 (Nat.le_of_ble_eq_true rfl) ?_
  refine E.seq ?_
  refine E.region ?_
  refine L.cons (O.y (Y.assign rfl) rfl rfl rfl ?_)
  refine L.nil ?_
  refine X.next ?_
  refine E.seq ?_
  refine E.region ?_
  refine L.cons (O.y (Y.assign rfl) rfl rfl rfl ?_)
  refine L.nil ?_
  refine X.next ?_
  refine E.seq ?_
  refine E.seq ?_
  refine E.region ?_
  refine L.cons (O.y (Y.assign rfl) rfl rfl rfl ?_)
  refine L.nil ?_
  refine X.next ?_
  refine E.block ?_
  refine E.loopK (fun (i : Nat) e τ => (∃ n : Int, i ≤ l.length ∧ 0 ≤ n ∧ n ≤ 7000 ∧ (n ≤ 3000 → n = (marks (l.take i)).length) ∧ e = [(0, .slice A l.length cap), (1, .int .i64 3000), (5, .int .i64 n), (6, .int .i64 (i : Int))]) ∧ τ = σ) (fun i => l.length - i) 0 [(0, .slice A l.length cap), (1, .int .i64 3000), (5, .int .i64 0), (6, .int .i64 0)] ⟨⟨0, by omega, by omega, by omega, fun _ => rfl, rfl⟩, rfl⟩ ⟨rfl, rfl, rfl, rfl, trivial⟩ ?_
  rintro i e τ ⟨⟨n, hi, hn0, hn1, hn, rfl⟩, rfl⟩ K hK
  refine E.seq ?_
  refine E.seq ?_
  refine E.region ?_
  refine L.cons (O.y (Y.move rfl) rfl rfl rfl ?_)
  refine L.cons (O.y (Y.move rfl) rfl rfl rfl ?_)
  refine L.cons (O.y (Y.lenSl Try.underlying50 rfl) rfl rfl rfl ?_)
  refine L.cons (O.y (Y.lss rfl rfl) rfl rfl rfl ?_)
  refine L.cons (O.y (Y.move rfl) rfl rfl rfl ?_)
  by_cases h1 : i < l.length
  · skip
    refine L.setB (b' := true) (decide_eq_true (by omega)) ?_
    refine L.cons (O.y (Y.move rfl) rfl rfl rfl ?_)
    refine L.cons (O.y (Y.move rfl) rfl rfl rfl ?_)
    refine L.cons (O.y (Y.leq rfl rfl) rfl rfl rfl ?_)
    refine L.cons (O.y (Y.pickT rfl rfl) rfl rfl rfl ?_)
    refine L.nil ?_
    refine X.next ?_
    refine E.cond rfl (fun h => ?_) (fun h => ?_)
    · skip
      simp at h
      refine E.skip ?_
      refine X.next ?_
      refine E.seq ?_
      refine E.block ?_
      refine E.region ?_
      refine L.cons (O.y (Y.move rfl) rfl rfl rfl ?_)
      refine L.cons (O.y (Y.add _ rfl rfl (wrap_i64 (by omega) (by omega))) rfl rfl rfl ?_)
      refine L.cons (O.y (Y.move rfl) rfl rfl rfl ?_)
      refine L.cons (O.y (Y.move rfl) rfl rfl rfl ?_)
      obtain ⟨x, hx⟩ : ∃ x, l[i]? = some x := ⟨l[i], List.getElem?_eq_getElem h1⟩
      have hm := congrArg List.length (marks_take l i x hx)
      simp only [List.length_append, List.length_singleton] at hm
      have hn' := hn h
      refine L.cons (O.indexSl i x hv Try.underlying50 Try.sizeOf9 (by decide) rfl rfl rfl hx rfl rfl ?_)
      intro b1 o1 hat
      have hcell := At.cell hat
      refine L.cons (O.y (Y.load1 Try.isAgg9 rfl (by intro w hw; subst hw; first | exact Blk.cell (by assumption) rfl | assumption)) rfl rfl rfl ?_)
      refine L.cons (O.y (Y.lenStr Try.underlying9 rfl) rfl rfl rfl ?_)
      refine L.cons (O.y (Y.move rfl) rfl rfl rfl ?_)
      refine L.cons (O.y (Y.min2 rfl rfl) rfl rfl rfl ?_)
      refine L.cons (O.y (Y.add _ rfl rfl (wrap_i64 (by omega) (by omega))) rfl rfl rfl ?_)
      refine L.cons (O.y (Y.assign rfl) rfl rfl rfl ?_)
      refine L.nil ?_
      refine X.inBlock ?_
      refine X.next ?_
      refine E.region ?_
      refine L.cons (O.y (Y.move rfl) rfl rfl rfl ?_)
      refine L.cons (O.y (Y.add _ rfl rfl (wrap_i64 (by omega) (by omega))) rfl rfl rfl ?_)
      refine L.cons (O.y (Y.assign rfl) rfl rfl rfl ?_)
      refine L.nil ?_
      obtain ⟨q, hq⟩ : ∃ q, q = (if (3000 : Int) < (x.length : Int) then (3000 : Int) else (x.length : Int)) := ⟨_, rfl⟩
      have hq1 : 0 ≤ q ∧ q ≤ 3000 ∧ (q = x.length ∨ q = 3000) := by subst hq; split <;> omega
      rw [← hq]
      exact X.againK hK (i + 1) _ ⟨⟨_, by omega, by omega, by omega, fun h' => by omega, rfl⟩, rfl⟩ ⟨rfl, rfl, rfl, rfl, trivial⟩ (by omega)
    · skip
      simp at h
      clear hK
      refine E.exit ?_
      refine X.thenExit ?_
      refine X.thenExit ?_
      refine X.outBlock ?_
      refine X.next ?_
      refine E.seq ?_
      refine E.region ?_
      refine L.cons (O.y (Y.move rfl) rfl rfl rfl ?_)
      refine L.cons (O.y (Y.assign rfl) rfl rfl rfl ?_)
      refine L.nil ?_
      refine X.next ?_
      refine E.ret ?_
      exact X.ret1 Try.results23 rfl ⟨_, τ, rfl, rfl, Ext.refl _ _, n, rfl, fun h' => by omega, rfl⟩
  · skip
    obtain rfl : i = l.length := by omega
    refine L.setB (b' := false) (decide_eq_false (by omega)) ?_
    refine L.cons (O.not rfl rfl rfl ?_)
    refine L.cons (O.not rfl rfl rfl ?_)
    refine L.cons (O.not rfl rfl rfl ?_)
    refine L.cons (O.y (Y.pickF rfl rfl) rfl rfl rfl ?_)
    refine L.nil ?_
    refine X.next ?_
    refine E.condFh rfl (rfl) ?_
    clear hK
    refine E.exit ?_
    refine X.thenExit ?_
    refine X.thenExit ?_
    refine X.outBlock ?_
    refine X.next ?_
    refine E.seq ?_
    refine E.region ?_
    refine L.cons (O.y (Y.move rfl) rfl rfl rfl ?_)
    refine L.cons (O.y (Y.assign rfl) rfl rfl rfl ?_)
    refine L.nil ?_
    refine X.next ?_
    refine E.ret ?_
    rw [List.take_length] at hn
    exact X.ret1 Try.results23 rfl ⟨_, τ, rfl, rfl, Ext.refl _ _, n, rfl, fun h' => by have := hn h'; omega, rfl⟩
/-- A call of the statements. -/
structure Act where
  kind : Int
  cmd : List UInt8
  m : Int
  n : Int
def kAct : Kd Act := kIso (kPair (kInt .i64) (kPair kStr (kPair (kInt .i64) (kInt .i64)))) fun a => (a.kind, a.cmd, a.m, a.n)
theorem At.act {σ : GW} {b o : Nat} {a : Act} (h : At kAct σ b o a) : σ.w.cell? ⟨b, o, none⟩ = some (.int .i64 a.kind) ∧ σ.w.cell? ⟨b, o + 1, none⟩ = some (str a.cmd) ∧ σ.w.cell? ⟨b, o + 2, none⟩ = some (.int .i64 a.m) ∧ σ.w.cell? ⟨b, o + 3, none⟩ = some (.int .i64 a.n) := by
  obtain ⟨cs, ⟨c1, r1, rfl, h1, c2, r2, rfl, h2, c3, r3, rfl, h3, h4⟩, h⟩ := h
  have h1 : c1 = [Value.int .i64 a.kind] := h1
  have h2 : c2 = [str a.cmd] := h2
  have h3 : c3 = [Value.int .i64 a.m] := h3
  have h4 : r3 = [Value.int .i64 a.n] := h4
  subst h1; subst h2; subst h3; subst h4
  exact ⟨h 0 _ rfl, h 1 _ rfl, h 2 _ rfl, h 3 _ rfl⟩
/-- All bytes of the commands, one more for each. -/
def bulk (l : List Act) : Nat := (marks (l.map (·.cmd))).length
theorem bulk_take (l : List Act) (i : Nat) (x : Act) (hx : l[i]? = some x) : bulk (l.take (i + 1)) = bulk (l.take i) + x.cmd.length + 1 := by
  unfold bulk
  rw [List.map_take, List.map_take, marks_take (l.map (·.cmd)) i x.cmd (by simp [hx])]
  simp only [List.length_append, List.length_singleton]
theorem light_c (σ : GW) (k : Nat) (v : Value) (l : List Act) (hv : Sl kAct σ k v l) :
    Calls Try.prog 15 [v].toArray σ.w (Ret σ [] fun r σ' => ∃ b, r = .bool b ∧ (b = true → l.length ≤ 60 ∧ bulk l ≤ 4000 + l.length) ∧ σ' = σ) := by
  obtain ⟨A, cap, _, rfl, hlc, hc63, _⟩ := id hv
  refine calls Try.func15 rfl Try.ntmps15 (Nat.le_of_ble_eq_true rfl) ?_
  refine E.seq ?_
  refine E.region ?_
  refine L.cons (O.y (Y.assign rfl) rfl rfl rfl ?_)
  refine L.nil ?_
  refine X.next ?_
  refine E.seq ?_
  refine E.seq ?_
  refine E.region ?_
  refine L.cons (O.y (Y.move rfl) rfl rfl rfl ?_)
  refine L.cons (O.y (Y.lenSl Try.underlying41 rfl) rfl rfl rfl ?_)
  refine L.cons (O.y (Y.gtr rfl rfl) rfl rfl rfl ?_)
  refine L.nil ?_
  refine X.next ?_
  refine E.cond rfl (fun h60 => ?_) (fun h60 => ?_)
  · skip
    refine E.seq ?_
    refine E.region ?_
    refine L.cons (O.y (Y.assign rfl) rfl rfl rfl ?_)
    refine L.nil ?_
    refine X.next ?_
    refine E.ret ?_
    refine X.thenRet ?_
    exact X.ret1 Try.results15 rfl ⟨_, σ, rfl, rfl, Ext.refl _ _, false, rfl, (fun h => by cases h), rfl⟩
  · skip
    simp at h60
    refine E.skip ?_
    refine X.next ?_
    refine E.seq ?_
    refine E.region ?_
    refine L.cons (O.y (Y.assign rfl) rfl rfl rfl ?_)
    refine L.nil ?_
    refine X.next ?_
    refine E.seq ?_
    refine E.seq ?_
    refine E.region ?_
    refine L.cons (O.y (Y.assign rfl) rfl rfl rfl ?_)
    refine L.nil ?_
    refine X.next ?_
    refine E.block ?_
    refine E.loopK (fun (i : Nat) e τ => (∃ n : Int, i ≤ l.length ∧ 0 ≤ n ∧ n ≤ 9000 ∧ (n ≤ 4000 → n + i = bulk (l.take i)) ∧ e = [(0, .slice A l.length cap), (3, .int .i64 n), (4, .int .i64 (i : Int))]) ∧ τ = σ) (fun i => l.length - i) 0 [(0, .slice A l.length cap), (3, .int .i64 0), (4, .int .i64 0)] ⟨⟨0, by omega, by omega, by omega, fun _ => rfl, rfl⟩, rfl⟩ ⟨rfl, rfl, rfl, trivial⟩ ?_
    rintro i e τ ⟨⟨n, hi, hn0, hn1, hn, rfl⟩, rfl⟩ K hK
    refine E.seq ?_
    refine E.seq ?_
    refine E.region ?_
    refine L.cons (O.y (Y.move rfl) rfl rfl rfl ?_)
    refine L.cons (O.y (Y.move rfl) rfl rfl rfl ?_)
    refine L.cons (O.y (Y.lenSl Try.underlying41 rfl) rfl rfl rfl ?_)
    refine L.cons (O.y (Y.lss rfl rfl) rfl rfl rfl ?_)
    refine L.cons (O.y (Y.move rfl) rfl rfl rfl ?_)
    by_cases h1 : i < l.length
    · skip
      refine L.setB (b' := true) (decide_eq_true (by omega)) ?_
      refine L.cons (O.y (Y.move rfl) rfl rfl rfl ?_)
      refine L.cons (O.y (Y.leq rfl rfl) rfl rfl rfl ?_)
      refine L.cons (O.y (Y.pickT rfl rfl) rfl rfl rfl ?_)
      refine L.nil ?_
      refine X.next ?_
      refine E.cond rfl (fun h => ?_) (fun h => ?_)
      · skip
        simp at h
        refine E.skip ?_
        refine X.next ?_
        refine E.seq ?_
        refine E.block ?_
        refine E.region ?_
        refine L.cons (O.y (Y.move rfl) rfl rfl rfl ?_)
        refine L.cons (O.y (Y.move rfl) rfl rfl rfl ?_)
        refine L.cons (O.y (Y.move rfl) rfl rfl rfl ?_)
        obtain ⟨x, hx⟩ : ∃ x, l[i]? = some x := ⟨l[i], List.getElem?_eq_getElem h1⟩
        have hm := bulk_take l i x hx
        have hn' := hn h
        refine L.cons (O.indexSl i x hv Try.underlying41 Try.sizeOf46 (by decide) rfl rfl rfl hx rfl rfl ?_)
        intro b1 o1 hat
        obtain ⟨_, hcell, _, _⟩ := At.act hat
        refine L.cons (O.y (Y.fieldAddr T.field46_1 rfl) rfl rfl rfl ?_)
        refine L.cons (O.y (Y.load1 Try.isAgg9 rfl (by intro w hw; subst hw; first | exact Blk.cell (by assumption) rfl | assumption)) rfl rfl rfl ?_)
        refine L.cons (O.y (Y.lenStr Try.underlying9 rfl) rfl rfl rfl ?_)
        refine L.cons (O.y (Y.min2 rfl rfl) rfl rfl rfl ?_)
        refine L.cons (O.y (Y.add _ rfl rfl (wrap_i64 (by omega) (by omega))) rfl rfl rfl ?_)
        refine L.cons (O.y (Y.assign rfl) rfl rfl rfl ?_)
        refine L.nil ?_
        refine X.inBlock ?_
        refine X.next ?_
        refine E.region ?_
        refine L.cons (O.y (Y.move rfl) rfl rfl rfl ?_)
        refine L.cons (O.y (Y.add _ rfl rfl (wrap_i64 (by omega) (by omega))) rfl rfl rfl ?_)
        refine L.cons (O.y (Y.assign rfl) rfl rfl rfl ?_)
        refine L.nil ?_
        obtain ⟨q, hq⟩ : ∃ q, q = (if (4001 : Int) < (x.cmd.length : Int) then (4001 : Int) else (x.cmd.length : Int)) := ⟨_, rfl⟩
        have hq1 : 0 ≤ q ∧ q ≤ 4001 ∧ (q = x.cmd.length ∨ q = 4001) := by subst hq; split <;> omega
        rw [← hq]
        exact X.againK hK (i + 1) _ ⟨⟨_, by omega, by omega, by omega, fun h' => by omega, rfl⟩, rfl⟩ ⟨rfl, rfl, rfl, trivial⟩ (by omega)
      · skip
        simp at h
        clear hK
        refine E.exit ?_
        refine X.thenExit ?_
        refine X.thenExit ?_
        refine X.outBlock ?_
        refine X.next ?_
        refine E.seq ?_
        refine E.region ?_
        refine L.cons (O.y (Y.move rfl) rfl rfl rfl ?_)
        refine L.cons (O.y (Y.leq rfl rfl) rfl rfl rfl ?_)
        refine L.cons (O.y (Y.assign rfl) rfl rfl rfl ?_)
        refine L.nil ?_
        refine X.next ?_
        refine E.ret ?_
        exact X.ret1 Try.results15 rfl ⟨_, τ, rfl, rfl, Ext.refl _ _, _, rfl, fun h' => by simp at h'; omega, rfl⟩
    · skip
      obtain rfl : i = l.length := by omega
      refine L.setB (b' := false) (decide_eq_false (by omega)) ?_
      refine L.cons (O.not rfl rfl rfl ?_)
      refine L.cons (O.not rfl rfl rfl ?_)
      refine L.cons (O.y (Y.pickF rfl rfl) rfl rfl rfl ?_)
      refine L.nil ?_
      refine X.next ?_
      refine E.condFh rfl (rfl) ?_
      clear hK
      refine E.exit ?_
      refine X.thenExit ?_
      refine X.thenExit ?_
      refine X.outBlock ?_
      refine X.next ?_
      refine E.seq ?_
      refine E.region ?_
      refine L.cons (O.y (Y.move rfl) rfl rfl rfl ?_)
      refine L.cons (O.y (Y.leq rfl rfl) rfl rfl rfl ?_)
      refine L.cons (O.y (Y.assign rfl) rfl rfl rfl ?_)
      refine L.nil ?_
      refine X.next ?_
      refine E.ret ?_
      rw [List.take_length] at hn
      exact X.ret1 Try.results15 rfl ⟨_, τ, rfl, rfl, Ext.refl _ _, _, rfl, fun h' => by simp at h'; have := hn h'; omega, rfl⟩
end Go.Proofs.Ytjhpoahjmcoilaa
