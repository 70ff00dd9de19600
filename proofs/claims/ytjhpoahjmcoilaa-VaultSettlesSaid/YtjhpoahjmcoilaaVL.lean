/- Walks of package vault. -/
import Derived.Test.YtjhpoahjmcoilaaTab
import Derived.Test.YtjhpoahjmcoilaaVK
set_option linter.unusedSimpArgs false
set_option linter.unusedVariables false
namespace Go.Proofs.Ytjhpoahjmcoilaa
open Go.Stp
/-- Commands as a tape shows them. -/
def marks (l : List (List UInt8)) : List UInt8 := (l.map (· ++ [124])).flatten
theorem marks_snoc (l : List (List UInt8)) (x : List UInt8) : marks (l ++ [x]) = marks l ++ x ++ [124] := by simp [marks]
/-- A tape at tp, and a vault at vp over the disk at p and this tape; colours k + 3, k + 4. -/
def VT (σ : GW) (k p tp vp : Nat) (s : List UInt8) (n c : Nat) : Prop :=
  Tape σ (k + 3) tp s n ∧ Blk σ (k + 4) vp [.pointer (some ⟨p, 0, none⟩), .iface 35 (.pointer (some ⟨tp, 0, none⟩)), .int .i64 c] 66
theorem VT.ext {σ σ' : GW} {k p tp vp : Nat} {s : List UInt8} {n c : Nat} {ds : List Nat} (h : VT σ k p tp vp s n c) (e : Ext σ σ' ds) (h3 : k + 3 ∉ ds) (h4 : k + 4 ∉ ds) : VT σ' k p tp vp s n c :=
  ⟨Blk.ext h.1 e h3, h.2.ext e h4⟩
theorem or_c (σ : GW) (b k : Nat) (a : Int) (hb : Blk σ k b [.int .i64 a, .int .i64 0] 25) :
    Calls Try.prog 33 [.slice (some ⟨b, 0, none⟩) 2 2].toArray σ.w (Ret σ [] fun r σ' => r = .int .i64 a ∧ σ' = σ) := by
  have hS : Sl (kInt .i64) σ k (.slice (some ⟨b, 0, none⟩) 2 2) [a, 0] := ⟨_, _, _, rfl, by simp, by simp, ⟨[_], _, rfl, rfl, [_], [], rfl, rfl, rfl⟩, hb.row⟩
  refine calls Try.func33 rfl Try.ntmps33 (Nat.le_of_ble_eq_true rfl) ?_
  refine E.seq ?_
  refine E.region ?_
  refine L.cons (O.y (Y.assign rfl) rfl rfl rfl ?_)
  refine L.nil ?_
  refine X.next ?_
  refine E.seq ?_
  refine E.region ?_
  refine L.cons (O.y (Y.assign rfl) rfl rfl rfl ?_)
  refine L.nil ?_
  refine X.next ?_
  refine E.seq ?_
  refine E.seq ?_
  refine E.region ?_
  refine L.cons (O.y (Y.move rfl) rfl rfl rfl ?_)
  refine L.cons (O.y (Y.lenSl Try.underlying75 rfl) rfl rfl rfl ?_)
  refine L.cons (O.y (Y.move rfl) rfl rfl rfl ?_)
  refine L.nil ?_
  refine X.next ?_
  refine E.block ?_
  refine E.loopK (fun (i : Nat) l τ => (i ≤ 2 ∧ (0 < i → a = 0) ∧ l = [(3, .int .i64 0), (6, .slice (some ⟨b, 0, none⟩) 2 2), (7, .int .i64 2), (8, .int .i64 (i : Int))]) ∧ τ = σ) (fun i => 2 - i) 0 [(3, .int .i64 0), (6, .slice (some ⟨b, 0, none⟩) 2 2), (7, .int .i64 2), (8, .int .i64 0)] ⟨⟨by omega, by omega, rfl⟩, rfl⟩ ⟨rfl, rfl, rfl, rfl, trivial⟩ ?_
  rintro i l τ ⟨⟨hi, ha, rfl⟩, rfl⟩ K hK
  refine E.seq ?_
  refine E.region ?_
  refine L.cons (O.y (Y.lss rfl rfl) rfl rfl rfl ?_)
  refine L.nil ?_
  refine X.next ?_
  refine E.seq ?_
  refine E.cond rfl (fun h => ?_) (fun h => ?_)
  · skip
    simp at h
    refine E.skip ?_
    refine X.next ?_
    refine E.seq ?_
    refine E.block ?_
    refine E.seq ?_
    refine E.region ?_
    obtain ⟨x, hx⟩ : ∃ x, [a, 0][i]? = some x := ⟨_, List.getElem?_eq_getElem (by simp; omega)⟩
    have hxa : x ≠ 0 → x = a := by
      intro h0
      match i, hx with
      | 0, hx => simpa using hx.symm
      | 1, hx => exact absurd (by simpa using hx.symm) h0
    have hx0 : x = 0 → i = 0 → a = 0 := by
      rintro rfl rfl
      simpa using hx
    refine L.cons (O.indexSl i x hS Try.underlying75 Try.sizeOf25 (by decide) rfl rfl rfl hx rfl rfl ?_)
    intro b1 o1 hat
    have hcell : τ.w.cell? ⟨b1, o1, none⟩ = some (.int .i64 x) := by
      obtain ⟨cs, hcs, h⟩ := hat
      have hcs : cs = [Value.int .i64 x] := hcs
      subst hcs
      exact h 0 _ rfl
    refine L.cons (O.y (Y.load1 Try.isAgg25 rfl (by intro w hw; subst hw; first | exact Blk.cell (by assumption) rfl | assumption)) rfl rfl rfl ?_)
    refine L.cons (O.y (Y.assign rfl) rfl rfl rfl ?_)
    refine L.nil ?_
    refine X.next ?_
    refine E.seq ?_
    refine E.region ?_
    refine L.cons (O.y (Y.move rfl) rfl rfl rfl ?_)
    refine L.cons (O.y (Y.move rfl) rfl rfl rfl ?_)
    refine L.cons (O.y (Y.neq rfl rfl) rfl rfl rfl ?_)
    refine L.nil ?_
    refine X.next ?_
    refine E.cond rfl (fun h2 => ?_) (fun h2 => ?_)
    · skip
      simp at h2
      refine E.seq ?_
      refine E.region ?_
      refine L.cons (O.y (Y.move rfl) rfl rfl rfl ?_)
      refine L.cons (O.y (Y.assign rfl) rfl rfl rfl ?_)
      refine L.nil ?_
      refine X.next ?_
      refine E.ret ?_
      refine X.blockRet ?_
      refine X.thenRet ?_
      refine X.thenRet ?_
      refine X.blockRet ?_
      refine X.thenRet ?_
      exact X.ret1 Try.results33 rfl ⟨_, τ, rfl, rfl, Ext.refl _ _, by rw [hxa h2], rfl⟩
    · skip
      simp at h2
      refine E.skip ?_
      refine X.inBlock ?_
      refine X.next ?_
      refine E.region ?_
      refine L.cons (O.y (Y.add _ rfl rfl (wrap_i64 (by omega) (by omega))) rfl rfl rfl ?_)
      refine L.cons (O.y (Y.move rfl) rfl rfl rfl ?_)
      refine L.nil ?_
      exact X.againK hK (i + 1) _ ⟨⟨by omega, fun _ => by by_cases h0 : i = 0; exact hx0 h2 h0; exact ha (by omega), rfl⟩, rfl⟩ ⟨rfl, rfl, rfl, rfl, trivial⟩ (by omega)
  · skip
    simp at h
    clear hK
    refine E.exit ?_
    refine X.thenExit ?_
    refine X.thenExit ?_
    refine X.outBlock ?_
    refine X.next ?_
    refine E.seq ?_
    refine E.region ?_
    refine L.cons (O.y (Y.move rfl) rfl rfl rfl ?_)
    refine L.cons (O.y (Y.assign rfl) rfl rfl rfl ?_)
    refine L.nil ?_
    refine X.next ?_
    refine E.ret ?_
    exact X.ret1 Try.results33 rfl ⟨_, τ, rfl, rfl, Ext.refl _ _, by rw [ha (by omega)], rfl⟩
theorem done_c (σ : GW) (k p tp vp : Nat) (s cmd : List UInt8) (n c : Nat) (h : VT σ k p tp vp s n c) (hl : s.length + cmd.length ≤ 100000000) (hn : n ≤ 100000000) (hc : c ≤ 100000000) :
    Calls Try.prog 31 [.pointer (some ⟨vp, 0, none⟩), str cmd].toArray σ.w (Ret σ [k + 3, k + 4] fun r σ' => r = str (digs s.length []) ∧ VT σ' k p tp vp (s ++ cmd ++ [124]) (n + 1) (c + 1)) := by
  obtain ⟨ht, hv⟩ := h
  refine calls Try.func31 rfl Try.ntmps31 (Nat.le_of_ble_eq_true rfl) ?_
  refine E.seq ?_
  refine E.region ?_
  refine L.cons (O.y (Y.assign rfl) rfl rfl rfl ?_)
  refine L.nil ?_
  refine X.next ?_
  refine E.seq ?_
  refine E.region ?_
  refine L.cons (O.y (Y.move rfl) rfl rfl rfl ?_)
  refine L.cons (O.y (Y.nilCheck rfl) rfl rfl rfl ?_)
  refine L.cons (O.y (Y.fieldAddr T.field66_2 rfl) rfl rfl rfl ?_)
  refine L.cons (O.y (Y.load1 Try.isAgg3 rfl (by intro w hw; subst hw; first | exact Blk.cell (by assumption) rfl | assumption)) rfl rfl rfl ?_)
  refine L.cons (O.y (Y.add _ rfl rfl (wrap_i64 (by omega) (by omega))) rfl rfl rfl ?_)
  refine L.cons (O.y (Y.nilCheck rfl) rfl rfl rfl ?_)
  refine L.cons (O.y (Y.fieldAddr T.field66_2 rfl) rfl rfl rfl ?_)
  refine L.cons (O.store1 hv rfl rfl rfl Try.sizeOf3 (by simp) rfl ?_)
  intro σ1 e1 hc1 hz1 hv1
  have ht1 := Blk.ext ht e1 (by simp)
  refine L.nil ?_
  refine X.next ?_
  refine E.seq ?_
  refine E.region ?_
  refine L.cons (O.y (Y.move rfl) rfl rfl rfl ?_)
  refine L.cons (O.y (Y.nilCheck rfl) rfl rfl rfl ?_)
  refine L.cons (O.y (Y.fieldAddr T.field66_1 rfl) rfl rfl rfl ?_)
  refine L.cons (O.y (Y.load1 Try.isAgg63 rfl (by intro w hw; subst hw; first | exact Blk.cell (by assumption) rfl | assumption)) rfl rfl rfl ?_)
  refine L.cons (O.y (Y.move rfl) rfl rfl rfl ?_)
  refine L.cons (O.enter (Runs.inv Try.call62 T.meth35_Do_62 rfl rfl) rfl rfl (tapeDo_c σ1 (k + 3) tp s cmd n ht1 hl hn) ?_)
  rintro v2 σ2 e2 ⟨rfl, ht2⟩
  refine L.cons (O.y (Y.assign rfl) rfl rfl rfl ?_)
  refine L.nil ?_
  refine X.next ?_
  refine E.ret ?_
  exact X.ret1 Try.results31 rfl ⟨_, σ2, rfl, rfl, (e1.mono (by simp)).trans (e2.mono (by simp)), rfl, ht2, hv1.ext e2 (by simp)⟩
theorem each_c (σ : GW) (k k3 p tp vp : Nat) (v : Value) (l : List (List UInt8)) (s : List UInt8) (n c : Nat) (hv : Sl (kSl kByte) σ k3 v l) (h3 : k3 ≠ k + 3) (h4 : k3 ≠ k + 4) (h : VT σ k p tp vp s n c)
    (hl : s.length + (marks l).length ≤ 100000000) (hn : n + l.length ≤ 100000000) (hc : c + l.length ≤ 100000000) :
    Calls Try.prog 30 [v, .func (.func 31) #[.pointer (some ⟨vp, 0, none⟩)] #[]].toArray σ.w (Ret σ [k + 3, k + 4] fun r σ' => r = .tuple #[] ∧ VT σ' k p tp vp (s ++ marks l) (n + l.length) (c + l.length)) := by
  obtain ⟨A, cap, _, rfl, hlc, hc63, _⟩ := id hv
  refine calls Try.func30 rfl Try.ntmps30 (Nat.le_of_ble_eq_true rfl) ?_
  refine E.seq ?_
  refine E.region ?_
  refine L.cons (O.y (Y.move rfl) rfl rfl rfl ?_)
  refine L.cons (O.y (Y.lenSl Try.underlying28 rfl) rfl rfl rfl ?_)
  refine L.cons (O.y (Y.move rfl) rfl rfl rfl ?_)
  refine L.nil ?_
  refine X.next ?_
  refine E.block ?_
  refine E.loopK (fun (i : Nat) e τ => i ≤ l.length ∧ e = [(1, .func (.func 31) #[.pointer (some ⟨vp, 0, none⟩)] #[]), (6, .slice A l.length cap), (7, .int .i64 l.length), (8, .int .i64 (i : Int))] ∧ Ext σ τ [k + 3, k + 4] ∧ VT τ k p tp vp (s ++ marks (l.take i)) (n + i) (c + i)) (fun i => l.length - i) 0 [(1, .func (.func 31) #[.pointer (some ⟨vp, 0, none⟩)] #[]), (6, .slice A l.length cap), (7, .int .i64 l.length), (8, .int .i64 0)] ⟨by omega, rfl, Ext.refl _ _, by simpa [marks] using h⟩ ⟨rfl, rfl, rfl, rfl, trivial⟩ ?_
  rintro i e τ ⟨hi, rfl, T1, h1⟩ K hK
  refine E.seq ?_
  refine E.region ?_
  refine L.cons (O.y (Y.lss rfl rfl) rfl rfl rfl ?_)
  refine L.nil ?_
  refine X.next ?_
  refine E.seq ?_
  refine E.cond rfl (fun h => ?_) (fun h => ?_)
  · skip
    simp at h
    refine E.skip ?_
    refine X.next ?_
    refine E.seq ?_
    refine E.block ?_
    refine E.seq ?_
    refine E.region ?_
    obtain ⟨x, hx⟩ : ∃ x, l[i]? = some x := ⟨l[i], List.getElem?_eq_getElem h⟩
    have hm : marks (l.take (i + 1)) = marks (l.take i) ++ x ++ [124] := by rw [List.take_add_one, hx]; exact marks_snoc _ _
    have hml : (marks (l.take (i + 1))).length ≤ (marks l).length := by
      have := congrArg List.length (congrArg marks (List.take_append_drop (i + 1) l))
      simp only [marks, List.map_append, List.flatten_append, List.length_append] at this ⊢
      omega
    rw [hm] at hml
    simp only [List.length_append, List.length_singleton] at hml
    have hvT := hv.ext T1 (by simp) (by simp; omega)
    refine L.cons (O.indexSl i x hvT Try.underlying28 Try.sizeOf22 (by decide) rfl rfl rfl hx rfl rfl ?_)
    intro b1 o1 hat
    obtain ⟨vx, hcell, hvx⟩ := At.slice hat
    refine L.cons (O.y (Y.load1 Try.isAgg22 rfl (by intro w hw; subst hw; first | exact Blk.cell (by assumption) rfl | assumption)) rfl rfl rfl ?_)
    refine L.cons (O.y (Y.assign rfl) rfl rfl rfl ?_)
    refine L.nil ?_
    refine X.next ?_
    refine E.region ?_
    refine L.cons (O.y (Y.move rfl) rfl rfl rfl ?_)
    refine L.cons (O.y (Y.move rfl) rfl rfl rfl ?_)
    refine L.cons (O.y (Y.toStr Try.underlying22 Try.underlying5 Try.underlying9 (fun w hw => ⟨τ, hw.symm, hvx⟩) rfl) rfl rfl rfl ?_)
    refine L.cons (O.enter (Runs.val Try.call31 rfl rfl) rfl rfl (done_c τ k p tp vp (s ++ marks (l.take i)) x (n + i) (c + i) h1 (by rw [List.length_append]; omega) (by omega) (by omega)) ?_)
    rintro v2 τ2 e2 ⟨rfl, h2⟩
    refine L.nil ?_
    refine X.inBlock ?_
    refine X.next ?_
    refine E.region ?_
    refine L.cons (O.y (Y.add _ rfl rfl (wrap_i64 (by omega) (by omega))) rfl rfl rfl ?_)
    refine L.cons (O.y (Y.move rfl) rfl rfl rfl ?_)
    refine L.nil ?_
    rw [List.append_assoc, List.append_assoc, ← List.append_assoc (marks _), ← hm] at h2
    exact X.againK hK (i + 1) _ ⟨by omega, rfl, T1.trans e2, h2⟩ ⟨rfl, rfl, rfl, rfl, trivial⟩ (by omega)
  · skip
    simp at h
    obtain rfl : i = l.length := by omega
    clear hK
    refine E.exit ?_
    refine X.thenExit ?_
    refine X.thenExit ?_
    refine X.outBlock ?_
    rw [List.take_length] at h1
    exact X.end0 Try.results30 ⟨_, τ, rfl, rfl, T1, rfl, h1⟩
end Go.Proofs.Ytjhpoahjmcoilaa
