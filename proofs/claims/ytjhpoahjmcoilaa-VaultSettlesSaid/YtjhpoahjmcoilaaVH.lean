/- Walks of package frame: Scan. -/
import Derived.Test.YtjhpoahjmcoilaaTab
import Derived.Test.YtjhpoahjmcoilaaVG
set_option linter.unusedSimpArgs false
set_option linter.unusedVariables false
namespace Go.Proofs.Ytjhpoahjmcoilaa
open Go.Stp
theorem scan_ok {b : List UInt8} (h : (view b).2.2 = 0) : scan b = ((view b).1 :: (scan (b.drop (view b).2.1)).1, (view b).2.1 + (scan (b.drop (view b).2.1)).2) := by rw [scan]; simp [h]
theorem scan_no {b : List UInt8} (h : (view b).2.2 ≠ 0) : scan b = ([], 0) := by rw [scan]; simp [h]
theorem view_len (b : List UInt8) : (view b).1.length ≤ b.length := by
  unfold view
  repeat' split
  all_goals first | (simp; done) | (simp; omega)
theorem scan_c (σ : GW) (k k2 : Nat) (A : Option Addr) (c : Nat) (bs : List UInt8) (hv : Bs σ k (.slice A bs.length c) bs) (hl : bs.length ≤ 1000000000) :
    Calls Try.prog 26 [.slice A bs.length c].toArray σ.w (Ret σ [] fun r σ' => ∃ r1, r = .tuple #[r1, .int .i64 (scan bs).2] ∧ Ow (kSl kByte) σ' k2 22 r1 (scan bs).1 ∧ (scan bs).2 ≤ bs.length) := by
  obtain ⟨N, hN, hk, hN0⟩ := σ.fresh [k, 0, k2]
  have hkN : k < N := hk k (by simp)
  obtain ⟨hlc, hc63⟩ : bs.length ≤ c ∧ c ≤ 9223372036854775807 := by
    obtain ⟨_, _, _, he, h1, h2, _⟩ := id hv
    injection he with _ _ h3
    subst h3; exact ⟨h1, h2⟩
  refine calls Try.func26 rfl Try.ntmps26 (Nat.le_of_ble_eq_true rfl) ?_
  refine E.seq ?_
  refine E.region ?_
  refine L.cons (O.y (Y.assign rfl) rfl rfl rfl ?_)
  refine L.cons (O.y (Y.assign rfl) rfl rfl rfl ?_)
  refine L.nil ?_
  refine X.next ?_
  refine E.block ?_
  refine E.loopK (fun (x : Nat × List (List UInt8)) l τ => x.1 ≤ bs.length ∧ x.2.length ≤ x.1 ∧ scan bs = (x.2 ++ (scan (bs.drop x.1)).1, x.1 + (scan (bs.drop x.1)).2) ∧ (∃ v, l = [(0, .slice A bs.length c), (2, v), (3, .int .i64 x.1)] ∧ Ow (kSl kByte) τ N 22 v x.2) ∧ Ext σ τ [])
    (fun x => bs.length - x.1) (0, []) _ ⟨by simp, by simp, by simp, ⟨_, rfl, Ow.nil ..⟩, Ext.refl _ _⟩ ⟨rfl, rfl, rfl, trivial⟩ ?_
  rintro ⟨m, ps⟩ l τ ⟨hm, hpm, hsc, ⟨vl, rfl, hol⟩, T1⟩ K hK
  simp only at hm hpm hsc hol
  have hv1 := hv.ext T1 (by simp) (by simp)
  have c1 := Bs.cut hv1 m bs.length hm (Nat.le_refl _)
  have hd : (bs.drop m).take (bs.length - m) = bs.drop m := List.take_of_length_le (by simp)
  rw [hd] at c1
  have hdl : (bs.drop m).length = bs.length - m := by simp
  refine E.block ?_
  refine E.seq ?_
  refine E.region ?_
  refine L.cons (O.y (Y.move rfl) rfl rfl rfl ?_)
  refine L.cons (O.y (Y.move rfl) rfl rfl rfl ?_)
  refine L.cons (O.y (Y.sliceSl m bs.length c Try.underlying22 Try.sizeOf5 rfl (.inr ⟨_, _, rfl, rfl⟩) (.inl ⟨rfl, rfl, rfl⟩) (.inl ⟨rfl, rfl⟩) (by omega) (by omega) (by omega)) rfl rfl rfl ?_)
  rw [← hdl] at c1 ⊢
  refine L.cons (O.enter (Runs.fn Try.call36 rfl) rfl rfl (view_c τ k _ _ _ c1) ?_)
  rintro v2 σ2 e2 ⟨r1, rfl, hr1⟩
  have T2 := T1.trans e2
  have hol := hol.ext e2 (by simp) (by simp)
  have hvl := view_le (bs.drop m)
  have hvn := view_len (bs.drop m)
  rw [hdl] at hvl hvn
  refine L.cons (O.y (Y.move rfl) rfl rfl rfl ?_)
  refine L.cons (O.y (Y.extract rfl rfl) rfl rfl rfl ?_)
  refine L.cons (O.y (Y.extract rfl rfl) rfl rfl rfl ?_)
  refine L.cons (O.y (Y.extract rfl rfl) rfl rfl rfl ?_)
  refine L.cons (O.y (Y.assign rfl) rfl rfl rfl ?_)
  refine L.cons (O.y (Y.assign rfl) rfl rfl rfl ?_)
  refine L.cons (O.y (Y.assign rfl) rfl rfl rfl ?_)
  refine L.nil ?_
  refine X.next ?_
  refine E.seq ?_
  refine E.seq ?_
  refine E.region ?_
  refine L.cons (O.y (Y.move rfl) rfl rfl rfl ?_)
  refine L.cons (O.y (Y.neq rfl rfl) rfl rfl rfl ?_)
  refine L.nil ?_
  refine X.next ?_
  refine E.cond rfl (fun h => ?_) (fun h => ?_)
  · skip
    simp at h
    refine E.seq ?_
    refine E.region ?_
    refine L.cons (O.y (Y.move rfl) rfl rfl rfl ?_)
    refine L.cons (O.y (Y.move rfl) rfl rfl rfl ?_)
    refine L.cons (O.y (Y.assign rfl) rfl rfl rfl ?_)
    refine L.cons (O.y (Y.assign rfl) rfl rfl rfl ?_)
    refine L.nil ?_
    refine X.next ?_
    refine E.ret ?_
    refine X.thenRet ?_
    refine X.blockRet ?_
    refine X.thenRet ?_
    refine X.blockRet ?_
    have hs0 := scan_no h
    rw [hs0] at hsc
    simp at hsc
    refine X.recolor N k2 fun σ5 e5 h5 => ?_
    subst h5
    rw [hsc]
    exact X.ret2 Try.results26 rfl rfl ⟨_, _, rfl, rfl, T2.step hN e5 (by simp), _, rfl, hol.rec_ (by omega), hm⟩
  · skip
    simp at h
    have hs1 := scan_ok h
    have hge := hvl.2 h
    obtain ⟨hr1s, hr1c⟩ : (∃ A1 c1, r1 = .slice A1 (view (bs.drop m)).1.length c1) ∧ True := by
      obtain ⟨A1, c1, _, e, _⟩ := id hr1
      exact ⟨⟨A1, c1, e⟩, trivial⟩
    refine E.skip ?_
    refine X.next ?_
    refine E.seq ?_
    refine E.region ?_
    refine L.cons (O.y (Y.move rfl) rfl rfl rfl ?_)
    refine L.cons (O.y (Y.move rfl) rfl rfl rfl ?_)
    refine L.cons (O.enter (Runs.fn Try.call28 rfl) rfl rfl (clone_c σ2 k (N + 1) _ _ hr1 (by omega)) ?_)
    intro v3 σ3 e3 ho3
    have T3 := T2.trans e3
    have hol := hol.ext e3 (by simp) (by simp)
    obtain ⟨A3, c3, rfl, hlc3, _⟩ := id ho3
    refine L.cons (O.enter (Runs.fn Try.call27 rfl) rfl rfl (clip_c σ3 A3 _ c3 hlc3) ?_)
    rintro v4 σ4 e4 ⟨rfl, rfl⟩
    refine L.recolor (N + 1) 0 fun σ5 e5 h5 => ?_
    have hp : Bs σ5 0 (.slice A3 (view (bs.drop m)).1.length (view (bs.drop m)).1.length) (view (bs.drop m)).1 := by
      subst h5
      have h1 := (ho3.rec_ (k' := 0) (by omega)).sl
      obtain ⟨A', c', cs', he, h2, h3, h4, h5⟩ := h1
      injection he with ha _ hc
      subst ha; subst hc
      exact ⟨_, _, _, rfl, Nat.le_refl _, by omega, h4, h5⟩
    have hol := hol.ext e5 (by simp) (by simp)
    have T5 := T3.step hN e5 (by simp)
    refine L.cons (O.slLit (N + 2) [_] Try.underlying28 Try.sizeOf22 Try.zeroValue22 rfl rfl (by intro v hv; simp at hv; subst hv; rfl) (by simp) rfl rfl ?_)
    intro σ6 b6 e6 hb6
    have T6 := T5.step hN e6 (by simp)
    have hs6 : Sl (kSl kByte) σ6 (N + 2) (.slice (some ⟨b6, 0, none⟩) 1 1) [(view (bs.drop m)).1] :=
      hb6.sl (xs := [(view (bs.drop m)).1]) ⟨[_], _, rfl, ⟨_, rfl, hp.ext e6 (by simp) (by simp)⟩, rfl⟩ (by simp)
    have hol := hol.ext e6 (by simp) (by simp)
    refine L.cons (O.append hol (by omega) hs6 Try.underlying28 Try.underlying28 T.elem22 rfl rfl (by simp; omega) (by decide) rfl rfl ?_)
    intro v7 σ7 e7 hol7
    have T7 := T6.step hN e7 (by simp)
    refine L.cons (O.y (Y.assign rfl) rfl rfl rfl ?_)
    refine L.nil ?_
    refine X.next ?_
    refine E.region ?_
    refine L.cons (O.y (Y.move rfl) rfl rfl rfl ?_)
    refine L.cons (O.y (Y.move rfl) rfl rfl rfl ?_)
    refine L.cons (O.y (Y.add _ rfl rfl (wrap_i64 (by omega) (by omega))) rfl rfl rfl ?_)
    refine L.cons (O.y (Y.assign rfl) rfl rfl rfl ?_)
    refine L.nil ?_
    refine X.inBlock ?_
    refine X.againK hK (m + (view (bs.drop m)).2.1, ps ++ [(view (bs.drop m)).1]) [(0, .slice A bs.length c), (2, v7), (3, .int .i64 ((m + (view (bs.drop m)).2.1 : Nat) : Int))] ⟨?_, ?_, ?_, ⟨v7, rfl, hol7⟩, T7⟩ ⟨rfl, rfl, by simp; rfl, trivial⟩ ?_
    · simp only; omega
    · simp; omega
    · rw [hsc, hs1]; simp [List.drop_drop, Nat.add_assoc]
    · simp only; omega
end Go.Proofs.Ytjhpoahjmcoilaa
