/- Walks of slices' functions at bytes, and of package frame. -/
import Derived.Test.YtjhpoahjmcoilaaTab
import Derived.Test.YtjhpoahjmcoilaaStp8
import Derived.Test.YtjhpoahjmcoilaaVS
set_option linter.unusedSimpArgs false
set_option linter.unusedVariables false
namespace Go.Proofs.Ytjhpoahjmcoilaa
open Go.Stp
theorem clone_c (σ : GW) (k k2 : Nat) (v : Value) (bs : List UInt8) (hv : Bs σ k v bs) (hl : bs.length ≤ 140737488355328) :
    Calls Try.prog 28 [v].toArray σ.w (Ret σ [] fun r σ' => Ow kByte σ' k2 5 r bs) := by
  obtain ⟨N, hN, hk, hN0⟩ := σ.fresh [k, 0, k2]
  have hkN : k < N := hk k (by simp)
  obtain ⟨A, c, cs, rfl, hlc, hc63, hrs, hrow⟩ := id hv
  refine calls Try.func28 rfl Try.ntmps28 (Nat.le_of_ble_eq_true rfl) ?_
  refine E.seq ?_
  refine E.region ?_
  refine L.cons (O.y (Y.assign rfl) rfl rfl rfl ?_)
  refine L.nil ?_
  refine X.next ?_
  refine E.seq ?_
  refine E.seq ?_
  refine E.region ?_
  refine L.cons (O.y (Y.move rfl) rfl rfl rfl ?_)
  refine L.cons (O.y (Y.eqNilSl Try.underlying22 rfl rfl) rfl rfl rfl ?_)
  refine L.nil ?_
  refine X.next ?_
  refine E.cond rfl (fun h => ?_) (fun h => ?_)
  · skip
    refine E.seq ?_
    refine E.region ?_
    refine L.cons (O.y (Y.assign rfl) rfl rfl rfl ?_)
    refine L.nil ?_
    refine X.next ?_
    refine E.ret ?_
    refine X.thenRet ?_
    have hA : A = none := by simpa using h
    subst hA
    have hb : bs = [] := by
      rcases hrow with h | ⟨_, _, h, _⟩
      · subst h; have := bytes_cells.1 hrs; simpa using this.symm
      · cases h
    subst hb
    exact X.ret1 Try.results28 rfl ⟨_, σ, rfl, rfl, Ext.refl _ _, Ow.nil ..⟩
  · skip
    refine E.skip ?_
    refine X.next ?_
    refine E.seq ?_
    refine E.region ?_
    refine L.cons (O.slLit N [] Try.underlying22 Try.sizeOf5 Try.zeroValue5 rfl rfl (by simp) (by simp) rfl rfl ?_)
    intro σ1 b1 e1 hb1
    have T1 := (Ext.refl σ []).step hN e1 (by simp)
    have hv1 := hv.ext e1 (by simp) (by simp)
    have ho1 : Ow kByte σ1 N 5 (.slice (some ⟨b1, 0, none⟩) 0 0) [] := hb1.ow (xs := []) rfl (by simp)
    refine L.cons (O.y (Y.move rfl) rfl rfl rfl ?_)
    refine L.cons (O.append ho1 (by omega) hv1 Try.underlying22 Try.underlying22 T.elem5 rfl rfl (by simpa using hl) (by decide) rfl rfl ?_)
    intro v2 σ2 e2 ho2
    have T2 := T1.step hN e2 (by simp)
    refine L.cons (O.y (Y.assign rfl) rfl rfl rfl ?_)
    refine L.nil ?_
    refine X.next ?_
    refine E.ret ?_
    refine X.recolor N k2 fun σ3 e3 h3 => ?_
    subst h3
    exact X.ret1 Try.results28 rfl ⟨_, _, rfl, rfl, T2.step hN e3 (by simp), by simpa using ho2.rec_ (by omega)⟩
theorem addr_add0 (A : Option Addr) : A.map (·.add 0) = A := by cases A <;> simp [Addr.add]
theorem clip_c (σ : GW) (A : Option Addr) (n c : Nat) (hc : n ≤ c) :
    Calls Try.prog 27 [Value.slice A n c].toArray σ.w (Ret σ [] fun r σ' => r = .slice A n n ∧ σ' = σ) := by
  refine calls Try.func27 rfl Try.ntmps27 (Nat.le_of_ble_eq_true rfl) ?_
  refine E.seq ?_
  refine E.region ?_
  refine L.cons (O.y (Y.assign rfl) rfl rfl rfl ?_)
  refine L.nil ?_
  refine X.next ?_
  refine E.seq ?_
  refine E.region ?_
  refine L.cons (O.y (Y.move rfl) rfl rfl rfl ?_)
  refine L.cons (O.y (Y.move rfl) rfl rfl rfl ?_)
  refine L.cons (O.y (Y.lenSl Try.underlying22 rfl) rfl rfl rfl ?_)
  refine L.cons (O.y (Y.move rfl) rfl rfl rfl ?_)
  refine L.cons (O.y (Y.lenSl Try.underlying22 rfl) rfl rfl rfl ?_)
  refine L.cons (O.y (Y.sliceSl 0 n n Try.underlying22 Try.sizeOf5 rfl (.inl ⟨rfl, rfl⟩) (.inr ⟨_, _, rfl, rfl⟩) (.inr ⟨_, _, rfl, rfl⟩) (by omega) (by omega) hc) rfl rfl rfl ?_)
  refine L.cons (O.y (Y.assign rfl) rfl rfl rfl ?_)
  refine L.nil ?_
  refine X.next ?_
  refine E.ret ?_
  refine X.ret1 Try.results27 rfl ⟨_, σ, rfl, rfl, Ext.refl _ _, ?_, rfl⟩
  simp only [Nat.zero_mul, addr_add0, Nat.sub_zero, ite_self]
theorem growNil_c (σ : GW) (k2 : Nat) (m : Nat) (hm : m ≤ 140737488355328) :
    Calls Try.prog 42 [Value.slice none 0 0, .int .i64 m].toArray σ.w (Ret σ [] fun r σ' => Ow kByte σ' k2 5 r []) := by
  obtain ⟨N, hN, hk, hN0⟩ := σ.fresh [0, k2]
  refine calls Try.func42 rfl Try.ntmps42 (Nat.le_of_ble_eq_true rfl) ?_
  refine E.seq ?_
  refine E.region ?_
  refine L.cons (O.y (Y.assign rfl) rfl rfl rfl ?_)
  refine L.nil ?_
  refine X.next ?_
  refine E.seq ?_
  refine E.seq ?_
  refine E.region ?_
  refine L.cons (O.y (Y.move rfl) rfl rfl rfl ?_)
  refine L.cons (O.y (Y.lss rfl rfl) rfl rfl rfl ?_)
  refine L.nil ?_
  refine X.next ?_
  refine E.condFh rfl (decide_eq_false (by omega)) ?_
  refine E.skip ?_
  refine X.next ?_
  refine E.seq ?_
  refine E.seq ?_
  refine E.region ?_
  refine L.cons (O.y (Y.move rfl) rfl rfl rfl ?_)
  refine L.cons (O.y (Y.move rfl) rfl rfl rfl ?_)
  refine L.cons (O.y (Y.capSl Try.underlying22 rfl) rfl rfl rfl ?_)
  refine L.cons (O.y (Y.move rfl) rfl rfl rfl ?_)
  refine L.cons (O.y (Y.lenSl Try.underlying22 rfl) rfl rfl rfl ?_)
  refine L.cons (O.y (Y.sub _ rfl rfl (wrap_i64 (by omega) (by omega))) rfl rfl rfl ?_)
  refine L.cons (O.y (Y.sub _ rfl rfl (wrap_i64 (by omega) (by omega))) rfl rfl rfl ?_)
  refine L.cons (O.y (Y.assign rfl) rfl rfl rfl ?_)
  refine L.nil ?_
  refine X.next ?_
  refine E.seq ?_
  refine E.region ?_
  refine L.cons (O.y (Y.move rfl) rfl rfl rfl ?_)
  refine L.cons (O.y (Y.gtr rfl rfl) rfl rfl rfl ?_)
  refine L.nil ?_
  refine X.next ?_
  refine E.cond rfl (fun h => ?_) (fun h => ?_)
  · skip
    simp at h
    refine E.region ?_
    refine L.cons (O.y (Y.move rfl) rfl rfl rfl ?_)
    refine L.cons (O.y (Y.move rfl) rfl rfl rfl ?_)
    refine L.cons (O.y (Y.capSl Try.underlying22 rfl) rfl rfl rfl ?_)
    refine L.cons (O.y (Y.sliceSl 0 0 0 Try.underlying22 Try.sizeOf5 rfl (.inl ⟨rfl, rfl⟩) (.inr ⟨_, _, rfl, rfl⟩) (.inl ⟨rfl, rfl⟩) (by omega) (by omega) (by omega)) rfl rfl rfl ?_)
    refine L.cons (O.y (Y.move rfl) rfl rfl rfl ?_)
    refine L.cons (O.growNil N m Try.underlying22 Try.underlying3 T.elem5 (by decide) rfl rfl (by simp) (by omega) (by omega) (by decide) rfl rfl ?_)
    intro σ1 b1 c1 cs1 e1 hb1 hmc hc63 hl1
    have T1 := (Ext.refl σ []).step hN e1 (by simp)
    refine L.cons (O.y (Y.move rfl) rfl rfl rfl ?_)
    refine L.cons (O.y (Y.lenSl Try.underlying22 rfl) rfl rfl rfl ?_)
    refine L.cons (O.y (Y.sliceSl 0 0 c1 Try.underlying22 Try.sizeOf5 rfl (.inl ⟨rfl, rfl⟩) (.inr ⟨_, _, rfl, rfl⟩) (.inl ⟨rfl, rfl⟩) (by omega) (by omega) (by omega)) rfl rfl rfl ?_)
    refine L.cons (O.y (Y.assign rfl) rfl rfl rfl ?_)
    refine L.nil ?_
    refine X.next ?_
    refine E.seq ?_
    refine E.region ?_
    refine L.cons (O.y (Y.move rfl) rfl rfl rfl ?_)
    refine L.cons (O.y (Y.assign rfl) rfl rfl rfl ?_)
    refine L.nil ?_
    refine X.next ?_
    refine E.ret ?_
    refine X.recolor N k2 fun σ3 e3 h3 => ?_
    subst h3
    refine X.ret1 Try.results42 rfl ⟨_, _, rfl, rfl, T1.step hN e3 (by simp), ?_⟩
    rw [if_neg (by omega)]
    refine ⟨some ⟨b1, 0, none⟩, c1, by simp [Addr.add], by simp, hc63, .inr ⟨b1, 0, cs1, rfl, hb1.rec_, by rw [hl1]; show 0 + c1 * 1 ≤ c1 * 1; omega, by simp [Kd.Rs]⟩⟩
  · skip
    simp at h
    refine E.skip ?_
    refine X.next ?_
    refine E.seq ?_
    refine E.region ?_
    refine L.cons (O.y (Y.move rfl) rfl rfl rfl ?_)
    refine L.cons (O.y (Y.assign rfl) rfl rfl rfl ?_)
    refine L.nil ?_
    refine X.next ?_
    refine E.ret ?_
    exact X.ret1 Try.results42 rfl ⟨_, _, rfl, rfl, Ext.refl _ _, Ow.nil ..⟩
theorem concat_c (σ : GW) (k k2 : Nat) (v : Value) (xss : List (List UInt8)) (hv : Sl (kSl kByte) σ k v xss) (hl : xss.flatten.length ≤ 140737488355328) :
    Calls Try.prog 38 [v].toArray σ.w (Ret σ [] fun r σ' => Ow kByte σ' k2 5 r xss.flatten) := by
  obtain ⟨N, hN, hk, hN0⟩ := σ.fresh [k, 0, k2]
  have hkN : k < N := hk k (by simp)
  obtain ⟨A, c, cs, rfl, hlc, hc63, hrs, hrow⟩ := id hv
  have hpre : ∀ i, (xss.take i).flatten.length ≤ xss.flatten.length := fun i => by
    have := congrArg List.length (congrArg List.flatten (List.take_append_drop i xss))
    simp only [List.flatten_append, List.length_append] at this
    omega
  have hsucc : ∀ i x, xss[i]? = some x → (xss.take (i + 1)).flatten = (xss.take i).flatten ++ x := fun i x hx => by
    rw [List.take_add_one, hx]; simp
  refine calls Try.func38 rfl Try.ntmps38 (Nat.le_of_ble_eq_true rfl) ?_
  refine E.seq ?_
  refine E.region ?_
  refine L.cons (O.y (Y.assign rfl) rfl rfl rfl ?_)
  refine L.nil ?_
  refine X.next ?_
  refine E.seq ?_
  refine E.region ?_
  refine L.cons (O.y (Y.assign rfl) rfl rfl rfl ?_)
  refine L.nil ?_
  refine X.next ?_
  refine E.seq ?_
  refine E.seq ?_
  refine E.region ?_
  refine L.cons (O.y (Y.move rfl) rfl rfl rfl ?_)
  refine L.cons (O.y (Y.lenSl Try.underlying28 rfl) rfl rfl rfl ?_)
  refine L.cons (O.y (Y.move rfl) rfl rfl rfl ?_)
  refine L.nil ?_
  refine X.next ?_
  refine E.block ?_
  refine E.loop (fun (i : Nat) l τ => i ≤ xss.length ∧ l = [(0, .slice A xss.length c), (3, .int .i64 (xss.take i).flatten.length), (9, .slice A xss.length c), (10, .int .i64 xss.length), (11, .int .i64 i)] ∧ τ = σ) (fun i => xss.length - i) 0 _ ⟨by omega, rfl, rfl⟩ ⟨rfl, rfl, rfl, rfl, rfl, trivial⟩ ?_
  rintro i l τ ⟨hi, rfl, rfl⟩
  refine E.seq ?_
  refine E.region ?_
  refine L.cons (O.y (Y.lss rfl rfl) rfl rfl rfl ?_)
  refine L.nil ?_
  refine X.next ?_
  refine E.seq ?_
  refine E.cond rfl (fun h => ?_) (fun h => ?_)
  · skip
    simp at h
    refine E.skip ?_
    refine X.next ?_
    refine E.seq ?_
    refine E.block ?_
    refine E.seq ?_
    refine E.region ?_
    obtain ⟨x, hx⟩ : ∃ x, xss[i]? = some x := ⟨xss[i], List.getElem?_eq_getElem h⟩
    have hsx := hsucc i x hx
    have hpx := hpre (i + 1)
    rw [hsx, List.length_append] at hpx
    refine L.cons (O.indexSl i x hv Try.underlying28 Try.sizeOf22 (by decide) rfl rfl rfl hx rfl rfl ?_)
    intro b1 o1 hat
    obtain ⟨vx, hcell, hvx⟩ := At.slice hat
    obtain ⟨A1, c1, cs1, rfl, _, _, _, _⟩ := id hvx
    refine L.cons (O.y (Y.load1 Try.isAgg22 rfl (by intro w hw; subst hw; first | exact Blk.cell (by assumption) rfl | assumption)) rfl rfl rfl ?_)
    refine L.cons (O.y (Y.assign rfl) rfl rfl rfl ?_)
    refine L.nil ?_
    refine X.next ?_
    refine E.seq ?_
    refine E.region ?_
    refine L.cons (O.y (Y.move rfl) rfl rfl rfl ?_)
    refine L.cons (O.y (Y.move rfl) rfl rfl rfl ?_)
    refine L.cons (O.y (Y.lenSl Try.underlying22 rfl) rfl rfl rfl ?_)
    refine L.cons (O.y (Y.add _ rfl rfl (wrap_i64 (by omega) (by omega))) rfl rfl rfl ?_)
    refine L.cons (O.y (Y.assign rfl) rfl rfl rfl ?_)
    refine L.nil ?_
    refine X.next ?_
    refine E.seq ?_
    refine E.region ?_
    refine L.cons (O.y (Y.move rfl) rfl rfl rfl ?_)
    refine L.cons (O.y (Y.lss rfl rfl) rfl rfl rfl ?_)
    refine L.nil ?_
    refine X.next ?_
    refine E.condFh rfl (decide_eq_false (by omega)) ?_
    refine E.skip ?_
    refine X.inBlock ?_
    refine X.next ?_
    refine E.region ?_
    refine L.cons (O.y (Y.add _ rfl rfl (wrap_i64 (by omega) (by omega))) rfl rfl rfl ?_)
    refine L.cons (O.y (Y.move rfl) rfl rfl rfl ?_)
    refine L.nil ?_
    exact X.again (i + 1) _ ⟨by omega, rfl, rfl⟩ ⟨rfl, by rw [hsx, List.length_append]; rfl, rfl, rfl, rfl, trivial⟩ (by omega)
  · skip
    simp at h
    obtain rfl : i = xss.length := by omega
    rw [List.take_length]
    refine E.exit ?_
    refine X.thenExit ?_
    refine X.thenExit ?_
    refine X.outBlock ?_
    refine X.next ?_
    refine E.seq ?_
    refine E.region ?_
    refine L.cons (O.y (Y.move rfl) rfl rfl rfl ?_)
    refine L.cons (O.enter (Runs.fn Try.call42 rfl) rfl rfl (growNil_c τ N _ hl) ?_)
    rintro v2 σ2 e2 ho2
    have T2 : Ext τ σ2 [] := (Ext.refl τ []).step hN e2 (by simp)
    refine L.cons (O.y (Y.assign rfl) rfl rfl rfl ?_)
    refine L.nil ?_
    refine X.next ?_
    refine E.seq ?_
    refine E.seq ?_
    refine E.region ?_
    refine L.cons (O.y (Y.move rfl) rfl rfl rfl ?_)
    refine L.cons (O.y (Y.lenSl Try.underlying28 rfl) rfl rfl rfl ?_)
    refine L.cons (O.y (Y.move rfl) rfl rfl rfl ?_)
    refine L.nil ?_
    refine X.next ?_
    refine E.block ?_
    refine E.loop (fun (i : Nat) l τ' => i ≤ xss.length ∧ (∃ v3, l = [(6, v3), (25, .slice A xss.length c), (26, .int .i64 xss.length), (27, .int .i64 i)] ∧ Ow kByte τ' N 5 v3 (xss.take i).flatten) ∧ Ext τ τ' []) (fun i => xss.length - i) 0 _ ⟨by omega, ⟨v2, rfl, by simpa using ho2⟩, T2⟩ ⟨rfl, rfl, rfl, rfl, trivial⟩ ?_
    rintro i l τ' ⟨hi', ⟨v3, rfl, ho3⟩, T3⟩
    have hv3 := hv.ext T3 (by simp) (by simp)
    refine E.seq ?_
    refine E.region ?_
    refine L.cons (O.y (Y.lss rfl rfl) rfl rfl rfl ?_)
    refine L.nil ?_
    refine X.next ?_
    refine E.seq ?_
    refine E.cond rfl (fun h3 => ?_) (fun h3 => ?_)
    · skip
      simp at h3
      refine E.skip ?_
      refine X.next ?_
      refine E.seq ?_
      refine E.block ?_
      refine E.seq ?_
      refine E.region ?_
      obtain ⟨x, hx⟩ : ∃ x, xss[i]? = some x := ⟨xss[i], List.getElem?_eq_getElem h3⟩
      have hsx := hsucc i x hx
      have hpx := hpre (i + 1)
      rw [hsx, List.length_append] at hpx
      refine L.cons (O.indexSl i x hv3 Try.underlying28 Try.sizeOf22 (by decide) rfl rfl rfl hx rfl rfl ?_)
      intro b1 o1 hat
      obtain ⟨vx, hcell, hvx⟩ := At.slice hat
      refine L.cons (O.y (Y.load1 Try.isAgg22 rfl (by intro w hw; subst hw; first | exact Blk.cell (by assumption) rfl | assumption)) rfl rfl rfl ?_)
      refine L.cons (O.y (Y.assign rfl) rfl rfl rfl ?_)
      refine L.nil ?_
      refine X.next ?_
      refine E.region ?_
      refine L.cons (O.y (Y.move rfl) rfl rfl rfl ?_)
      refine L.cons (O.y (Y.move rfl) rfl rfl rfl ?_)
      refine L.cons (O.append ho3 (by omega) hvx Try.underlying22 Try.underlying22 T.elem5 rfl rfl (by omega) (by decide) rfl rfl ?_)
      intro v4 σ4 e4 ho4
      have T4 := T3.step hN e4 (by simp)
      refine L.cons (O.y (Y.assign rfl) rfl rfl rfl ?_)
      refine L.nil ?_
      refine X.inBlock ?_
      refine X.next ?_
      refine E.region ?_
      refine L.cons (O.y (Y.add _ rfl rfl (wrap_i64 (by omega) (by omega))) rfl rfl rfl ?_)
      refine L.cons (O.y (Y.move rfl) rfl rfl rfl ?_)
      refine L.nil ?_
      exact X.again (i + 1) _ ⟨by omega, ⟨v4, rfl, by rw [hsx]; exact ho4⟩, T4⟩ ⟨rfl, rfl, rfl, rfl, trivial⟩ (by omega)
    · skip
      simp at h3
      obtain rfl : i = xss.length := by omega
      rw [List.take_length] at ho3
      refine E.exit ?_
      refine X.thenExit ?_
      refine X.thenExit ?_
      refine X.outBlock ?_
      refine X.next ?_
      refine E.seq ?_
      refine E.region ?_
      refine L.cons (O.y (Y.move rfl) rfl rfl rfl ?_)
      refine L.cons (O.y (Y.assign rfl) rfl rfl rfl ?_)
      refine L.nil ?_
      refine X.next ?_
      refine E.ret ?_
      refine X.recolor N k2 fun σ5 e5 h5 => ?_
      subst h5
      exact X.ret1 Try.results38 rfl ⟨_, _, rfl, rfl, T3.step hN e5 (by simp), ho3.rec_ (by omega)⟩
end Go.Proofs.Ytjhpoahjmcoilaa
