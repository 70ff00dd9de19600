/- Walks of package frame. -/
import Derived.Test.YtjhpoahjmcoilaaTab
import Derived.Test.YtjhpoahjmcoilaaVF
import Derived.Test.YtjhpoahjmcoilaaVM
set_option linter.unusedSimpArgs false
set_option linter.unusedVariables false
namespace Go.Proofs.Ytjhpoahjmcoilaa
open Go.Stp
theorem seal_c (σ : GW) (k k' : Nat) (v v' : Value) (a b : List UInt8) (hv : Bs σ k v a) (hv' : Bs σ k' v' b) :
    Calls Try.prog 40 [v, v'].toArray σ.w (Ret σ [] fun r σ' => r = .int .u32 (fsum a b)) := by
  refine calls Try.func40 rfl Try.ntmps40 (Nat.le_of_ble_eq_true rfl) ?_
  refine E.seq ?_
  refine E.region ?_
  refine L.cons (O.y (Y.assign rfl) rfl rfl rfl ?_)
  refine L.nil ?_
  refine X.next ?_
  refine E.seq ?_
  refine E.region ?_
  refine L.cons (O.y (Y.move rfl) rfl rfl rfl ?_)
  refine L.cons (O.enter (Runs.fn Try.call44 rfl) rfl rfl (of_c σ k v a hv) ?_)
  rintro v1 σ1 e1 rfl
  refine L.cons (O.y (Y.move rfl) rfl rfl rfl ?_)
  refine L.cons (O.enter (Runs.fn Try.call43 rfl) rfl rfl (more_c σ1 _ k' v' b (hv'.ext e1 (by simp) (by simp))) ?_)
  rintro v2 σ2 e2 rfl
  refine L.cons (O.y (Y.assign rfl) rfl rfl rfl ?_)
  refine L.nil ?_
  refine X.next ?_
  refine E.ret ?_
  exact X.ret1 Try.results40 rfl ⟨_, σ2, rfl, rfl, e1.trans e2, rfl⟩
/-- A cut of a slice of bytes. -/
theorem Bs.cut {σ : GW} {k : Nat} {A : Option Addr} {c : Nat} {bs : List UInt8} (hv : Bs σ k (.slice A bs.length c) bs) (i j : Nat) (hij : i ≤ j) (hj : j ≤ bs.length) :
    Bs σ k (.slice (if c = i then A else A.map (·.add (i * 1))) (j - i) (c - i)) ((bs.drop i).take (j - i)) := by
  obtain ⟨A', c', cs, he, hlc, hc63, hrs, hrow⟩ := hv
  injection he with h1 h2 h3
  subst h1; subst h3
  have hl : ((bs.drop i).take (j - i)).length = j - i := by simp; omega
  refine ⟨_, c - i, ((cs.drop i).take (j - i)), by rw [hl], by rw [hl]; omega, by omega, ?_, ?_⟩
  · have h1 := (hrs.drop i).take (j - i)
    have : kByte.sz = 1 := rfl
    rw [this, Nat.mul_one, Nat.mul_one] at h1
    exact h1
  · by_cases hc : c = i
    · rw [if_pos hc]
      have : (cs.drop i).take (j - i) = [] := by
        have := hrs.len
        have h1 : kByte.sz = 1 := rfl
        rw [h1] at this
        apply List.eq_nil_of_length_eq_zero; simp; omega
      rw [this]; exact .inl rfl
    · rw [if_neg hc]
      rcases hrow with h | ⟨b, o, rfl, hcol, hb, h⟩
      · subst h; exact .inl (by simp)
      · have := Row.cut (σ := σ) (k := k) (b := b) (o := o) (cs := cs) (.inr ⟨b, o, rfl, hcol, hb, h⟩) i (j - i)
        simpa [add_none] using this
theorem Ow.shape {α : Type} {d : Kd α} {σ : GW} {k : Nat} {T : TypeId} {v : Value} {xs : List α} (h : Ow d σ k T v xs) : ∃ A c, v = .slice A xs.length c := by
  obtain ⟨A, c, h, _⟩ := h
  exact ⟨A, c, h⟩
theorem wrap_c (σ : GW) (k2 : Nat) (v : Value) (p : List UInt8) (hv : Bs σ 0 v p) (hp : p.length ≤ 65536) :
    Calls Try.prog 37 [v].toArray σ.w (Ret σ [] fun r σ' => ∃ r1, r = .tuple #[r1, .int .i64 0] ∧ Ow kByte σ' k2 5 r1 (frame p)) := by
  obtain ⟨N, hN, hk, hN0⟩ := σ.fresh [0, k2]
  have hk2N : k2 < N := hk k2 (by simp)
  obtain ⟨A, c, cs, rfl, hlc, hc63, hrs, hrow⟩ := id hv
  refine calls Try.func37 rfl Try.ntmps37 (Nat.le_of_ble_eq_true rfl) ?_
  refine E.seq ?_
  refine E.region ?_
  refine L.cons (O.y (Y.assign rfl) rfl rfl rfl ?_)
  refine L.cons (O.y (Y.assign rfl) rfl rfl rfl ?_)
  refine L.nil ?_
  refine X.next ?_
  refine E.seq ?_
  refine E.seq ?_
  refine E.region ?_
  refine L.cons (O.y (Y.move rfl) rfl rfl rfl ?_)
  refine L.cons (O.y (Y.lenSl Try.underlying22 rfl) rfl rfl rfl ?_)
  refine L.cons (O.y (Y.gtr rfl rfl) rfl rfl rfl ?_)
  refine L.nil ?_
  refine X.next ?_
  refine E.condFh rfl (decide_eq_false (by omega)) ?_
  refine E.skip ?_
  refine X.next ?_
  refine E.seq ?_
  refine E.region ?_
  refine L.cons (O.y (Y.move rfl) rfl rfl rfl ?_)
  refine L.cons (O.y (Y.lenSl Try.underlying22 rfl) rfl rfl rfl ?_)
  refine L.cons (O.y (Y.toInt _ Try.underlying77 ⟨_, Try.underlying3⟩ rfl rfl) rfl rfl rfl ?_)
  refine L.cons (O.enter (Runs.fn Try.call41 rfl) rfl rfl (put_c σ N _ (wrap_u32 _).1 (wrap_u32 _).2) ?_)
  intro v1 σ1 e1 ho1
  have T1 := (Ext.refl σ []).step hN e1 (by simp)
  have hw1 : IntKind.u32.wrap (p.length : Int) = p.length := by
    have : ∀ x : Int, IntKind.u32.wrap x = x % 4294967296 := fun x => by simp [IntKind.wrap, IntKind.bits, IntKind.signed]
    rw [this]; omega
  rw [hw1] at ho1
  have hv1 := hv.ext e1 (by simp) (by simp)
  refine L.cons (O.y (Y.assign rfl) rfl rfl rfl ?_)
  refine L.nil ?_
  refine X.next ?_
  refine E.seq ?_
  refine E.region ?_
  refine L.cons (O.y (Y.move rfl) rfl rfl rfl ?_)
  refine L.cons (O.y (Y.move rfl) rfl rfl rfl ?_)
  refine L.cons (O.y (Y.move rfl) rfl rfl rfl ?_)
  refine L.cons (O.enter (Runs.fn Try.call40 rfl) rfl rfl (seal_c σ1 N 0 _ _ _ _ ho1.sl hv1) ?_)
  rintro v2 σ2 e2 rfl
  have T2 := T1.step hN e2 (by simp)
  refine L.cons (O.enter (Runs.fn Try.call41 rfl) rfl rfl (put_c σ2 (N + 1) _ (crc_range _ _).1 (crc_range _ _).2) ?_)
  intro v3 σ3 e3 ho3
  have T3 := T2.step hN e3 (by simp)
  have ho1 := (ho1.ext e2 (by simp) (by simp)).ext e3 (by simp) (by simp)
  have hv3 := (hv1.ext e2 (by simp) (by simp)).ext e3 (by simp) (by simp)
  refine L.recolor N 0 fun σ4 e4 h4 => ?_
  have ho1 : Bs σ4 0 v1 (put4 p.length) := by subst h4; exact (ho1.rec_ (by omega)).sl
  have ho3 := ho3.ext e4 (by simp; omega) (by simp)
  have hv4 := hv3.ext e4 (by simp; omega) (by simp; omega)
  have T4 := T3.step hN e4 (by simp)
  refine L.recolor (N + 1) 0 fun σ5 e5 h5 => ?_
  have ho3 : Bs σ5 0 v3 (put4 (fsum (put4 p.length) p)) := by subst h5; exact (ho3.rec_ (by omega)).sl
  have ho1 := ho1.ext e5 (by simp) (by simp)
  have hv5 := hv4.ext e5 (by simp) (by simp)
  have T5 := T4.step hN e5 (by simp)
  obtain ⟨A1, c1, _, rfl, _⟩ := id ho1
  obtain ⟨A3, c3, _, rfl, _⟩ := id ho3
  refine L.cons (O.y (Y.move rfl) rfl rfl rfl ?_)
  refine L.cons (O.slLit (N + 2) [_, _, _] Try.underlying28 Try.sizeOf22 Try.zeroValue22 rfl rfl (by intro v hv; simp at hv; rcases hv with rfl | rfl | rfl <;> rfl) (by simp) rfl rfl ?_)
  intro σ6 b6 e6 hb6
  have T6 := T5.step hN e6 (by simp)
  have hs6 : Sl (kSl kByte) σ6 (N + 2) (.slice (some ⟨b6, 0, none⟩) 3 3) [put4 p.length, put4 (fsum (put4 p.length) p), p] :=
    hb6.sl (xs := [put4 p.length, put4 (fsum (put4 p.length) p), p]) ⟨[_], _, rfl, ⟨_, rfl, ho1.ext e6 (by simp) (by simp)⟩, [_], _, rfl, ⟨_, rfl, ho3.ext e6 (by simp) (by simp)⟩, [_], _, rfl, ⟨_, rfl, hv5.ext e6 (by simp) (by simp)⟩, rfl⟩ (by simp)
  refine L.cons (O.enter (Runs.fn Try.call38 rfl) rfl rfl (concat_c σ6 (N + 2) k2 _ _ hs6 (by simp [put4]; omega)) ?_)
  intro v7 σ7 e7 ho7
  have T7 := T6.step hN e7 (by simp)
  refine L.cons (O.y (Y.assign rfl) rfl rfl rfl ?_)
  refine L.cons (O.y (Y.assign rfl) rfl rfl rfl ?_)
  refine L.nil ?_
  refine X.next ?_
  refine E.ret ?_
  refine X.ret2 Try.results37 rfl rfl ⟨_, σ7, rfl, rfl, T7, _, rfl, ?_⟩
  simpa [frame] using ho7
theorem view_c (σ : GW) (k : Nat) (A : Option Addr) (c : Nat) (bs : List UInt8) (hv : Bs σ k (.slice A bs.length c) bs) :
    Calls Try.prog 36 [.slice A bs.length c].toArray σ.w (Ret σ [] fun r σ' => ∃ r1, r = .tuple #[r1, .int .i64 (view bs).2.1, .int .i64 (view bs).2.2] ∧ Bs σ' k r1 (view bs).1) := by
  have hnil : ∀ τ : GW, Bs τ k (.slice none 0 0) [] := fun τ => ⟨none, 0, [], rfl, by simp, by omega, rfl, .inl rfl⟩
  obtain ⟨hlc, hc63⟩ : bs.length ≤ c ∧ c ≤ 9223372036854775807 := by
    obtain ⟨_, _, _, he, h1, h2, _⟩ := id hv
    injection he with _ _ h3
    subst h3; exact ⟨h1, h2⟩
  have hg := get4_nonneg (bs.take 4)
  have hd0 : (bs.drop 0).take 4 = bs.take 4 := by rw [List.drop_zero]
  have hcut1 := fun (i j : Nat) hij hj => Bs.cut hv i j hij hj
  unfold view
  refine calls Try.func36 rfl Try.ntmps36 (Nat.le_of_ble_eq_true rfl) ?_
  refine E.seq ?_
  refine E.region ?_
  refine L.cons (O.y (Y.assign rfl) rfl rfl rfl ?_)
  refine L.cons (O.y (Y.assign rfl) rfl rfl rfl ?_)
  refine L.cons (O.y (Y.assign rfl) rfl rfl rfl ?_)
  refine L.nil ?_
  refine X.next ?_
  refine E.seq ?_
  refine E.seq ?_
  refine E.region ?_
  refine L.cons (O.y (Y.move rfl) rfl rfl rfl ?_)
  refine L.cons (O.y (Y.lenSl Try.underlying22 rfl) rfl rfl rfl ?_)
  refine L.cons (O.y (Y.lss rfl rfl) rfl rfl rfl ?_)
  refine L.nil ?_
  refine X.next ?_
  refine E.cond rfl (fun h => ?_) (fun h => ?_)
  · skip
    simp at h
    refine E.seq ?_
    refine E.region ?_
    refine L.cons (O.y (Y.assign rfl) rfl rfl rfl ?_)
    refine L.cons (O.y (Y.assign rfl) rfl rfl rfl ?_)
    refine L.cons (O.y (Y.assign rfl) rfl rfl rfl ?_)
    refine L.nil ?_
    refine X.next ?_
    refine E.ret ?_
    refine X.thenRet ?_
    rw [if_pos (by omega)]
    exact X.ret3 Try.results36 rfl rfl rfl ⟨_, σ, rfl, rfl, Ext.refl _ _, _, rfl, hnil _⟩
  · skip
    simp at h
    rw [if_neg (by omega)]
    refine E.skip ?_
    refine X.next ?_
    refine E.seq ?_
    refine E.region ?_
    refine L.cons (O.y (Y.move rfl) rfl rfl rfl ?_)
    refine L.cons (O.enter (Runs.fn Try.call39 rfl) rfl rfl (get_c σ k _ bs hv 0 (by omega)) ?_)
    rintro v1 σ1 e1 ⟨rfl, rfl⟩
    rw [hd0]
    have hz4 : get4 (bs.take 4) < 4294967296 := by
      have := (get4_lt (bs.take 4)).2
      rw [show (bs.take 4).length = 4 by simp; omega] at this
      exact this
    generalize hz : get4 (bs.take 4) = z at hg hz4 ⊢
    refine L.cons (O.y (Y.move rfl) rfl rfl rfl ?_)
    refine L.cons (O.y (Y.extract rfl rfl) rfl rfl rfl ?_)
    refine L.cons (O.y (Y.extract rfl rfl) rfl rfl rfl ?_)
    refine L.cons (O.y (Y.assign rfl) rfl rfl rfl ?_)
    refine L.cons (O.y (Y.assign rfl) rfl rfl rfl ?_)
    refine L.nil ?_
    refine X.next ?_
    refine E.seq ?_
    refine E.seq ?_
    refine E.region ?_
    refine L.cons (O.y (Y.move rfl) rfl rfl rfl ?_)
    refine L.cons (O.y (Y.gtr rfl rfl) rfl rfl rfl ?_)
    refine L.nil ?_
    refine X.next ?_
    refine E.cond rfl (fun h2 => ?_) (fun h2 => ?_)
    · skip
      simp at h2
      refine E.seq ?_
      refine E.region ?_
      refine L.cons (O.y (Y.assign rfl) rfl rfl rfl ?_)
      refine L.cons (O.y (Y.assign rfl) rfl rfl rfl ?_)
      refine L.cons (O.y (Y.assign rfl) rfl rfl rfl ?_)
      refine L.nil ?_
      refine X.next ?_
      refine E.ret ?_
      refine X.thenRet ?_
      rw [if_pos (by omega)]
      exact X.ret3 Try.results36 rfl rfl rfl ⟨_, σ1, rfl, rfl, Ext.refl _ _, _, rfl, hnil _⟩
    · skip
      simp at h2
      rw [if_neg (by omega)]
      obtain ⟨m, rfl⟩ := Int.eq_ofNat_of_zero_le hg
      simp only [Int.toNat_natCast]
      refine E.skip ?_
      refine X.next ?_
      refine E.seq ?_
      refine E.region ?_
      refine L.cons (O.y (Y.move rfl) rfl rfl rfl ?_)
      refine L.cons (O.y (Y.toInt _ Try.underlying3 ⟨_, Try.underlying77⟩ rfl (wrap_i64 (by omega) (by omega))) rfl rfl rfl ?_)
      refine L.cons (O.y (Y.add _ rfl rfl (wrap_i64 (by omega) (by omega))) rfl rfl rfl ?_)
      refine L.cons (O.y (Y.assign rfl) rfl rfl rfl ?_)
      refine L.nil ?_
      refine X.next ?_
      refine E.seq ?_
      refine E.seq ?_
      refine E.region ?_
      refine L.cons (O.y (Y.move rfl) rfl rfl rfl ?_)
      refine L.cons (O.y (Y.lenSl Try.underlying22 rfl) rfl rfl rfl ?_)
      refine L.cons (O.y (Y.move rfl) rfl rfl rfl ?_)
      refine L.cons (O.y (Y.lss rfl rfl) rfl rfl rfl ?_)
      refine L.nil ?_
      refine X.next ?_
      refine E.cond rfl (fun h3 => ?_) (fun h3 => ?_)
      · skip
        simp at h3
        refine E.seq ?_
        refine E.region ?_
        refine L.cons (O.y (Y.assign rfl) rfl rfl rfl ?_)
        refine L.cons (O.y (Y.assign rfl) rfl rfl rfl ?_)
        refine L.cons (O.y (Y.assign rfl) rfl rfl rfl ?_)
        refine L.nil ?_
        refine X.next ?_
        refine E.ret ?_
        refine X.thenRet ?_
        rw [if_pos (by omega)]
        exact X.ret3 Try.results36 rfl rfl rfl ⟨_, σ1, rfl, rfl, Ext.refl _ _, _, rfl, hnil _⟩
      · skip
        simp at h3
        rw [if_neg (by omega)]
        refine E.skip ?_
        refine X.next ?_
        refine E.seq ?_
        refine E.seq ?_
        refine E.region ?_
        refine L.cons (O.y (Y.move rfl) rfl rfl rfl ?_)
        refine L.cons (O.enter (Runs.fn Try.call39 rfl) rfl rfl (get_c σ1 k _ bs hv 4 (by omega)) ?_)
        rintro v2 σ2 e2 ⟨rfl, rfl⟩
        refine L.cons (O.y (Y.move rfl) rfl rfl rfl ?_)
        refine L.cons (O.y (Y.extract rfl rfl) rfl rfl rfl ?_)
        refine L.cons (O.y (Y.extract rfl rfl) rfl rfl rfl ?_)
        refine L.cons (O.y (Y.assign rfl) rfl rfl rfl ?_)
        refine L.cons (O.y (Y.assign rfl) rfl rfl rfl ?_)
        refine L.nil ?_
        refine X.next ?_
        refine E.seq ?_
        refine E.draw (.rd 0 (.rd 1 (.rd 2 (.rd 3 (.rd 4 (.rd 5 (.ef 6 (.rd 7 Pl.done)))))))) (fun _ => True) Try.wide_mixed (by decide +kernel) (by decide +kernel) (by intro c a w d v h; cases d <;> exact h) ?_
        intro σd ed cd hdd_
        have hv3 := hv.ext ed (by simp) (by simp)
        refine D.rd rfl (Y.move rfl) rfl rfl rfl (trivial) ?_
        refine D.rd rfl (Y.move rfl) rfl rfl rfl (trivial) ?_
        refine D.rd rfl (Y.sliceSl 0 4 c Try.underlying22 Try.sizeOf5 rfl (.inl ⟨rfl, rfl⟩) (.inr ⟨_, _, rfl, rfl⟩) (.inl ⟨rfl, rfl⟩) (by omega) (by omega) (by omega)) rfl rfl rfl (trivial) ?_
        refine D.rd rfl (Y.move rfl) rfl rfl rfl (trivial) ?_
        refine D.rd rfl (Y.move rfl) rfl rfl rfl (trivial) ?_
        refine D.rd rfl (Y.sliceSl 8 (8 + m) c Try.underlying22 Try.sizeOf5 rfl (.inr ⟨_, _, rfl, rfl⟩) (.inr ⟨_, _, rfl, by simp; rfl⟩) (.inl ⟨rfl, rfl⟩) (by omega) (by omega) (by omega)) rfl rfl rfl (trivial) ?_
        have c1 := hcut1 0 4 (by omega) (by omega)
        have c2 := hcut1 8 (8 + m) (by omega) (by omega)
        simp only [List.drop_zero, Nat.sub_zero, show 8 + m - 8 = m by omega] at c1 c2 ⊢
        have c1' := c1.ext ed (by simp) (by simp)
        have c2' := c2.ext ed (by simp) (by simp)
        refine D.ef rfl (O.enter (Runs.fn Try.call40 rfl) rfl rfl (seal_c σd k k _ _ _ _ c1' c2') ?_)
        rintro v4 σ4 e4 rfl
        refine ⟨trivial, ?_⟩
        refine D.rd rfl (Y.neq rfl rfl) rfl rfl rfl (trivial) ?_
        refine D.done ?_
        refine X.next ?_
        refine E.cond rfl (fun h4 => ?_) (fun h4 => ?_)
        · skip
          simp at h4
          rw [if_pos h4]
          refine E.seq ?_
          refine E.region ?_
          refine L.cons (O.y (Y.assign rfl) rfl rfl rfl ?_)
          refine L.cons (O.y (Y.assign rfl) rfl rfl rfl ?_)
          refine L.cons (O.y (Y.assign rfl) rfl rfl rfl ?_)
          refine L.nil ?_
          refine X.next ?_
          refine E.ret ?_
          refine X.thenRet ?_
          exact X.ret3 Try.results36 rfl rfl rfl ⟨_, σ4, rfl, rfl, ed.trans e4, _, rfl, hnil _⟩
        · skip
          simp at h4
          rw [if_neg (by simpa using h4)]
          refine E.skip ?_
          refine X.next ?_
          refine E.seq ?_
          refine E.region ?_
          refine L.cons (O.y (Y.move rfl) rfl rfl rfl ?_)
          refine L.cons (O.y (Y.move rfl) rfl rfl rfl ?_)
          refine L.cons (O.y (Y.sliceSl 8 (8 + m) c Try.underlying22 Try.sizeOf5 rfl (.inr ⟨_, _, rfl, rfl⟩) (.inr ⟨_, _, rfl, by simp; rfl⟩) (.inl ⟨rfl, rfl⟩) (by omega) (by omega) (by omega)) rfl rfl rfl ?_)
          refine L.cons (O.y (Y.move rfl) rfl rfl rfl ?_)
          refine L.cons (O.y (Y.assign rfl) rfl rfl rfl ?_)
          refine L.cons (O.y (Y.assign rfl) rfl rfl rfl ?_)
          refine L.cons (O.y (Y.assign rfl) rfl rfl rfl ?_)
          refine L.nil ?_
          refine X.next ?_
          refine E.ret ?_
          refine X.ret3 Try.results36 rfl rfl rfl ⟨_, σ4, rfl, rfl, ed.trans e4, _, by simp; rfl, ?_⟩
          have c3 := c2'.ext e4 (by simp) (by simp)
          simpa using c3
end Go.Proofs.Ytjhpoahjmcoilaa
