/- Walks of package sum. -/
import Derived.Test.YtjhpoahjmcoilaaTab
import Derived.Test.YtjhpoahjmcoilaaStp7
import Derived.Test.YtjhpoahjmcoilaaVCrc
set_option linter.unusedSimpArgs false
set_option linter.unusedVariables false
namespace Go.Proofs.Ytjhpoahjmcoilaa
open Go.Stp
theorem nibble_c (σ : GW) (s : Int) :
    Calls Try.prog 45 [Value.int .u32 s].toArray σ.w (Ret σ [] fun v σ' => v = .int .u32 (nib s 4) ∧ σ' = σ) := by
  refine calls Try.func45 rfl Try.ntmps45 (Nat.le_of_ble_eq_true rfl) ?_
  refine E.seq ?_
  refine E.region ?_
  refine L.cons (O.y (Y.assign rfl) rfl rfl rfl ?_)
  refine L.nil ?_
  refine X.next ?_
  refine E.seq ?_
  refine E.seq ?_
  refine E.region ?_
  refine L.cons (O.y (Y.move rfl) rfl rfl rfl ?_)
  refine L.nil ?_
  refine X.next ?_
  refine E.block ?_
  refine E.loop (fun (i : Nat) l τ => i ≤ 4 ∧ l = [(0, .int .u32 (nib s i)), (3, .int .i64 i)] ∧ τ = σ) (fun i => 4 - i) 0 [(0, .int .u32 s), (3, .int .i64 0)] ⟨by omega, rfl, rfl⟩ ⟨rfl, rfl, trivial⟩ ?_
  rintro i l τ ⟨hi, rfl, rfl⟩
  refine E.seq ?_
  refine E.region ?_
  refine L.cons (O.y (Y.lss rfl rfl) rfl rfl rfl ?_)
  refine L.nil ?_
  refine X.next ?_
  refine E.seq ?_
  refine E.cond rfl (fun h => ?_) (fun h => ?_)
  · skip
    refine E.skip ?_
    refine X.next ?_
    refine E.seq ?_
    refine E.block ?_
    refine E.region ?_
    refine L.cons (O.y (Y.move rfl) rfl rfl rfl ?_)
    refine L.cons (O.y (Y.shr rfl rfl (by decide)) rfl rfl rfl ?_)
    refine L.cons (O.y (Y.move rfl) rfl rfl rfl ?_)
    refine L.cons (O.y (Y.and rfl rfl) rfl rfl rfl ?_)
    refine L.cons (O.y (Y.neg _ rfl rfl) rfl rfl rfl ?_)
    refine L.cons (O.y (Y.and rfl rfl) rfl rfl rfl ?_)
    refine L.cons (O.y (Y.xor rfl rfl) rfl rfl rfl ?_)
    refine L.cons (O.y (Y.assign rfl) rfl rfl rfl ?_)
    refine L.nil ?_
    refine X.inBlock ?_
    refine X.next ?_
    refine E.region ?_
    refine L.cons (O.y (Y.add _ rfl rfl (wrap_i64 (by omega) (by omega))) rfl rfl rfl ?_)
    refine L.cons (O.y (Y.move rfl) rfl rfl rfl ?_)
    refine L.nil ?_
    simp at h
    exact X.again (i + 1) _ ⟨by omega, rfl, rfl⟩ ⟨rfl, rfl, trivial⟩ (by omega)
  · skip
    simp at h
    obtain rfl : i = 4 := by omega
    refine E.exit ?_
    refine X.thenExit ?_
    refine X.thenExit ?_
    refine X.outBlock ?_
    refine X.next ?_
    refine E.seq ?_
    refine E.region ?_
    refine L.cons (O.y (Y.move rfl) rfl rfl rfl ?_)
    refine L.cons (O.y (Y.assign rfl) rfl rfl rfl ?_)
    refine L.nil ?_
    refine X.next ?_
    refine E.ret ?_
    exact X.ret1 Try.results45 rfl ⟨_, τ, rfl, rfl, Ext.refl _ _, rfl, rfl⟩
/-- The table's cells: the first i are made. -/
def TabIs (cs : List Value) (i : Nat) : Prop := cs.length = 16 ∧ ∀ j, j < i → cs[j]? = some (.int .u32 (tab j))
theorem TabIs.set {cs : List Value} {i : Nat} (h : TabIs cs i) (hi : i < 16) : TabIs (cs.set i (.int .u32 (tab i))) (i + 1) := by
  refine ⟨by simp [h.1], fun j hj => ?_⟩
  by_cases e : i = j
  · subst e; simp [h.1, hi]
  · rw [List.getElem?_set_ne e]; exact h.2 j (by omega)
theorem more_c (σ : GW) (s : Int) (k : Nat) (v : Value) (bs : List UInt8) (hv : Bs σ k v bs) :
    Calls Try.prog 43 [Value.int .u32 s, v].toArray σ.w (Ret σ [] fun r σ' => r = .int .u32 (crc s bs)) := by
  obtain ⟨N, hN, hk, hN0⟩ := σ.fresh [k, 0]
  have hkN : k < N := hk k (by simp)
  obtain ⟨A, c, cs, rfl, hlc, hc63, hrs, hrow⟩ := id hv
  refine calls Try.func43 rfl Try.ntmps43 (Nat.le_of_ble_eq_true rfl) ?_
  refine E.seq ?_
  refine E.region ?_
  refine L.cons (O.y (Y.assign rfl) rfl rfl rfl ?_)
  refine L.nil ?_
  refine X.next ?_
  refine E.seq ?_
  refine E.region ?_
  refine L.cons (O.alloc N Try.zeroValue86 rfl rfl rfl ?_)
  intro σ1 pt e1 hb1
  have T1 : Ext σ σ1 [] := (Ext.refl σ []).step hN e1 (by simp)
  have hv1 := hv.ext e1 (by simp) (by simp)
  refine L.nil ?_
  refine X.next ?_
  refine E.seq ?_
  refine E.seq ?_
  refine E.region ?_
  refine L.cons (O.y (Y.move rfl) rfl rfl rfl ?_)
  refine L.nil ?_
  refine X.next ?_
  refine E.block ?_
  refine E.loop (fun (i : Nat) l τ => i ≤ 16 ∧ l = [(0, .int .u32 s), (1, .slice A bs.length c), (5, .pointer (some ⟨pt, 0, none⟩)), (9, .int .i64 i)] ∧ Ext σ τ [] ∧ Bs τ k (.slice A bs.length c) bs ∧ ∃ cs, Blk τ N pt cs 86 ∧ TabIs cs i) (fun i => 16 - i) 0 _ ⟨by omega, rfl, T1, hv1, _, hb1, rfl, by omega⟩ ⟨rfl, rfl, rfl, rfl, trivial⟩ ?_
  rintro i l τ ⟨hi, rfl, T2, hv2, cs2, hb2, ht2⟩
  refine E.seq ?_
  refine E.region ?_
  refine L.cons (O.y (Y.lss rfl rfl) rfl rfl rfl ?_)
  refine L.nil ?_
  refine X.next ?_
  refine E.seq ?_
  refine E.cond rfl (fun h => ?_) (fun h => ?_)
  · skip
    simp at h
    refine E.skip ?_
    refine X.next ?_
    refine E.seq ?_
    refine E.block ?_
    refine E.seq ?_
    refine E.region ?_
    refine L.cons (O.y (Y.move rfl) rfl rfl rfl ?_)
    refine L.cons (O.y (Y.assign rfl) rfl rfl rfl ?_)
    refine L.nil ?_
    refine X.next ?_
    refine E.region ?_
    refine L.cons (O.y (Y.move rfl) rfl rfl rfl ?_)
    refine L.cons (O.y (Y.move rfl) rfl rfl rfl ?_)
    refine L.cons (O.y (Y.toInt _ Try.underlying77 ⟨_, Try.underlying3⟩ rfl rfl) rfl rfl rfl ?_)
    refine L.cons (O.enter (Runs.fn Try.call45 rfl) rfl rfl (nibble_c τ _) ?_)
    rintro v3 σ3 e3 ⟨rfl, rfl⟩
    refine L.cons (O.y (Y.indexArr i Try.underlying86 Try.sizeOf77 rfl rfl rfl (by omega)) rfl rfl rfl ?_)
    refine L.cons (O.store1 hb2 rfl rfl rfl Try.sizeOf77 (by rw [ht2.1]; omega) rfl ?_)
    intro σ4 e4 hc4 hz4 hb4
    have T4 := T2.step hN e4 (by simp)
    have hv4 := hv2.ext e4 (by simp; omega) (by simp; omega)
    refine L.nil ?_
    refine X.inBlock ?_
    refine X.next ?_
    refine E.region ?_
    refine L.cons (O.y (Y.add _ rfl rfl (wrap_i64 (by omega) (by omega))) rfl rfl rfl ?_)
    refine L.cons (O.y (Y.move rfl) rfl rfl rfl ?_)
    refine L.nil ?_
    refine X.again (i + 1) _ ⟨by omega, rfl, T4, hv4, _, hb4, ?_⟩ ⟨rfl, rfl, rfl, rfl, trivial⟩ (by omega)
    have e0 : 0 + i * 1 = i := by omega
    rw [e0]
    exact ht2.set (by omega)
  · skip
    simp at h
    obtain rfl : i = 16 := by omega
    refine E.exit ?_
    refine X.thenExit ?_
    refine X.thenExit ?_
    refine X.outBlock ?_
    refine X.next ?_
    refine E.seq ?_
    refine E.region ?_
    refine L.cons (O.y (Y.move rfl) rfl rfl rfl ?_)
    refine L.cons (O.y (Y.inv rfl) rfl rfl rfl ?_)
    refine L.cons (O.y (Y.assign rfl) rfl rfl rfl ?_)
    refine L.nil ?_
    refine X.next ?_
    refine E.seq ?_
    refine E.seq ?_
    refine E.region ?_
    refine L.cons (O.y (Y.move rfl) rfl rfl rfl ?_)
    refine L.cons (O.y (Y.lenSl Try.underlying22 rfl) rfl rfl rfl ?_)
    refine L.cons (O.y (Y.move rfl) rfl rfl rfl ?_)
    refine L.nil ?_
    refine X.next ?_
    refine E.block ?_
    refine E.loop (fun (i : Nat) l τ' => i ≤ bs.length ∧ l = [(0, .int .u32 ((bs.take i).foldl crcStep (inv s))), (5, .pointer (some ⟨pt, 0, none⟩)), (20, .slice A bs.length c), (21, .int .i64 bs.length), (22, .int .i64 i)] ∧ τ' = τ) (fun i => bs.length - i) 0 _ ⟨by omega, rfl, rfl⟩ ⟨rfl, rfl, rfl, rfl, rfl, trivial⟩ ?_
    rintro i l τ' ⟨hi', rfl, rfl⟩
    refine E.seq ?_
    refine E.region ?_
    refine L.cons (O.y (Y.lss rfl rfl) rfl rfl rfl ?_)
    refine L.nil ?_
    refine X.next ?_
    refine E.seq ?_
    refine E.cond rfl (fun h2 => ?_) (fun h2 => ?_)
    · skip
      simp at h2
      refine E.skip ?_
      refine X.next ?_
      refine E.seq ?_
      refine E.block ?_
      refine E.seq ?_
      refine E.region ?_
      obtain ⟨b0, hb0⟩ : ∃ b0, bs[i]? = some b0 := ⟨bs[i], List.getElem?_eq_getElem h2⟩
      refine L.cons (O.indexSl i b0 hv2 Try.underlying22 Try.sizeOf5 (by decide) rfl rfl rfl hb0 rfl rfl ?_)
      intro b1 o1 hat
      have hcell := At.cell hat
      refine L.cons (O.y (Y.load1 Try.isAgg5 rfl (by intro w hw; subst hw; first | exact Blk.cell (by assumption) rfl | assumption)) rfl rfl rfl ?_)
      refine L.cons (O.y (Y.assign rfl) rfl rfl rfl ?_)
      refine L.nil ?_
      refine X.next ?_
      refine E.seq ?_
      refine E.region ?_
      refine L.cons (O.y (Y.move rfl) rfl rfl rfl ?_)
      refine L.cons (O.y (Y.move rfl) rfl rfl rfl ?_)
      refine L.cons (O.y (Y.toInt _ Try.underlying77 ⟨_, Try.underlying5⟩ rfl rfl) rfl rfl rfl ?_)
      refine L.cons (O.y (Y.xor rfl rfl) rfl rfl rfl ?_)
      refine L.cons (O.y (Y.assign rfl) rfl rfl rfl ?_)
      refine L.nil ?_
      refine X.next ?_
      refine E.seq ?_
      refine E.region ?_
      refine L.cons (O.y (Y.move rfl) rfl rfl rfl ?_)
      refine L.cons (O.y (Y.shr rfl rfl (by decide)) rfl rfl rfl ?_)
      refine L.cons (O.y (Y.move rfl) rfl rfl rfl ?_)
      refine L.cons (O.y (Y.and rfl rfl) rfl rfl rfl ?_)
      have hn15 := and15 (Stp.bits .xor .u32 ((bs.take i).foldl crcStep (inv s)) (IntKind.u32.wrap (b0.toNat : Int)))
      refine L.cons (O.y (Y.indexArr (Stp.bits .and .u32 (Stp.bits .xor .u32 ((bs.take i).foldl crcStep (inv s)) (IntKind.u32.wrap (b0.toNat : Int))) 15).toNat Try.underlying86 Try.sizeOf77 rfl rfl (by omega) (by omega)) rfl rfl rfl ?_)
      have hct := hb2.cell (ht2.2 (Stp.bits .and .u32 (Stp.bits .xor .u32 ((bs.take i).foldl crcStep (inv s)) (IntKind.u32.wrap (b0.toNat : Int))) 15).toNat (by omega))
      refine L.cons (O.y (Y.load1 Try.isAgg77 rfl (by intro w hw; subst hw; simpa using hct)) rfl rfl rfl ?_)
      refine L.cons (O.y (Y.xor rfl rfl) rfl rfl rfl ?_)
      refine L.cons (O.y (Y.assign rfl) rfl rfl rfl ?_)
      refine L.nil ?_
      refine X.next ?_
      refine E.region ?_
      refine L.cons (O.y (Y.move rfl) rfl rfl rfl ?_)
      refine L.cons (O.y (Y.shr rfl rfl (by decide)) rfl rfl rfl ?_)
      refine L.cons (O.y (Y.move rfl) rfl rfl rfl ?_)
      refine L.cons (O.y (Y.and rfl rfl) rfl rfl rfl ?_)
      have hn16 := and15 (half (Stp.bits .xor .u32 ((bs.take i).foldl crcStep (inv s)) (IntKind.u32.wrap (b0.toNat : Int))))
      refine L.cons (O.y (Y.indexArr (Stp.bits .and .u32 (half (Stp.bits .xor .u32 ((bs.take i).foldl crcStep (inv s)) (IntKind.u32.wrap (b0.toNat : Int)))) 15).toNat Try.underlying86 Try.sizeOf77 rfl rfl (by show Stp.bits .and .u32 (half _) 15 = _; omega) (by omega)) rfl rfl rfl ?_)
      have hct2 := hb2.cell (ht2.2 (Stp.bits .and .u32 (half (Stp.bits .xor .u32 ((bs.take i).foldl crcStep (inv s)) (IntKind.u32.wrap (b0.toNat : Int)))) 15).toNat (by omega))
      refine L.cons (O.y (Y.load1 Try.isAgg77 rfl (by intro w hw; subst hw; simpa using hct2)) rfl rfl rfl ?_)
      refine L.cons (O.y (Y.xor rfl rfl) rfl rfl rfl ?_)
      refine L.cons (O.y (Y.assign rfl) rfl rfl rfl ?_)
      refine L.nil ?_
      refine X.inBlock ?_
      refine X.next ?_
      refine E.region ?_
      refine L.cons (O.y (Y.add _ rfl rfl (wrap_i64 (by omega) (by omega))) rfl rfl rfl ?_)
      refine L.cons (O.y (Y.move rfl) rfl rfl rfl ?_)
      refine L.nil ?_
      refine X.again (i + 1) _ ⟨by omega, rfl, rfl⟩ ⟨?_, rfl, rfl, rfl, rfl, trivial⟩ (by omega)
      rw [List.take_add_one, hb0]
      simp only [Option.toList_some, List.foldl_append, List.foldl_cons, List.foldl_nil]
      rfl
    · skip
      simp at h2
      obtain rfl : i = bs.length := by omega
      refine E.exit ?_
      refine X.thenExit ?_
      refine X.thenExit ?_
      refine X.outBlock ?_
      refine X.next ?_
      refine E.seq ?_
      refine E.region ?_
      refine L.cons (O.y (Y.move rfl) rfl rfl rfl ?_)
      refine L.cons (O.y (Y.inv rfl) rfl rfl rfl ?_)
      refine L.cons (O.y (Y.assign rfl) rfl rfl rfl ?_)
      refine L.nil ?_
      refine X.next ?_
      refine E.ret ?_
      refine X.ret1 Try.results43 rfl ⟨_, τ', rfl, rfl, T2, ?_⟩
      rw [List.take_length]
      rfl
theorem of_c (σ : GW) (k : Nat) (v : Value) (bs : List UInt8) (hv : Bs σ k v bs) :
    Calls Try.prog 44 [v].toArray σ.w (Ret σ [] fun r σ' => r = .int .u32 (crc 0 bs)) := by
  refine calls Try.func44 rfl Try.ntmps44 (Nat.le_of_ble_eq_true rfl) ?_
  refine E.seq ?_
  refine E.region ?_
  refine L.cons (O.y (Y.assign rfl) rfl rfl rfl ?_)
  refine L.nil ?_
  refine X.next ?_
  refine E.seq ?_
  refine E.region ?_
  refine L.cons (O.y (Y.move rfl) rfl rfl rfl ?_)
  refine L.cons (O.enter (Runs.fn Try.call43 rfl) rfl rfl (more_c σ 0 k v bs hv) ?_)
  rintro v1 σ1 e1 rfl
  refine L.cons (O.y (Y.assign rfl) rfl rfl rfl ?_)
  refine L.nil ?_
  refine X.next ?_
  refine E.ret ?_
  exact X.ret1 Try.results44 rfl ⟨_, σ1, rfl, rfl, e1, rfl⟩
theorem put4_bytes (σ : GW) (n : Int) (h0 : 0 ≤ n) (h : n < 4294967296) : kByte.Rs σ (put4 n) [.int .u8 (IntKind.u8.wrap (n.fdiv (2 ^ min (24 : Int).toNat IntKind.u32.bits))), .int .u8 (IntKind.u8.wrap (n.fdiv (2 ^ min (16 : Int).toNat IntKind.u32.bits))), .int .u8 (IntKind.u8.wrap (n.fdiv (2 ^ min (8 : Int).toNat IntKind.u32.bits))), .int .u8 (IntKind.u8.wrap n)] := by
  have hw : ∀ x : Int, IntKind.u8.wrap x = x % 256 := fun x => by simp [IntKind.wrap, IntKind.bits, IntKind.signed]
  have e1 : n.fdiv (2 ^ min (24 : Int).toNat IntKind.u32.bits) = n / 16777216 := by rw [Int.fdiv_eq_ediv_of_nonneg _ (by decide)]; rfl
  have e2 : n.fdiv (2 ^ min (16 : Int).toNat IntKind.u32.bits) = n / 65536 := by rw [Int.fdiv_eq_ediv_of_nonneg _ (by decide)]; rfl
  have e3 : n.fdiv (2 ^ min (8 : Int).toNat IntKind.u32.bits) = n / 256 := by rw [Int.fdiv_eq_ediv_of_nonneg _ (by decide)]; rfl
  have hb : ∀ x : Int, 0 ≤ x → x < 256 → ((UInt8.ofNat x.toNat).toNat : Int) = x := fun x h0 h1 => by rw [UInt8.toNat_ofNat']; omega
  rw [e1, e2, e3, hw, hw, hw, hw]
  refine ⟨[_], _, rfl, ?_, [_], _, rfl, ?_, [_], _, rfl, ?_, [_], _, rfl, ?_, rfl⟩
  · show [_] = [Value.int .u8 _]; rw [hb _ (by omega) (by omega), Int.emod_eq_of_lt (by omega) (by omega)]
  · show [_] = [Value.int .u8 _]; rw [hb _ (by omega) (by omega)]
  · show [_] = [Value.int .u8 _]; rw [hb _ (by omega) (by omega)]
  · show [_] = [Value.int .u8 _]; rw [hb _ (by omega) (by omega)]
theorem put_c (σ : GW) (k : Nat) (n : Int) (h0 : 0 ≤ n) (h : n < 4294967296) :
    Calls Try.prog 41 [Value.int .u32 n].toArray σ.w (Ret σ [] fun r σ' => Ow kByte σ' k 5 r (put4 n)) := by
  refine calls Try.func41 rfl Try.ntmps41 (Nat.le_of_ble_eq_true rfl) ?_
  refine E.seq ?_
  refine E.region ?_
  refine L.cons (O.y (Y.assign rfl) rfl rfl rfl ?_)
  refine L.nil ?_
  refine X.next ?_
  refine E.seq ?_
  refine E.region ?_
  refine L.cons (O.y (Y.move rfl) rfl rfl rfl ?_)
  refine L.cons (O.y (Y.shr rfl rfl (by decide)) rfl rfl rfl ?_)
  refine L.cons (O.y (Y.toInt _ Try.underlying5 ⟨_, Try.underlying77⟩ rfl rfl) rfl rfl rfl ?_)
  refine L.cons (O.y (Y.move rfl) rfl rfl rfl ?_)
  refine L.cons (O.y (Y.shr rfl rfl (by decide)) rfl rfl rfl ?_)
  refine L.cons (O.y (Y.toInt _ Try.underlying5 ⟨_, Try.underlying77⟩ rfl rfl) rfl rfl rfl ?_)
  refine L.cons (O.y (Y.move rfl) rfl rfl rfl ?_)
  refine L.cons (O.y (Y.shr rfl rfl (by decide)) rfl rfl rfl ?_)
  refine L.cons (O.y (Y.toInt _ Try.underlying5 ⟨_, Try.underlying77⟩ rfl rfl) rfl rfl rfl ?_)
  refine L.cons (O.y (Y.move rfl) rfl rfl rfl ?_)
  refine L.cons (O.y (Y.toInt _ Try.underlying5 ⟨_, Try.underlying77⟩ rfl rfl) rfl rfl rfl ?_)
  refine L.cons (O.slLit k [_, _, _, _] Try.underlying22 Try.sizeOf5 Try.zeroValue5 rfl rfl (by intro v hv; simp at hv; rcases hv with rfl | rfl | rfl | rfl <;> rfl) (by simp) rfl rfl ?_)
  intro σ1 b1 e1 hb1
  refine L.cons (O.y (Y.assign rfl) rfl rfl rfl ?_)
  refine L.nil ?_
  refine X.next ?_
  refine E.ret ?_
  exact X.ret1 Try.results41 rfl ⟨_, σ1, rfl, rfl, e1, hb1.ow (put4_bytes σ1 n h0 h) (by simp [put4])⟩
theorem or_shift (n : Int) (c : UInt8) (h0 : 0 ≤ n) (h : n < 16777216) : Stp.bits .or .u32 (IntKind.u32.wrap (n * 2 ^ min (8 : Int).toNat IntKind.u32.bits)) (IntKind.u32.wrap (c.toNat : Int)) = n * 256 + c.toNat := by
  have hw : ∀ x : Int, IntKind.u32.wrap x = x % 4294967296 := fun x => by simp [IntKind.wrap, IntKind.bits, IntKind.signed]
  have hc : c.toNat < 256 := c.toNat_lt
  obtain ⟨m, rfl⟩ := Int.eq_ofNat_of_zero_le h0
  have e1 : (m : Int) * 2 ^ min (8 : Int).toNat IntKind.u32.bits = (m : Int) * 256 := rfl
  rw [e1]
  show IntKind.u32.wrap _ = _
  have e2 : (BitVec.ofInt IntKind.u32.bits (IntKind.u32.wrap ((m : Int) * 256))).toNat = m * 256 := by
    rw [BitVec.toNat_ofInt, hw]; show (_ % (4294967296 : Int)).toNat = _; omega
  have e3 : (BitVec.ofInt IntKind.u32.bits (IntKind.u32.wrap (c.toNat : Int))).toNat = c.toNat := by
    rw [BitVec.toNat_ofInt, hw]; show (_ % (4294967296 : Int)).toNat = _; omega
  rw [BitVec.toNat_or, e2, e3, hw]
  have e4 : m * 256 ||| c.toNat = m * 256 + c.toNat := by
    have := Nat.shiftLeft_add_eq_or_of_lt (i := 8) (b := c.toNat) hc m
    rw [Nat.shiftLeft_eq] at this
    exact this.symm
  rw [e4]; omega
theorem get4_lt (l : List UInt8) : 0 ≤ get4 l ∧ get4 l < 256 ^ l.length := by
  have : ∀ (l : List UInt8) (n : Int) (k : Nat), 0 ≤ n → n < 256 ^ k → 0 ≤ l.foldl (fun n (b : UInt8) => n * 256 + (b.toNat : Int)) n ∧ l.foldl (fun n (b : UInt8) => n * 256 + (b.toNat : Int)) n < 256 ^ (k + l.length) := by
    intro l
    induction l with
    | nil => intro n k h0 h1; simpa using ⟨h0, h1⟩
    | cons b l ih =>
      intro n k h0 h1
      have hb : b.toNat < 256 := b.toNat_lt
      have e : (256 : Int) ^ (k + 1) = 256 ^ k * 256 := Int.pow_succ 256 k
      have := ih (n * 256 + b.toNat) (k + 1) (by omega) (by rw [e]; omega)
      simp only [List.foldl_cons, List.length_cons]
      rw [show k + (l.length + 1) = k + 1 + l.length by omega]
      exact this
  have h := this l 0 0 (by omega) (by decide)
  simpa [get4] using h
theorem get_c (σ : GW) (k : Nat) (v : Value) (bs : List UInt8) (hv : Bs σ k v bs) (at_ : Nat) (ha : at_ + 4 ≤ bs.length) :
    Calls Try.prog 39 [v, .int .i64 at_].toArray σ.w (Ret σ [] fun r σ' => r = .tuple #[.int .u32 (get4 ((bs.drop at_).take 4)), .int .i64 0] ∧ σ' = σ) := by
  obtain ⟨A, c, cs, rfl, hlc, hc63, hrs, hrow⟩ := id hv
  have hne : bs ≠ [] := by intro e; subst e; simp at ha
  obtain ⟨b0, o0, rfl⟩ : ∃ b o, A = some ⟨b, o, none⟩ := by
    rcases hrow with h | ⟨b, o, h, _⟩
    · exfalso
      have hl := hrs.len
      subst h
      have : kByte.sz = 1 := rfl
      rw [this] at hl
      simp at hl
      omega
    · exact ⟨b, o, h⟩
  refine calls Try.func39 rfl Try.ntmps39 (Nat.le_of_ble_eq_true rfl) ?_
  refine E.seq ?_
  refine E.region ?_
  refine L.cons (O.y (Y.assign rfl) rfl rfl rfl ?_)
  refine L.cons (O.y (Y.assign rfl) rfl rfl rfl ?_)
  refine L.nil ?_
  refine X.next ?_
  refine E.seq ?_
  refine E.block ?_
  refine E.seq ?_
  refine E.region ?_
  refine L.cons (O.y (Y.move rfl) rfl rfl rfl ?_)
  refine L.cons (O.y (Y.lss rfl rfl) rfl rfl rfl ?_)
  refine L.cons (O.y (Y.move rfl) rfl rfl rfl ?_)
  refine L.setB (b' := false) (decide_eq_false (by omega)) ?_
  refine L.cons (O.y (Y.move rfl) rfl rfl rfl ?_)
  refine L.cons (O.y (Y.move rfl) rfl rfl rfl ?_)
  refine L.cons (O.y (Y.lenSl Try.underlying22 rfl) rfl rfl rfl ?_)
  refine L.cons (O.y (Y.gtr rfl rfl) rfl rfl rfl ?_)
  refine L.cons (O.y (Y.pickF rfl rfl) rfl rfl rfl ?_)
  refine L.cons (O.y (Y.assign rfl) rfl rfl rfl ?_)
  refine L.nil ?_
  refine X.next ?_
  refine E.condFh rfl (decide_eq_false (by omega)) ?_
  refine E.seq ?_
  refine E.region ?_
  refine L.cons (O.y (Y.move rfl) rfl rfl rfl ?_)
  refine L.cons (O.y (Y.lenSl Try.underlying22 rfl) rfl rfl rfl ?_)
  refine L.cons (O.y (Y.move rfl) rfl rfl rfl ?_)
  refine L.cons (O.y (Y.sub _ rfl rfl (wrap_i64 (by omega) (by omega))) rfl rfl rfl ?_)
  refine L.cons (O.y (Y.lss rfl rfl) rfl rfl rfl ?_)
  refine L.cons (O.y (Y.assign rfl) rfl rfl rfl ?_)
  refine L.nil ?_
  refine X.next ?_
  refine E.condFh rfl (decide_eq_false (by omega)) ?_
  refine E.skip ?_
  refine X.inBlock ?_
  refine X.next ?_
  refine E.seq ?_
  refine E.region ?_
  refine L.cons (O.y (Y.assign rfl) rfl rfl rfl ?_)
  refine L.nil ?_
  refine X.next ?_
  refine E.seq ?_
  refine E.seq ?_
  refine E.region ?_
  refine L.cons (O.y (Y.move rfl) rfl rfl rfl ?_)
  refine L.cons (O.y (Y.move rfl) rfl rfl rfl ?_)
  refine L.cons (O.y (Y.move rfl) rfl rfl rfl ?_)
  refine L.cons (O.y (Y.add _ rfl rfl (wrap_i64 (by omega) (by omega))) rfl rfl rfl ?_)
  refine L.cons (O.y (Y.sliceSl at_ (at_ + 4) c Try.underlying22 Try.sizeOf5 rfl (.inr ⟨_, _, rfl, rfl⟩) (.inr ⟨_, _, rfl, rfl⟩) (.inl ⟨rfl, rfl⟩) (by omega) (by omega) (by omega)) rfl rfl rfl ?_)
  have hsub : Bs σ k (.slice (if c = at_ then some ⟨b0, o0, none⟩ else (some (⟨b0, o0, none⟩ : Addr)).map (·.add (at_ * 1))) (at_ + 4 - at_) (c - at_)) ((bs.drop at_).take 4) := by
    rw [if_neg (by omega)]
    refine ⟨some ⟨b0, o0 + at_ * 1, none⟩, c - at_, _, ?_, ?_, by omega, (hrs.drop at_).take 4, ?_⟩
    · simp [add_none]; omega
    · simp; omega
    · have := hrow.cut (at_ * 1) (4 * 1)
      exact this
  rw [show at_ + 4 - at_ = 4 by omega] at hsub ⊢
  generalize (if c = at_ then some (⟨b0, o0, none⟩ : Addr) else (some (⟨b0, o0, none⟩ : Addr)).map (·.add (at_ * 1))) = A1 at hsub ⊢
  have hl4 : ((bs.drop at_).take 4).length = 4 := by simp; omega
  generalize (bs.drop at_).take 4 = xs at hsub hl4 ⊢
  refine L.cons (O.y (Y.lenSl Try.underlying22 rfl) rfl rfl rfl ?_)
  refine L.cons (O.y (Y.move rfl) rfl rfl rfl ?_)
  refine L.nil ?_
  refine X.next ?_
  refine E.block ?_
  refine E.loop (fun (i : Nat) l τ => i ≤ 4 ∧ l = [(6, .int .u32 (get4 (xs.take i))), (28, .slice A1 4 (c - at_)), (29, .int .i64 4), (30, .int .i64 i)] ∧ τ = σ) (fun i => 4 - i) 0 _ ⟨by omega, rfl, rfl⟩ ⟨rfl, rfl, rfl, rfl, trivial⟩ ?_
  rintro i l τ ⟨hi, rfl, rfl⟩
  refine E.seq ?_
  refine E.region ?_
  refine L.cons (O.y (Y.lss rfl rfl) rfl rfl rfl ?_)
  refine L.nil ?_
  refine X.next ?_
  refine E.seq ?_
  refine E.cond rfl (fun h => ?_) (fun h => ?_)
  · skip
    simp at h
    refine E.skip ?_
    refine X.next ?_
    refine E.seq ?_
    refine E.block ?_
    refine E.seq ?_
    refine E.region ?_
    obtain ⟨c0, hc0⟩ : ∃ c0, xs[i]? = some c0 := ⟨xs[i], List.getElem?_eq_getElem (by omega)⟩
    refine L.cons (O.indexSl i c0 hsub Try.underlying22 Try.sizeOf5 (by decide) rfl rfl rfl hc0 rfl rfl ?_)
    intro b1 o1 hat
    have hcell := At.cell hat
    have hlt := get4_lt (xs.take i)
    have hor := or_shift (get4 (xs.take i)) c0 hlt.1 (by
      have h3 := hlt.2
      rcases (by omega : i = 0 ∨ i = 1 ∨ i = 2 ∨ i = 3) with rfl | rfl | rfl | rfl <;> simp [hl4] at h3 ⊢ <;> omega)
    refine L.cons (O.y (Y.load1 Try.isAgg5 rfl (by intro w hw; subst hw; first | exact Blk.cell (by assumption) rfl | assumption)) rfl rfl rfl ?_)
    refine L.cons (O.y (Y.assign rfl) rfl rfl rfl ?_)
    refine L.nil ?_
    refine X.next ?_
    refine E.region ?_
    refine L.cons (O.y (Y.move rfl) rfl rfl rfl ?_)
    refine L.cons (O.y (Y.shl rfl rfl (by decide)) rfl rfl rfl ?_)
    refine L.cons (O.y (Y.move rfl) rfl rfl rfl ?_)
    refine L.cons (O.y (Y.toInt _ Try.underlying77 ⟨_, Try.underlying5⟩ rfl rfl) rfl rfl rfl ?_)
    refine L.cons (O.y (Y.or rfl rfl) rfl rfl rfl ?_)
    refine L.cons (O.y (Y.assign rfl) rfl rfl rfl ?_)
    refine L.nil ?_
    refine X.inBlock ?_
    refine X.next ?_
    refine E.region ?_
    refine L.cons (O.y (Y.add _ rfl rfl (wrap_i64 (by omega) (by omega))) rfl rfl rfl ?_)
    refine L.cons (O.y (Y.move rfl) rfl rfl rfl ?_)
    refine L.nil ?_
    refine X.again (i + 1) _ ⟨by omega, rfl, rfl⟩ ⟨?_, rfl, rfl, rfl, trivial⟩ (by omega)
    rw [List.take_add_one, hc0]
    simp only [Option.toList_some, get4, List.foldl_append, List.foldl_cons, List.foldl_nil]
    simp only [get4] at hor
    rw [← hor]
    rfl
  · skip
    simp at h
    obtain rfl : i = 4 := by omega
    refine E.exit ?_
    refine X.thenExit ?_
    refine X.thenExit ?_
    refine X.outBlock ?_
    refine X.next ?_
    refine E.seq ?_
    refine E.region ?_
    refine L.cons (O.y (Y.move rfl) rfl rfl rfl ?_)
    refine L.cons (O.y (Y.assign rfl) rfl rfl rfl ?_)
    refine L.cons (O.y (Y.assign rfl) rfl rfl rfl ?_)
    refine L.nil ?_
    refine X.next ?_
    refine E.ret ?_
    refine X.ret2 Try.results39 rfl rfl ⟨_, τ, rfl, rfl, Ext.refl _ _, ?_, rfl⟩
    rw [List.take_of_length_le (by omega)]
end Go.Proofs.Ytjhpoahjmcoilaa