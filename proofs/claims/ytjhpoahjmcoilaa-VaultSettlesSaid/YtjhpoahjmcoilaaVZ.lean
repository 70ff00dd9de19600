/- A vault with what it did, and walk of the statement VaultPlays. -/
import Derived.Test.YtjhpoahjmcoilaaTab
import Derived.Test.YtjhpoahjmcoilaaVY
set_option linter.unusedSimpArgs false
set_option linter.unusedVariables false
namespace Go.Proofs.Ytjhpoahjmcoilaa
open Go.Stp
theorem Calls.ext {P : Program} {f : FuncId} {vs : Array Value} {σ : GW} {cs ds : List Nat} {R R' : Value → GW → Prop} (h : Calls P f vs σ.w (Ret σ cs R)) (hd : ∀ k, k ∈ cs → k ∈ ds) (hR : ∀ v σ', Ext σ σ' cs → R v σ' → R' v σ') :
    Calls P f vs σ.w (Ret σ ds R') := h.mono fun e w' ⟨v, σ', he, hw, hE, hr⟩ => ⟨v, σ', he, hw, hE.mono hd, hR v σ' hE hr⟩
/-- A vault over the disk at p that did the commands done: the first sure of them are sure, the first base of them in the checkpoint; c: what it counts; j: no fewer calls of its tape. -/
def Vt (σ : GW) (N p tp vp : Nat) (done : List (List UInt8)) (sure base c j : Nat) : Prop :=
  ∃ d m, Disk σ N p d ∧ d.room = 4194304 ∧ VInv d done sure base ∧ VT σ N p tp vp (marks done) m c ∧ m ≤ j ∧ c ≤ j ∧ j ≤ 1000 ∧ done.length ≤ 100 ∧ (marks done).length ≤ 10000
theorem Vt.ext {σ σ' : GW} {N p tp vp : Nat} {done : List (List UInt8)} {sure base c j : Nat} {ds : List Nat} (h : Vt σ N p tp vp done sure base c j) (e : Ext σ σ' ds)
    (h0 : 0 ∉ ds) (h1 : N ∉ ds) (h2 : N + 1 ∉ ds) (h3 : N + 2 ∉ ds) (h4 : N + 3 ∉ ds) (h5 : N + 4 ∉ ds) : Vt σ' N p tp vp done sure base c j := by
  obtain ⟨d, m, hd, hr, hI, hv, hm⟩ := h
  exact ⟨d, m, hd.ext e h0 h1 h2 h3, hr, hI, hv.ext e h4 h5, hm⟩
theorem Vt.nums {σ : GW} {N p tp vp : Nat} {done : List (List UInt8)} {sure base c j : Nat} (h : Vt σ N p tp vp done sure base c j) : sure ≤ done.length ∧ base ≤ sure ∧ c ≤ j ∧ j ≤ 1000 ∧ done.length ≤ 100 ∧ (marks done).length ≤ 10000 := by
  obtain ⟨d, m, hd, hr, hI, hv, hm⟩ := h
  exact ⟨hI.hs, hI.hb, hm.2⟩
theorem marks_mem {l : List (List UInt8)} {c : List UInt8} (h : c ∈ l) : c.length < (marks l).length := by
  obtain ⟨i, hi⟩ := List.mem_iff_getElem?.1 h
  have h1 := congrArg List.length (marks_take l i c hi)
  have h2 := marks_le l (i + 1)
  simp only [List.length_append, List.length_singleton] at h1
  omega
/-- A disk that crashed: it holds the commands done, base of them in the checkpoint. -/
def Dk (σ : GW) (N p : Nat) (done : List (List UInt8)) (base : Nat) : Prop :=
  ∃ d, Disk σ N p d ∧ d.room = 4194304 ∧ d.on = false ∧ d.Small ∧ d.state.length ≤ 20000 ∧ (d.state ≠ [] → d.state.head? = some 61) ∧ scan d.log = (done.drop base, ((done.drop base).map frame).flatten.length) ∧ VInv d.start done done.length base
    ∧ done.length ≤ 100 ∧ (marks done).length ≤ 10000
theorem Dk.ext {σ σ' : GW} {N p : Nat} {done : List (List UInt8)} {base : Nat} {ds : List Nat} (h : Dk σ N p done base) (e : Ext σ σ' ds) (h0 : 0 ∉ ds) (h1 : N ∉ ds) (h2 : N + 1 ∉ ds) (h3 : N + 2 ∉ ds) : Dk σ' N p done base := by
  obtain ⟨d, hd, h⟩ := h
  exact ⟨d, hd.ext e h0 h1 h2 h3, h⟩
theorem Vt.up {σ : GW} {N p tp vp : Nat} {done : List (List UInt8)} {sure base c j j' : Nat} (h : Vt σ N p tp vp done sure base c j) (hj : j ≤ j' ∧ j' ≤ 1000) : Vt σ N p tp vp done sure base c j' := by
  obtain ⟨d, m, hd, hr, hI, hv, hm1, hmc, hm2, hm3, hm4⟩ := h
  exact ⟨d, m, hd, hr, hI, hv, by omega, by omega, by omega, hm3, hm4⟩
theorem vt_do (σ : GW) (N p tp vp : Nat) (done : List (List UInt8)) (sure base c j : Nat) (h : Vt σ N p tp vp done sure base c j) (x : List UInt8) (hj : j < 1000) (hl : done.length < 100) (hm : (marks done).length + x.length < 10000) :
    Calls Try.prog 17 [.pointer (some ⟨vp, 0, none⟩), str x].toArray σ.w (Ret σ [N, N + 2, N + 3, N + 4] fun r σ' =>
      r = .tuple #[str (digs (marks done).length []), .int .i64 0] ∧ Vt σ' N p tp vp (done ++ [x]) sure base (c + 1) (j + 1)) := by
  obtain ⟨d, m, hd, hr, hI, hv, hm1, hmc, hm2, hm3, hm4⟩ := h
  have hu := hI.used
  have h1 := hI.hs
  have h2 := hI.hb
  refine Calls.ext (vdo_c σ N p tp vp (marks done) x m c d hv hd hI.on (hI.small (by omega) (by omega) (by omega)) (by omega) (by omega) (by omega) (by omega)) (fun k hk => hk) fun v σ' e hR => ?_
  rw [if_neg (by omega)] at hR
  obtain ⟨rfl, hd', hv'⟩ := hR
  rw [← marks_snoc] at hv'
  have hms := congrArg List.length (marks_snoc done x)
  simp only [List.length_append, List.length_singleton] at hms
  exact ⟨rfl, _, _, hd', hr, hI.do x, hv', by omega, by omega, by omega, by simp; omega, by omega⟩
theorem vt_sync (σ : GW) (N p tp vp : Nat) (done : List (List UInt8)) (sure base c j : Nat) (h : Vt σ N p tp vp done sure base c j) :
    Calls Try.prog 19 [.pointer (some ⟨vp, 0, none⟩)].toArray σ.w (Ret σ [N, N + 1] fun r σ' => r = .int .i64 0 ∧ Vt σ' N p tp vp done done.length base c j) := by
  obtain ⟨d, m, hd, hr, hI, hv, hm1, hmc, hm2, hm3, hm4⟩ := h
  refine Calls.ext (vsync_c σ N p tp vp (marks done) m c d hv hd hI.on (hI.small (by omega) (by omega) (by omega))) (fun k hk => hk) fun v σ' e hR => ?_
  obtain ⟨rfl, hd', hv'⟩ := hR
  exact ⟨rfl, _, _, hd', hr, hI.sync, hv', hm1, hmc, hm2, hm3, hm4⟩
theorem vt_settle (σ : GW) (N p tp vp : Nat) (done : List (List UInt8)) (sure base c j : Nat) (h : Vt σ N p tp vp done sure base c j) :
    Calls Try.prog 18 [.pointer (some ⟨vp, 0, none⟩)].toArray σ.w (Ret σ [N, N + 1, N + 4] fun r σ' => r = .int .i64 0 ∧ Vt σ' N p tp vp done done.length done.length c j) := by
  obtain ⟨d, m, hd, hr, hI, hv, hm1, hmc, hm2, hm3, hm4⟩ := h
  obtain ⟨la, lb, lc⟩ := hI.lens
  refine Calls.ext (settle_c σ N p tp vp (marks done) m c d hv hd hI.on (hI.small (by omega) (by omega) (by omega)) (by omega) (by omega)) (fun k hk => by simp at hk ⊢; omega) fun v σ' e hR => ?_
  obtain ⟨hv', hR⟩ := hR
  rw [if_neg (by omega)] at hR
  obtain ⟨rfl, hd'⟩ := hR
  exact ⟨rfl, _, _, hd', hr, hI.settle, hv', hm1, hmc, hm2, hm3, hm4⟩
theorem vt_count (σ : GW) (N p tp vp : Nat) (done : List (List UInt8)) (sure base c j : Nat) (h : Vt σ N p tp vp done sure base c j) :
    Calls Try.prog 14 [.pointer (some ⟨vp, 0, none⟩)].toArray σ.w (Ret σ [] fun r σ' => r = .int .i64 c ∧ σ' = σ) := by
  obtain ⟨d, m, hd, hr, hI, hv, hm1, hmc, hm2, hm3, hm4⟩ := h
  exact count_c σ N p tp vp _ _ _ hv
theorem vt_sure (σ : GW) (N p tp vp : Nat) (done : List (List UInt8)) (sure base c j : Nat) (h : Vt σ N p tp vp done sure base c j) :
    Calls Try.prog 22 [.pointer (some ⟨vp, 0, none⟩)].toArray σ.w (Ret σ [] fun r σ' => r = .bool (decide (sure = done.length)) ∧ σ' = σ) := by
  obtain ⟨d, m, hd, hr, hI, hv, hm1, hmc, hm2, hm3, hm4⟩ := h
  refine Calls.ext (sure_c σ N p tp vp _ _ _ d hv hd) (fun k hk => hk) fun v σ' e hR => ?_
  obtain ⟨rfl, rfl⟩ := hR
  have h1 := hI.hs
  refine ⟨?_, rfl⟩
  congr 1
  rw [hI.waits]
  simp only [List.length_map, List.length_drop]
  exact decide_eq_decide.2 (by omega)
theorem vt_crash (σ : GW) (N p tp vp : Nat) (done : List (List UInt8)) (sure base c j : Nat) (h : Vt σ N p tp vp done sure base c j) (M U : Int) (kept : Nat) (hk : kept = sure + min M.toNat (done.length - sure)) :
    Calls Try.prog 12 [.pointer (some ⟨p, 0, none⟩), .int .i64 M, .int .i64 U].toArray σ.w (Ret σ [N, N + 1] fun r σ' => r = .tuple #[] ∧ Dk σ' N p (done.take kept) base) := by
  obtain ⟨d, m, hd, hr, hI, hv, hm1, hmc, hm2, hm3, hm4⟩ := h
  have h1 := hI.hs
  have h2 := hI.hb
  obtain ⟨la, lb, lc⟩ := hI.lens
  have hc := hI.crash (fun c hc => by have := marks_mem hc; omega) M U kept hk
  obtain ⟨hsc, hI'⟩ := hc
  refine Calls.ext (crash_c σ N p d hd hI.on (hI.small (by omega) (by omega) (by omega)) (fun b hb => ?_) M U) (fun k hk => hk) fun v σ' e hR => ?_
  · rw [hI.waits] at hb
    obtain ⟨x, _, rfl⟩ := List.mem_map.1 hb
    intro h0
    have := congrArg List.length h0
    rw [frame_length] at this
    simp at this
  · obtain ⟨rfl, hd'⟩ := hR
    have hml : (marks (done.take kept)).length ≤ (marks done).length := marks_le done kept
    have hkl : (done.take kept).length = kept := by simp; omega
    refine ⟨rfl, _, hd', hr, rfl, ⟨by show d.room ≤ _; omega, by show d.state.length ≤ _; omega, ?_, by show (0 : Nat) ≤ _; omega, by show (0 : Nat) ≤ _; omega⟩, by show d.state.length ≤ _; omega, hI.head, hsc, ?_, by omega, by omega⟩
    · have hkp : (d.waits.take (d.kept M)).flatten.length ≤ d.waits.flatten.length := by
        have := congrArg List.length (congrArg List.flatten (List.take_append_drop (d.kept M) d.waits))
        simp only [List.flatten_append, List.length_append] at this
        omega
      have htn : (d.torn M U).length ≤ d.waits.flatten.length := by
        unfold DSt.torn
        cases hx : d.waits[d.kept M]? with
        | none => simp
        | some b =>
          have h3 := flatten_at_le hx
          have h4 := List.length_take_le' (min U.toNat (b.length - 1)) b
          exact Nat.le_trans h4 (by omega)
      show (d.log ++ (d.waits.take (d.kept M)).flatten ++ d.torn M U).length ≤ _
      simp only [List.length_append]
      omega
    · rw [hkl]; exact hI'
theorem dk_open (σ : GW) (N p : Nat) (done : List (List UInt8)) (base : Nat) (h : Dk σ N p done base) :
    Calls Try.prog 16 [.pointer (some ⟨p, 0, none⟩)].toArray σ.w (Ret σ [N, N + 3, N + 4] fun r σ' => ∃ vp tp, r = .tuple #[.pointer (some ⟨vp, 0, none⟩), .pointer (some ⟨tp, 0, none⟩)] ∧
      Vt σ' N p tp vp done done.length base (done.length - base) done.length) := by
  obtain ⟨d, hd, hr, hon, hsm, hst, hhd, hsc, hI, hl, hm⟩ := h
  have hdl := marks_drop_le done base
  refine Calls.ext (opened_c σ N p d hd hon hsm hhd (by rw [hsc]; simp only; omega) (by rw [hsc]; simp; omega)) (fun k hk => hk) fun v σ' e hR => ?_
  obtain ⟨vp, tp, n, rfl, hd', hv, rfl⟩ := hR
  have ht := hI.text
  rw [show d.start.state = d.state from rfl] at ht
  rw [hsc] at hv
  simp only [ht, List.length_drop] at hv
  exact ⟨vp, tp, rfl, d.start, _, hd', hr, hI, hv, by omega, by omega, by omega, hl, hm⟩
theorem Dk.new {σ : GW} {N p : Nat} (hd : Disk σ N p ⟨4194304, false, [], [], []⟩) : Dk σ N p [] 0 :=
  ⟨_, hd, rfl, rfl, small0 _ (by omega) _, by simp, by simp, by simp [scan_nil], by rw [start0]; exact VInv.new _, by simp, by simp [marks]⟩
theorem vt_tape {σ : GW} {N p tp vp : Nat} {done : List (List UInt8)} {sure base c j : Nat} (h : Vt σ N p tp vp done sure base c j) : σ.w.cell? ⟨tp, 0, none⟩ = some (str (marks done)) := by
  obtain ⟨d, m, hd, hr, hI, hv, hm1, hmc, hm2, hm3, hm4⟩ := h
  have ht : Blk σ (N + 3) tp _ 37 := hv.1
  exact ht.cell rfl
theorem actAt {σ : GW} {k : Nat} {A : Option Addr} {len c : Nat} {xs : List Act} (h : Sl kAct σ k (.slice A len c) xs) {j : Nat} {x : Act} (hx : xs[j]? = some x) :
    ∃ b o, A = some ⟨b, o, none⟩ ∧ At kAct σ b (o + j * 4) x := Sl.addr h hx (by decide)
theorem actCell {σ : GW} {k b o : Nat} {len c : Nat} {xs : List Act} (h : Sl kAct σ k (.slice (some ⟨b, o, none⟩) len c) xs) {j : Nat} {x : Act} (hx : xs[j]? = some x) : At kAct σ b (o + j * 4) x := by
  obtain ⟨b', o', he, h⟩ := actAt h hx
  injection he with he
  injection he with h1 h2
  subst h1; subst h2
  exact h
end Go.Proofs.Ytjhpoahjmcoilaa
