/-
  VaultSettles returns true whatever it is given, and writes nothing that was there before the call. No condition.
-/
import Derived.Test.YtjhpoahjmcoilaaRows
import Derived.Test.YtjhpoahjmcoilaaRd2
import Derived.Test.YtjhpoahjmcoilaaV2
import Derived.ProofKit
import Derived.OpenShut
import Derived.ShutString
import Derived.ChangeOld
set_option linter.unusedVariables false
namespace Go.Proofs.Ytjhpoahjmcoilaa.PSettles
open Go.ChangeShapes Go.WideShapes Go.ChangeAt Go.RowKit
open Go.ChangeMaps (open_string shut_string)
open Go.Stp
theorem own : ownKnob Try.prog.godebug = none := by kernel_rfl
theorem laidOut : laidOutB Try.prog = true := by kernel_rfl
set_option maxRecDepth 100000 in
theorem lifted (os : Os) (started : os.Started) (H : Type) (enc : TypeId × Value → H) :
    ReturnsInHanded {} Try.checked os 4 .any (Rows.vaultSettlesSpec.pre6 enc Try.prog Try.f4 Rows.vaultSettlesRow.domain false) (Rows.vaultSettlesSpec.post enc Try.prog Try.f4 false true false false) := by
  refine returnsInHanded_of_change (C := Try.checked) own started (by kernel_rfl) Try.func4
    (ChangeSpec.witness6 (enc := enc) (C := Try.checked) false ⟨#[], #[.slice none 0 0], []⟩ 8 (by kernel_rfl) (by kernel_rfl) (by kernel_rfl) (by kernel_rfl)) ?_
  intro W base args ds gs before hval0 hW hcnd _
  have hval : ∀ (j : Nat) t v, Try.f4.params[j]? = some t → args[j]? = some v → Value.okWide Try.prog W .any base t v := hval0
  have hW' := hW
  obtain ⟨p, q, hA0, hV, rfl, hfz, hnd⟩ := hW
  have hA : DataW.TrodAll enc Try.prog W 0 (fun _ => true) true Try.f4.params.toList args.toList ds p := hA0
  rw [Try.params4] at hA hval
  obtain ⟨v0, vs0, d0, ds0, p0, q0, hargs, rfl, rfl, h0, r0⟩ := trodAll_cons hA
  obtain ⟨rfl, rfl, rfl⟩ := trodAll_nil r0
  obtain rfl : args = #[v0] := by cases args; simp_all
  obtain ⟨rfl, rfl⟩ := trodVars_none hV
  obtain ⟨ad0, len0, cap0, rfl⟩ := okWide_slice Try.underlying41 (hval 0 41 v0 rfl rfl)
  have k0 := h0
  have lt0 : ∀ x ∈ p0, x.block < W.heap.size := by obtain ⟨m, hm⟩ := k0; exact DataW.trod_lt m _ _ _ hm
  obtain ⟨fuel0, hf0⟩ := h0
  obtain ⟨a0, ⟨vv0, hv0, h0⟩, q0, z0⟩ := Rd.slice Try.underlying41 (by kernel_rfl) (by decide) (Rd.iso (fun a : Act => (a.kind, a.cmd, a.m, a.n)) (fun x => (⟨x.1, x.2.1, x.2.2.1, x.2.2.2⟩ : Act)) (fun _ => rfl) (Rd.struct Try.underlying46 (by kernel_rfl) (RdF.cons rfl (by kernel_rfl) (Rd.int Try.underlying3) (RdF.cons rfl (by kernel_rfl) (Rd.str Try.underlying9) (RdF.cons rfl (by kernel_rfl) (Rd.int Try.underlying3) (RdF.last rfl (by kernel_rfl) (Rd.int Try.underlying3))))))) _ _ _ hf0
  simp only [Value.cells] at hv0
  obtain rfl := (List.cons.inj hv0).1
  clear hA0 hval0
  refine (vaultSettles_c (GW.old W) _ a0 h0).mono fun e W' ⟨r, σ', he, hw, hE, hr⟩ => ?_
  subst hw; subst hr; subst he
  have bel := below_of_ext hE
  exact ⟨_, rfl, _, _, _, [], _, [], hW', trodAll_mk1 (shut_bool Try.underlying4 _), (trodAll_cons_mk (Below.trod laidOut (by kernel_rfl) (of_decide_eq_true (by kernel_rfl)) k0 bel lt0) trodAll_mk0), rfl, bel.frame _, fun h => by cases h⟩
theorem over : Rows.vaultSettlesRow.holds Try.pinned (OpenSpec.ofChange Rows.vaultSettlesSpec) :=
  OpenClaim.holds_of_wide 4 Try.f4 rfl rfl rfl rfl rfl rfl rfl ⟨rfl, rfl, rfl, rfl, rfl⟩ rfl rfl rfl rfl rfl (by kernel_rfl) Try.func4 (by kernel_rfl)
    (of_decide_eq_true (by kernel_rfl)) (by unfold Func.isWrapper; first | (rw [if_pos (by decide +kernel)]; kernel_rfl) | (rw [if_neg (by decide +kernel)]; exact ⟨rfl, rfl⟩))
    (fun os started H enc _ => lifted os started H enc)
theorem proved : Rows.VaultSettlesSaid := over
end Go.Proofs.Ytjhpoahjmcoilaa.PSettles
