/-
  PinsBack: the row.
-/
import Derived.Test.YtjggeodnoigkkaaRows
import Derived.Test.YtjggeodnoigkkaaCK
import Derived.WalkKit
import Derived.ProofKit
import Derived.OpenShut
import Derived.ShutString
import Derived.ChangeOld
import Derived.Below
import Derived.SizedLaws
namespace Go.Proofs.Ytjggeodnoigkkaa.pinsBack
open Go.ChangeMaps (open_string shut_string)
open Go.ChangeShapes Go.WideShapes Go.ChangeAt Go.RowKit Go.Proofs.YtjggeodnoigkkaaM

theorem own : ownKnob Try.prog.godebug = none := by kernel_rfl
theorem laidOut : laidOutB Try.prog = true := by kernel_rfl

set_option maxRecDepth 100000 in
theorem lifted (os : Os) (started : os.Started) (H : Type) (enc : TypeId × Value → H) :
    ReturnsInHanded {} Try.checked os 8 .any (Rows.pinsBackSpec.pre6 enc Try.prog Try.f8 Rows.pinsBackRow.domain false) (Rows.pinsBackSpec.post enc Try.prog Try.f8 false true false false) := by
  refine returnsInHanded_of_change_sized (C := Try.checked) own started (by kernel_rfl) Try.func8
    (ChangeSpec.witness6 (enc := enc) (C := Try.checked) false ⟨#[], #[.slice none 0 0, .string ⟨#[]⟩], []⟩ 8 (by kernel_rfl) (by kernel_rfl) (by kernel_rfl) (by kernel_rfl)) ?_
  intro W base args ds gs before hval0 hW hcnd hsz0 _
  have hval : ∀ (j : Nat) t v, Try.f8.params[j]? = some t → args[j]? = some v → Value.okWide Try.prog W .any base t v := hval0
  have hW' := hW
  obtain ⟨p, q, hA0, hV, rfl, hfz, hnd⟩ := hW
  have hA : DataW.TrodAll enc Try.prog W 0 (fun _ => true) true Try.f8.params.toList args.toList ds p := hA0
  rw [Try.params8] at hA hval
  obtain ⟨v0, vs0, d0, ds0, p0, q0, hargs, rfl, rfl, h0, r0⟩ := trodAll_cons hA
  obtain ⟨v1, vs1, d1, ds1, p1, q1, rfl, rfl, rfl, h1, r1⟩ := trodAll_cons r0
  obtain ⟨rfl, rfl, rfl⟩ := trodAll_nil r1
  obtain rfl : args = #[v0, v1] := by cases args; simp_all
  obtain ⟨rfl, rfl⟩ := trodVars_none hV
  obtain ⟨a0, len0, cap0, rfl⟩ := okWide_slice Try.underlying22 (hval 0 22 v0 rfl rfl)
  have k0 := h0
  have lt0 : ∀ x ∈ p0, x.block < W.heap.size := by obtain ⟨m, hm⟩ := k0; exact DataW.trod_lt m _ _ _ hm
  obtain ⟨L, A, cap, e0, hL63, hL⟩ : ∃ L A cap, (Value.slice a0 len0 cap0) = .slice A (List.length L) cap ∧ List.length L ≤ maxLen ∧ RdOps W A L := by
    obtain ⟨fuel, hf⟩ := h0
    obtain ⟨L, hk⟩ := opens_ops enc W 0 (fun _ => true) true fuel _ _ hf
    obtain ⟨A, cap, e, h1, h2⟩ := ops_of hk
    exact ⟨L, A, cap, by simpa [Value.cells] using e, h1, h2⟩
  obtain ⟨rfl, rfl, rfl⟩ := Value.slice.inj e0
  obtain ⟨z, rfl, rfl, rfl, ws⟩ := open_string Try.underlying9 (hval 1 9 v1 rfl rfl) h1
  obtain ⟨t, rfl⟩ : ∃ t : Bs, z = ⟨t.toArray⟩ := ⟨z.data.toList, by simp⟩
  clear hA0 hval0 hsz0
  refine (back_walk _ _ L t W hL hL63 ws).mono fun e W' ⟨he, bel⟩ => ?_
  subst he
  exact ⟨_, rfl, _, _, _, [], _, [], hW', trodAll_mk1 (shut_bool Try.underlying4 _), (trodAll_cons_mk (Below.trod laidOut (by kernel_rfl) (of_decide_eq_true (by kernel_rfl)) k0 bel lt0) (trodAll_cons_mk (shut_string Try.underlying9 ws) trodAll_mk0)), rfl, bel.frame _, fun h => by cases h⟩

theorem over : Rows.pinsBackRow.holds Try.pinned (OpenSpec.ofChange Rows.pinsBackSpec) :=
  OpenClaim.holds_of_wide 8 Try.f8 rfl rfl rfl rfl rfl rfl rfl ⟨rfl, rfl, rfl, rfl, rfl⟩ rfl rfl rfl rfl rfl (by kernel_rfl) Try.func8 (by kernel_rfl)
    (of_decide_eq_true (by kernel_rfl)) (by unfold Func.isWrapper; first | (rw [if_pos (by decide +kernel)]; kernel_rfl) | (rw [if_neg (by decide +kernel)]; exact ⟨rfl, rfl⟩))
    (fun os started H enc _ => lifted os started H enc)
theorem proved : Rows.PinsBackSaid := over
#print axioms proved
end Go.Proofs.Ytjggeodnoigkkaa.pinsBack
namespace Go.Proofs.Ytjggeodnoigkkaa
/-- The row, under a short name, for the claim. -/
theorem pinsBack_holds : Rows.PinsBackSaid := pinsBack.proved
end Go.Proofs.Ytjggeodnoigkkaa
