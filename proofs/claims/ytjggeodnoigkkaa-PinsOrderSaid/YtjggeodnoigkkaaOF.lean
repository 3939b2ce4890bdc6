/-
  PinsOrder: the row.
-/
import Derived.Test.YtjggeodnoigkkaaRows
import Derived.Test.YtjggeodnoigkkaaOC
import Derived.WalkKit
import Derived.ProofKit
import Derived.OpenShut
import Derived.ShutString
import Derived.ChangeOld
import Derived.Below
import Derived.SizedLaws
namespace Go.Proofs.Ytjggeodnoigkkaa.pinsOrder
open Go.ChangeShapes Go.WideShapes Go.ChangeAt Go.RowKit Go.Proofs.YtjggeodnoigkkaaM

theorem own : ownKnob Try.prog.godebug = none := by kernel_rfl
theorem laidOut : laidOutB Try.prog = true := by kernel_rfl

set_option maxRecDepth 100000 in
theorem lifted (os : Os) (started : os.Started) (H : Type) (enc : TypeId × Value → H) :
    ReturnsInHanded {} Try.checked os 4 .any (Rows.pinsOrderSpec.pre6 enc Try.prog Try.f4 Rows.pinsOrderRow.domain false) (Rows.pinsOrderSpec.post enc Try.prog Try.f4 false true false false) := by
  refine returnsInHanded_of_change_sized (C := Try.checked) own started (by kernel_rfl) Try.func4
    (ChangeSpec.witness6 (enc := enc) (C := Try.checked) false ⟨#[], #[.slice none 0 0, .slice none 0 0], []⟩ 8 (by kernel_rfl) (by kernel_rfl) (by kernel_rfl) (by kernel_rfl)) ?_
  intro W base args ds gs before hval0 hW hcnd hsz0 _
  have hval : ∀ (j : Nat) t v, Try.f4.params[j]? = some t → args[j]? = some v → Value.okWide Try.prog W .any base t v := hval0
  have hW' := hW
  obtain ⟨p, q, hA0, hV, rfl, hfz, hnd⟩ := hW
  have hA : DataW.TrodAll enc Try.prog W 0 (fun _ => true) true Try.f4.params.toList args.toList ds p := hA0
  rw [Try.params4] at hA hval
  obtain ⟨v0, vs0, d0, ds0, p0, q0, hargs, rfl, rfl, h0, r0⟩ := trodAll_cons hA
  obtain ⟨v1, vs1, d1, ds1, p1, q1, rfl, rfl, rfl, h1, r1⟩ := trodAll_cons r0
  obtain ⟨rfl, rfl, rfl⟩ := trodAll_nil r1
  obtain rfl : args = #[v0, v1] := by cases args; simp_all
  obtain ⟨rfl, rfl⟩ := trodVars_none hV
  obtain ⟨a0, len0, cap0, rfl⟩ := okWide_slice Try.underlying30 (hval 0 30 v0 rfl rfl)
  obtain ⟨a1, len1, cap1, rfl⟩ := okWide_slice Try.underlying29 (hval 1 29 v1 rfl rfl)
  have k0 := h0
  have k1 := h1
  have lt0 : ∀ x ∈ p0, x.block < W.heap.size := by obtain ⟨m, hm⟩ := k0; exact DataW.trod_lt m _ _ _ hm
  have lt1 : ∀ x ∈ p1, x.block < W.heap.size := by obtain ⟨m, hm⟩ := k1; exact DataW.trod_lt m _ _ _ hm
  obtain ⟨L, A, cap, e0, hL63, hL⟩ : ∃ L A cap, (Value.slice a0 len0 cap0) = .slice A (List.length L) cap ∧ List.length L ≤ maxLen ∧ RdI W A L := by
    obtain ⟨fuel, hf⟩ := h0
    obtain ⟨L, hk⟩ := opens_ints enc W 0 (fun _ => true) true fuel _ _ hf
    have hl : L.length ≤ maxLen := by
      obtain ⟨_, _, _, h3, h4, _⟩ := hk
      exact Nat.le_trans h3 h4
    obtain ⟨A, cap, e, h1, h2, _⟩ := KSl.ints hk
    exact ⟨L, A, cap, by simpa [Value.cells] using e, hl, h2⟩
  obtain ⟨rfl, rfl, rfl⟩ := Value.slice.inj e0
  obtain ⟨K, B, cap', e1, hK63, hK⟩ : ∃ L A cap, (Value.slice a1 len1 cap1) = .slice A (List.length L) cap ∧ List.length L ≤ maxLen ∧ RdD W A L := by
    obtain ⟨fuel, hf⟩ := h1
    obtain ⟨L, hk⟩ := opens_drops enc W 0 (fun _ => true) true fuel _ _ hf
    have hl : L.length ≤ maxLen := by
      obtain ⟨_, _, _, h3, h4, _⟩ := hk
      exact Nat.le_trans h3 h4
    obtain ⟨A, cap, e, h1, h2⟩ := KSl.drops hk
    exact ⟨L, A, cap, by simpa [Value.cells] using e, hl, h2⟩
  obtain ⟨rfl, rfl, rfl⟩ := Value.slice.inj e1
  clear hA0 hval0 hsz0
  refine (order_walk _ _ L _ _ K W hL hK hL63 hK63).mono fun e W' ⟨he, bel⟩ => ?_
  subst he
  exact ⟨_, rfl, _, _, _, [], _, [], hW', trodAll_mk1 (shut_bool Try.underlying4 _), (trodAll_cons_mk (Below.trod laidOut (by kernel_rfl) (of_decide_eq_true (by kernel_rfl)) k0 bel lt0) (trodAll_cons_mk (Below.trod laidOut (by kernel_rfl) (of_decide_eq_true (by kernel_rfl)) k1 bel lt1) trodAll_mk0)), rfl, bel.frame _, fun h => by cases h⟩

theorem over : Rows.pinsOrderRow.holds Try.pinned (OpenSpec.ofChange Rows.pinsOrderSpec) :=
  OpenClaim.holds_of_wide 4 Try.f4 rfl rfl rfl rfl rfl rfl rfl ⟨rfl, rfl, rfl, rfl, rfl⟩ rfl rfl rfl rfl rfl (by kernel_rfl) Try.func4 (by kernel_rfl)
    (of_decide_eq_true (by kernel_rfl)) (by unfold Func.isWrapper; first | (rw [if_pos (by decide +kernel)]; kernel_rfl) | (rw [if_neg (by decide +kernel)]; exact ⟨rfl, rfl⟩))
    (fun os started H enc _ => lifted os started H enc)
theorem proved : Rows.PinsOrderSaid := over
#print axioms proved
end Go.Proofs.Ytjggeodnoigkkaa.pinsOrder
namespace Go.Proofs.Ytjggeodnoigkkaa
/-- The row, under a short name, for the claim. -/
theorem pinsOrder_holds : Rows.PinsOrderSaid := pinsOrder.proved
end Go.Proofs.Ytjggeodnoigkkaa
