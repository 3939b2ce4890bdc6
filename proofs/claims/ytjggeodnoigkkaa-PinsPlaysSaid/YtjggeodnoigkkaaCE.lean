/-
  Pins out of bytes: the region that takes a drop in (printed by wip/tools/gendrop.py).
-/
import Derived.Test.YtjggeodnoigkkaaCC
import Derived.Test.YtjggeodnoigkkaaMem2
import Derived.Test.YtjggeodnoigkkaaFlow3
namespace Go.Proofs.Ytjggeodnoigkkaa
open Go.RowKit Go.Maps Go.Shelf Go.Proofs.YtjggeodnoigkkaaM

noncomputable def codetake : Code := ((Try.f58.body.bind (theRegion 7)).getD .skip)

set_option linter.unusedVariables false in
def Jtake (w0 : World) (p bd g : Nat) (D : DM) (x : Int × Int) (v0 st : Value) (L : Nat → Bool) (W : World) : Prop := w0.grownBy W (some bd) ∧ (bif L 14 then DMap W bd (putM D x.1 x.2) else bif L 12 then MidIs W Try.prog 3 intC bd D x.1 st else W.heap[bd]? = w0.heap[bd]?)
set_option linter.unusedVariables false in
def Rtake (w0 : World) (p bd g : Nat) (D : DM) (x : Int × Int) (v0 st : Value) (j : Nat) (v : Value) (_w : World) : Prop :=
  v = [.pointer (some ⟨p, 0, none⟩), .pointer (some ⟨p, 0, none⟩), .pointer (some ⟨p, 1, none⟩), .pointer (some ⟨p, 1, none⟩), .pointer (some ⟨p, 1, none⟩), .map (some bd), .pointer (some ⟨g, 0, none⟩), .int .i64 x.1, .pointer (some ⟨g, 1, none⟩), .int .i64 x.2, .pointer (some ⟨g, 0, none⟩), .int .i64 x.1, .tuple #[v0, st], st, undef, .int .i64 x.1].getD j undef
set_option maxRecDepth 1000000 in
set_option maxHeartbeats 4000000 in
theorem take (Q : Exit → Act → World → Prop) (w0 : World) (p bd g : Nat) (D : DM) (x : Int × Int) (v0 st : Value) (w : World)
    (HE : ∀ W : World, W.heap[bd]? = w0.heap[bd]? → ∃ W', (Instr.mapEntry 74 (.map (some bd)) (.int .i64 x.1)).run Try.prog W = .ok (.tuple #[v0, st]) W' ∧ MidIs W' Try.prog 3 intC bd D x.1 st ∧ W.mapTurned W' bd)
    (hp1 : w0.cell? ⟨p, 1, none⟩ = some (.map (some bd)))
    (hg0 : w0.cell? ⟨g, 0, none⟩ = some (.int .i64 x.1))
    (hg1 : w0.cell? ⟨g, 1, none⟩ = some (.int .i64 x.2))
    (hpd : some p ≠ some bd)
    (hgd : some g ≠ some bd)
    (hj0 : Jtake w0 p bd g D x v0 st (fun _ => false) w.drew) (t0 t2 t3 t4 t5 t6 t7 t8 t10 t11 t12 t13 t14 t15 t16 t17 t18 t19 t20 t21 t22 t23 t24 t25 t26 t27 t28 t29 t30 t31 t32 t33 t34 t35 t36 t37 t38 t39 t40 t41 t42 t43 t44 t45 t46 t47 t48 t49 t50 t51 t52 t53 t54 t55 t56 t57 t58 t59 t60 t61 t62 : Value) (hK : ∀ (w' : World) (s44 s45 s46 s47 s48 s49 s50 s51 s52 s53 s54 s55 s56 s57 : Value), Jtake w0 p bd g D x v0 st (fun _ => true) w' → Q .normal ⟨#[t0, .pointer (some ⟨p, 0, none⟩), t2, t3, t4, t5, t6, .int .i64 x.1, t8, .pointer (some ⟨g, 0, none⟩), t10, t11, t12, t13, t14, t15, t16, t17, t18, t19, t20, t21, t22, t23, t24, t25, t26, t27, t28, t29, t30, t31, t32, t33, t34, t35, t36, t37, t38, t39, t40, t41, t42, t43, s44, s45, s46, s47, s48, s49, s50, s51, s52, s53, s54, s55, s56, s57, t58, t59, t60, t61, t62], []⟩ w') :
    Code.wp Try.prog codetake Q ⟨#[t0, .pointer (some ⟨p, 0, none⟩), t2, t3, t4, t5, t6, t7, t8, .pointer (some ⟨g, 0, none⟩), t10, t11, t12, t13, t14, t15, t16, t17, t18, t19, t20, t21, t22, t23, t24, t25, t26, t27, t28, t29, t30, t31, t32, t33, t34, t35, t36, t37, t38, t39, t40, t41, t42, t43, t44, t45, t46, t47, t48, t49, t50, t51, t52, t53, t54, t55, t56, t57, t58, t59, t60, t61, t62], []⟩ w := by
  replace HE := Lib.hid HE
  have HK := Lib.hid hK
  clear hK
  conv => arg 2; whnf
  refine wp_flow3 (P := Try.prog) (by kernel_rfl) (by kernel_rfl) (Jtake w0 p bd g D x v0 st) (Rtake w0 p bd g D x v0 st) (fun _ _ => True) hj0 (fun _ _ _ _ _ h => h) ?_ ?_
  · refine ⟨?_, ?_, ?_, ?_, ?_, ?_, ?_, ?_, ?_, ?_, ?_, ?_, ?_, ?_, ?_, ?_, trivial⟩
    · intro L a w1 hJ hA hU hT hD K hK
      refine duty_plain rfl ?_
      have h1 : a.tmps[1]?.getD undef = .pointer (some ⟨p, 0, none⟩) := eval_get (hA.at_ 1 (by kernel_rfl))
      refine wp_value (v := .pointer (some ⟨p, 0, none⟩)) (w' := w1) ?_ (hK _ _ hJ trivial rfl)
      clear hK hD hA hJ hU hT
      go_simp
    · intro L a w1 hJ hA hU hT hD K hK
      refine duty_plain rfl ?_
      have h44 : a.tmps[44]?.getD undef = .pointer (some ⟨p, 0, none⟩) := eval_get (given_at hD 0 rfl rfl rfl)
      refine wp_value (v := .pointer (some ⟨p, 0, none⟩)) (w' := w1) ?_ (hK _ _ hJ trivial rfl)
      clear hK hD hA hJ hU hT
      go_simp
    · intro L a w1 hJ hA hU hT hD K hK
      refine duty_plain rfl ?_
      have h45 : a.tmps[45]?.getD undef = .pointer (some ⟨p, 0, none⟩) := eval_get (given_at hD 1 rfl rfl rfl)
      refine wp_value (v := .pointer (some ⟨p, 1, none⟩)) (w' := w1) ?_ (hK _ _ hJ trivial rfl)
      clear hK hD hA hJ hU hT
      go_simp
    · intro L a w1 hJ hA hU hT hD K hK
      refine duty_plain rfl ?_
      have h46 : a.tmps[46]?.getD undef = .pointer (some ⟨p, 1, none⟩) := eval_get (given_at hD 2 rfl rfl rfl)
      refine wp_value (v := .pointer (some ⟨p, 1, none⟩)) (w' := w1) ?_ (hK _ _ hJ trivial rfl)
      clear hK hD hA hJ hU hT
      go_simp
    · intro L a w1 hJ hA hU hT hD K hK
      refine duty_plain rfl ?_
      have h47 : a.tmps[47]?.getD undef = .pointer (some ⟨p, 1, none⟩) := eval_get (given_at hD 3 rfl rfl rfl)
      refine wp_value (v := .pointer (some ⟨p, 1, none⟩)) (w' := w1) ?_ (hK _ _ hJ trivial rfl)
      clear hK hD hA hJ hU hT
      go_simp
    · intro L a w1 hJ hA hU hT hD K hK
      refine duty_plain rfl ?_
      have h48 : a.tmps[48]?.getD undef = .pointer (some ⟨p, 1, none⟩) := eval_get (given_at hD 4 rfl rfl rfl)
      have hc := hJ.1.cell hp1 hpd
      refine wp_value (v := .map (some bd)) (w' := w1) ?_ (hK _ _ hJ trivial rfl)
      clear hK hD hA hJ hU hT
      go_simp
    · intro L a w1 hJ hA hU hT hD K hK
      refine duty_plain rfl ?_
      have h9 : a.tmps[9]?.getD undef = .pointer (some ⟨g, 0, none⟩) := eval_get (hA.at_ 9 (by kernel_rfl))
      refine wp_value (v := .pointer (some ⟨g, 0, none⟩)) (w' := w1) ?_ (hK _ _ hJ trivial rfl)
      clear hK hD hA hJ hU hT
      go_simp
    · intro L a w1 hJ hA hU hT hD K hK
      refine duty_plain rfl ?_
      have h50 : a.tmps[50]?.getD undef = .pointer (some ⟨g, 0, none⟩) := eval_get (given_at hD 6 rfl rfl rfl)
      have hc := hJ.1.cell hg0 hgd
      refine wp_value (v := .int .i64 x.1) (w' := w1) ?_ (hK _ _ hJ trivial rfl)
      clear hK hD hA hJ hU hT
      go_simp
    · intro L a w1 hJ hA hU hT hD K hK
      refine duty_plain rfl ?_
      have h9 : a.tmps[9]?.getD undef = .pointer (some ⟨g, 0, none⟩) := eval_get (hA.at_ 9 (by kernel_rfl))
      refine wp_value (v := .pointer (some ⟨g, 1, none⟩)) (w' := w1) ?_ (hK _ _ hJ trivial rfl)
      clear hK hD hA hJ hU hT
      go_simp
    · intro L a w1 hJ hA hU hT hD K hK
      refine duty_plain rfl ?_
      have h52 : a.tmps[52]?.getD undef = .pointer (some ⟨g, 1, none⟩) := eval_get (given_at hD 8 rfl rfl rfl)
      have hc := hJ.1.cell hg1 hgd
      refine wp_value (v := .int .i64 x.2) (w' := w1) ?_ (hK _ _ hJ trivial rfl)
      clear hK hD hA hJ hU hT
      go_simp
    · intro L a w1 hJ hA hU hT hD K hK
      refine duty_plain rfl ?_
      have h9 : a.tmps[9]?.getD undef = .pointer (some ⟨g, 0, none⟩) := eval_get (hA.at_ 9 (by kernel_rfl))
      refine wp_value (v := .pointer (some ⟨g, 0, none⟩)) (w' := w1) ?_ (hK _ _ hJ trivial rfl)
      clear hK hD hA hJ hU hT
      go_simp
    · intro L a w1 hJ hA hU hT hD K hK
      refine duty_plain rfl ?_
      have h54 : a.tmps[54]?.getD undef = .pointer (some ⟨g, 0, none⟩) := eval_get (given_at hD 10 rfl rfl rfl)
      have hc := hJ.1.cell hg0 hgd
      refine wp_value (v := .int .i64 x.1) (w' := w1) ?_ (hK _ _ hJ trivial rfl)
      clear hK hD hA hJ hU hT
      go_simp
    · intro L a w1 hJ hA hU hT hD K hK
      refine duty_plain rfl ?_
      have h49 : a.tmps[49]?.getD undef = .map (some bd) := eval_get (given_at hD 5 rfl rfl rfl)
      have h51 : a.tmps[51]?.getD undef = .int .i64 x.1 := eval_get (given_at hD 7 rfl rfl rfl)
      have hL := hT.self
      have hL2 := hT.no 14 rfl rfl
      unfold Jtake at hJ
      rw [hL, hL2] at hJ
      obtain ⟨j1, j2⟩ := hJ
      obtain ⟨W', hr, hm, ht⟩ := HE.out w1 j2
      refine wp_value (v := .tuple #[v0, st]) (w' := W') ?_ (hK _ _ ⟨j1.trans ht.grown, by simp only [done_]; rw [hL2]; exact hm⟩ trivial rfl)
      clear hK hD hA hU hT j1 j2 hm ht
      go_simp
    · intro L a w1 hJ hA hU hT hD K hK
      refine duty_plain rfl ?_
      have h56 : a.tmps[56]?.getD undef = .tuple #[v0, st] := eval_get (given_at hD 12 rfl rfl rfl)
      refine wp_value (v := st) (w' := w1) ?_ (hK _ _ hJ trivial rfl)
      clear hK hD hA hJ hU hT
      go_simp
    · intro L a w1 hJ hA hU hT hD K hK
      refine duty_plain rfl ?_
      have h49 : a.tmps[49]?.getD undef = .map (some bd) := eval_get (given_at hD 5 rfl rfl rfl)
      have h57 : a.tmps[57]?.getD undef = st := eval_get (given_at hD 13 rfl rfl rfl)
      have h53 : a.tmps[53]?.getD undef = .int .i64 x.2 := eval_get (given_at hD 9 rfl rfl rfl)
      have hL := hT.self
      have hL2 := hT.yes 12 rfl
      unfold Jtake at hJ
      rw [hL, hL2] at hJ
      obtain ⟨j1, j2⟩ := hJ
      obtain ⟨W', hr, hm, ht⟩ := j2.store 74 x.2
      refine wp_unit (w' := W') ?_ (hK undef _ ⟨j1.trans ht.grown, by simp only [done_]; exact hm⟩ trivial rfl)
      clear hK hD hA hU hT j1 j2 hm ht
      have hr' : (Instr.entryStore 74 (.map (some bd)) st (.int .i64 x.2)).run Try.prog w1 = .ok () W' := hr
      go_simp
    · intro L a w1 hJ hA hU hT hD K hK
      refine duty_plain rfl ?_
      have h55 : a.tmps[55]?.getD undef = .int .i64 x.1 := eval_get (given_at hD 11 rfl rfl rfl)
      refine wp_value (v := .int .i64 x.1) (w' := w1) ?_ (hK _ _ hJ trivial rfl)
      clear hK hD hA hJ hU hT
      go_simp
  · intro L a w' hJ hL hA hG
    have hv7 : a.tmps[7]?.getD undef = .int .i64 x.1 := eval_get (hG 15 _ _ rfl rfl)
    have ha : a = ⟨#[t0, .pointer (some ⟨p, 0, none⟩), t2, t3, t4, t5, t6, .int .i64 x.1, t8, .pointer (some ⟨g, 0, none⟩), t10, t11, t12, t13, t14, t15, t16, t17, t18, t19, t20, t21, t22, t23, t24, t25, t26, t27, t28, t29, t30, t31, t32, t33, t34, t35, t36, t37, t38, t39, t40, t41, t42, t43, a.tmps[44]?.getD undef, a.tmps[45]?.getD undef, a.tmps[46]?.getD undef, a.tmps[47]?.getD undef, a.tmps[48]?.getD undef, a.tmps[49]?.getD undef, a.tmps[50]?.getD undef, a.tmps[51]?.getD undef, a.tmps[52]?.getD undef, a.tmps[53]?.getD undef, a.tmps[54]?.getD undef, a.tmps[55]?.getD undef, a.tmps[56]?.getD undef, a.tmps[57]?.getD undef, t58, t59, t60, t61, t62], []⟩ := act_of ⟨eval_get (hA.at_ 0 (by kernel_rfl)), eval_get (hA.at_ 1 (by kernel_rfl)), eval_get (hA.at_ 2 (by kernel_rfl)), eval_get (hA.at_ 3 (by kernel_rfl)), eval_get (hA.at_ 4 (by kernel_rfl)), eval_get (hA.at_ 5 (by kernel_rfl)), eval_get (hA.at_ 6 (by kernel_rfl)), hv7, eval_get (hA.at_ 8 (by kernel_rfl)), eval_get (hA.at_ 9 (by kernel_rfl)), eval_get (hA.at_ 10 (by kernel_rfl)), eval_get (hA.at_ 11 (by kernel_rfl)), eval_get (hA.at_ 12 (by kernel_rfl)), eval_get (hA.at_ 13 (by kernel_rfl)), eval_get (hA.at_ 14 (by kernel_rfl)), eval_get (hA.at_ 15 (by kernel_rfl)), eval_get (hA.at_ 16 (by kernel_rfl)), eval_get (hA.at_ 17 (by kernel_rfl)), eval_get (hA.at_ 18 (by kernel_rfl)), eval_get (hA.at_ 19 (by kernel_rfl)), eval_get (hA.at_ 20 (by kernel_rfl)), eval_get (hA.at_ 21 (by kernel_rfl)), eval_get (hA.at_ 22 (by kernel_rfl)), eval_get (hA.at_ 23 (by kernel_rfl)), eval_get (hA.at_ 24 (by kernel_rfl)), eval_get (hA.at_ 25 (by kernel_rfl)), eval_get (hA.at_ 26 (by kernel_rfl)), eval_get (hA.at_ 27 (by kernel_rfl)), eval_get (hA.at_ 28 (by kernel_rfl)), eval_get (hA.at_ 29 (by kernel_rfl)), eval_get (hA.at_ 30 (by kernel_rfl)), eval_get (hA.at_ 31 (by kernel_rfl)), eval_get (hA.at_ 32 (by kernel_rfl)), eval_get (hA.at_ 33 (by kernel_rfl)), eval_get (hA.at_ 34 (by kernel_rfl)), eval_get (hA.at_ 35 (by kernel_rfl)), eval_get (hA.at_ 36 (by kernel_rfl)), eval_get (hA.at_ 37 (by kernel_rfl)), eval_get (hA.at_ 38 (by kernel_rfl)), eval_get (hA.at_ 39 (by kernel_rfl)), eval_get (hA.at_ 40 (by kernel_rfl)), eval_get (hA.at_ 41 (by kernel_rfl)), eval_get (hA.at_ 42 (by kernel_rfl)), eval_get (hA.at_ 43 (by kernel_rfl)), rfl, rfl, rfl, rfl, rfl, rfl, rfl, rfl, rfl, rfl, rfl, rfl, rfl, rfl, eval_get (hA.at_ 58 (by kernel_rfl)), eval_get (hA.at_ 59 (by kernel_rfl)), eval_get (hA.at_ 60 (by kernel_rfl)), eval_get (hA.at_ 61 (by kernel_rfl)), eval_get (hA.at_ 62 (by kernel_rfl)), trivial⟩ hA.size hA.defers
    rw [ha]
    refine HK.out w' _ _ _ _ _ _ _ _ _ _ _ _ _ _ ?_
    unfold Jtake at hJ ⊢
    rw [hL 14 (of_decide_eq_true (by kernel_rfl))] at hJ
    exact hJ


end Go.Proofs.Ytjggeodnoigkkaa
