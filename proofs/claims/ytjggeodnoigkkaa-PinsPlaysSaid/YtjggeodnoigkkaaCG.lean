/-
  Pins out of bytes: the region that looks a clone's pin up (printed by wip/tools/genroot.py).
-/
import Derived.Test.YtjggeodnoigkkaaCC
import Derived.Test.YtjggeodnoigkkaaMem2
import Derived.Test.YtjggeodnoigkkaaFlow3
namespace Go.Proofs.Ytjggeodnoigkkaa
open Go.RowKit Go.Maps Go.Shelf Go.Proofs.YtjggeodnoigkkaaM

def atP (M : PM) (s : Bs) : Int × Bs := (getM M s).getD (0, [])

theorem put2 {w : World} {b : Nat} {u0 u1 : Value} (c0 : w.cell? ⟨b, 0, none⟩ = some u0) (c1 : w.cell? ⟨b, 1, none⟩ = some u1) (v0 v1 : Value) : ((w.setCell ⟨b, 0, none⟩ v0).setCell ⟨b, 1, none⟩ v1).cell? ⟨b, 0, none⟩ = some v0 ∧ ((w.setCell ⟨b, 0, none⟩ v0).setCell ⟨b, 1, none⟩ v1).cell? ⟨b, 1, none⟩ = some v1 :=
  ⟨(World.cell?_setCell_other _ ⟨b, 1, none⟩ ⟨b, 0, none⟩ _ (by intro h; cases h)).trans (World.cell?_setCell_same _ _ _ c0), World.cell?_setCell_same _ _ _ ((World.cell?_setCell_other _ ⟨b, 0, none⟩ ⟨b, 1, none⟩ _ (by intro h; cases h)).trans c1)⟩


noncomputable def codelook : Code := ((Try.f59.body.bind (theRegion 6)).getD .skip)

set_option linter.unusedVariables false in
def Jlook (w0 : World) (p bm bd g : Nat) (M : PM) (D : DM) (of_ : Bs) (L : Nat → Bool) (W : World) : Prop := Below w0.heap.size w0 W ∧ (bif L 13 then (W.cell? ⟨w0.heap.size, 0, none⟩ = some (.int .i64 (atP M of_).1) ∧ W.cell? ⟨w0.heap.size, 1, none⟩ = some (.string ⟨(atP M of_).2.toArray⟩)) else bif L 12 then (W.cell? ⟨w0.heap.size, 0, none⟩ = some (.int .i64 0) ∧ W.cell? ⟨w0.heap.size, 1, none⟩ = some (.string ⟨#[]⟩) ∧ W.frozen? ⟨w0.heap.size, 0, none⟩ = false ∧ W.frozen? ⟨w0.heap.size, 1, none⟩ = false) else W.heap.size = w0.heap.size)
set_option linter.unusedVariables false in
def Rlook (w0 : World) (p bm bd g : Nat) (M : PM) (D : DM) (of_ : Bs) (j : Nat) (v : Value) (_w : World) : Prop :=
  v = [.pointer (some ⟨p, 0, none⟩), .pointer (some ⟨p, 0, none⟩), .pointer (some ⟨p, 0, none⟩), .pointer (some ⟨p, 0, none⟩), .pointer (some ⟨p, 0, none⟩), .map (some bm), .pointer (some ⟨g, 1, none⟩), .string ⟨of_.toArray⟩, .tuple #[.agg #[.int .i64 (atP M of_).1, .string ⟨(atP M of_).2.toArray⟩], .bool (hasM M of_)], .tuple #[.agg #[.int .i64 (atP M of_).1, .string ⟨(atP M of_).2.toArray⟩], .bool (hasM M of_)], .agg #[.int .i64 (atP M of_).1, .string ⟨(atP M of_).2.toArray⟩], .bool (hasM M of_), .pointer (some ⟨w0.heap.size, 0, none⟩), undef, .bool (hasM M of_)].getD j undef
set_option maxRecDepth 1000000 in
set_option maxHeartbeats 4000000 in
theorem look (Q : Exit → Act → World → Prop) (w0 : World) (p bm bd g : Nat) (M : PM) (D : DM) (of_ : Bs) (w : World)
    (hp : IsPins w0 p bm bd M D)
    (hkey : keyOf Try.prog 9 (.string ⟨of_.toArray⟩) = some (.string of_))
    (hgl : g < w0.heap.size)
    (hg1 : w0.cell? ⟨g, 1, none⟩ = some (.string ⟨of_.toArray⟩))
    (hj0 : Jlook w0 p bm bd g M D of_ (fun _ => false) w.drew) (t1 t2 t3 t4 t6 t7 t8 t9 t10 t11 t12 t13 t14 t15 t16 t17 t18 t19 t20 t21 t22 t23 t24 t25 t26 t27 t28 t29 t30 t31 t32 t33 t34 t35 t36 t37 t38 t39 t40 t41 t42 t43 t44 t45 t46 t47 t48 t49 t50 t51 t52 t53 t54 t55 t56 t57 t58 t59 t60 t61 t62 : Value) (hK : ∀ (w' : World) (s27 s28 s29 s30 s31 s32 s33 s34 s35 s36 s37 s38 : Value), Jlook w0 p bm bd g M D of_ (fun _ => true) w' → Q .normal ⟨#[.pointer (some ⟨p, 0, none⟩), t1, t2, t3, t4, .pointer (some ⟨g, 0, none⟩), t6, .pointer (some ⟨w0.heap.size, 0, none⟩), .bool (hasM M of_), t9, t10, t11, t12, t13, t14, t15, t16, t17, t18, t19, t20, t21, t22, t23, t24, t25, t26, s27, s28, s29, s30, s31, s32, s33, s34, s35, s36, s37, s38, t39, t40, t41, t42, t43, t44, t45, t46, t47, t48, t49, t50, t51, t52, t53, t54, t55, t56, t57, t58, t59, t60, t61, t62], []⟩ w') :
    Code.wp Try.prog codelook Q ⟨#[.pointer (some ⟨p, 0, none⟩), t1, t2, t3, t4, .pointer (some ⟨g, 0, none⟩), t6, t7, t8, t9, t10, t11, t12, t13, t14, t15, t16, t17, t18, t19, t20, t21, t22, t23, t24, t25, t26, t27, t28, t29, t30, t31, t32, t33, t34, t35, t36, t37, t38, t39, t40, t41, t42, t43, t44, t45, t46, t47, t48, t49, t50, t51, t52, t53, t54, t55, t56, t57, t58, t59, t60, t61, t62], []⟩ w := by
  have HK := Lib.hid hK
  clear hK
  replace hp := hp
  conv => arg 2; whnf
  refine wp_flow3 (P := Try.prog) (by kernel_rfl) (by kernel_rfl) (Jlook w0 p bm bd g M D of_) (Rlook w0 p bm bd g M D of_) (fun _ _ => True) hj0 (fun _ _ _ _ _ h => h) ?_ ?_
  · refine ⟨?_, ?_, ?_, ?_, ?_, ?_, ?_, ?_, ?_, ?_, ?_, ?_, ?_, ?_, ?_, trivial⟩
    · intro L a w1 hJ hA hU hT hD K hK
      refine duty_plain rfl ?_
      have h0 : a.tmps[0]?.getD undef = .pointer (some ⟨p, 0, none⟩) := eval_get (hA.at_ 0 (by kernel_rfl))
      refine wp_value (v := .pointer (some ⟨p, 0, none⟩)) (w' := w1) ?_ (hK _ _ hJ trivial rfl)
      clear hK hD hA hJ hU hT
      go_simp
    · intro L a w1 hJ hA hU hT hD K hK
      refine duty_plain rfl ?_
      have h28 : a.tmps[28]?.getD undef = .pointer (some ⟨p, 0, none⟩) := eval_get (given_at hD 0 rfl rfl rfl)
      refine wp_value (v := .pointer (some ⟨p, 0, none⟩)) (w' := w1) ?_ (hK _ _ hJ trivial rfl)
      clear hK hD hA hJ hU hT
      go_simp
    · intro L a w1 hJ hA hU hT hD K hK
      refine duty_plain rfl ?_
      have h29 : a.tmps[29]?.getD undef = .pointer (some ⟨p, 0, none⟩) := eval_get (given_at hD 1 rfl rfl rfl)
      refine wp_value (v := .pointer (some ⟨p, 0, none⟩)) (w' := w1) ?_ (hK _ _ hJ trivial rfl)
      clear hK hD hA hJ hU hT
      go_simp
    · intro L a w1 hJ hA hU hT hD K hK
      refine duty_plain rfl ?_
      have h30 : a.tmps[30]?.getD undef = .pointer (some ⟨p, 0, none⟩) := eval_get (given_at hD 2 rfl rfl rfl)
      refine wp_value (v := .pointer (some ⟨p, 0, none⟩)) (w' := w1) ?_ (hK _ _ hJ trivial rfl)
      clear hK hD hA hJ hU hT
      go_simp
    · intro L a w1 hJ hA hU hT hD K hK
      refine duty_plain rfl ?_
      have h31 : a.tmps[31]?.getD undef = .pointer (some ⟨p, 0, none⟩) := eval_get (given_at hD 3 rfl rfl rfl)
      refine wp_value (v := .pointer (some ⟨p, 0, none⟩)) (w' := w1) ?_ (hK _ _ hJ trivial rfl)
      clear hK hD hA hJ hU hT
      go_simp
    · intro L a w1 hJ hA hU hT hD K hK
      refine duty_plain rfl ?_
      have h32 : a.tmps[32]?.getD undef = .pointer (some ⟨p, 0, none⟩) := eval_get (given_at hD 4 rfl rfl rfl)
      have hc := (hp.below hJ.1).c0
      refine wp_value (v := .map (some bm)) (w' := w1) ?_ (hK _ _ hJ trivial rfl)
      clear hK hD hA hJ hU hT
      go_simp
    · intro L a w1 hJ hA hU hT hD K hK
      refine duty_plain rfl ?_
      have h5 : a.tmps[5]?.getD undef = .pointer (some ⟨g, 0, none⟩) := eval_get (hA.at_ 5 (by kernel_rfl))
      refine wp_value (v := .pointer (some ⟨g, 1, none⟩)) (w' := w1) ?_ (hK _ _ hJ trivial rfl)
      clear hK hD hA hJ hU hT
      go_simp
    · intro L a w1 hJ hA hU hT hD K hK
      refine duty_plain rfl ?_
      have h34 : a.tmps[34]?.getD undef = .pointer (some ⟨g, 1, none⟩) := eval_get (given_at hD 6 rfl rfl rfl)
      have hc := (hJ.1.cell (p := ⟨g, 1, none⟩) hgl).trans hg1
      refine wp_value (v := .string ⟨of_.toArray⟩) (w' := w1) ?_ (hK _ _ hJ trivial rfl)
      clear hK hD hA hJ hU hT
      go_simp
    · intro L a w1 hJ hA hU hT hD K hK
      refine duty_plain rfl ?_
      have h33 : a.tmps[33]?.getD undef = .map (some bm) := eval_get (given_at hD 5 rfl rfl rfl)
      have h35 : a.tmps[35]?.getD undef = .string ⟨of_.toArray⟩ := eval_get (given_at hD 7 rfl rfl rfl)
      have hm := (hp.below hJ.1).m
      have hr := hm.look_ok (string_keyed Try.underlying9) Try.underlying69 (zero84 w1) hkey
      refine wp_value (v := .tuple #[.agg #[.int .i64 (atP M of_).1, .string ⟨(atP M of_).2.toArray⟩], .bool (hasM M of_)]) (w' := w1) ?_ (hK _ _ hJ trivial rfl)
      clear hK hD hA hJ hU hT hm
      have hr' : (Instr.lookup 69 (.map (some bm)) (.string ⟨of_.toArray⟩) true).run Try.prog w1 = .ok (.tuple #[.agg #[.int .i64 (atP M of_).1, .string ⟨(atP M of_).2.toArray⟩], .bool (hasM M of_)]) w1 := hr
      clear hr
      go_simp
    · intro L a w1 hJ hA hU hT hD K hK
      refine duty_plain rfl ?_
      have h36 : a.tmps[36]?.getD undef = .tuple #[.agg #[.int .i64 (atP M of_).1, .string ⟨(atP M of_).2.toArray⟩], .bool (hasM M of_)] := eval_get (given_at hD 8 rfl rfl rfl)
      refine wp_value (v := .tuple #[.agg #[.int .i64 (atP M of_).1, .string ⟨(atP M of_).2.toArray⟩], .bool (hasM M of_)]) (w' := w1) ?_ (hK _ _ hJ trivial rfl)
      clear hK hD hA hJ hU hT
      go_simp
    · intro L a w1 hJ hA hU hT hD K hK
      refine duty_plain rfl ?_
      have h27 : a.tmps[27]?.getD undef = .tuple #[.agg #[.int .i64 (atP M of_).1, .string ⟨(atP M of_).2.toArray⟩], .bool (hasM M of_)] := eval_get (given_at hD 9 rfl rfl rfl)
      refine wp_value (v := .agg #[.int .i64 (atP M of_).1, .string ⟨(atP M of_).2.toArray⟩]) (w' := w1) ?_ (hK _ _ hJ trivial rfl)
      clear hK hD hA hJ hU hT
      go_simp
    · intro L a w1 hJ hA hU hT hD K hK
      refine duty_plain rfl ?_
      have h27 : a.tmps[27]?.getD undef = .tuple #[.agg #[.int .i64 (atP M of_).1, .string ⟨(atP M of_).2.toArray⟩], .bool (hasM M of_)] := eval_get (given_at hD 9 rfl rfl rfl)
      refine wp_value (v := .bool (hasM M of_)) (w' := w1) ?_ (hK _ _ hJ trivial rfl)
      clear hK hD hA hJ hU hT
      go_simp
    · intro L a w1 hJ hA hU hT hD K hK
      refine duty_plain rfl ?_
      have hL := hT.self
      have hL2 := hT.no 13 rfl rfl
      unfold Jlook at hJ
      rw [hL, hL2] at hJ
      obtain ⟨j1, j2⟩ := hJ
      have j2' : w1.heap.size = w0.heap.size := j2
      refine wp_value (v := .pointer (some ⟨w0.heap.size, 0, none⟩)) (w' := w1.alloc (.cells #[.int .i64 0, .string ⟨#[]⟩] 84)) ?_ (hK _ _ ⟨j1.alloc (by omega) _, by simp only [done_]; rw [hL2, ← j2']; exact ⟨by simp, by simp, by rw [frozen?_alloc_cells]; simp [World.frozen?], by rw [frozen?_alloc_cells]; simp [World.frozen?]⟩⟩ trivial rfl)
      clear hK hD hA hU hT j1 j2 hL hL2
      rw [← j2']
      go_simp
    · intro L a w1 hJ hA hU hT hD K hK
      refine duty_plain rfl ?_
      have h7 : a.tmps[7]?.getD undef = .pointer (some ⟨w0.heap.size, 0, none⟩) := eval_get (given_at hD 12 rfl rfl rfl)
      have h37 : a.tmps[37]?.getD undef = .agg #[.int .i64 (atP M of_).1, .string ⟨(atP M of_).2.toArray⟩] := eval_get (given_at hD 10 rfl rfl rfl)
      have hL := hT.self
      have hL2 := hT.yes 12 rfl
      unfold Jlook at hJ
      rw [hL, hL2] at hJ
      obtain ⟨j1, c0, c1, f0, f1⟩ := hJ
      refine wp_unit (w' := (w1.setCell ⟨w0.heap.size, 0, none⟩ (.int .i64 (atP M of_).1)).setCell ⟨w0.heap.size, 1, none⟩ (.string ⟨(atP M of_).2.toArray⟩)) ?_ (hK undef _ ⟨(j1.setCell (Nat.le_refl _) _).setCell (Nat.le_refl _) _, by simp only [done_]; exact put2 c0 c1 _ _⟩ trivial rfl)
      clear hK hD hA hU hT j1 hL hL2
      go_simp
    · intro L a w1 hJ hA hU hT hD K hK
      refine duty_plain rfl ?_
      have h38 : a.tmps[38]?.getD undef = .bool (hasM M of_) := eval_get (given_at hD 11 rfl rfl rfl)
      refine wp_value (v := .bool (hasM M of_)) (w' := w1) ?_ (hK _ _ hJ trivial rfl)
      clear hK hD hA hJ hU hT
      go_simp
  · intro L a w' hJ hL hA hG
    have hv7 : a.tmps[7]?.getD undef = .pointer (some ⟨w0.heap.size, 0, none⟩) := eval_get (hG 12 _ _ rfl rfl)
    have hv8 : a.tmps[8]?.getD undef = .bool (hasM M of_) := eval_get (hG 14 _ _ rfl rfl)
    have ha : a = ⟨#[.pointer (some ⟨p, 0, none⟩), t1, t2, t3, t4, .pointer (some ⟨g, 0, none⟩), t6, .pointer (some ⟨w0.heap.size, 0, none⟩), .bool (hasM M of_), t9, t10, t11, t12, t13, t14, t15, t16, t17, t18, t19, t20, t21, t22, t23, t24, t25, t26, a.tmps[27]?.getD undef, a.tmps[28]?.getD undef, a.tmps[29]?.getD undef, a.tmps[30]?.getD undef, a.tmps[31]?.getD undef, a.tmps[32]?.getD undef, a.tmps[33]?.getD undef, a.tmps[34]?.getD undef, a.tmps[35]?.getD undef, a.tmps[36]?.getD undef, a.tmps[37]?.getD undef, a.tmps[38]?.getD undef, t39, t40, t41, t42, t43, t44, t45, t46, t47, t48, t49, t50, t51, t52, t53, t54, t55, t56, t57, t58, t59, t60, t61, t62], []⟩ := act_of ⟨eval_get (hA.at_ 0 (by kernel_rfl)), eval_get (hA.at_ 1 (by kernel_rfl)), eval_get (hA.at_ 2 (by kernel_rfl)), eval_get (hA.at_ 3 (by kernel_rfl)), eval_get (hA.at_ 4 (by kernel_rfl)), eval_get (hA.at_ 5 (by kernel_rfl)), eval_get (hA.at_ 6 (by kernel_rfl)), hv7, hv8, eval_get (hA.at_ 9 (by kernel_rfl)), eval_get (hA.at_ 10 (by kernel_rfl)), eval_get (hA.at_ 11 (by kernel_rfl)), eval_get (hA.at_ 12 (by kernel_rfl)), eval_get (hA.at_ 13 (by kernel_rfl)), eval_get (hA.at_ 14 (by kernel_rfl)), eval_get (hA.at_ 15 (by kernel_rfl)), eval_get (hA.at_ 16 (by kernel_rfl)), eval_get (hA.at_ 17 (by kernel_rfl)), eval_get (hA.at_ 18 (by kernel_rfl)), eval_get (hA.at_ 19 (by kernel_rfl)), eval_get (hA.at_ 20 (by kernel_rfl)), eval_get (hA.at_ 21 (by kernel_rfl)), eval_get (hA.at_ 22 (by kernel_rfl)), eval_get (hA.at_ 23 (by kernel_rfl)), eval_get (hA.at_ 24 (by kernel_rfl)), eval_get (hA.at_ 25 (by kernel_rfl)), eval_get (hA.at_ 26 (by kernel_rfl)), rfl, rfl, rfl, rfl, rfl, rfl, rfl, rfl, rfl, rfl, rfl, rfl, eval_get (hA.at_ 39 (by kernel_rfl)), eval_get (hA.at_ 40 (by kernel_rfl)), eval_get (hA.at_ 41 (by kernel_rfl)), eval_get (hA.at_ 42 (by kernel_rfl)), eval_get (hA.at_ 43 (by kernel_rfl)), eval_get (hA.at_ 44 (by kernel_rfl)), eval_get (hA.at_ 45 (by kernel_rfl)), eval_get (hA.at_ 46 (by kernel_rfl)), eval_get (hA.at_ 47 (by kernel_rfl)), eval_get (hA.at_ 48 (by kernel_rfl)), eval_get (hA.at_ 49 (by kernel_rfl)), eval_get (hA.at_ 50 (by kernel_rfl)), eval_get (hA.at_ 51 (by kernel_rfl)), eval_get (hA.at_ 52 (by kernel_rfl)), eval_get (hA.at_ 53 (by kernel_rfl)), eval_get (hA.at_ 54 (by kernel_rfl)), eval_get (hA.at_ 55 (by kernel_rfl)), eval_get (hA.at_ 56 (by kernel_rfl)), eval_get (hA.at_ 57 (by kernel_rfl)), eval_get (hA.at_ 58 (by kernel_rfl)), eval_get (hA.at_ 59 (by kernel_rfl)), eval_get (hA.at_ 60 (by kernel_rfl)), eval_get (hA.at_ 61 (by kernel_rfl)), eval_get (hA.at_ 62 (by kernel_rfl)), trivial⟩ hA.size hA.defers
    rw [ha]
    refine HK.out w' _ _ _ _ _ _ _ _ _ _ _ _ ?_
    unfold Jlook at hJ ⊢
    rw [hL 13 (of_decide_eq_true (by kernel_rfl))] at hJ
    exact hJ


end Go.Proofs.Ytjggeodnoigkkaa
