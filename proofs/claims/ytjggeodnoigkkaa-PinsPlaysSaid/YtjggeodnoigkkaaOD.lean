/-
  PinsOrder: the region that asks whether a drop is its object's first one, in its six ways (printed by wip/tools/genord2.py).
-/
import Derived.Test.YtjggeodnoigkkaaOB
namespace Go.Proofs.Ytjggeodnoigkkaa
open Go.RowKit Go.Maps Go.Shelf Go.Proofs.YtjggeodnoigkkaaM

theorem duty_undef {P : Program} {ops : Array Oper} {Q : Exit → Act → World → Prop} {a : Act} {w : World} {o og : Oper} {K : Act → World → Prop} {g d : Nat} {b : Bool} (hg : o.guard = some (g, b)) (hog : ops[g]? = some og) (hd : og.dst = some d) (hv : a.eval (.tmp d) = undef) (h : K (a.put o.dst undef) w) :
    if Region.wanted o (yielded ops a.tmps) = true then Oper.wp P o a w K Q else K (a.put o.dst undef) w := by
  have hy : yielded ops a.tmps g = none := by
    unfold yielded
    simp only [hog]
    cases ht : a.tmps[d]? with
    | none => simp [hd, ht]
    | some v =>
      have : v = undef := by simpa [Act.eval, Array.getD_eq_getD_getElem?, ht] using hv
      subst this
      simp [hd, ht, undef]
  rw [if_neg (by simp [Region.wanted, hg, hy])]
  exact h

noncomputable def codefstF : Code := ((Try.f4.body.bind (theRegion 21)).getD .skip)

set_option linter.unusedVariables false in
def RfstF (g : Addr) (n cap k m : Nat) (x y : Int × Int) (j : Nat) (v : Value) (_w : World) : Prop :=
  v = [.bool false, .bool false, undef, undef, undef, undef, undef, undef, undef, undef, undef, undef, undef, undef, undef, undef, undef, undef, undef, undef, undef, undef, undef, undef, undef, undef, undef, undef, undef, undef, undef, undef, undef, undef, undef, undef, undef, undef, undef, undef, undef, undef, .bool false, .bool false].getD j undef
theorem RfstF_le (g : Addr) (n cap k m : Nat) (x y : Int × Int) : ∀ j v w w', Below w.heap.size w w' → RfstF g n cap k m x y j v w → RfstF g n cap k m x y j v w' := by
  intro j v w w' hb h
  exact h

set_option linter.unusedVariables false in
set_option maxRecDepth 1000000 in
set_option maxHeartbeats 4000000 in
theorem fstF (Q : Exit → Act → World → Prop) (g : Addr) (n cap k m : Nat) (x y : Int × Int) (w : World)
    (hg : g.block < w.heap.size)
    (hm0 : (0 : Int) ≤ (m : Int))
    (hm1 : (m : Int) < (n : Int))
    (hk0 : (0 : Int) ≤ (k : Int))
    (hk1 : (k : Int) < (n : Int))
    (hy0 : w.cell? (g.add (m * 2)) = some (.int .i64 y.1))
    (hy1 : w.cell? ⟨(g.add (m * 2)).block, (g.add (m * 2)).off + 1, none⟩ = some (.int .i64 y.2))
    (hx0 : w.cell? (g.add (k * 2)) = some (.int .i64 x.1))
    (t0 t2 t3 t4 t5 t6 t7 t8 t9 t13 t14 t15 t16 t17 t18 t19 t20 t21 t22 t23 t24 t25 t26 t27 t28 t29 t30 t31 t32 t33 t34 t35 t36 t37 t38 t39 t40 t41 t42 t43 t44 t45 t46 t47 t48 t49 t50 t51 t52 t53 t54 t55 t56 t57 t58 t59 t60 t61 t62 t63 t64 t65 t66 t67 t68 t69 t70 t71 t72 t73 t74 t75 t76 t77 t78 t79 t80 t81 t82 t83 t84 t85 t86 t87 t88 t89 t90 t91 t92 t93 t94 t95 t96 t97 t98 t99 t100 t101 t102 t103 t104 t105 t106 t107 t108 t109 t110 t111 t112 t113 t114 t115 t116 t117 t118 t119 t120 t121 t122 t123 t124 t125 t126 t127 t128 t129 t130 t131 t132 t133 t134 t135 t136 t137 t138 t139 t140 t141 t142 t143 t144 t145 t146 t147 t148 t149 t150 t151 t152 t153 t154 t155 t156 t157 t158 t159 t160 t161 t162 t163 t164 t165 t166 t167 t168 t169 t170 t171 t172 t173 t174 t175 t176 t177 t178 t179 t180 t181 t182 t183 t184 t185 t186 t187 t188 t189 t190 t191 t192 t193 t194 t195 t196 t197 t198 t199 t200 t201 t202 t203 t204 t205 t206 t207 t208 t209 t210 t211 t212 t213 t214 t215 t216 : Value) (hK : ∀ (w' : World) (s83 s84 s85 s86 s87 s88 s89 s90 s91 s92 s93 s94 s95 s96 s97 s98 s99 s100 s101 s102 s103 s104 s105 s106 s107 s108 s109 s110 s111 s112 s113 s114 s115 s116 s117 s118 s119 s120 s121 s122 s123 s124 s125 : Value), Below w.heap.size w w' → Q .normal ⟨#[t0, .slice (some g) n cap, t2, t3, t4, t5, t6, t7, t8, t9, .int .i64 (k : Int), .bool false, .int .i64 (m : Int), t13, t14, t15, t16, t17, t18, t19, t20, t21, t22, t23, t24, t25, t26, t27, t28, t29, t30, t31, t32, t33, t34, t35, t36, t37, t38, t39, t40, t41, t42, t43, t44, t45, t46, t47, t48, t49, t50, t51, t52, t53, t54, t55, t56, t57, t58, t59, t60, t61, t62, t63, t64, t65, t66, t67, t68, t69, t70, t71, t72, t73, t74, t75, t76, t77, t78, t79, t80, t81, t82, s83, s84, s85, s86, s87, s88, s89, s90, s91, s92, s93, s94, s95, s96, s97, s98, s99, s100, s101, s102, s103, s104, s105, s106, s107, s108, s109, s110, s111, s112, s113, s114, s115, s116, s117, s118, s119, s120, s121, s122, s123, s124, s125, t126, t127, t128, t129, t130, t131, t132, t133, t134, t135, t136, t137, t138, t139, t140, t141, t142, t143, t144, t145, t146, t147, t148, t149, t150, t151, t152, t153, t154, t155, t156, t157, t158, t159, t160, t161, t162, t163, t164, t165, t166, t167, t168, t169, t170, t171, t172, t173, t174, t175, t176, t177, t178, t179, t180, t181, t182, t183, t184, t185, t186, t187, t188, t189, t190, t191, t192, t193, t194, t195, t196, t197, t198, t199, t200, t201, t202, t203, t204, t205, t206, t207, t208, t209, t210, t211, t212, t213, t214, t215, t216], []⟩ w') :
    Code.wp Try.prog codefstF Q ⟨#[t0, .slice (some g) n cap, t2, t3, t4, t5, t6, t7, t8, t9, .int .i64 (k : Int), .bool false, .int .i64 (m : Int), t13, t14, t15, t16, t17, t18, t19, t20, t21, t22, t23, t24, t25, t26, t27, t28, t29, t30, t31, t32, t33, t34, t35, t36, t37, t38, t39, t40, t41, t42, t43, t44, t45, t46, t47, t48, t49, t50, t51, t52, t53, t54, t55, t56, t57, t58, t59, t60, t61, t62, t63, t64, t65, t66, t67, t68, t69, t70, t71, t72, t73, t74, t75, t76, t77, t78, t79, t80, t81, t82, t83, t84, t85, t86, t87, t88, t89, t90, t91, t92, t93, t94, t95, t96, t97, t98, t99, t100, t101, t102, t103, t104, t105, t106, t107, t108, t109, t110, t111, t112, t113, t114, t115, t116, t117, t118, t119, t120, t121, t122, t123, t124, t125, t126, t127, t128, t129, t130, t131, t132, t133, t134, t135, t136, t137, t138, t139, t140, t141, t142, t143, t144, t145, t146, t147, t148, t149, t150, t151, t152, t153, t154, t155, t156, t157, t158, t159, t160, t161, t162, t163, t164, t165, t166, t167, t168, t169, t170, t171, t172, t173, t174, t175, t176, t177, t178, t179, t180, t181, t182, t183, t184, t185, t186, t187, t188, t189, t190, t191, t192, t193, t194, t195, t196, t197, t198, t199, t200, t201, t202, t203, t204, t205, t206, t207, t208, t209, t210, t211, t212, t213, t214, t215, t216], []⟩ w := by
  have HK := Lib.hid hK
  clear hK
  conv => arg 2; whnf
  refine wp_flow2 (P := Try.prog) (by kernel_rfl) (by kernel_rfl) (fun W => Below w.heap.size w W) (RfstF g n cap k m x y) (fun W W' => Below W.heap.size W W') (Below.refl _ _).drew (RfstF_le g n cap k m x y) ?_ ?_
  · refine ⟨?_, ?_, ?_, ?_, ?_, ?_, ?_, ?_, ?_, ?_, ?_, ?_, ?_, ?_, ?_, ?_, ?_, ?_, ?_, ?_, ?_, ?_, ?_, ?_, ?_, ?_, ?_, ?_, ?_, ?_, ?_, ?_, ?_, ?_, ?_, ?_, ?_, ?_, ?_, ?_, ?_, ?_, ?_, ?_, trivial⟩
    · intro a w1 hJ hA hU hD K hK
      refine duty_plain rfl ?_
      have h11 : a.tmps[11]?.getD undef = .bool false := eval_get (hU.at_ 43 rfl rfl rfl)
      refine wp_value (v := .bool false) (w' := w1) ?_ (hK _ _ hJ (Below.refl _ _) rfl)
      clear hK hD hA hJ hU
      go_simp
    · intro a w1 hJ hA hU hD K hK
      refine duty_plain rfl ?_
      have h83 : a.tmps[83]?.getD undef = .bool false := eval_get (given_at hD 0 rfl rfl rfl)
      refine wp_value (v := .bool false) (w' := w1) ?_ (hK _ _ hJ (Below.refl _ _) rfl)
      clear hK hD hA hJ hU
      go_simp
    · intro a w1 hJ hA hU hD K hK
      refine duty_no (b := false) rfl rfl rfl (hA.lt 84 (by kernel_rfl)) (given_at hD 1 rfl rfl rfl) ?_
      exact hK _ _ hJ (Below.refl _ _) rfl
    · intro a w1 hJ hA hU hD K hK
      refine duty_no (b := false) rfl rfl rfl (hA.lt 84 (by kernel_rfl)) (given_at hD 1 rfl rfl rfl) ?_
      exact hK _ _ hJ (Below.refl _ _) rfl
    · intro a w1 hJ hA hU hD K hK
      refine duty_no (b := false) rfl rfl rfl (hA.lt 84 (by kernel_rfl)) (given_at hD 1 rfl rfl rfl) ?_
      exact hK _ _ hJ (Below.refl _ _) rfl
    · intro a w1 hJ hA hU hD K hK
      refine duty_no (b := false) rfl rfl rfl (hA.lt 84 (by kernel_rfl)) (given_at hD 1 rfl rfl rfl) ?_
      exact hK _ _ hJ (Below.refl _ _) rfl
    · intro a w1 hJ hA hU hD K hK
      refine duty_no (b := false) rfl rfl rfl (hA.lt 84 (by kernel_rfl)) (given_at hD 1 rfl rfl rfl) ?_
      exact hK _ _ hJ (Below.refl _ _) rfl
    · intro a w1 hJ hA hU hD K hK
      refine duty_no (b := false) rfl rfl rfl (hA.lt 84 (by kernel_rfl)) (given_at hD 1 rfl rfl rfl) ?_
      exact hK _ _ hJ (Below.refl _ _) rfl
    · intro a w1 hJ hA hU hD K hK
      refine duty_no (b := false) rfl rfl rfl (hA.lt 84 (by kernel_rfl)) (given_at hD 1 rfl rfl rfl) ?_
      exact hK _ _ hJ (Below.refl _ _) rfl
    · intro a w1 hJ hA hU hD K hK
      refine duty_no (b := false) rfl rfl rfl (hA.lt 84 (by kernel_rfl)) (given_at hD 1 rfl rfl rfl) ?_
      exact hK _ _ hJ (Below.refl _ _) rfl
    · intro a w1 hJ hA hU hD K hK
      refine duty_no (b := false) rfl rfl rfl (hA.lt 84 (by kernel_rfl)) (given_at hD 1 rfl rfl rfl) ?_
      exact hK _ _ hJ (Below.refl _ _) rfl
    · intro a w1 hJ hA hU hD K hK
      refine duty_no (b := false) rfl rfl rfl (hA.lt 84 (by kernel_rfl)) (given_at hD 1 rfl rfl rfl) ?_
      exact hK _ _ hJ (Below.refl _ _) rfl
    · intro a w1 hJ hA hU hD K hK
      refine duty_no (b := false) rfl rfl rfl (hA.lt 84 (by kernel_rfl)) (given_at hD 1 rfl rfl rfl) ?_
      exact hK _ _ hJ (Below.refl _ _) rfl
    · intro a w1 hJ hA hU hD K hK
      refine duty_no (b := false) rfl rfl rfl (hA.lt 84 (by kernel_rfl)) (given_at hD 1 rfl rfl rfl) ?_
      exact hK _ _ hJ (Below.refl _ _) rfl
    · intro a w1 hJ hA hU hD K hK
      refine duty_undef rfl rfl rfl (given_at hD 13 rfl rfl rfl) ?_
      exact hK _ _ hJ (Below.refl _ _) rfl
    · intro a w1 hJ hA hU hD K hK
      refine duty_undef rfl rfl rfl (given_at hD 13 rfl rfl rfl) ?_
      exact hK _ _ hJ (Below.refl _ _) rfl
    · intro a w1 hJ hA hU hD K hK
      refine duty_undef rfl rfl rfl (given_at hD 13 rfl rfl rfl) ?_
      exact hK _ _ hJ (Below.refl _ _) rfl
    · intro a w1 hJ hA hU hD K hK
      refine duty_undef rfl rfl rfl (given_at hD 13 rfl rfl rfl) ?_
      exact hK _ _ hJ (Below.refl _ _) rfl
    · intro a w1 hJ hA hU hD K hK
      refine duty_undef rfl rfl rfl (given_at hD 13 rfl rfl rfl) ?_
      exact hK _ _ hJ (Below.refl _ _) rfl
    · intro a w1 hJ hA hU hD K hK
      refine duty_undef rfl rfl rfl (given_at hD 13 rfl rfl rfl) ?_
      exact hK _ _ hJ (Below.refl _ _) rfl
    · intro a w1 hJ hA hU hD K hK
      refine duty_undef rfl rfl rfl (given_at hD 13 rfl rfl rfl) ?_
      exact hK _ _ hJ (Below.refl _ _) rfl
    · intro a w1 hJ hA hU hD K hK
      refine duty_undef rfl rfl rfl (given_at hD 13 rfl rfl rfl) ?_
      exact hK _ _ hJ (Below.refl _ _) rfl
    · intro a w1 hJ hA hU hD K hK
      refine duty_undef rfl rfl rfl (given_at hD 13 rfl rfl rfl) ?_
      exact hK _ _ hJ (Below.refl _ _) rfl
    · intro a w1 hJ hA hU hD K hK
      refine duty_undef rfl rfl rfl (given_at hD 13 rfl rfl rfl) ?_
      exact hK _ _ hJ (Below.refl _ _) rfl
    · intro a w1 hJ hA hU hD K hK
      refine duty_undef rfl rfl rfl (given_at hD 13 rfl rfl rfl) ?_
      exact hK _ _ hJ (Below.refl _ _) rfl
    · intro a w1 hJ hA hU hD K hK
      refine duty_no (b := false) rfl rfl rfl (hA.lt 84 (by kernel_rfl)) (given_at hD 1 rfl rfl rfl) ?_
      exact hK _ _ hJ (Below.refl _ _) rfl
    · intro a w1 hJ hA hU hD K hK
      refine duty_no (b := false) rfl rfl rfl (hA.lt 84 (by kernel_rfl)) (given_at hD 1 rfl rfl rfl) ?_
      exact hK _ _ hJ (Below.refl _ _) rfl
    · intro a w1 hJ hA hU hD K hK
      refine duty_undef rfl rfl rfl (given_at hD 26 rfl rfl rfl) ?_
      exact hK _ _ hJ (Below.refl _ _) rfl
    · intro a w1 hJ hA hU hD K hK
      refine duty_undef rfl rfl rfl (given_at hD 26 rfl rfl rfl) ?_
      exact hK _ _ hJ (Below.refl _ _) rfl
    · intro a w1 hJ hA hU hD K hK
      refine duty_undef rfl rfl rfl (given_at hD 26 rfl rfl rfl) ?_
      exact hK _ _ hJ (Below.refl _ _) rfl
    · intro a w1 hJ hA hU hD K hK
      refine duty_undef rfl rfl rfl (given_at hD 26 rfl rfl rfl) ?_
      exact hK _ _ hJ (Below.refl _ _) rfl
    · intro a w1 hJ hA hU hD K hK
      refine duty_undef rfl rfl rfl (given_at hD 26 rfl rfl rfl) ?_
      exact hK _ _ hJ (Below.refl _ _) rfl
    · intro a w1 hJ hA hU hD K hK
      refine duty_undef rfl rfl rfl (given_at hD 26 rfl rfl rfl) ?_
      exact hK _ _ hJ (Below.refl _ _) rfl
    · intro a w1 hJ hA hU hD K hK
      refine duty_no (b := false) rfl rfl rfl (hA.lt 84 (by kernel_rfl)) (given_at hD 1 rfl rfl rfl) ?_
      exact hK _ _ hJ (Below.refl _ _) rfl
    · intro a w1 hJ hA hU hD K hK
      refine duty_no (b := false) rfl rfl rfl (hA.lt 84 (by kernel_rfl)) (given_at hD 1 rfl rfl rfl) ?_
      exact hK _ _ hJ (Below.refl _ _) rfl
    · intro a w1 hJ hA hU hD K hK
      refine duty_undef rfl rfl rfl (given_at hD 34 rfl rfl rfl) ?_
      exact hK _ _ hJ (Below.refl _ _) rfl
    · intro a w1 hJ hA hU hD K hK
      refine duty_undef rfl rfl rfl (given_at hD 34 rfl rfl rfl) ?_
      exact hK _ _ hJ (Below.refl _ _) rfl
    · intro a w1 hJ hA hU hD K hK
      refine duty_undef rfl rfl rfl (given_at hD 34 rfl rfl rfl) ?_
      exact hK _ _ hJ (Below.refl _ _) rfl
    · intro a w1 hJ hA hU hD K hK
      refine duty_undef rfl rfl rfl (given_at hD 34 rfl rfl rfl) ?_
      exact hK _ _ hJ (Below.refl _ _) rfl
    · intro a w1 hJ hA hU hD K hK
      refine duty_undef rfl rfl rfl (given_at hD 34 rfl rfl rfl) ?_
      exact hK _ _ hJ (Below.refl _ _) rfl
    · intro a w1 hJ hA hU hD K hK
      refine duty_undef rfl rfl rfl (given_at hD 34 rfl rfl rfl) ?_
      exact hK _ _ hJ (Below.refl _ _) rfl
    · intro a w1 hJ hA hU hD K hK
      refine duty_no (b := false) rfl rfl rfl (hA.lt 84 (by kernel_rfl)) (given_at hD 1 rfl rfl rfl) ?_
      exact hK _ _ hJ (Below.refl _ _) rfl
    · intro a w1 hJ hA hU hD K hK
      refine duty_plain rfl ?_
      have h84 : a.tmps[84]?.getD undef = .bool false := eval_get (given_at hD 1 rfl rfl rfl)
      have h124 : a.tmps[124]?.getD undef = undef := eval_get (given_at hD 41 rfl rfl rfl)
      refine wp_value (v := .bool false) (w' := w1) ?_ (hK _ _ hJ (Below.refl _ _) rfl)
      clear hK hD hA hJ hU
      go_simp
    · intro a w1 hJ hA hU hD K hK
      refine duty_plain rfl ?_
      have h125 : a.tmps[125]?.getD undef = .bool false := eval_get (given_at hD 42 rfl rfl rfl)
      refine wp_value (v := .bool false) (w' := w1) ?_ (hK _ _ hJ (Below.refl _ _) rfl)
      clear hK hD hA hJ hU
      go_simp
  · intro a w' hJ hA hG
    have hv11 : a.tmps[11]?.getD undef = .bool false := eval_get (hG 43 _ _ rfl rfl)
    have ha : a = ⟨#[t0, .slice (some g) n cap, t2, t3, t4, t5, t6, t7, t8, t9, .int .i64 (k : Int), .bool false, .int .i64 (m : Int), t13, t14, t15, t16, t17, t18, t19, t20, t21, t22, t23, t24, t25, t26, t27, t28, t29, t30, t31, t32, t33, t34, t35, t36, t37, t38, t39, t40, t41, t42, t43, t44, t45, t46, t47, t48, t49, t50, t51, t52, t53, t54, t55, t56, t57, t58, t59, t60, t61, t62, t63, t64, t65, t66, t67, t68, t69, t70, t71, t72, t73, t74, t75, t76, t77, t78, t79, t80, t81, t82, a.tmps[83]?.getD undef, a.tmps[84]?.getD undef, a.tmps[85]?.getD undef, a.tmps[86]?.getD undef, a.tmps[87]?.getD undef, a.tmps[88]?.getD undef, a.tmps[89]?.getD undef, a.tmps[90]?.getD undef, a.tmps[91]?.getD undef, a.tmps[92]?.getD undef, a.tmps[93]?.getD undef, a.tmps[94]?.getD undef, a.tmps[95]?.getD undef, a.tmps[96]?.getD undef, a.tmps[97]?.getD undef, a.tmps[98]?.getD undef, a.tmps[99]?.getD undef, a.tmps[100]?.getD undef, a.tmps[101]?.getD undef, a.tmps[102]?.getD undef, a.tmps[103]?.getD undef, a.tmps[104]?.getD undef, a.tmps[105]?.getD undef, a.tmps[106]?.getD undef, a.tmps[107]?.getD undef, a.tmps[108]?.getD undef, a.tmps[109]?.getD undef, a.tmps[110]?.getD undef, a.tmps[111]?.getD undef, a.tmps[112]?.getD undef, a.tmps[113]?.getD undef, a.tmps[114]?.getD undef, a.tmps[115]?.getD undef, a.tmps[116]?.getD undef, a.tmps[117]?.getD undef, a.tmps[118]?.getD undef, a.tmps[119]?.getD undef, a.tmps[120]?.getD undef, a.tmps[121]?.getD undef, a.tmps[122]?.getD undef, a.tmps[123]?.getD undef, a.tmps[124]?.getD undef, a.tmps[125]?.getD undef, t126, t127, t128, t129, t130, t131, t132, t133, t134, t135, t136, t137, t138, t139, t140, t141, t142, t143, t144, t145, t146, t147, t148, t149, t150, t151, t152, t153, t154, t155, t156, t157, t158, t159, t160, t161, t162, t163, t164, t165, t166, t167, t168, t169, t170, t171, t172, t173, t174, t175, t176, t177, t178, t179, t180, t181, t182, t183, t184, t185, t186, t187, t188, t189, t190, t191, t192, t193, t194, t195, t196, t197, t198, t199, t200, t201, t202, t203, t204, t205, t206, t207, t208, t209, t210, t211, t212, t213, t214, t215, t216], []⟩ := act_of ⟨eval_get (hA.at_ 0 (by kernel_rfl)), eval_get (hA.at_ 1 (by kernel_rfl)), eval_get (hA.at_ 2 (by kernel_rfl)), eval_get (hA.at_ 3 (by kernel_rfl)), eval_get (hA.at_ 4 (by kernel_rfl)), eval_get (hA.at_ 5 (by kernel_rfl)), eval_get (hA.at_ 6 (by kernel_rfl)), eval_get (hA.at_ 7 (by kernel_rfl)), eval_get (hA.at_ 8 (by kernel_rfl)), eval_get (hA.at_ 9 (by kernel_rfl)), eval_get (hA.at_ 10 (by kernel_rfl)), hv11, eval_get (hA.at_ 12 (by kernel_rfl)), eval_get (hA.at_ 13 (by kernel_rfl)), eval_get (hA.at_ 14 (by kernel_rfl)), eval_get (hA.at_ 15 (by kernel_rfl)), eval_get (hA.at_ 16 (by kernel_rfl)), eval_get (hA.at_ 17 (by kernel_rfl)), eval_get (hA.at_ 18 (by kernel_rfl)), eval_get (hA.at_ 19 (by kernel_rfl)), eval_get (hA.at_ 20 (by kernel_rfl)), eval_get (hA.at_ 21 (by kernel_rfl)), eval_get (hA.at_ 22 (by kernel_rfl)), eval_get (hA.at_ 23 (by kernel_rfl)), eval_get (hA.at_ 24 (by kernel_rfl)), eval_get (hA.at_ 25 (by kernel_rfl)), eval_get (hA.at_ 26 (by kernel_rfl)), eval_get (hA.at_ 27 (by kernel_rfl)), eval_get (hA.at_ 28 (by kernel_rfl)), eval_get (hA.at_ 29 (by kernel_rfl)), eval_get (hA.at_ 30 (by kernel_rfl)), eval_get (hA.at_ 31 (by kernel_rfl)), eval_get (hA.at_ 32 (by kernel_rfl)), eval_get (hA.at_ 33 (by kernel_rfl)), eval_get (hA.at_ 34 (by kernel_rfl)), eval_get (hA.at_ 35 (by kernel_rfl)), eval_get (hA.at_ 36 (by kernel_rfl)), eval_get (hA.at_ 37 (by kernel_rfl)), eval_get (hA.at_ 38 (by kernel_rfl)), eval_get (hA.at_ 39 (by kernel_rfl)), eval_get (hA.at_ 40 (by kernel_rfl)), eval_get (hA.at_ 41 (by kernel_rfl)), eval_get (hA.at_ 42 (by kernel_rfl)), eval_get (hA.at_ 43 (by kernel_rfl)), eval_get (hA.at_ 44 (by kernel_rfl)), eval_get (hA.at_ 45 (by kernel_rfl)), eval_get (hA.at_ 46 (by kernel_rfl)), eval_get (hA.at_ 47 (by kernel_rfl)), eval_get (hA.at_ 48 (by kernel_rfl)), eval_get (hA.at_ 49 (by kernel_rfl)), eval_get (hA.at_ 50 (by kernel_rfl)), eval_get (hA.at_ 51 (by kernel_rfl)), eval_get (hA.at_ 52 (by kernel_rfl)), eval_get (hA.at_ 53 (by kernel_rfl)), eval_get (hA.at_ 54 (by kernel_rfl)), eval_get (hA.at_ 55 (by kernel_rfl)), eval_get (hA.at_ 56 (by kernel_rfl)), eval_get (hA.at_ 57 (by kernel_rfl)), eval_get (hA.at_ 58 (by kernel_rfl)), eval_get (hA.at_ 59 (by kernel_rfl)), eval_get (hA.at_ 60 (by kernel_rfl)), eval_get (hA.at_ 61 (by kernel_rfl)), eval_get (hA.at_ 62 (by kernel_rfl)), eval_get (hA.at_ 63 (by kernel_rfl)), eval_get (hA.at_ 64 (by kernel_rfl)), eval_get (hA.at_ 65 (by kernel_rfl)), eval_get (hA.at_ 66 (by kernel_rfl)), eval_get (hA.at_ 67 (by kernel_rfl)), eval_get (hA.at_ 68 (by kernel_rfl)), eval_get (hA.at_ 69 (by kernel_rfl)), eval_get (hA.at_ 70 (by kernel_rfl)), eval_get (hA.at_ 71 (by kernel_rfl)), eval_get (hA.at_ 72 (by kernel_rfl)), eval_get (hA.at_ 73 (by kernel_rfl)), eval_get (hA.at_ 74 (by kernel_rfl)), eval_get (hA.at_ 75 (by kernel_rfl)), eval_get (hA.at_ 76 (by kernel_rfl)), eval_get (hA.at_ 77 (by kernel_rfl)), eval_get (hA.at_ 78 (by kernel_rfl)), eval_get (hA.at_ 79 (by kernel_rfl)), eval_get (hA.at_ 80 (by kernel_rfl)), eval_get (hA.at_ 81 (by kernel_rfl)), eval_get (hA.at_ 82 (by kernel_rfl)), rfl, rfl, rfl, rfl, rfl, rfl, rfl, rfl, rfl, rfl, rfl, rfl, rfl, rfl, rfl, rfl, rfl, rfl, rfl, rfl, rfl, rfl, rfl, rfl, rfl, rfl, rfl, rfl, rfl, rfl, rfl, rfl, rfl, rfl, rfl, rfl, rfl, rfl, rfl, rfl, rfl, rfl, rfl, eval_get (hA.at_ 126 (by kernel_rfl)), eval_get (hA.at_ 127 (by kernel_rfl)), eval_get (hA.at_ 128 (by kernel_rfl)), eval_get (hA.at_ 129 (by kernel_rfl)), eval_get (hA.at_ 130 (by kernel_rfl)), eval_get (hA.at_ 131 (by kernel_rfl)), eval_get (hA.at_ 132 (by kernel_rfl)), eval_get (hA.at_ 133 (by kernel_rfl)), eval_get (hA.at_ 134 (by kernel_rfl)), eval_get (hA.at_ 135 (by kernel_rfl)), eval_get (hA.at_ 136 (by kernel_rfl)), eval_get (hA.at_ 137 (by kernel_rfl)), eval_get (hA.at_ 138 (by kernel_rfl)), eval_get (hA.at_ 139 (by kernel_rfl)), eval_get (hA.at_ 140 (by kernel_rfl)), eval_get (hA.at_ 141 (by kernel_rfl)), eval_get (hA.at_ 142 (by kernel_rfl)), eval_get (hA.at_ 143 (by kernel_rfl)), eval_get (hA.at_ 144 (by kernel_rfl)), eval_get (hA.at_ 145 (by kernel_rfl)), eval_get (hA.at_ 146 (by kernel_rfl)), eval_get (hA.at_ 147 (by kernel_rfl)), eval_get (hA.at_ 148 (by kernel_rfl)), eval_get (hA.at_ 149 (by kernel_rfl)), eval_get (hA.at_ 150 (by kernel_rfl)), eval_get (hA.at_ 151 (by kernel_rfl)), eval_get (hA.at_ 152 (by kernel_rfl)), eval_get (hA.at_ 153 (by kernel_rfl)), eval_get (hA.at_ 154 (by kernel_rfl)), eval_get (hA.at_ 155 (by kernel_rfl)), eval_get (hA.at_ 156 (by kernel_rfl)), eval_get (hA.at_ 157 (by kernel_rfl)), eval_get (hA.at_ 158 (by kernel_rfl)), eval_get (hA.at_ 159 (by kernel_rfl)), eval_get (hA.at_ 160 (by kernel_rfl)), eval_get (hA.at_ 161 (by kernel_rfl)), eval_get (hA.at_ 162 (by kernel_rfl)), eval_get (hA.at_ 163 (by kernel_rfl)), eval_get (hA.at_ 164 (by kernel_rfl)), eval_get (hA.at_ 165 (by kernel_rfl)), eval_get (hA.at_ 166 (by kernel_rfl)), eval_get (hA.at_ 167 (by kernel_rfl)), eval_get (hA.at_ 168 (by kernel_rfl)), eval_get (hA.at_ 169 (by kernel_rfl)), eval_get (hA.at_ 170 (by kernel_rfl)), eval_get (hA.at_ 171 (by kernel_rfl)), eval_get (hA.at_ 172 (by kernel_rfl)), eval_get (hA.at_ 173 (by kernel_rfl)), eval_get (hA.at_ 174 (by kernel_rfl)), eval_get (hA.at_ 175 (by kernel_rfl)), eval_get (hA.at_ 176 (by kernel_rfl)), eval_get (hA.at_ 177 (by kernel_rfl)), eval_get (hA.at_ 178 (by kernel_rfl)), eval_get (hA.at_ 179 (by kernel_rfl)), eval_get (hA.at_ 180 (by kernel_rfl)), eval_get (hA.at_ 181 (by kernel_rfl)), eval_get (hA.at_ 182 (by kernel_rfl)), eval_get (hA.at_ 183 (by kernel_rfl)), eval_get (hA.at_ 184 (by kernel_rfl)), eval_get (hA.at_ 185 (by kernel_rfl)), eval_get (hA.at_ 186 (by kernel_rfl)), eval_get (hA.at_ 187 (by kernel_rfl)), eval_get (hA.at_ 188 (by kernel_rfl)), eval_get (hA.at_ 189 (by kernel_rfl)), eval_get (hA.at_ 190 (by kernel_rfl)), eval_get (hA.at_ 191 (by kernel_rfl)), eval_get (hA.at_ 192 (by kernel_rfl)), eval_get (hA.at_ 193 (by kernel_rfl)), eval_get (hA.at_ 194 (by kernel_rfl)), eval_get (hA.at_ 195 (by kernel_rfl)), eval_get (hA.at_ 196 (by kernel_rfl)), eval_get (hA.at_ 197 (by kernel_rfl)), eval_get (hA.at_ 198 (by kernel_rfl)), eval_get (hA.at_ 199 (by kernel_rfl)), eval_get (hA.at_ 200 (by kernel_rfl)), eval_get (hA.at_ 201 (by kernel_rfl)), eval_get (hA.at_ 202 (by kernel_rfl)), eval_get (hA.at_ 203 (by kernel_rfl)), eval_get (hA.at_ 204 (by kernel_rfl)), eval_get (hA.at_ 205 (by kernel_rfl)), eval_get (hA.at_ 206 (by kernel_rfl)), eval_get (hA.at_ 207 (by kernel_rfl)), eval_get (hA.at_ 208 (by kernel_rfl)), eval_get (hA.at_ 209 (by kernel_rfl)), eval_get (hA.at_ 210 (by kernel_rfl)), eval_get (hA.at_ 211 (by kernel_rfl)), eval_get (hA.at_ 212 (by kernel_rfl)), eval_get (hA.at_ 213 (by kernel_rfl)), eval_get (hA.at_ 214 (by kernel_rfl)), eval_get (hA.at_ 215 (by kernel_rfl)), eval_get (hA.at_ 216 (by kernel_rfl)), trivial⟩ hA.size hA.defers
    rw [ha]
    exact HK.out w' _ _ _ _ _ _ _ _ _ _ _ _ _ _ _ _ _ _ _ _ _ _ _ _ _ _ _ _ _ _ _ _ _ _ _ _ _ _ _ _ _ _ _ hJ


noncomputable def codefstC1 : Code := ((Try.f4.body.bind (theRegion 21)).getD .skip)

set_option linter.unusedVariables false in
def RfstC1 (g : Addr) (n cap k m : Nat) (x y : Int × Int) (j : Nat) (v : Value) (_w : World) : Prop :=
  v = [.bool true, .bool true, .slice (some g) n cap, .int .i64 (m : Int), .pointer (some (g.add (m * 2))), .pointer (some (g.add (m * 2))), .int .i64 y.1, .slice (some g) n cap, .int .i64 (k : Int), .pointer (some (g.add (k * 2))), .pointer (some (g.add (k * 2))), .int .i64 x.1, .bool true, .bool true, undef, undef, undef, undef, undef, undef, undef, undef, undef, undef, undef, .bool true, .bool true, undef, undef, undef, undef, undef, undef, .bool true, .bool true, undef, undef, undef, undef, undef, undef, .bool true, .bool true, .bool true].getD j undef
theorem RfstC1_le (g : Addr) (n cap k m : Nat) (x y : Int × Int) : ∀ j v w w', Below w.heap.size w w' → RfstC1 g n cap k m x y j v w → RfstC1 g n cap k m x y j v w' := by
  intro j v w w' hb h
  exact h

set_option linter.unusedVariables false in
set_option maxRecDepth 1000000 in
set_option maxHeartbeats 4000000 in
theorem fstC1 (Q : Exit → Act → World → Prop) (g : Addr) (n cap k m : Nat) (x y : Int × Int) (w : World)
    (hg : g.block < w.heap.size)
    (hm0 : (0 : Int) ≤ (m : Int))
    (hm1 : (m : Int) < (n : Int))
    (hk0 : (0 : Int) ≤ (k : Int))
    (hk1 : (k : Int) < (n : Int))
    (hy0 : w.cell? (g.add (m * 2)) = some (.int .i64 y.1))
    (hy1 : w.cell? ⟨(g.add (m * 2)).block, (g.add (m * 2)).off + 1, none⟩ = some (.int .i64 y.2))
    (hx0 : w.cell? (g.add (k * 2)) = some (.int .i64 x.1))
    (HEQ : ¬ y.1 = x.1 )
    (t0 t2 t3 t4 t5 t6 t7 t8 t9 t13 t14 t15 t16 t17 t18 t19 t20 t21 t22 t23 t24 t25 t26 t27 t28 t29 t30 t31 t32 t33 t34 t35 t36 t37 t38 t39 t40 t41 t42 t43 t44 t45 t46 t47 t48 t49 t50 t51 t52 t53 t54 t55 t56 t57 t58 t59 t60 t61 t62 t63 t64 t65 t66 t67 t68 t69 t70 t71 t72 t73 t74 t75 t76 t77 t78 t79 t80 t81 t82 t83 t84 t85 t86 t87 t88 t89 t90 t91 t92 t93 t94 t95 t96 t97 t98 t99 t100 t101 t102 t103 t104 t105 t106 t107 t108 t109 t110 t111 t112 t113 t114 t115 t116 t117 t118 t119 t120 t121 t122 t123 t124 t125 t126 t127 t128 t129 t130 t131 t132 t133 t134 t135 t136 t137 t138 t139 t140 t141 t142 t143 t144 t145 t146 t147 t148 t149 t150 t151 t152 t153 t154 t155 t156 t157 t158 t159 t160 t161 t162 t163 t164 t165 t166 t167 t168 t169 t170 t171 t172 t173 t174 t175 t176 t177 t178 t179 t180 t181 t182 t183 t184 t185 t186 t187 t188 t189 t190 t191 t192 t193 t194 t195 t196 t197 t198 t199 t200 t201 t202 t203 t204 t205 t206 t207 t208 t209 t210 t211 t212 t213 t214 t215 t216 : Value) (hK : ∀ (w' : World) (s83 s84 s85 s86 s87 s88 s89 s90 s91 s92 s93 s94 s95 s96 s97 s98 s99 s100 s101 s102 s103 s104 s105 s106 s107 s108 s109 s110 s111 s112 s113 s114 s115 s116 s117 s118 s119 s120 s121 s122 s123 s124 s125 : Value), Below w.heap.size w w' → Q .normal ⟨#[t0, .slice (some g) n cap, t2, t3, t4, t5, t6, t7, t8, t9, .int .i64 (k : Int), .bool true, .int .i64 (m : Int), t13, t14, t15, t16, t17, t18, t19, t20, t21, t22, t23, t24, t25, t26, t27, t28, t29, t30, t31, t32, t33, t34, t35, t36, t37, t38, t39, t40, t41, t42, t43, t44, t45, t46, t47, t48, t49, t50, t51, t52, t53, t54, t55, t56, t57, t58, t59, t60, t61, t62, t63, t64, t65, t66, t67, t68, t69, t70, t71, t72, t73, t74, t75, t76, t77, t78, t79, t80, t81, t82, s83, s84, s85, s86, s87, s88, s89, s90, s91, s92, s93, s94, s95, s96, s97, s98, s99, s100, s101, s102, s103, s104, s105, s106, s107, s108, s109, s110, s111, s112, s113, s114, s115, s116, s117, s118, s119, s120, s121, s122, s123, s124, s125, t126, t127, t128, t129, t130, t131, t132, t133, t134, t135, t136, t137, t138, t139, t140, t141, t142, t143, t144, t145, t146, t147, t148, t149, t150, t151, t152, t153, t154, t155, t156, t157, t158, t159, t160, t161, t162, t163, t164, t165, t166, t167, t168, t169, t170, t171, t172, t173, t174, t175, t176, t177, t178, t179, t180, t181, t182, t183, t184, t185, t186, t187, t188, t189, t190, t191, t192, t193, t194, t195, t196, t197, t198, t199, t200, t201, t202, t203, t204, t205, t206, t207, t208, t209, t210, t211, t212, t213, t214, t215, t216], []⟩ w') :
    Code.wp Try.prog codefstC1 Q ⟨#[t0, .slice (some g) n cap, t2, t3, t4, t5, t6, t7, t8, t9, .int .i64 (k : Int), .bool true, .int .i64 (m : Int), t13, t14, t15, t16, t17, t18, t19, t20, t21, t22, t23, t24, t25, t26, t27, t28, t29, t30, t31, t32, t33, t34, t35, t36, t37, t38, t39, t40, t41, t42, t43, t44, t45, t46, t47, t48, t49, t50, t51, t52, t53, t54, t55, t56, t57, t58, t59, t60, t61, t62, t63, t64, t65, t66, t67, t68, t69, t70, t71, t72, t73, t74, t75, t76, t77, t78, t79, t80, t81, t82, t83, t84, t85, t86, t87, t88, t89, t90, t91, t92, t93, t94, t95, t96, t97, t98, t99, t100, t101, t102, t103, t104, t105, t106, t107, t108, t109, t110, t111, t112, t113, t114, t115, t116, t117, t118, t119, t120, t121, t122, t123, t124, t125, t126, t127, t128, t129, t130, t131, t132, t133, t134, t135, t136, t137, t138, t139, t140, t141, t142, t143, t144, t145, t146, t147, t148, t149, t150, t151, t152, t153, t154, t155, t156, t157, t158, t159, t160, t161, t162, t163, t164, t165, t166, t167, t168, t169, t170, t171, t172, t173, t174, t175, t176, t177, t178, t179, t180, t181, t182, t183, t184, t185, t186, t187, t188, t189, t190, t191, t192, t193, t194, t195, t196, t197, t198, t199, t200, t201, t202, t203, t204, t205, t206, t207, t208, t209, t210, t211, t212, t213, t214, t215, t216], []⟩ w := by
  replace HEQ := Lib.hid HEQ
  have HK := Lib.hid hK
  clear hK
  conv => arg 2; whnf
  refine wp_flow2 (P := Try.prog) (by kernel_rfl) (by kernel_rfl) (fun W => Below w.heap.size w W) (RfstC1 g n cap k m x y) (fun W W' => Below W.heap.size W W') (Below.refl _ _).drew (RfstC1_le g n cap k m x y) ?_ ?_
  · refine ⟨?_, ?_, ?_, ?_, ?_, ?_, ?_, ?_, ?_, ?_, ?_, ?_, ?_, ?_, ?_, ?_, ?_, ?_, ?_, ?_, ?_, ?_, ?_, ?_, ?_, ?_, ?_, ?_, ?_, ?_, ?_, ?_, ?_, ?_, ?_, ?_, ?_, ?_, ?_, ?_, ?_, ?_, ?_, ?_, trivial⟩
    · intro a w1 hJ hA hU hD K hK
      refine duty_plain rfl ?_
      have h11 : a.tmps[11]?.getD undef = .bool true := eval_get (hU.at_ 43 rfl rfl rfl)
      refine wp_value (v := .bool true) (w' := w1) ?_ (hK _ _ hJ (Below.refl _ _) rfl)
      clear hK hD hA hJ hU
      go_simp
    · intro a w1 hJ hA hU hD K hK
      refine duty_plain rfl ?_
      have h83 : a.tmps[83]?.getD undef = .bool true := eval_get (given_at hD 0 rfl rfl rfl)
      refine wp_value (v := .bool true) (w' := w1) ?_ (hK _ _ hJ (Below.refl _ _) rfl)
      clear hK hD hA hJ hU
      go_simp
    · intro a w1 hJ hA hU hD K hK
      refine duty_yes rfl rfl rfl (hA.lt 84 (by kernel_rfl)) (given_at hD 1 rfl rfl rfl) ?_
      have h1 : a.tmps[1]?.getD undef = .slice (some g) n cap := eval_get (hA.at_ 1 (by kernel_rfl))
      refine wp_value (v := .slice (some g) n cap) (w' := w1) ?_ (hK _ _ hJ (Below.refl _ _) rfl)
      clear hK hD hA hJ hU
      go_simp
    · intro a w1 hJ hA hU hD K hK
      refine duty_yes rfl rfl rfl (hA.lt 84 (by kernel_rfl)) (given_at hD 1 rfl rfl rfl) ?_
      have h12 : a.tmps[12]?.getD undef = .int .i64 (m : Int) := eval_get (hA.at_ 12 (by kernel_rfl))
      refine wp_value (v := .int .i64 (m : Int)) (w' := w1) ?_ (hK _ _ hJ (Below.refl _ _) rfl)
      clear hK hD hA hJ hU
      go_simp
    · intro a w1 hJ hA hU hD K hK
      refine duty_yes rfl rfl rfl (hA.lt 84 (by kernel_rfl)) (given_at hD 1 rfl rfl rfl) ?_
      have h85 : a.tmps[85]?.getD undef = .slice (some g) n cap := eval_get (given_at hD 2 rfl rfl rfl)
      have h86 : a.tmps[86]?.getD undef = .int .i64 (m : Int) := eval_get (given_at hD 3 rfl rfl rfl)
      refine wp_value (v := .pointer (some (g.add (m * 2)))) (w' := w1) ?_ (hK _ _ hJ (Below.refl _ _) rfl)
      clear hK hD hA hJ hU
      go_simp
    · intro a w1 hJ hA hU hD K hK
      refine duty_yes rfl rfl rfl (hA.lt 84 (by kernel_rfl)) (given_at hD 1 rfl rfl rfl) ?_
      have h87 : a.tmps[87]?.getD undef = .pointer (some (g.add (m * 2))) := eval_get (given_at hD 4 rfl rfl rfl)
      refine wp_value (v := .pointer (some (g.add (m * 2)))) (w' := w1) ?_ (hK _ _ hJ (Below.refl _ _) rfl)
      clear hK hD hA hJ hU
      go_simp
    · intro a w1 hJ hA hU hD K hK
      refine duty_yes rfl rfl rfl (hA.lt 84 (by kernel_rfl)) (given_at hD 1 rfl rfl rfl) ?_
      have h88 : a.tmps[88]?.getD undef = .pointer (some (g.add (m * 2))) := eval_get (given_at hD 5 rfl rfl rfl)
      have hc := (hJ.cell (p := g.add (m * 2)) (by show (g.add _).block < _; rw [add_block]; exact hg)).trans hy0
      refine wp_value (v := .int .i64 y.1) (w' := w1) ?_ (hK _ _ hJ (Below.refl _ _) rfl)
      clear hK hD hA hJ hU
      go_simp
    · intro a w1 hJ hA hU hD K hK
      refine duty_yes rfl rfl rfl (hA.lt 84 (by kernel_rfl)) (given_at hD 1 rfl rfl rfl) ?_
      have h1 : a.tmps[1]?.getD undef = .slice (some g) n cap := eval_get (hA.at_ 1 (by kernel_rfl))
      refine wp_value (v := .slice (some g) n cap) (w' := w1) ?_ (hK _ _ hJ (Below.refl _ _) rfl)
      clear hK hD hA hJ hU
      go_simp
    · intro a w1 hJ hA hU hD K hK
      refine duty_yes rfl rfl rfl (hA.lt 84 (by kernel_rfl)) (given_at hD 1 rfl rfl rfl) ?_
      have h10 : a.tmps[10]?.getD undef = .int .i64 (k : Int) := eval_get (hA.at_ 10 (by kernel_rfl))
      refine wp_value (v := .int .i64 (k : Int)) (w' := w1) ?_ (hK _ _ hJ (Below.refl _ _) rfl)
      clear hK hD hA hJ hU
      go_simp
    · intro a w1 hJ hA hU hD K hK
      refine duty_yes rfl rfl rfl (hA.lt 84 (by kernel_rfl)) (given_at hD 1 rfl rfl rfl) ?_
      have h90 : a.tmps[90]?.getD undef = .slice (some g) n cap := eval_get (given_at hD 7 rfl rfl rfl)
      have h91 : a.tmps[91]?.getD undef = .int .i64 (k : Int) := eval_get (given_at hD 8 rfl rfl rfl)
      refine wp_value (v := .pointer (some (g.add (k * 2)))) (w' := w1) ?_ (hK _ _ hJ (Below.refl _ _) rfl)
      clear hK hD hA hJ hU
      go_simp
    · intro a w1 hJ hA hU hD K hK
      refine duty_yes rfl rfl rfl (hA.lt 84 (by kernel_rfl)) (given_at hD 1 rfl rfl rfl) ?_
      have h92 : a.tmps[92]?.getD undef = .pointer (some (g.add (k * 2))) := eval_get (given_at hD 9 rfl rfl rfl)
      refine wp_value (v := .pointer (some (g.add (k * 2)))) (w' := w1) ?_ (hK _ _ hJ (Below.refl _ _) rfl)
      clear hK hD hA hJ hU
      go_simp
    · intro a w1 hJ hA hU hD K hK
      refine duty_yes rfl rfl rfl (hA.lt 84 (by kernel_rfl)) (given_at hD 1 rfl rfl rfl) ?_
      have h93 : a.tmps[93]?.getD undef = .pointer (some (g.add (k * 2))) := eval_get (given_at hD 10 rfl rfl rfl)
      have hc := (hJ.cell (p := g.add (k * 2)) (by show (g.add _).block < _; rw [add_block]; exact hg)).trans hx0
      refine wp_value (v := .int .i64 x.1) (w' := w1) ?_ (hK _ _ hJ (Below.refl _ _) rfl)
      clear hK hD hA hJ hU
      go_simp
    · intro a w1 hJ hA hU hD K hK
      refine duty_yes rfl rfl rfl (hA.lt 84 (by kernel_rfl)) (given_at hD 1 rfl rfl rfl) ?_
      have h89 : a.tmps[89]?.getD undef = .int .i64 y.1 := eval_get (given_at hD 6 rfl rfl rfl)
      have h94 : a.tmps[94]?.getD undef = .int .i64 x.1 := eval_get (given_at hD 11 rfl rfl rfl)
      refine wp_value (v := .bool true) (w' := w1) ?_ (hK _ _ hJ (Below.refl _ _) rfl)
      clear hK hD hA hJ hU
      go_simp
      exact HEQ.out
    · intro a w1 hJ hA hU hD K hK
      refine duty_yes rfl rfl rfl (hA.lt 84 (by kernel_rfl)) (given_at hD 1 rfl rfl rfl) ?_
      have h95 : a.tmps[95]?.getD undef = .bool true := eval_get (given_at hD 12 rfl rfl rfl)
      refine wp_value (v := .bool true) (w' := w1) ?_ (hK _ _ hJ (Below.refl _ _) rfl)
      clear hK hD hA hJ hU
      go_simp
    · intro a w1 hJ hA hU hD K hK
      refine duty_no (b := true) rfl rfl rfl (hA.lt 96 (by kernel_rfl)) (given_at hD 13 rfl rfl rfl) ?_
      exact hK _ _ hJ (Below.refl _ _) rfl
    · intro a w1 hJ hA hU hD K hK
      refine duty_no (b := true) rfl rfl rfl (hA.lt 96 (by kernel_rfl)) (given_at hD 13 rfl rfl rfl) ?_
      exact hK _ _ hJ (Below.refl _ _) rfl
    · intro a w1 hJ hA hU hD K hK
      refine duty_no (b := true) rfl rfl rfl (hA.lt 96 (by kernel_rfl)) (given_at hD 13 rfl rfl rfl) ?_
      exact hK _ _ hJ (Below.refl _ _) rfl
    · intro a w1 hJ hA hU hD K hK
      refine duty_no (b := true) rfl rfl rfl (hA.lt 96 (by kernel_rfl)) (given_at hD 13 rfl rfl rfl) ?_
      exact hK _ _ hJ (Below.refl _ _) rfl
    · intro a w1 hJ hA hU hD K hK
      refine duty_no (b := true) rfl rfl rfl (hA.lt 96 (by kernel_rfl)) (given_at hD 13 rfl rfl rfl) ?_
      exact hK _ _ hJ (Below.refl _ _) rfl
    · intro a w1 hJ hA hU hD K hK
      refine duty_no (b := true) rfl rfl rfl (hA.lt 96 (by kernel_rfl)) (given_at hD 13 rfl rfl rfl) ?_
      exact hK _ _ hJ (Below.refl _ _) rfl
    · intro a w1 hJ hA hU hD K hK
      refine duty_no (b := true) rfl rfl rfl (hA.lt 96 (by kernel_rfl)) (given_at hD 13 rfl rfl rfl) ?_
      exact hK _ _ hJ (Below.refl _ _) rfl
    · intro a w1 hJ hA hU hD K hK
      refine duty_no (b := true) rfl rfl rfl (hA.lt 96 (by kernel_rfl)) (given_at hD 13 rfl rfl rfl) ?_
      exact hK _ _ hJ (Below.refl _ _) rfl
    · intro a w1 hJ hA hU hD K hK
      refine duty_no (b := true) rfl rfl rfl (hA.lt 96 (by kernel_rfl)) (given_at hD 13 rfl rfl rfl) ?_
      exact hK _ _ hJ (Below.refl _ _) rfl
    · intro a w1 hJ hA hU hD K hK
      refine duty_no (b := true) rfl rfl rfl (hA.lt 96 (by kernel_rfl)) (given_at hD 13 rfl rfl rfl) ?_
      exact hK _ _ hJ (Below.refl _ _) rfl
    · intro a w1 hJ hA hU hD K hK
      refine duty_no (b := true) rfl rfl rfl (hA.lt 96 (by kernel_rfl)) (given_at hD 13 rfl rfl rfl) ?_
      exact hK _ _ hJ (Below.refl _ _) rfl
    · intro a w1 hJ hA hU hD K hK
      refine duty_yes rfl rfl rfl (hA.lt 84 (by kernel_rfl)) (given_at hD 1 rfl rfl rfl) ?_
      have h96 : a.tmps[96]?.getD undef = .bool true := eval_get (given_at hD 13 rfl rfl rfl)
      have h107 : a.tmps[107]?.getD undef = undef := eval_get (given_at hD 24 rfl rfl rfl)
      refine wp_value (v := .bool true) (w' := w1) ?_ (hK _ _ hJ (Below.refl _ _) rfl)
      clear hK hD hA hJ hU
      go_simp
    · intro a w1 hJ hA hU hD K hK
      refine duty_yes rfl rfl rfl (hA.lt 84 (by kernel_rfl)) (given_at hD 1 rfl rfl rfl) ?_
      have h108 : a.tmps[108]?.getD undef = .bool true := eval_get (given_at hD 25 rfl rfl rfl)
      refine wp_value (v := .bool true) (w' := w1) ?_ (hK _ _ hJ (Below.refl _ _) rfl)
      clear hK hD hA hJ hU
      go_simp
    · intro a w1 hJ hA hU hD K hK
      refine duty_no (b := true) rfl rfl rfl (hA.lt 109 (by kernel_rfl)) (given_at hD 26 rfl rfl rfl) ?_
      exact hK _ _ hJ (Below.refl _ _) rfl
    · intro a w1 hJ hA hU hD K hK
      refine duty_no (b := true) rfl rfl rfl (hA.lt 109 (by kernel_rfl)) (given_at hD 26 rfl rfl rfl) ?_
      exact hK _ _ hJ (Below.refl _ _) rfl
    · intro a w1 hJ hA hU hD K hK
      refine duty_no (b := true) rfl rfl rfl (hA.lt 109 (by kernel_rfl)) (given_at hD 26 rfl rfl rfl) ?_
      exact hK _ _ hJ (Below.refl _ _) rfl
    · intro a w1 hJ hA hU hD K hK
      refine duty_no (b := true) rfl rfl rfl (hA.lt 109 (by kernel_rfl)) (given_at hD 26 rfl rfl rfl) ?_
      exact hK _ _ hJ (Below.refl _ _) rfl
    · intro a w1 hJ hA hU hD K hK
      refine duty_no (b := true) rfl rfl rfl (hA.lt 109 (by kernel_rfl)) (given_at hD 26 rfl rfl rfl) ?_
      exact hK _ _ hJ (Below.refl _ _) rfl
    · intro a w1 hJ hA hU hD K hK
      refine duty_no (b := true) rfl rfl rfl (hA.lt 109 (by kernel_rfl)) (given_at hD 26 rfl rfl rfl) ?_
      exact hK _ _ hJ (Below.refl _ _) rfl
    · intro a w1 hJ hA hU hD K hK
      refine duty_yes rfl rfl rfl (hA.lt 84 (by kernel_rfl)) (given_at hD 1 rfl rfl rfl) ?_
      have h109 : a.tmps[109]?.getD undef = .bool true := eval_get (given_at hD 26 rfl rfl rfl)
      have h115 : a.tmps[115]?.getD undef = undef := eval_get (given_at hD 32 rfl rfl rfl)
      refine wp_value (v := .bool true) (w' := w1) ?_ (hK _ _ hJ (Below.refl _ _) rfl)
      clear hK hD hA hJ hU
      go_simp
    · intro a w1 hJ hA hU hD K hK
      refine duty_yes rfl rfl rfl (hA.lt 84 (by kernel_rfl)) (given_at hD 1 rfl rfl rfl) ?_
      have h116 : a.tmps[116]?.getD undef = .bool true := eval_get (given_at hD 33 rfl rfl rfl)
      refine wp_value (v := .bool true) (w' := w1) ?_ (hK _ _ hJ (Below.refl _ _) rfl)
      clear hK hD hA hJ hU
      go_simp
    · intro a w1 hJ hA hU hD K hK
      refine duty_no (b := true) rfl rfl rfl (hA.lt 117 (by kernel_rfl)) (given_at hD 34 rfl rfl rfl) ?_
      exact hK _ _ hJ (Below.refl _ _) rfl
    · intro a w1 hJ hA hU hD K hK
      refine duty_no (b := true) rfl rfl rfl (hA.lt 117 (by kernel_rfl)) (given_at hD 34 rfl rfl rfl) ?_
      exact hK _ _ hJ (Below.refl _ _) rfl
    · intro a w1 hJ hA hU hD K hK
      refine duty_no (b := true) rfl rfl rfl (hA.lt 117 (by kernel_rfl)) (given_at hD 34 rfl rfl rfl) ?_
      exact hK _ _ hJ (Below.refl _ _) rfl
    · intro a w1 hJ hA hU hD K hK
      refine duty_no (b := true) rfl rfl rfl (hA.lt 117 (by kernel_rfl)) (given_at hD 34 rfl rfl rfl) ?_
      exact hK _ _ hJ (Below.refl _ _) rfl
    · intro a w1 hJ hA hU hD K hK
      refine duty_no (b := true) rfl rfl rfl (hA.lt 117 (by kernel_rfl)) (given_at hD 34 rfl rfl rfl) ?_
      exact hK _ _ hJ (Below.refl _ _) rfl
    · intro a w1 hJ hA hU hD K hK
      refine duty_no (b := true) rfl rfl rfl (hA.lt 117 (by kernel_rfl)) (given_at hD 34 rfl rfl rfl) ?_
      exact hK _ _ hJ (Below.refl _ _) rfl
    · intro a w1 hJ hA hU hD K hK
      refine duty_yes rfl rfl rfl (hA.lt 84 (by kernel_rfl)) (given_at hD 1 rfl rfl rfl) ?_
      have h117 : a.tmps[117]?.getD undef = .bool true := eval_get (given_at hD 34 rfl rfl rfl)
      have h123 : a.tmps[123]?.getD undef = undef := eval_get (given_at hD 40 rfl rfl rfl)
      refine wp_value (v := .bool true) (w' := w1) ?_ (hK _ _ hJ (Below.refl _ _) rfl)
      clear hK hD hA hJ hU
      go_simp
    · intro a w1 hJ hA hU hD K hK
      refine duty_plain rfl ?_
      have h84 : a.tmps[84]?.getD undef = .bool true := eval_get (given_at hD 1 rfl rfl rfl)
      have h124 : a.tmps[124]?.getD undef = .bool true := eval_get (given_at hD 41 rfl rfl rfl)
      refine wp_value (v := .bool true) (w' := w1) ?_ (hK _ _ hJ (Below.refl _ _) rfl)
      clear hK hD hA hJ hU
      go_simp
    · intro a w1 hJ hA hU hD K hK
      refine duty_plain rfl ?_
      have h125 : a.tmps[125]?.getD undef = .bool true := eval_get (given_at hD 42 rfl rfl rfl)
      refine wp_value (v := .bool true) (w' := w1) ?_ (hK _ _ hJ (Below.refl _ _) rfl)
      clear hK hD hA hJ hU
      go_simp
  · intro a w' hJ hA hG
    have hv11 : a.tmps[11]?.getD undef = .bool true := eval_get (hG 43 _ _ rfl rfl)
    have ha : a = ⟨#[t0, .slice (some g) n cap, t2, t3, t4, t5, t6, t7, t8, t9, .int .i64 (k : Int), .bool true, .int .i64 (m : Int), t13, t14, t15, t16, t17, t18, t19, t20, t21, t22, t23, t24, t25, t26, t27, t28, t29, t30, t31, t32, t33, t34, t35, t36, t37, t38, t39, t40, t41, t42, t43, t44, t45, t46, t47, t48, t49, t50, t51, t52, t53, t54, t55, t56, t57, t58, t59, t60, t61, t62, t63, t64, t65, t66, t67, t68, t69, t70, t71, t72, t73, t74, t75, t76, t77, t78, t79, t80, t81, t82, a.tmps[83]?.getD undef, a.tmps[84]?.getD undef, a.tmps[85]?.getD undef, a.tmps[86]?.getD undef, a.tmps[87]?.getD undef, a.tmps[88]?.getD undef, a.tmps[89]?.getD undef, a.tmps[90]?.getD undef, a.tmps[91]?.getD undef, a.tmps[92]?.getD undef, a.tmps[93]?.getD undef, a.tmps[94]?.getD undef, a.tmps[95]?.getD undef, a.tmps[96]?.getD undef, a.tmps[97]?.getD undef, a.tmps[98]?.getD undef, a.tmps[99]?.getD undef, a.tmps[100]?.getD undef, a.tmps[101]?.getD undef, a.tmps[102]?.getD undef, a.tmps[103]?.getD undef, a.tmps[104]?.getD undef, a.tmps[105]?.getD undef, a.tmps[106]?.getD undef, a.tmps[107]?.getD undef, a.tmps[108]?.getD undef, a.tmps[109]?.getD undef, a.tmps[110]?.getD undef, a.tmps[111]?.getD undef, a.tmps[112]?.getD undef, a.tmps[113]?.getD undef, a.tmps[114]?.getD undef, a.tmps[115]?.getD undef, a.tmps[116]?.getD undef, a.tmps[117]?.getD undef, a.tmps[118]?.getD undef, a.tmps[119]?.getD undef, a.tmps[120]?.getD undef, a.tmps[121]?.getD undef, a.tmps[122]?.getD undef, a.tmps[123]?.getD undef, a.tmps[124]?.getD undef, a.tmps[125]?.getD undef, t126, t127, t128, t129, t130, t131, t132, t133, t134, t135, t136, t137, t138, t139, t140, t141, t142, t143, t144, t145, t146, t147, t148, t149, t150, t151, t152, t153, t154, t155, t156, t157, t158, t159, t160, t161, t162, t163, t164, t165, t166, t167, t168, t169, t170, t171, t172, t173, t174, t175, t176, t177, t178, t179, t180, t181, t182, t183, t184, t185, t186, t187, t188, t189, t190, t191, t192, t193, t194, t195, t196, t197, t198, t199, t200, t201, t202, t203, t204, t205, t206, t207, t208, t209, t210, t211, t212, t213, t214, t215, t216], []⟩ := act_of ⟨eval_get (hA.at_ 0 (by kernel_rfl)), eval_get (hA.at_ 1 (by kernel_rfl)), eval_get (hA.at_ 2 (by kernel_rfl)), eval_get (hA.at_ 3 (by kernel_rfl)), eval_get (hA.at_ 4 (by kernel_rfl)), eval_get (hA.at_ 5 (by kernel_rfl)), eval_get (hA.at_ 6 (by kernel_rfl)), eval_get (hA.at_ 7 (by kernel_rfl)), eval_get (hA.at_ 8 (by kernel_rfl)), eval_get (hA.at_ 9 (by kernel_rfl)), eval_get (hA.at_ 10 (by kernel_rfl)), hv11, eval_get (hA.at_ 12 (by kernel_rfl)), eval_get (hA.at_ 13 (by kernel_rfl)), eval_get (hA.at_ 14 (by kernel_rfl)), eval_get (hA.at_ 15 (by kernel_rfl)), eval_get (hA.at_ 16 (by kernel_rfl)), eval_get (hA.at_ 17 (by kernel_rfl)), eval_get (hA.at_ 18 (by kernel_rfl)), eval_get (hA.at_ 19 (by kernel_rfl)), eval_get (hA.at_ 20 (by kernel_rfl)), eval_get (hA.at_ 21 (by kernel_rfl)), eval_get (hA.at_ 22 (by kernel_rfl)), eval_get (hA.at_ 23 (by kernel_rfl)), eval_get (hA.at_ 24 (by kernel_rfl)), eval_get (hA.at_ 25 (by kernel_rfl)), eval_get (hA.at_ 26 (by kernel_rfl)), eval_get (hA.at_ 27 (by kernel_rfl)), eval_get (hA.at_ 28 (by kernel_rfl)), eval_get (hA.at_ 29 (by kernel_rfl)), eval_get (hA.at_ 30 (by kernel_rfl)), eval_get (hA.at_ 31 (by kernel_rfl)), eval_get (hA.at_ 32 (by kernel_rfl)), eval_get (hA.at_ 33 (by kernel_rfl)), eval_get (hA.at_ 34 (by kernel_rfl)), eval_get (hA.at_ 35 (by kernel_rfl)), eval_get (hA.at_ 36 (by kernel_rfl)), eval_get (hA.at_ 37 (by kernel_rfl)), eval_get (hA.at_ 38 (by kernel_rfl)), eval_get (hA.at_ 39 (by kernel_rfl)), eval_get (hA.at_ 40 (by kernel_rfl)), eval_get (hA.at_ 41 (by kernel_rfl)), eval_get (hA.at_ 42 (by kernel_rfl)), eval_get (hA.at_ 43 (by kernel_rfl)), eval_get (hA.at_ 44 (by kernel_rfl)), eval_get (hA.at_ 45 (by kernel_rfl)), eval_get (hA.at_ 46 (by kernel_rfl)), eval_get (hA.at_ 47 (by kernel_rfl)), eval_get (hA.at_ 48 (by kernel_rfl)), eval_get (hA.at_ 49 (by kernel_rfl)), eval_get (hA.at_ 50 (by kernel_rfl)), eval_get (hA.at_ 51 (by kernel_rfl)), eval_get (hA.at_ 52 (by kernel_rfl)), eval_get (hA.at_ 53 (by kernel_rfl)), eval_get (hA.at_ 54 (by kernel_rfl)), eval_get (hA.at_ 55 (by kernel_rfl)), eval_get (hA.at_ 56 (by kernel_rfl)), eval_get (hA.at_ 57 (by kernel_rfl)), eval_get (hA.at_ 58 (by kernel_rfl)), eval_get (hA.at_ 59 (by kernel_rfl)), eval_get (hA.at_ 60 (by kernel_rfl)), eval_get (hA.at_ 61 (by kernel_rfl)), eval_get (hA.at_ 62 (by kernel_rfl)), eval_get (hA.at_ 63 (by kernel_rfl)), eval_get (hA.at_ 64 (by kernel_rfl)), eval_get (hA.at_ 65 (by kernel_rfl)), eval_get (hA.at_ 66 (by kernel_rfl)), eval_get (hA.at_ 67 (by kernel_rfl)), eval_get (hA.at_ 68 (by kernel_rfl)), eval_get (hA.at_ 69 (by kernel_rfl)), eval_get (hA.at_ 70 (by kernel_rfl)), eval_get (hA.at_ 71 (by kernel_rfl)), eval_get (hA.at_ 72 (by kernel_rfl)), eval_get (hA.at_ 73 (by kernel_rfl)), eval_get (hA.at_ 74 (by kernel_rfl)), eval_get (hA.at_ 75 (by kernel_rfl)), eval_get (hA.at_ 76 (by kernel_rfl)), eval_get (hA.at_ 77 (by kernel_rfl)), eval_get (hA.at_ 78 (by kernel_rfl)), eval_get (hA.at_ 79 (by kernel_rfl)), eval_get (hA.at_ 80 (by kernel_rfl)), eval_get (hA.at_ 81 (by kernel_rfl)), eval_get (hA.at_ 82 (by kernel_rfl)), rfl, rfl, rfl, rfl, rfl, rfl, rfl, rfl, rfl, rfl, rfl, rfl, rfl, rfl, rfl, rfl, rfl, rfl, rfl, rfl, rfl, rfl, rfl, rfl, rfl, rfl, rfl, rfl, rfl, rfl, rfl, rfl, rfl, rfl, rfl, rfl, rfl, rfl, rfl, rfl, rfl, rfl, rfl, eval_get (hA.at_ 126 (by kernel_rfl)), eval_get (hA.at_ 127 (by kernel_rfl)), eval_get (hA.at_ 128 (by kernel_rfl)), eval_get (hA.at_ 129 (by kernel_rfl)), eval_get (hA.at_ 130 (by kernel_rfl)), eval_get (hA.at_ 131 (by kernel_rfl)), eval_get (hA.at_ 132 (by kernel_rfl)), eval_get (hA.at_ 133 (by kernel_rfl)), eval_get (hA.at_ 134 (by kernel_rfl)), eval_get (hA.at_ 135 (by kernel_rfl)), eval_get (hA.at_ 136 (by kernel_rfl)), eval_get (hA.at_ 137 (by kernel_rfl)), eval_get (hA.at_ 138 (by kernel_rfl)), eval_get (hA.at_ 139 (by kernel_rfl)), eval_get (hA.at_ 140 (by kernel_rfl)), eval_get (hA.at_ 141 (by kernel_rfl)), eval_get (hA.at_ 142 (by kernel_rfl)), eval_get (hA.at_ 143 (by kernel_rfl)), eval_get (hA.at_ 144 (by kernel_rfl)), eval_get (hA.at_ 145 (by kernel_rfl)), eval_get (hA.at_ 146 (by kernel_rfl)), eval_get (hA.at_ 147 (by kernel_rfl)), eval_get (hA.at_ 148 (by kernel_rfl)), eval_get (hA.at_ 149 (by kernel_rfl)), eval_get (hA.at_ 150 (by kernel_rfl)), eval_get (hA.at_ 151 (by kernel_rfl)), eval_get (hA.at_ 152 (by kernel_rfl)), eval_get (hA.at_ 153 (by kernel_rfl)), eval_get (hA.at_ 154 (by kernel_rfl)), eval_get (hA.at_ 155 (by kernel_rfl)), eval_get (hA.at_ 156 (by kernel_rfl)), eval_get (hA.at_ 157 (by kernel_rfl)), eval_get (hA.at_ 158 (by kernel_rfl)), eval_get (hA.at_ 159 (by kernel_rfl)), eval_get (hA.at_ 160 (by kernel_rfl)), eval_get (hA.at_ 161 (by kernel_rfl)), eval_get (hA.at_ 162 (by kernel_rfl)), eval_get (hA.at_ 163 (by kernel_rfl)), eval_get (hA.at_ 164 (by kernel_rfl)), eval_get (hA.at_ 165 (by kernel_rfl)), eval_get (hA.at_ 166 (by kernel_rfl)), eval_get (hA.at_ 167 (by kernel_rfl)), eval_get (hA.at_ 168 (by kernel_rfl)), eval_get (hA.at_ 169 (by kernel_rfl)), eval_get (hA.at_ 170 (by kernel_rfl)), eval_get (hA.at_ 171 (by kernel_rfl)), eval_get (hA.at_ 172 (by kernel_rfl)), eval_get (hA.at_ 173 (by kernel_rfl)), eval_get (hA.at_ 174 (by kernel_rfl)), eval_get (hA.at_ 175 (by kernel_rfl)), eval_get (hA.at_ 176 (by kernel_rfl)), eval_get (hA.at_ 177 (by kernel_rfl)), eval_get (hA.at_ 178 (by kernel_rfl)), eval_get (hA.at_ 179 (by kernel_rfl)), eval_get (hA.at_ 180 (by kernel_rfl)), eval_get (hA.at_ 181 (by kernel_rfl)), eval_get (hA.at_ 182 (by kernel_rfl)), eval_get (hA.at_ 183 (by kernel_rfl)), eval_get (hA.at_ 184 (by kernel_rfl)), eval_get (hA.at_ 185 (by kernel_rfl)), eval_get (hA.at_ 186 (by kernel_rfl)), eval_get (hA.at_ 187 (by kernel_rfl)), eval_get (hA.at_ 188 (by kernel_rfl)), eval_get (hA.at_ 189 (by kernel_rfl)), eval_get (hA.at_ 190 (by kernel_rfl)), eval_get (hA.at_ 191 (by kernel_rfl)), eval_get (hA.at_ 192 (by kernel_rfl)), eval_get (hA.at_ 193 (by kernel_rfl)), eval_get (hA.at_ 194 (by kernel_rfl)), eval_get (hA.at_ 195 (by kernel_rfl)), eval_get (hA.at_ 196 (by kernel_rfl)), eval_get (hA.at_ 197 (by kernel_rfl)), eval_get (hA.at_ 198 (by kernel_rfl)), eval_get (hA.at_ 199 (by kernel_rfl)), eval_get (hA.at_ 200 (by kernel_rfl)), eval_get (hA.at_ 201 (by kernel_rfl)), eval_get (hA.at_ 202 (by kernel_rfl)), eval_get (hA.at_ 203 (by kernel_rfl)), eval_get (hA.at_ 204 (by kernel_rfl)), eval_get (hA.at_ 205 (by kernel_rfl)), eval_get (hA.at_ 206 (by kernel_rfl)), eval_get (hA.at_ 207 (by kernel_rfl)), eval_get (hA.at_ 208 (by kernel_rfl)), eval_get (hA.at_ 209 (by kernel_rfl)), eval_get (hA.at_ 210 (by kernel_rfl)), eval_get (hA.at_ 211 (by kernel_rfl)), eval_get (hA.at_ 212 (by kernel_rfl)), eval_get (hA.at_ 213 (by kernel_rfl)), eval_get (hA.at_ 214 (by kernel_rfl)), eval_get (hA.at_ 215 (by kernel_rfl)), eval_get (hA.at_ 216 (by kernel_rfl)), trivial⟩ hA.size hA.defers
    rw [ha]
    exact HK.out w' _ _ _ _ _ _ _ _ _ _ _ _ _ _ _ _ _ _ _ _ _ _ _ _ _ _ _ _ _ _ _ _ _ _ _ _ _ _ _ _ _ _ _ hJ


noncomputable def codefstC2 : Code := ((Try.f4.body.bind (theRegion 21)).getD .skip)

set_option linter.unusedVariables false in
def RfstC2 (g : Addr) (n cap k m : Nat) (x y : Int × Int) (j : Nat) (v : Value) (_w : World) : Prop :=
  v = [.bool true, .bool true, .slice (some g) n cap, .int .i64 (m : Int), .pointer (some (g.add (m * 2))), .pointer (some (g.add (m * 2))), .int .i64 y.1, .slice (some g) n cap, .int .i64 (k : Int), .pointer (some (g.add (k * 2))), .pointer (some (g.add (k * 2))), .int .i64 x.1, .bool false, .bool false, .slice (some g) n cap, .int .i64 (m : Int), .pointer (some (g.add (m * 2))), .pointer (some (g.add (m * 2))), .int .i64 y.1, .slice (some g) n cap, .int .i64 (m : Int), .pointer (some (g.add (m * 2))), .pointer (some ⟨(g.add (m * 2)).block, (g.add (m * 2)).off + 1, none⟩), .int .i64 y.2, .bool true, .bool true, .bool true, undef, undef, undef, undef, undef, undef, .bool true, .bool true, undef, undef, undef, undef, undef, undef, .bool true, .bool true, .bool true].getD j undef
theorem RfstC2_le (g : Addr) (n cap k m : Nat) (x y : Int × Int) : ∀ j v w w', Below w.heap.size w w' → RfstC2 g n cap k m x y j v w → RfstC2 g n cap k m x y j v w' := by
  intro j v w w' hb h
  exact h

set_option linter.unusedVariables false in
set_option maxRecDepth 1000000 in
set_option maxHeartbeats 4000000 in
theorem fstC2 (Q : Exit → Act → World → Prop) (g : Addr) (n cap k m : Nat) (x y : Int × Int) (w : World)
    (hg : g.block < w.heap.size)
    (hm0 : (0 : Int) ≤ (m : Int))
    (hm1 : (m : Int) < (n : Int))
    (hk0 : (0 : Int) ≤ (k : Int))
    (hk1 : (k : Int) < (n : Int))
    (hy0 : w.cell? (g.add (m * 2)) = some (.int .i64 y.1))
    (hy1 : w.cell? ⟨(g.add (m * 2)).block, (g.add (m * 2)).off + 1, none⟩ = some (.int .i64 y.2))
    (hx0 : w.cell? (g.add (k * 2)) = some (.int .i64 x.1))
    (HEQ : y.1 = x.1 )
    (f1 : decide (y.2 ≤ y.1) = true)
    (t0 t2 t3 t4 t5 t6 t7 t8 t9 t13 t14 t15 t16 t17 t18 t19 t20 t21 t22 t23 t24 t25 t26 t27 t28 t29 t30 t31 t32 t33 t34 t35 t36 t37 t38 t39 t40 t41 t42 t43 t44 t45 t46 t47 t48 t49 t50 t51 t52 t53 t54 t55 t56 t57 t58 t59 t60 t61 t62 t63 t64 t65 t66 t67 t68 t69 t70 t71 t72 t73 t74 t75 t76 t77 t78 t79 t80 t81 t82 t83 t84 t85 t86 t87 t88 t89 t90 t91 t92 t93 t94 t95 t96 t97 t98 t99 t100 t101 t102 t103 t104 t105 t106 t107 t108 t109 t110 t111 t112 t113 t114 t115 t116 t117 t118 t119 t120 t121 t122 t123 t124 t125 t126 t127 t128 t129 t130 t131 t132 t133 t134 t135 t136 t137 t138 t139 t140 t141 t142 t143 t144 t145 t146 t147 t148 t149 t150 t151 t152 t153 t154 t155 t156 t157 t158 t159 t160 t161 t162 t163 t164 t165 t166 t167 t168 t169 t170 t171 t172 t173 t174 t175 t176 t177 t178 t179 t180 t181 t182 t183 t184 t185 t186 t187 t188 t189 t190 t191 t192 t193 t194 t195 t196 t197 t198 t199 t200 t201 t202 t203 t204 t205 t206 t207 t208 t209 t210 t211 t212 t213 t214 t215 t216 : Value) (hK : ∀ (w' : World) (s83 s84 s85 s86 s87 s88 s89 s90 s91 s92 s93 s94 s95 s96 s97 s98 s99 s100 s101 s102 s103 s104 s105 s106 s107 s108 s109 s110 s111 s112 s113 s114 s115 s116 s117 s118 s119 s120 s121 s122 s123 s124 s125 : Value), Below w.heap.size w w' → Q .normal ⟨#[t0, .slice (some g) n cap, t2, t3, t4, t5, t6, t7, t8, t9, .int .i64 (k : Int), .bool true, .int .i64 (m : Int), t13, t14, t15, t16, t17, t18, t19, t20, t21, t22, t23, t24, t25, t26, t27, t28, t29, t30, t31, t32, t33, t34, t35, t36, t37, t38, t39, t40, t41, t42, t43, t44, t45, t46, t47, t48, t49, t50, t51, t52, t53, t54, t55, t56, t57, t58, t59, t60, t61, t62, t63, t64, t65, t66, t67, t68, t69, t70, t71, t72, t73, t74, t75, t76, t77, t78, t79, t80, t81, t82, s83, s84, s85, s86, s87, s88, s89, s90, s91, s92, s93, s94, s95, s96, s97, s98, s99, s100, s101, s102, s103, s104, s105, s106, s107, s108, s109, s110, s111, s112, s113, s114, s115, s116, s117, s118, s119, s120, s121, s122, s123, s124, s125, t126, t127, t128, t129, t130, t131, t132, t133, t134, t135, t136, t137, t138, t139, t140, t141, t142, t143, t144, t145, t146, t147, t148, t149, t150, t151, t152, t153, t154, t155, t156, t157, t158, t159, t160, t161, t162, t163, t164, t165, t166, t167, t168, t169, t170, t171, t172, t173, t174, t175, t176, t177, t178, t179, t180, t181, t182, t183, t184, t185, t186, t187, t188, t189, t190, t191, t192, t193, t194, t195, t196, t197, t198, t199, t200, t201, t202, t203, t204, t205, t206, t207, t208, t209, t210, t211, t212, t213, t214, t215, t216], []⟩ w') :
    Code.wp Try.prog codefstC2 Q ⟨#[t0, .slice (some g) n cap, t2, t3, t4, t5, t6, t7, t8, t9, .int .i64 (k : Int), .bool true, .int .i64 (m : Int), t13, t14, t15, t16, t17, t18, t19, t20, t21, t22, t23, t24, t25, t26, t27, t28, t29, t30, t31, t32, t33, t34, t35, t36, t37, t38, t39, t40, t41, t42, t43, t44, t45, t46, t47, t48, t49, t50, t51, t52, t53, t54, t55, t56, t57, t58, t59, t60, t61, t62, t63, t64, t65, t66, t67, t68, t69, t70, t71, t72, t73, t74, t75, t76, t77, t78, t79, t80, t81, t82, t83, t84, t85, t86, t87, t88, t89, t90, t91, t92, t93, t94, t95, t96, t97, t98, t99, t100, t101, t102, t103, t104, t105, t106, t107, t108, t109, t110, t111, t112, t113, t114, t115, t116, t117, t118, t119, t120, t121, t122, t123, t124, t125, t126, t127, t128, t129, t130, t131, t132, t133, t134, t135, t136, t137, t138, t139, t140, t141, t142, t143, t144, t145, t146, t147, t148, t149, t150, t151, t152, t153, t154, t155, t156, t157, t158, t159, t160, t161, t162, t163, t164, t165, t166, t167, t168, t169, t170, t171, t172, t173, t174, t175, t176, t177, t178, t179, t180, t181, t182, t183, t184, t185, t186, t187, t188, t189, t190, t191, t192, t193, t194, t195, t196, t197, t198, t199, t200, t201, t202, t203, t204, t205, t206, t207, t208, t209, t210, t211, t212, t213, t214, t215, t216], []⟩ w := by
  replace HEQ := Lib.hid HEQ
  have HK := Lib.hid hK
  clear hK
  conv => arg 2; whnf
  refine wp_flow2 (P := Try.prog) (by kernel_rfl) (by kernel_rfl) (fun W => Below w.heap.size w W) (RfstC2 g n cap k m x y) (fun W W' => Below W.heap.size W W') (Below.refl _ _).drew (RfstC2_le g n cap k m x y) ?_ ?_
  · refine ⟨?_, ?_, ?_, ?_, ?_, ?_, ?_, ?_, ?_, ?_, ?_, ?_, ?_, ?_, ?_, ?_, ?_, ?_, ?_, ?_, ?_, ?_, ?_, ?_, ?_, ?_, ?_, ?_, ?_, ?_, ?_, ?_, ?_, ?_, ?_, ?_, ?_, ?_, ?_, ?_, ?_, ?_, ?_, ?_, trivial⟩
    · intro a w1 hJ hA hU hD K hK
      refine duty_plain rfl ?_
      have h11 : a.tmps[11]?.getD undef = .bool true := eval_get (hU.at_ 43 rfl rfl rfl)
      refine wp_value (v := .bool true) (w' := w1) ?_ (hK _ _ hJ (Below.refl _ _) rfl)
      clear hK hD hA hJ hU
      go_simp
    · intro a w1 hJ hA hU hD K hK
      refine duty_plain rfl ?_
      have h83 : a.tmps[83]?.getD undef = .bool true := eval_get (given_at hD 0 rfl rfl rfl)
      refine wp_value (v := .bool true) (w' := w1) ?_ (hK _ _ hJ (Below.refl _ _) rfl)
      clear hK hD hA hJ hU
      go_simp
    · intro a w1 hJ hA hU hD K hK
      refine duty_yes rfl rfl rfl (hA.lt 84 (by kernel_rfl)) (given_at hD 1 rfl rfl rfl) ?_
      have h1 : a.tmps[1]?.getD undef = .slice (some g) n cap := eval_get (hA.at_ 1 (by kernel_rfl))
      refine wp_value (v := .slice (some g) n cap) (w' := w1) ?_ (hK _ _ hJ (Below.refl _ _) rfl)
      clear hK hD hA hJ hU
      go_simp
    · intro a w1 hJ hA hU hD K hK
      refine duty_yes rfl rfl rfl (hA.lt 84 (by kernel_rfl)) (given_at hD 1 rfl rfl rfl) ?_
      have h12 : a.tmps[12]?.getD undef = .int .i64 (m : Int) := eval_get (hA.at_ 12 (by kernel_rfl))
      refine wp_value (v := .int .i64 (m : Int)) (w' := w1) ?_ (hK _ _ hJ (Below.refl _ _) rfl)
      clear hK hD hA hJ hU
      go_simp
    · intro a w1 hJ hA hU hD K hK
      refine duty_yes rfl rfl rfl (hA.lt 84 (by kernel_rfl)) (given_at hD 1 rfl rfl rfl) ?_
      have h85 : a.tmps[85]?.getD undef = .slice (some g) n cap := eval_get (given_at hD 2 rfl rfl rfl)
      have h86 : a.tmps[86]?.getD undef = .int .i64 (m : Int) := eval_get (given_at hD 3 rfl rfl rfl)
      refine wp_value (v := .pointer (some (g.add (m * 2)))) (w' := w1) ?_ (hK _ _ hJ (Below.refl _ _) rfl)
      clear hK hD hA hJ hU
      go_simp
    · intro a w1 hJ hA hU hD K hK
      refine duty_yes rfl rfl rfl (hA.lt 84 (by kernel_rfl)) (given_at hD 1 rfl rfl rfl) ?_
      have h87 : a.tmps[87]?.getD undef = .pointer (some (g.add (m * 2))) := eval_get (given_at hD 4 rfl rfl rfl)
      refine wp_value (v := .pointer (some (g.add (m * 2)))) (w' := w1) ?_ (hK _ _ hJ (Below.refl _ _) rfl)
      clear hK hD hA hJ hU
      go_simp
    · intro a w1 hJ hA hU hD K hK
      refine duty_yes rfl rfl rfl (hA.lt 84 (by kernel_rfl)) (given_at hD 1 rfl rfl rfl) ?_
      have h88 : a.tmps[88]?.getD undef = .pointer (some (g.add (m * 2))) := eval_get (given_at hD 5 rfl rfl rfl)
      have hc := (hJ.cell (p := g.add (m * 2)) (by show (g.add _).block < _; rw [add_block]; exact hg)).trans hy0
      refine wp_value (v := .int .i64 y.1) (w' := w1) ?_ (hK _ _ hJ (Below.refl _ _) rfl)
      clear hK hD hA hJ hU
      go_simp
    · intro a w1 hJ hA hU hD K hK
      refine duty_yes rfl rfl rfl (hA.lt 84 (by kernel_rfl)) (given_at hD 1 rfl rfl rfl) ?_
      have h1 : a.tmps[1]?.getD undef = .slice (some g) n cap := eval_get (hA.at_ 1 (by kernel_rfl))
      refine wp_value (v := .slice (some g) n cap) (w' := w1) ?_ (hK _ _ hJ (Below.refl _ _) rfl)
      clear hK hD hA hJ hU
      go_simp
    · intro a w1 hJ hA hU hD K hK
      refine duty_yes rfl rfl rfl (hA.lt 84 (by kernel_rfl)) (given_at hD 1 rfl rfl rfl) ?_
      have h10 : a.tmps[10]?.getD undef = .int .i64 (k : Int) := eval_get (hA.at_ 10 (by kernel_rfl))
      refine wp_value (v := .int .i64 (k : Int)) (w' := w1) ?_ (hK _ _ hJ (Below.refl _ _) rfl)
      clear hK hD hA hJ hU
      go_simp
    · intro a w1 hJ hA hU hD K hK
      refine duty_yes rfl rfl rfl (hA.lt 84 (by kernel_rfl)) (given_at hD 1 rfl rfl rfl) ?_
      have h90 : a.tmps[90]?.getD undef = .slice (some g) n cap := eval_get (given_at hD 7 rfl rfl rfl)
      have h91 : a.tmps[91]?.getD undef = .int .i64 (k : Int) := eval_get (given_at hD 8 rfl rfl rfl)
      refine wp_value (v := .pointer (some (g.add (k * 2)))) (w' := w1) ?_ (hK _ _ hJ (Below.refl _ _) rfl)
      clear hK hD hA hJ hU
      go_simp
    · intro a w1 hJ hA hU hD K hK
      refine duty_yes rfl rfl rfl (hA.lt 84 (by kernel_rfl)) (given_at hD 1 rfl rfl rfl) ?_
      have h92 : a.tmps[92]?.getD undef = .pointer (some (g.add (k * 2))) := eval_get (given_at hD 9 rfl rfl rfl)
      refine wp_value (v := .pointer (some (g.add (k * 2)))) (w' := w1) ?_ (hK _ _ hJ (Below.refl _ _) rfl)
      clear hK hD hA hJ hU
      go_simp
    · intro a w1 hJ hA hU hD K hK
      refine duty_yes rfl rfl rfl (hA.lt 84 (by kernel_rfl)) (given_at hD 1 rfl rfl rfl) ?_
      have h93 : a.tmps[93]?.getD undef = .pointer (some (g.add (k * 2))) := eval_get (given_at hD 10 rfl rfl rfl)
      have hc := (hJ.cell (p := g.add (k * 2)) (by show (g.add _).block < _; rw [add_block]; exact hg)).trans hx0
      refine wp_value (v := .int .i64 x.1) (w' := w1) ?_ (hK _ _ hJ (Below.refl _ _) rfl)
      clear hK hD hA hJ hU
      go_simp
    · intro a w1 hJ hA hU hD K hK
      refine duty_yes rfl rfl rfl (hA.lt 84 (by kernel_rfl)) (given_at hD 1 rfl rfl rfl) ?_
      have h89 : a.tmps[89]?.getD undef = .int .i64 y.1 := eval_get (given_at hD 6 rfl rfl rfl)
      have h94 : a.tmps[94]?.getD undef = .int .i64 x.1 := eval_get (given_at hD 11 rfl rfl rfl)
      refine wp_value (v := .bool false) (w' := w1) ?_ (hK _ _ hJ (Below.refl _ _) rfl)
      clear hK hD hA hJ hU
      go_simp
      exact HEQ.out
    · intro a w1 hJ hA hU hD K hK
      refine duty_yes rfl rfl rfl (hA.lt 84 (by kernel_rfl)) (given_at hD 1 rfl rfl rfl) ?_
      have h95 : a.tmps[95]?.getD undef = .bool false := eval_get (given_at hD 12 rfl rfl rfl)
      refine wp_value (v := .bool false) (w' := w1) ?_ (hK _ _ hJ (Below.refl _ _) rfl)
      clear hK hD hA hJ hU
      go_simp
    · intro a w1 hJ hA hU hD K hK
      refine duty_yes rfl rfl rfl (hA.lt 96 (by kernel_rfl)) (given_at hD 13 rfl rfl rfl) ?_
      have h1 : a.tmps[1]?.getD undef = .slice (some g) n cap := eval_get (hA.at_ 1 (by kernel_rfl))
      refine wp_value (v := .slice (some g) n cap) (w' := w1) ?_ (hK _ _ hJ (Below.refl _ _) rfl)
      clear hK hD hA hJ hU
      go_simp
    · intro a w1 hJ hA hU hD K hK
      refine duty_yes rfl rfl rfl (hA.lt 96 (by kernel_rfl)) (given_at hD 13 rfl rfl rfl) ?_
      have h12 : a.tmps[12]?.getD undef = .int .i64 (m : Int) := eval_get (hA.at_ 12 (by kernel_rfl))
      refine wp_value (v := .int .i64 (m : Int)) (w' := w1) ?_ (hK _ _ hJ (Below.refl _ _) rfl)
      clear hK hD hA hJ hU
      go_simp
    · intro a w1 hJ hA hU hD K hK
      refine duty_yes rfl rfl rfl (hA.lt 96 (by kernel_rfl)) (given_at hD 13 rfl rfl rfl) ?_
      have h97 : a.tmps[97]?.getD undef = .slice (some g) n cap := eval_get (given_at hD 14 rfl rfl rfl)
      have h98 : a.tmps[98]?.getD undef = .int .i64 (m : Int) := eval_get (given_at hD 15 rfl rfl rfl)
      refine wp_value (v := .pointer (some (g.add (m * 2)))) (w' := w1) ?_ (hK _ _ hJ (Below.refl _ _) rfl)
      clear hK hD hA hJ hU
      go_simp
    · intro a w1 hJ hA hU hD K hK
      refine duty_yes rfl rfl rfl (hA.lt 96 (by kernel_rfl)) (given_at hD 13 rfl rfl rfl) ?_
      have h99 : a.tmps[99]?.getD undef = .pointer (some (g.add (m * 2))) := eval_get (given_at hD 16 rfl rfl rfl)
      refine wp_value (v := .pointer (some (g.add (m * 2)))) (w' := w1) ?_ (hK _ _ hJ (Below.refl _ _) rfl)
      clear hK hD hA hJ hU
      go_simp
    · intro a w1 hJ hA hU hD K hK
      refine duty_yes rfl rfl rfl (hA.lt 96 (by kernel_rfl)) (given_at hD 13 rfl rfl rfl) ?_
      have h100 : a.tmps[100]?.getD undef = .pointer (some (g.add (m * 2))) := eval_get (given_at hD 17 rfl rfl rfl)
      have hc := (hJ.cell (p := g.add (m * 2)) (by show (g.add _).block < _; rw [add_block]; exact hg)).trans hy0
      refine wp_value (v := .int .i64 y.1) (w' := w1) ?_ (hK _ _ hJ (Below.refl _ _) rfl)
      clear hK hD hA hJ hU
      go_simp
    · intro a w1 hJ hA hU hD K hK
      refine duty_yes rfl rfl rfl (hA.lt 96 (by kernel_rfl)) (given_at hD 13 rfl rfl rfl) ?_
      have h1 : a.tmps[1]?.getD undef = .slice (some g) n cap := eval_get (hA.at_ 1 (by kernel_rfl))
      refine wp_value (v := .slice (some g) n cap) (w' := w1) ?_ (hK _ _ hJ (Below.refl _ _) rfl)
      clear hK hD hA hJ hU
      go_simp
    · intro a w1 hJ hA hU hD K hK
      refine duty_yes rfl rfl rfl (hA.lt 96 (by kernel_rfl)) (given_at hD 13 rfl rfl rfl) ?_
      have h12 : a.tmps[12]?.getD undef = .int .i64 (m : Int) := eval_get (hA.at_ 12 (by kernel_rfl))
      refine wp_value (v := .int .i64 (m : Int)) (w' := w1) ?_ (hK _ _ hJ (Below.refl _ _) rfl)
      clear hK hD hA hJ hU
      go_simp
    · intro a w1 hJ hA hU hD K hK
      refine duty_yes rfl rfl rfl (hA.lt 96 (by kernel_rfl)) (given_at hD 13 rfl rfl rfl) ?_
      have h102 : a.tmps[102]?.getD undef = .slice (some g) n cap := eval_get (given_at hD 19 rfl rfl rfl)
      have h103 : a.tmps[103]?.getD undef = .int .i64 (m : Int) := eval_get (given_at hD 20 rfl rfl rfl)
      refine wp_value (v := .pointer (some (g.add (m * 2)))) (w' := w1) ?_ (hK _ _ hJ (Below.refl _ _) rfl)
      clear hK hD hA hJ hU
      go_simp
    · intro a w1 hJ hA hU hD K hK
      refine duty_yes rfl rfl rfl (hA.lt 96 (by kernel_rfl)) (given_at hD 13 rfl rfl rfl) ?_
      have h104 : a.tmps[104]?.getD undef = .pointer (some (g.add (m * 2))) := eval_get (given_at hD 21 rfl rfl rfl)
      refine wp_value (v := .pointer (some ⟨(g.add (m * 2)).block, (g.add (m * 2)).off + 1, none⟩)) (w' := w1) ?_ (hK _ _ hJ (Below.refl _ _) rfl)
      clear hK hD hA hJ hU
      go_simp
    · intro a w1 hJ hA hU hD K hK
      refine duty_yes rfl rfl rfl (hA.lt 96 (by kernel_rfl)) (given_at hD 13 rfl rfl rfl) ?_
      have h105 : a.tmps[105]?.getD undef = .pointer (some ⟨(g.add (m * 2)).block, (g.add (m * 2)).off + 1, none⟩) := eval_get (given_at hD 22 rfl rfl rfl)
      have hc := (hJ.cell (p := ⟨(g.add (m * 2)).block, (g.add (m * 2)).off + 1, none⟩) (by show (g.add _).block < _; rw [add_block]; exact hg)).trans hy1
      refine wp_value (v := .int .i64 y.2) (w' := w1) ?_ (hK _ _ hJ (Below.refl _ _) rfl)
      clear hK hD hA hJ hU
      go_simp
    · intro a w1 hJ hA hU hD K hK
      refine duty_yes rfl rfl rfl (hA.lt 96 (by kernel_rfl)) (given_at hD 13 rfl rfl rfl) ?_
      have h101 : a.tmps[101]?.getD undef = .int .i64 y.1 := eval_get (given_at hD 18 rfl rfl rfl)
      have h106 : a.tmps[106]?.getD undef = .int .i64 y.2 := eval_get (given_at hD 23 rfl rfl rfl)
      refine wp_value (v := .bool true) (w' := w1) ?_ (hK _ _ hJ (Below.refl _ _) rfl)
      clear hK hD hA hJ hU
      go_simp
    · intro a w1 hJ hA hU hD K hK
      refine duty_yes rfl rfl rfl (hA.lt 84 (by kernel_rfl)) (given_at hD 1 rfl rfl rfl) ?_
      have h96 : a.tmps[96]?.getD undef = .bool false := eval_get (given_at hD 13 rfl rfl rfl)
      have h107 : a.tmps[107]?.getD undef = .bool true := eval_get (given_at hD 24 rfl rfl rfl)
      refine wp_value (v := .bool true) (w' := w1) ?_ (hK _ _ hJ (Below.refl _ _) rfl)
      clear hK hD hA hJ hU
      go_simp
    · intro a w1 hJ hA hU hD K hK
      refine duty_yes rfl rfl rfl (hA.lt 84 (by kernel_rfl)) (given_at hD 1 rfl rfl rfl) ?_
      have h108 : a.tmps[108]?.getD undef = .bool true := eval_get (given_at hD 25 rfl rfl rfl)
      refine wp_value (v := .bool true) (w' := w1) ?_ (hK _ _ hJ (Below.refl _ _) rfl)
      clear hK hD hA hJ hU
      go_simp
    · intro a w1 hJ hA hU hD K hK
      refine duty_no (b := true) rfl rfl rfl (hA.lt 109 (by kernel_rfl)) (given_at hD 26 rfl rfl rfl) ?_
      exact hK _ _ hJ (Below.refl _ _) rfl
    · intro a w1 hJ hA hU hD K hK
      refine duty_no (b := true) rfl rfl rfl (hA.lt 109 (by kernel_rfl)) (given_at hD 26 rfl rfl rfl) ?_
      exact hK _ _ hJ (Below.refl _ _) rfl
    · intro a w1 hJ hA hU hD K hK
      refine duty_no (b := true) rfl rfl rfl (hA.lt 109 (by kernel_rfl)) (given_at hD 26 rfl rfl rfl) ?_
      exact hK _ _ hJ (Below.refl _ _) rfl
    · intro a w1 hJ hA hU hD K hK
      refine duty_no (b := true) rfl rfl rfl (hA.lt 109 (by kernel_rfl)) (given_at hD 26 rfl rfl rfl) ?_
      exact hK _ _ hJ (Below.refl _ _) rfl
    · intro a w1 hJ hA hU hD K hK
      refine duty_no (b := true) rfl rfl rfl (hA.lt 109 (by kernel_rfl)) (given_at hD 26 rfl rfl rfl) ?_
      exact hK _ _ hJ (Below.refl _ _) rfl
    · intro a w1 hJ hA hU hD K hK
      refine duty_no (b := true) rfl rfl rfl (hA.lt 109 (by kernel_rfl)) (given_at hD 26 rfl rfl rfl) ?_
      exact hK _ _ hJ (Below.refl _ _) rfl
    · intro a w1 hJ hA hU hD K hK
      refine duty_yes rfl rfl rfl (hA.lt 84 (by kernel_rfl)) (given_at hD 1 rfl rfl rfl) ?_
      have h109 : a.tmps[109]?.getD undef = .bool true := eval_get (given_at hD 26 rfl rfl rfl)
      have h115 : a.tmps[115]?.getD undef = undef := eval_get (given_at hD 32 rfl rfl rfl)
      refine wp_value (v := .bool true) (w' := w1) ?_ (hK _ _ hJ (Below.refl _ _) rfl)
      clear hK hD hA hJ hU
      go_simp
    · intro a w1 hJ hA hU hD K hK
      refine duty_yes rfl rfl rfl (hA.lt 84 (by kernel_rfl)) (given_at hD 1 rfl rfl rfl) ?_
      have h116 : a.tmps[116]?.getD undef = .bool true := eval_get (given_at hD 33 rfl rfl rfl)
      refine wp_value (v := .bool true) (w' := w1) ?_ (hK _ _ hJ (Below.refl _ _) rfl)
      clear hK hD hA hJ hU
      go_simp
    · intro a w1 hJ hA hU hD K hK
      refine duty_no (b := true) rfl rfl rfl (hA.lt 117 (by kernel_rfl)) (given_at hD 34 rfl rfl rfl) ?_
      exact hK _ _ hJ (Below.refl _ _) rfl
    · intro a w1 hJ hA hU hD K hK
      refine duty_no (b := true) rfl rfl rfl (hA.lt 117 (by kernel_rfl)) (given_at hD 34 rfl rfl rfl) ?_
      exact hK _ _ hJ (Below.refl _ _) rfl
    · intro a w1 hJ hA hU hD K hK
      refine duty_no (b := true) rfl rfl rfl (hA.lt 117 (by kernel_rfl)) (given_at hD 34 rfl rfl rfl) ?_
      exact hK _ _ hJ (Below.refl _ _) rfl
    · intro a w1 hJ hA hU hD K hK
      refine duty_no (b := true) rfl rfl rfl (hA.lt 117 (by kernel_rfl)) (given_at hD 34 rfl rfl rfl) ?_
      exact hK _ _ hJ (Below.refl _ _) rfl
    · intro a w1 hJ hA hU hD K hK
      refine duty_no (b := true) rfl rfl rfl (hA.lt 117 (by kernel_rfl)) (given_at hD 34 rfl rfl rfl) ?_
      exact hK _ _ hJ (Below.refl _ _) rfl
    · intro a w1 hJ hA hU hD K hK
      refine duty_no (b := true) rfl rfl rfl (hA.lt 117 (by kernel_rfl)) (given_at hD 34 rfl rfl rfl) ?_
      exact hK _ _ hJ (Below.refl _ _) rfl
    · intro a w1 hJ hA hU hD K hK
      refine duty_yes rfl rfl rfl (hA.lt 84 (by kernel_rfl)) (given_at hD 1 rfl rfl rfl) ?_
      have h117 : a.tmps[117]?.getD undef = .bool true := eval_get (given_at hD 34 rfl rfl rfl)
      have h123 : a.tmps[123]?.getD undef = undef := eval_get (given_at hD 40 rfl rfl rfl)
      refine wp_value (v := .bool true) (w' := w1) ?_ (hK _ _ hJ (Below.refl _ _) rfl)
      clear hK hD hA hJ hU
      go_simp
    · intro a w1 hJ hA hU hD K hK
      refine duty_plain rfl ?_
      have h84 : a.tmps[84]?.getD undef = .bool true := eval_get (given_at hD 1 rfl rfl rfl)
      have h124 : a.tmps[124]?.getD undef = .bool true := eval_get (given_at hD 41 rfl rfl rfl)
      refine wp_value (v := .bool true) (w' := w1) ?_ (hK _ _ hJ (Below.refl _ _) rfl)
      clear hK hD hA hJ hU
      go_simp
    · intro a w1 hJ hA hU hD K hK
      refine duty_plain rfl ?_
      have h125 : a.tmps[125]?.getD undef = .bool true := eval_get (given_at hD 42 rfl rfl rfl)
      refine wp_value (v := .bool true) (w' := w1) ?_ (hK _ _ hJ (Below.refl _ _) rfl)
      clear hK hD hA hJ hU
      go_simp
  · intro a w' hJ hA hG
    have hv11 : a.tmps[11]?.getD undef = .bool true := eval_get (hG 43 _ _ rfl rfl)
    have ha : a = ⟨#[t0, .slice (some g) n cap, t2, t3, t4, t5, t6, t7, t8, t9, .int .i64 (k : Int), .bool true, .int .i64 (m : Int), t13, t14, t15, t16, t17, t18, t19, t20, t21, t22, t23, t24, t25, t26, t27, t28, t29, t30, t31, t32, t33, t34, t35, t36, t37, t38, t39, t40, t41, t42, t43, t44, t45, t46, t47, t48, t49, t50, t51, t52, t53, t54, t55, t56, t57, t58, t59, t60, t61, t62, t63, t64, t65, t66, t67, t68, t69, t70, t71, t72, t73, t74, t75, t76, t77, t78, t79, t80, t81, t82, a.tmps[83]?.getD undef, a.tmps[84]?.getD undef, a.tmps[85]?.getD undef, a.tmps[86]?.getD undef, a.tmps[87]?.getD undef, a.tmps[88]?.getD undef, a.tmps[89]?.getD undef, a.tmps[90]?.getD undef, a.tmps[91]?.getD undef, a.tmps[92]?.getD undef, a.tmps[93]?.getD undef, a.tmps[94]?.getD undef, a.tmps[95]?.getD undef, a.tmps[96]?.getD undef, a.tmps[97]?.getD undef, a.tmps[98]?.getD undef, a.tmps[99]?.getD undef, a.tmps[100]?.getD undef, a.tmps[101]?.getD undef, a.tmps[102]?.getD undef, a.tmps[103]?.getD undef, a.tmps[104]?.getD undef, a.tmps[105]?.getD undef, a.tmps[106]?.getD undef, a.tmps[107]?.getD undef, a.tmps[108]?.getD undef, a.tmps[109]?.getD undef, a.tmps[110]?.getD undef, a.tmps[111]?.getD undef, a.tmps[112]?.getD undef, a.tmps[113]?.getD undef, a.tmps[114]?.getD undef, a.tmps[115]?.getD undef, a.tmps[116]?.getD undef, a.tmps[117]?.getD undef, a.tmps[118]?.getD undef, a.tmps[119]?.getD undef, a.tmps[120]?.getD undef, a.tmps[121]?.getD undef, a.tmps[122]?.getD undef, a.tmps[123]?.getD undef, a.tmps[124]?.getD undef, a.tmps[125]?.getD undef, t126, t127, t128, t129, t130, t131, t132, t133, t134, t135, t136, t137, t138, t139, t140, t141, t142, t143, t144, t145, t146, t147, t148, t149, t150, t151, t152, t153, t154, t155, t156, t157, t158, t159, t160, t161, t162, t163, t164, t165, t166, t167, t168, t169, t170, t171, t172, t173, t174, t175, t176, t177, t178, t179, t180, t181, t182, t183, t184, t185, t186, t187, t188, t189, t190, t191, t192, t193, t194, t195, t196, t197, t198, t199, t200, t201, t202, t203, t204, t205, t206, t207, t208, t209, t210, t211, t212, t213, t214, t215, t216], []⟩ := act_of ⟨eval_get (hA.at_ 0 (by kernel_rfl)), eval_get (hA.at_ 1 (by kernel_rfl)), eval_get (hA.at_ 2 (by kernel_rfl)), eval_get (hA.at_ 3 (by kernel_rfl)), eval_get (hA.at_ 4 (by kernel_rfl)), eval_get (hA.at_ 5 (by kernel_rfl)), eval_get (hA.at_ 6 (by kernel_rfl)), eval_get (hA.at_ 7 (by kernel_rfl)), eval_get (hA.at_ 8 (by kernel_rfl)), eval_get (hA.at_ 9 (by kernel_rfl)), eval_get (hA.at_ 10 (by kernel_rfl)), hv11, eval_get (hA.at_ 12 (by kernel_rfl)), eval_get (hA.at_ 13 (by kernel_rfl)), eval_get (hA.at_ 14 (by kernel_rfl)), eval_get (hA.at_ 15 (by kernel_rfl)), eval_get (hA.at_ 16 (by kernel_rfl)), eval_get (hA.at_ 17 (by kernel_rfl)), eval_get (hA.at_ 18 (by kernel_rfl)), eval_get (hA.at_ 19 (by kernel_rfl)), eval_get (hA.at_ 20 (by kernel_rfl)), eval_get (hA.at_ 21 (by kernel_rfl)), eval_get (hA.at_ 22 (by kernel_rfl)), eval_get (hA.at_ 23 (by kernel_rfl)), eval_get (hA.at_ 24 (by kernel_rfl)), eval_get (hA.at_ 25 (by kernel_rfl)), eval_get (hA.at_ 26 (by kernel_rfl)), eval_get (hA.at_ 27 (by kernel_rfl)), eval_get (hA.at_ 28 (by kernel_rfl)), eval_get (hA.at_ 29 (by kernel_rfl)), eval_get (hA.at_ 30 (by kernel_rfl)), eval_get (hA.at_ 31 (by kernel_rfl)), eval_get (hA.at_ 32 (by kernel_rfl)), eval_get (hA.at_ 33 (by kernel_rfl)), eval_get (hA.at_ 34 (by kernel_rfl)), eval_get (hA.at_ 35 (by kernel_rfl)), eval_get (hA.at_ 36 (by kernel_rfl)), eval_get (hA.at_ 37 (by kernel_rfl)), eval_get (hA.at_ 38 (by kernel_rfl)), eval_get (hA.at_ 39 (by kernel_rfl)), eval_get (hA.at_ 40 (by kernel_rfl)), eval_get (hA.at_ 41 (by kernel_rfl)), eval_get (hA.at_ 42 (by kernel_rfl)), eval_get (hA.at_ 43 (by kernel_rfl)), eval_get (hA.at_ 44 (by kernel_rfl)), eval_get (hA.at_ 45 (by kernel_rfl)), eval_get (hA.at_ 46 (by kernel_rfl)), eval_get (hA.at_ 47 (by kernel_rfl)), eval_get (hA.at_ 48 (by kernel_rfl)), eval_get (hA.at_ 49 (by kernel_rfl)), eval_get (hA.at_ 50 (by kernel_rfl)), eval_get (hA.at_ 51 (by kernel_rfl)), eval_get (hA.at_ 52 (by kernel_rfl)), eval_get (hA.at_ 53 (by kernel_rfl)), eval_get (hA.at_ 54 (by kernel_rfl)), eval_get (hA.at_ 55 (by kernel_rfl)), eval_get (hA.at_ 56 (by kernel_rfl)), eval_get (hA.at_ 57 (by kernel_rfl)), eval_get (hA.at_ 58 (by kernel_rfl)), eval_get (hA.at_ 59 (by kernel_rfl)), eval_get (hA.at_ 60 (by kernel_rfl)), eval_get (hA.at_ 61 (by kernel_rfl)), eval_get (hA.at_ 62 (by kernel_rfl)), eval_get (hA.at_ 63 (by kernel_rfl)), eval_get (hA.at_ 64 (by kernel_rfl)), eval_get (hA.at_ 65 (by kernel_rfl)), eval_get (hA.at_ 66 (by kernel_rfl)), eval_get (hA.at_ 67 (by kernel_rfl)), eval_get (hA.at_ 68 (by kernel_rfl)), eval_get (hA.at_ 69 (by kernel_rfl)), eval_get (hA.at_ 70 (by kernel_rfl)), eval_get (hA.at_ 71 (by kernel_rfl)), eval_get (hA.at_ 72 (by kernel_rfl)), eval_get (hA.at_ 73 (by kernel_rfl)), eval_get (hA.at_ 74 (by kernel_rfl)), eval_get (hA.at_ 75 (by kernel_rfl)), eval_get (hA.at_ 76 (by kernel_rfl)), eval_get (hA.at_ 77 (by kernel_rfl)), eval_get (hA.at_ 78 (by kernel_rfl)), eval_get (hA.at_ 79 (by kernel_rfl)), eval_get (hA.at_ 80 (by kernel_rfl)), eval_get (hA.at_ 81 (by kernel_rfl)), eval_get (hA.at_ 82 (by kernel_rfl)), rfl, rfl, rfl, rfl, rfl, rfl, rfl, rfl, rfl, rfl, rfl, rfl, rfl, rfl, rfl, rfl, rfl, rfl, rfl, rfl, rfl, rfl, rfl, rfl, rfl, rfl, rfl, rfl, rfl, rfl, rfl, rfl, rfl, rfl, rfl, rfl, rfl, rfl, rfl, rfl, rfl, rfl, rfl, eval_get (hA.at_ 126 (by kernel_rfl)), eval_get (hA.at_ 127 (by kernel_rfl)), eval_get (hA.at_ 128 (by kernel_rfl)), eval_get (hA.at_ 129 (by kernel_rfl)), eval_get (hA.at_ 130 (by kernel_rfl)), eval_get (hA.at_ 131 (by kernel_rfl)), eval_get (hA.at_ 132 (by kernel_rfl)), eval_get (hA.at_ 133 (by kernel_rfl)), eval_get (hA.at_ 134 (by kernel_rfl)), eval_get (hA.at_ 135 (by kernel_rfl)), eval_get (hA.at_ 136 (by kernel_rfl)), eval_get (hA.at_ 137 (by kernel_rfl)), eval_get (hA.at_ 138 (by kernel_rfl)), eval_get (hA.at_ 139 (by kernel_rfl)), eval_get (hA.at_ 140 (by kernel_rfl)), eval_get (hA.at_ 141 (by kernel_rfl)), eval_get (hA.at_ 142 (by kernel_rfl)), eval_get (hA.at_ 143 (by kernel_rfl)), eval_get (hA.at_ 144 (by kernel_rfl)), eval_get (hA.at_ 145 (by kernel_rfl)), eval_get (hA.at_ 146 (by kernel_rfl)), eval_get (hA.at_ 147 (by kernel_rfl)), eval_get (hA.at_ 148 (by kernel_rfl)), eval_get (hA.at_ 149 (by kernel_rfl)), eval_get (hA.at_ 150 (by kernel_rfl)), eval_get (hA.at_ 151 (by kernel_rfl)), eval_get (hA.at_ 152 (by kernel_rfl)), eval_get (hA.at_ 153 (by kernel_rfl)), eval_get (hA.at_ 154 (by kernel_rfl)), eval_get (hA.at_ 155 (by kernel_rfl)), eval_get (hA.at_ 156 (by kernel_rfl)), eval_get (hA.at_ 157 (by kernel_rfl)), eval_get (hA.at_ 158 (by kernel_rfl)), eval_get (hA.at_ 159 (by kernel_rfl)), eval_get (hA.at_ 160 (by kernel_rfl)), eval_get (hA.at_ 161 (by kernel_rfl)), eval_get (hA.at_ 162 (by kernel_rfl)), eval_get (hA.at_ 163 (by kernel_rfl)), eval_get (hA.at_ 164 (by kernel_rfl)), eval_get (hA.at_ 165 (by kernel_rfl)), eval_get (hA.at_ 166 (by kernel_rfl)), eval_get (hA.at_ 167 (by kernel_rfl)), eval_get (hA.at_ 168 (by kernel_rfl)), eval_get (hA.at_ 169 (by kernel_rfl)), eval_get (hA.at_ 170 (by kernel_rfl)), eval_get (hA.at_ 171 (by kernel_rfl)), eval_get (hA.at_ 172 (by kernel_rfl)), eval_get (hA.at_ 173 (by kernel_rfl)), eval_get (hA.at_ 174 (by kernel_rfl)), eval_get (hA.at_ 175 (by kernel_rfl)), eval_get (hA.at_ 176 (by kernel_rfl)), eval_get (hA.at_ 177 (by kernel_rfl)), eval_get (hA.at_ 178 (by kernel_rfl)), eval_get (hA.at_ 179 (by kernel_rfl)), eval_get (hA.at_ 180 (by kernel_rfl)), eval_get (hA.at_ 181 (by kernel_rfl)), eval_get (hA.at_ 182 (by kernel_rfl)), eval_get (hA.at_ 183 (by kernel_rfl)), eval_get (hA.at_ 184 (by kernel_rfl)), eval_get (hA.at_ 185 (by kernel_rfl)), eval_get (hA.at_ 186 (by kernel_rfl)), eval_get (hA.at_ 187 (by kernel_rfl)), eval_get (hA.at_ 188 (by kernel_rfl)), eval_get (hA.at_ 189 (by kernel_rfl)), eval_get (hA.at_ 190 (by kernel_rfl)), eval_get (hA.at_ 191 (by kernel_rfl)), eval_get (hA.at_ 192 (by kernel_rfl)), eval_get (hA.at_ 193 (by kernel_rfl)), eval_get (hA.at_ 194 (by kernel_rfl)), eval_get (hA.at_ 195 (by kernel_rfl)), eval_get (hA.at_ 196 (by kernel_rfl)), eval_get (hA.at_ 197 (by kernel_rfl)), eval_get (hA.at_ 198 (by kernel_rfl)), eval_get (hA.at_ 199 (by kernel_rfl)), eval_get (hA.at_ 200 (by kernel_rfl)), eval_get (hA.at_ 201 (by kernel_rfl)), eval_get (hA.at_ 202 (by kernel_rfl)), eval_get (hA.at_ 203 (by kernel_rfl)), eval_get (hA.at_ 204 (by kernel_rfl)), eval_get (hA.at_ 205 (by kernel_rfl)), eval_get (hA.at_ 206 (by kernel_rfl)), eval_get (hA.at_ 207 (by kernel_rfl)), eval_get (hA.at_ 208 (by kernel_rfl)), eval_get (hA.at_ 209 (by kernel_rfl)), eval_get (hA.at_ 210 (by kernel_rfl)), eval_get (hA.at_ 211 (by kernel_rfl)), eval_get (hA.at_ 212 (by kernel_rfl)), eval_get (hA.at_ 213 (by kernel_rfl)), eval_get (hA.at_ 214 (by kernel_rfl)), eval_get (hA.at_ 215 (by kernel_rfl)), eval_get (hA.at_ 216 (by kernel_rfl)), trivial⟩ hA.size hA.defers
    rw [ha]
    exact HK.out w' _ _ _ _ _ _ _ _ _ _ _ _ _ _ _ _ _ _ _ _ _ _ _ _ _ _ _ _ _ _ _ _ _ _ _ _ _ _ _ _ _ _ _ hJ


noncomputable def codefstC3 : Code := ((Try.f4.body.bind (theRegion 21)).getD .skip)

set_option linter.unusedVariables false in
def RfstC3 (g : Addr) (n cap k m : Nat) (x y : Int × Int) (j : Nat) (v : Value) (_w : World) : Prop :=
  v = [.bool true, .bool true, .slice (some g) n cap, .int .i64 (m : Int), .pointer (some (g.add (m * 2))), .pointer (some (g.add (m * 2))), .int .i64 y.1, .slice (some g) n cap, .int .i64 (k : Int), .pointer (some (g.add (k * 2))), .pointer (some (g.add (k * 2))), .int .i64 x.1, .bool false, .bool false, .slice (some g) n cap, .int .i64 (m : Int), .pointer (some (g.add (m * 2))), .pointer (some (g.add (m * 2))), .int .i64 y.1, .slice (some g) n cap, .int .i64 (m : Int), .pointer (some (g.add (m * 2))), .pointer (some ⟨(g.add (m * 2)).block, (g.add (m * 2)).off + 1, none⟩), .int .i64 y.2, .bool false, .bool false, .bool false, .slice (some g) n cap, .int .i64 (m : Int), .pointer (some (g.add (m * 2))), .pointer (some (g.add (m * 2))), .int .i64 y.1, .bool true, .bool true, .bool true, undef, undef, undef, undef, undef, undef, .bool true, .bool true, .bool true].getD j undef
theorem RfstC3_le (g : Addr) (n cap k m : Nat) (x y : Int × Int) : ∀ j v w w', Below w.heap.size w w' → RfstC3 g n cap k m x y j v w → RfstC3 g n cap k m x y j v w' := by
  intro j v w w' hb h
  exact h

set_option linter.unusedVariables false in
set_option maxRecDepth 1000000 in
set_option maxHeartbeats 4000000 in
theorem fstC3 (Q : Exit → Act → World → Prop) (g : Addr) (n cap k m : Nat) (x y : Int × Int) (w : World)
    (hg : g.block < w.heap.size)
    (hm0 : (0 : Int) ≤ (m : Int))
    (hm1 : (m : Int) < (n : Int))
    (hk0 : (0 : Int) ≤ (k : Int))
    (hk1 : (k : Int) < (n : Int))
    (hy0 : w.cell? (g.add (m * 2)) = some (.int .i64 y.1))
    (hy1 : w.cell? ⟨(g.add (m * 2)).block, (g.add (m * 2)).off + 1, none⟩ = some (.int .i64 y.2))
    (hx0 : w.cell? (g.add (k * 2)) = some (.int .i64 x.1))
    (HEQ : y.1 = x.1 )
    (f1 : decide (y.2 ≤ y.1) = false)
    (f2 : decide (y.1 < 1) = true)
    (t0 t2 t3 t4 t5 t6 t7 t8 t9 t13 t14 t15 t16 t17 t18 t19 t20 t21 t22 t23 t24 t25 t26 t27 t28 t29 t30 t31 t32 t33 t34 t35 t36 t37 t38 t39 t40 t41 t42 t43 t44 t45 t46 t47 t48 t49 t50 t51 t52 t53 t54 t55 t56 t57 t58 t59 t60 t61 t62 t63 t64 t65 t66 t67 t68 t69 t70 t71 t72 t73 t74 t75 t76 t77 t78 t79 t80 t81 t82 t83 t84 t85 t86 t87 t88 t89 t90 t91 t92 t93 t94 t95 t96 t97 t98 t99 t100 t101 t102 t103 t104 t105 t106 t107 t108 t109 t110 t111 t112 t113 t114 t115 t116 t117 t118 t119 t120 t121 t122 t123 t124 t125 t126 t127 t128 t129 t130 t131 t132 t133 t134 t135 t136 t137 t138 t139 t140 t141 t142 t143 t144 t145 t146 t147 t148 t149 t150 t151 t152 t153 t154 t155 t156 t157 t158 t159 t160 t161 t162 t163 t164 t165 t166 t167 t168 t169 t170 t171 t172 t173 t174 t175 t176 t177 t178 t179 t180 t181 t182 t183 t184 t185 t186 t187 t188 t189 t190 t191 t192 t193 t194 t195 t196 t197 t198 t199 t200 t201 t202 t203 t204 t205 t206 t207 t208 t209 t210 t211 t212 t213 t214 t215 t216 : Value) (hK : ∀ (w' : World) (s83 s84 s85 s86 s87 s88 s89 s90 s91 s92 s93 s94 s95 s96 s97 s98 s99 s100 s101 s102 s103 s104 s105 s106 s107 s108 s109 s110 s111 s112 s113 s114 s115 s116 s117 s118 s119 s120 s121 s122 s123 s124 s125 : Value), Below w.heap.size w w' → Q .normal ⟨#[t0, .slice (some g) n cap, t2, t3, t4, t5, t6, t7, t8, t9, .int .i64 (k : Int), .bool true, .int .i64 (m : Int), t13, t14, t15, t16, t17, t18, t19, t20, t21, t22, t23, t24, t25, t26, t27, t28, t29, t30, t31, t32, t33, t34, t35, t36, t37, t38, t39, t40, t41, t42, t43, t44, t45, t46, t47, t48, t49, t50, t51, t52, t53, t54, t55, t56, t57, t58, t59, t60, t61, t62, t63, t64, t65, t66, t67, t68, t69, t70, t71, t72, t73, t74, t75, t76, t77, t78, t79, t80, t81, t82, s83, s84, s85, s86, s87, s88, s89, s90, s91, s92, s93, s94, s95, s96, s97, s98, s99, s100, s101, s102, s103, s104, s105, s106, s107, s108, s109, s110, s111, s112, s113, s114, s115, s116, s117, s118, s119, s120, s121, s122, s123, s124, s125, t126, t127, t128, t129, t130, t131, t132, t133, t134, t135, t136, t137, t138, t139, t140, t141, t142, t143, t144, t145, t146, t147, t148, t149, t150, t151, t152, t153, t154, t155, t156, t157, t158, t159, t160, t161, t162, t163, t164, t165, t166, t167, t168, t169, t170, t171, t172, t173, t174, t175, t176, t177, t178, t179, t180, t181, t182, t183, t184, t185, t186, t187, t188, t189, t190, t191, t192, t193, t194, t195, t196, t197, t198, t199, t200, t201, t202, t203, t204, t205, t206, t207, t208, t209, t210, t211, t212, t213, t214, t215, t216], []⟩ w') :
    Code.wp Try.prog codefstC3 Q ⟨#[t0, .slice (some g) n cap, t2, t3, t4, t5, t6, t7, t8, t9, .int .i64 (k : Int), .bool true, .int .i64 (m : Int), t13, t14, t15, t16, t17, t18, t19, t20, t21, t22, t23, t24, t25, t26, t27, t28, t29, t30, t31, t32, t33, t34, t35, t36, t37, t38, t39, t40, t41, t42, t43, t44, t45, t46, t47, t48, t49, t50, t51, t52, t53, t54, t55, t56, t57, t58, t59, t60, t61, t62, t63, t64, t65, t66, t67, t68, t69, t70, t71, t72, t73, t74, t75, t76, t77, t78, t79, t80, t81, t82, t83, t84, t85, t86, t87, t88, t89, t90, t91, t92, t93, t94, t95, t96, t97, t98, t99, t100, t101, t102, t103, t104, t105, t106, t107, t108, t109, t110, t111, t112, t113, t114, t115, t116, t117, t118, t119, t120, t121, t122, t123, t124, t125, t126, t127, t128, t129, t130, t131, t132, t133, t134, t135, t136, t137, t138, t139, t140, t141, t142, t143, t144, t145, t146, t147, t148, t149, t150, t151, t152, t153, t154, t155, t156, t157, t158, t159, t160, t161, t162, t163, t164, t165, t166, t167, t168, t169, t170, t171, t172, t173, t174, t175, t176, t177, t178, t179, t180, t181, t182, t183, t184, t185, t186, t187, t188, t189, t190, t191, t192, t193, t194, t195, t196, t197, t198, t199, t200, t201, t202, t203, t204, t205, t206, t207, t208, t209, t210, t211, t212, t213, t214, t215, t216], []⟩ w := by
  replace HEQ := Lib.hid HEQ
  have HK := Lib.hid hK
  clear hK
  conv => arg 2; whnf
  refine wp_flow2 (P := Try.prog) (by kernel_rfl) (by kernel_rfl) (fun W => Below w.heap.size w W) (RfstC3 g n cap k m x y) (fun W W' => Below W.heap.size W W') (Below.refl _ _).drew (RfstC3_le g n cap k m x y) ?_ ?_
  · refine ⟨?_, ?_, ?_, ?_, ?_, ?_, ?_, ?_, ?_, ?_, ?_, ?_, ?_, ?_, ?_, ?_, ?_, ?_, ?_, ?_, ?_, ?_, ?_, ?_, ?_, ?_, ?_, ?_, ?_, ?_, ?_, ?_, ?_, ?_, ?_, ?_, ?_, ?_, ?_, ?_, ?_, ?_, ?_, ?_, trivial⟩
    · intro a w1 hJ hA hU hD K hK
      refine duty_plain rfl ?_
      have h11 : a.tmps[11]?.getD undef = .bool true := eval_get (hU.at_ 43 rfl rfl rfl)
      refine wp_value (v := .bool true) (w' := w1) ?_ (hK _ _ hJ (Below.refl _ _) rfl)
      clear hK hD hA hJ hU
      go_simp
    · intro a w1 hJ hA hU hD K hK
      refine duty_plain rfl ?_
      have h83 : a.tmps[83]?.getD undef = .bool true := eval_get (given_at hD 0 rfl rfl rfl)
      refine wp_value (v := .bool true) (w' := w1) ?_ (hK _ _ hJ (Below.refl _ _) rfl)
      clear hK hD hA hJ hU
      go_simp
    · intro a w1 hJ hA hU hD K hK
      refine duty_yes rfl rfl rfl (hA.lt 84 (by kernel_rfl)) (given_at hD 1 rfl rfl rfl) ?_
      have h1 : a.tmps[1]?.getD undef = .slice (some g) n cap := eval_get (hA.at_ 1 (by kernel_rfl))
      refine wp_value (v := .slice (some g) n cap) (w' := w1) ?_ (hK _ _ hJ (Below.refl _ _) rfl)
      clear hK hD hA hJ hU
      go_simp
    · intro a w1 hJ hA hU hD K hK
      refine duty_yes rfl rfl rfl (hA.lt 84 (by kernel_rfl)) (given_at hD 1 rfl rfl rfl) ?_
      have h12 : a.tmps[12]?.getD undef = .int .i64 (m : Int) := eval_get (hA.at_ 12 (by kernel_rfl))
      refine wp_value (v := .int .i64 (m : Int)) (w' := w1) ?_ (hK _ _ hJ (Below.refl _ _) rfl)
      clear hK hD hA hJ hU
      go_simp
    · intro a w1 hJ hA hU hD K hK
      refine duty_yes rfl rfl rfl (hA.lt 84 (by kernel_rfl)) (given_at hD 1 rfl rfl rfl) ?_
      have h85 : a.tmps[85]?.getD undef = .slice (some g) n cap := eval_get (given_at hD 2 rfl rfl rfl)
      have h86 : a.tmps[86]?.getD undef = .int .i64 (m : Int) := eval_get (given_at hD 3 rfl rfl rfl)
      refine wp_value (v := .pointer (some (g.add (m * 2)))) (w' := w1) ?_ (hK _ _ hJ (Below.refl _ _) rfl)
      clear hK hD hA hJ hU
      go_simp
    · intro a w1 hJ hA hU hD K hK
      refine duty_yes rfl rfl rfl (hA.lt 84 (by kernel_rfl)) (given_at hD 1 rfl rfl rfl) ?_
      have h87 : a.tmps[87]?.getD undef = .pointer (some (g.add (m * 2))) := eval_get (given_at hD 4 rfl rfl rfl)
      refine wp_value (v := .pointer (some (g.add (m * 2)))) (w' := w1) ?_ (hK _ _ hJ (Below.refl _ _) rfl)
      clear hK hD hA hJ hU
      go_simp
    · intro a w1 hJ hA hU hD K hK
      refine duty_yes rfl rfl rfl (hA.lt 84 (by kernel_rfl)) (given_at hD 1 rfl rfl rfl) ?_
      have h88 : a.tmps[88]?.getD undef = .pointer (some (g.add (m * 2))) := eval_get (given_at hD 5 rfl rfl rfl)
      have hc := (hJ.cell (p := g.add (m * 2)) (by show (g.add _).block < _; rw [add_block]; exact hg)).trans hy0
      refine wp_value (v := .int .i64 y.1) (w' := w1) ?_ (hK _ _ hJ (Below.refl _ _) rfl)
      clear hK hD hA hJ hU
      go_simp
    · intro a w1 hJ hA hU hD K hK
      refine duty_yes rfl rfl rfl (hA.lt 84 (by kernel_rfl)) (given_at hD 1 rfl rfl rfl) ?_
      have h1 : a.tmps[1]?.getD undef = .slice (some g) n cap := eval_get (hA.at_ 1 (by kernel_rfl))
      refine wp_value (v := .slice (some g) n cap) (w' := w1) ?_ (hK _ _ hJ (Below.refl _ _) rfl)
      clear hK hD hA hJ hU
      go_simp
    · intro a w1 hJ hA hU hD K hK
      refine duty_yes rfl rfl rfl (hA.lt 84 (by kernel_rfl)) (given_at hD 1 rfl rfl rfl) ?_
      have h10 : a.tmps[10]?.getD undef = .int .i64 (k : Int) := eval_get (hA.at_ 10 (by kernel_rfl))
      refine wp_value (v := .int .i64 (k : Int)) (w' := w1) ?_ (hK _ _ hJ (Below.refl _ _) rfl)
      clear hK hD hA hJ hU
      go_simp
    · intro a w1 hJ hA hU hD K hK
      refine duty_yes rfl rfl rfl (hA.lt 84 (by kernel_rfl)) (given_at hD 1 rfl rfl rfl) ?_
      have h90 : a.tmps[90]?.getD undef = .slice (some g) n cap := eval_get (given_at hD 7 rfl rfl rfl)
      have h91 : a.tmps[91]?.getD undef = .int .i64 (k : Int) := eval_get (given_at hD 8 rfl rfl rfl)
      refine wp_value (v := .pointer (some (g.add (k * 2)))) (w' := w1) ?_ (hK _ _ hJ (Below.refl _ _) rfl)
      clear hK hD hA hJ hU
      go_simp
    · intro a w1 hJ hA hU hD K hK
      refine duty_yes rfl rfl rfl (hA.lt 84 (by kernel_rfl)) (given_at hD 1 rfl rfl rfl) ?_
      have h92 : a.tmps[92]?.getD undef = .pointer (some (g.add (k * 2))) := eval_get (given_at hD 9 rfl rfl rfl)
      refine wp_value (v := .pointer (some (g.add (k * 2)))) (w' := w1) ?_ (hK _ _ hJ (Below.refl _ _) rfl)
      clear hK hD hA hJ hU
      go_simp
    · intro a w1 hJ hA hU hD K hK
      refine duty_yes rfl rfl rfl (hA.lt 84 (by kernel_rfl)) (given_at hD 1 rfl rfl rfl) ?_
      have h93 : a.tmps[93]?.getD undef = .pointer (some (g.add (k * 2))) := eval_get (given_at hD 10 rfl rfl rfl)
      have hc := (hJ.cell (p := g.add (k * 2)) (by show (g.add _).block < _; rw [add_block]; exact hg)).trans hx0
      refine wp_value (v := .int .i64 x.1) (w' := w1) ?_ (hK _ _ hJ (Below.refl _ _) rfl)
      clear hK hD hA hJ hU
      go_simp
    · intro a w1 hJ hA hU hD K hK
      refine duty_yes rfl rfl rfl (hA.lt 84 (by kernel_rfl)) (given_at hD 1 rfl rfl rfl) ?_
      have h89 : a.tmps[89]?.getD undef = .int .i64 y.1 := eval_get (given_at hD 6 rfl rfl rfl)
      have h94 : a.tmps[94]?.getD undef = .int .i64 x.1 := eval_get (given_at hD 11 rfl rfl rfl)
      refine wp_value (v := .bool false) (w' := w1) ?_ (hK _ _ hJ (Below.refl _ _) rfl)
      clear hK hD hA hJ hU
      go_simp
      exact HEQ.out
    · intro a w1 hJ hA hU hD K hK
      refine duty_yes rfl rfl rfl (hA.lt 84 (by kernel_rfl)) (given_at hD 1 rfl rfl rfl) ?_
      have h95 : a.tmps[95]?.getD undef = .bool false := eval_get (given_at hD 12 rfl rfl rfl)
      refine wp_value (v := .bool false) (w' := w1) ?_ (hK _ _ hJ (Below.refl _ _) rfl)
      clear hK hD hA hJ hU
      go_simp
    · intro a w1 hJ hA hU hD K hK
      refine duty_yes rfl rfl rfl (hA.lt 96 (by kernel_rfl)) (given_at hD 13 rfl rfl rfl) ?_
      have h1 : a.tmps[1]?.getD undef = .slice (some g) n cap := eval_get (hA.at_ 1 (by kernel_rfl))
      refine wp_value (v := .slice (some g) n cap) (w' := w1) ?_ (hK _ _ hJ (Below.refl _ _) rfl)
      clear hK hD hA hJ hU
      go_simp
    · intro a w1 hJ hA hU hD K hK
      refine duty_yes rfl rfl rfl (hA.lt 96 (by kernel_rfl)) (given_at hD 13 rfl rfl rfl) ?_
      have h12 : a.tmps[12]?.getD undef = .int .i64 (m : Int) := eval_get (hA.at_ 12 (by kernel_rfl))
      refine wp_value (v := .int .i64 (m : Int)) (w' := w1) ?_ (hK _ _ hJ (Below.refl _ _) rfl)
      clear hK hD hA hJ hU
      go_simp
    · intro a w1 hJ hA hU hD K hK
      refine duty_yes rfl rfl rfl (hA.lt 96 (by kernel_rfl)) (given_at hD 13 rfl rfl rfl) ?_
      have h97 : a.tmps[97]?.getD undef = .slice (some g) n cap := eval_get (given_at hD 14 rfl rfl rfl)
      have h98 : a.tmps[98]?.getD undef = .int .i64 (m : Int) := eval_get (given_at hD 15 rfl rfl rfl)
      refine wp_value (v := .pointer (some (g.add (m * 2)))) (w' := w1) ?_ (hK _ _ hJ (Below.refl _ _) rfl)
      clear hK hD hA hJ hU
      go_simp
    · intro a w1 hJ hA hU hD K hK
      refine duty_yes rfl rfl rfl (hA.lt 96 (by kernel_rfl)) (given_at hD 13 rfl rfl rfl) ?_
      have h99 : a.tmps[99]?.getD undef = .pointer (some (g.add (m * 2))) := eval_get (given_at hD 16 rfl rfl rfl)
      refine wp_value (v := .pointer (some (g.add (m * 2)))) (w' := w1) ?_ (hK _ _ hJ (Below.refl _ _) rfl)
      clear hK hD hA hJ hU
      go_simp
    · intro a w1 hJ hA hU hD K hK
      refine duty_yes rfl rfl rfl (hA.lt 96 (by kernel_rfl)) (given_at hD 13 rfl rfl rfl) ?_
      have h100 : a.tmps[100]?.getD undef = .pointer (some (g.add (m * 2))) := eval_get (given_at hD 17 rfl rfl rfl)
      have hc := (hJ.cell (p := g.add (m * 2)) (by show (g.add _).block < _; rw [add_block]; exact hg)).trans hy0
      refine wp_value (v := .int .i64 y.1) (w' := w1) ?_ (hK _ _ hJ (Below.refl _ _) rfl)
      clear hK hD hA hJ hU
      go_simp
    · intro a w1 hJ hA hU hD K hK
      refine duty_yes rfl rfl rfl (hA.lt 96 (by kernel_rfl)) (given_at hD 13 rfl rfl rfl) ?_
      have h1 : a.tmps[1]?.getD undef = .slice (some g) n cap := eval_get (hA.at_ 1 (by kernel_rfl))
      refine wp_value (v := .slice (some g) n cap) (w' := w1) ?_ (hK _ _ hJ (Below.refl _ _) rfl)
      clear hK hD hA hJ hU
      go_simp
    · intro a w1 hJ hA hU hD K hK
      refine duty_yes rfl rfl rfl (hA.lt 96 (by kernel_rfl)) (given_at hD 13 rfl rfl rfl) ?_
      have h12 : a.tmps[12]?.getD undef = .int .i64 (m : Int) := eval_get (hA.at_ 12 (by kernel_rfl))
      refine wp_value (v := .int .i64 (m : Int)) (w' := w1) ?_ (hK _ _ hJ (Below.refl _ _) rfl)
      clear hK hD hA hJ hU
      go_simp
    · intro a w1 hJ hA hU hD K hK
      refine duty_yes rfl rfl rfl (hA.lt 96 (by kernel_rfl)) (given_at hD 13 rfl rfl rfl) ?_
      have h102 : a.tmps[102]?.getD undef = .slice (some g) n cap := eval_get (given_at hD 19 rfl rfl rfl)
      have h103 : a.tmps[103]?.getD undef = .int .i64 (m : Int) := eval_get (given_at hD 20 rfl rfl rfl)
      refine wp_value (v := .pointer (some (g.add (m * 2)))) (w' := w1) ?_ (hK _ _ hJ (Below.refl _ _) rfl)
      clear hK hD hA hJ hU
      go_simp
    · intro a w1 hJ hA hU hD K hK
      refine duty_yes rfl rfl rfl (hA.lt 96 (by kernel_rfl)) (given_at hD 13 rfl rfl rfl) ?_
      have h104 : a.tmps[104]?.getD undef = .pointer (some (g.add (m * 2))) := eval_get (given_at hD 21 rfl rfl rfl)
      refine wp_value (v := .pointer (some ⟨(g.add (m * 2)).block, (g.add (m * 2)).off + 1, none⟩)) (w' := w1) ?_ (hK _ _ hJ (Below.refl _ _) rfl)
      clear hK hD hA hJ hU
      go_simp
    · intro a w1 hJ hA hU hD K hK
      refine duty_yes rfl rfl rfl (hA.lt 96 (by kernel_rfl)) (given_at hD 13 rfl rfl rfl) ?_
      have h105 : a.tmps[105]?.getD undef = .pointer (some ⟨(g.add (m * 2)).block, (g.add (m * 2)).off + 1, none⟩) := eval_get (given_at hD 22 rfl rfl rfl)
      have hc := (hJ.cell (p := ⟨(g.add (m * 2)).block, (g.add (m * 2)).off + 1, none⟩) (by show (g.add _).block < _; rw [add_block]; exact hg)).trans hy1
      refine wp_value (v := .int .i64 y.2) (w' := w1) ?_ (hK _ _ hJ (Below.refl _ _) rfl)
      clear hK hD hA hJ hU
      go_simp
    · intro a w1 hJ hA hU hD K hK
      refine duty_yes rfl rfl rfl (hA.lt 96 (by kernel_rfl)) (given_at hD 13 rfl rfl rfl) ?_
      have h101 : a.tmps[101]?.getD undef = .int .i64 y.1 := eval_get (given_at hD 18 rfl rfl rfl)
      have h106 : a.tmps[106]?.getD undef = .int .i64 y.2 := eval_get (given_at hD 23 rfl rfl rfl)
      refine wp_value (v := .bool false) (w' := w1) ?_ (hK _ _ hJ (Below.refl _ _) rfl)
      clear hK hD hA hJ hU
      go_simp
    · intro a w1 hJ hA hU hD K hK
      refine duty_yes rfl rfl rfl (hA.lt 84 (by kernel_rfl)) (given_at hD 1 rfl rfl rfl) ?_
      have h96 : a.tmps[96]?.getD undef = .bool false := eval_get (given_at hD 13 rfl rfl rfl)
      have h107 : a.tmps[107]?.getD undef = .bool false := eval_get (given_at hD 24 rfl rfl rfl)
      refine wp_value (v := .bool false) (w' := w1) ?_ (hK _ _ hJ (Below.refl _ _) rfl)
      clear hK hD hA hJ hU
      go_simp
    · intro a w1 hJ hA hU hD K hK
      refine duty_yes rfl rfl rfl (hA.lt 84 (by kernel_rfl)) (given_at hD 1 rfl rfl rfl) ?_
      have h108 : a.tmps[108]?.getD undef = .bool false := eval_get (given_at hD 25 rfl rfl rfl)
      refine wp_value (v := .bool false) (w' := w1) ?_ (hK _ _ hJ (Below.refl _ _) rfl)
      clear hK hD hA hJ hU
      go_simp
    · intro a w1 hJ hA hU hD K hK
      refine duty_yes rfl rfl rfl (hA.lt 109 (by kernel_rfl)) (given_at hD 26 rfl rfl rfl) ?_
      have h1 : a.tmps[1]?.getD undef = .slice (some g) n cap := eval_get (hA.at_ 1 (by kernel_rfl))
      refine wp_value (v := .slice (some g) n cap) (w' := w1) ?_ (hK _ _ hJ (Below.refl _ _) rfl)
      clear hK hD hA hJ hU
      go_simp
    · intro a w1 hJ hA hU hD K hK
      refine duty_yes rfl rfl rfl (hA.lt 109 (by kernel_rfl)) (given_at hD 26 rfl rfl rfl) ?_
      have h12 : a.tmps[12]?.getD undef = .int .i64 (m : Int) := eval_get (hA.at_ 12 (by kernel_rfl))
      refine wp_value (v := .int .i64 (m : Int)) (w' := w1) ?_ (hK _ _ hJ (Below.refl _ _) rfl)
      clear hK hD hA hJ hU
      go_simp
    · intro a w1 hJ hA hU hD K hK
      refine duty_yes rfl rfl rfl (hA.lt 109 (by kernel_rfl)) (given_at hD 26 rfl rfl rfl) ?_
      have h110 : a.tmps[110]?.getD undef = .slice (some g) n cap := eval_get (given_at hD 27 rfl rfl rfl)
      have h111 : a.tmps[111]?.getD undef = .int .i64 (m : Int) := eval_get (given_at hD 28 rfl rfl rfl)
      refine wp_value (v := .pointer (some (g.add (m * 2)))) (w' := w1) ?_ (hK _ _ hJ (Below.refl _ _) rfl)
      clear hK hD hA hJ hU
      go_simp
    · intro a w1 hJ hA hU hD K hK
      refine duty_yes rfl rfl rfl (hA.lt 109 (by kernel_rfl)) (given_at hD 26 rfl rfl rfl) ?_
      have h112 : a.tmps[112]?.getD undef = .pointer (some (g.add (m * 2))) := eval_get (given_at hD 29 rfl rfl rfl)
      refine wp_value (v := .pointer (some (g.add (m * 2)))) (w' := w1) ?_ (hK _ _ hJ (Below.refl _ _) rfl)
      clear hK hD hA hJ hU
      go_simp
    · intro a w1 hJ hA hU hD K hK
      refine duty_yes rfl rfl rfl (hA.lt 109 (by kernel_rfl)) (given_at hD 26 rfl rfl rfl) ?_
      have h113 : a.tmps[113]?.getD undef = .pointer (some (g.add (m * 2))) := eval_get (given_at hD 30 rfl rfl rfl)
      have hc := (hJ.cell (p := g.add (m * 2)) (by show (g.add _).block < _; rw [add_block]; exact hg)).trans hy0
      refine wp_value (v := .int .i64 y.1) (w' := w1) ?_ (hK _ _ hJ (Below.refl _ _) rfl)
      clear hK hD hA hJ hU
      go_simp
    · intro a w1 hJ hA hU hD K hK
      refine duty_yes rfl rfl rfl (hA.lt 109 (by kernel_rfl)) (given_at hD 26 rfl rfl rfl) ?_
      have h114 : a.tmps[114]?.getD undef = .int .i64 y.1 := eval_get (given_at hD 31 rfl rfl rfl)
      refine wp_value (v := .bool true) (w' := w1) ?_ (hK _ _ hJ (Below.refl _ _) rfl)
      clear hK hD hA hJ hU
      go_simp
    · intro a w1 hJ hA hU hD K hK
      refine duty_yes rfl rfl rfl (hA.lt 84 (by kernel_rfl)) (given_at hD 1 rfl rfl rfl) ?_
      have h109 : a.tmps[109]?.getD undef = .bool false := eval_get (given_at hD 26 rfl rfl rfl)
      have h115 : a.tmps[115]?.getD undef = .bool true := eval_get (given_at hD 32 rfl rfl rfl)
      refine wp_value (v := .bool true) (w' := w1) ?_ (hK _ _ hJ (Below.refl _ _) rfl)
      clear hK hD hA hJ hU
      go_simp
    · intro a w1 hJ hA hU hD K hK
      refine duty_yes rfl rfl rfl (hA.lt 84 (by kernel_rfl)) (given_at hD 1 rfl rfl rfl) ?_
      have h116 : a.tmps[116]?.getD undef = .bool true := eval_get (given_at hD 33 rfl rfl rfl)
      refine wp_value (v := .bool true) (w' := w1) ?_ (hK _ _ hJ (Below.refl _ _) rfl)
      clear hK hD hA hJ hU
      go_simp
    · intro a w1 hJ hA hU hD K hK
      refine duty_no (b := true) rfl rfl rfl (hA.lt 117 (by kernel_rfl)) (given_at hD 34 rfl rfl rfl) ?_
      exact hK _ _ hJ (Below.refl _ _) rfl
    · intro a w1 hJ hA hU hD K hK
      refine duty_no (b := true) rfl rfl rfl (hA.lt 117 (by kernel_rfl)) (given_at hD 34 rfl rfl rfl) ?_
      exact hK _ _ hJ (Below.refl _ _) rfl
    · intro a w1 hJ hA hU hD K hK
      refine duty_no (b := true) rfl rfl rfl (hA.lt 117 (by kernel_rfl)) (given_at hD 34 rfl rfl rfl) ?_
      exact hK _ _ hJ (Below.refl _ _) rfl
    · intro a w1 hJ hA hU hD K hK
      refine duty_no (b := true) rfl rfl rfl (hA.lt 117 (by kernel_rfl)) (given_at hD 34 rfl rfl rfl) ?_
      exact hK _ _ hJ (Below.refl _ _) rfl
    · intro a w1 hJ hA hU hD K hK
      refine duty_no (b := true) rfl rfl rfl (hA.lt 117 (by kernel_rfl)) (given_at hD 34 rfl rfl rfl) ?_
      exact hK _ _ hJ (Below.refl _ _) rfl
    · intro a w1 hJ hA hU hD K hK
      refine duty_no (b := true) rfl rfl rfl (hA.lt 117 (by kernel_rfl)) (given_at hD 34 rfl rfl rfl) ?_
      exact hK _ _ hJ (Below.refl _ _) rfl
    · intro a w1 hJ hA hU hD K hK
      refine duty_yes rfl rfl rfl (hA.lt 84 (by kernel_rfl)) (given_at hD 1 rfl rfl rfl) ?_
      have h117 : a.tmps[117]?.getD undef = .bool true := eval_get (given_at hD 34 rfl rfl rfl)
      have h123 : a.tmps[123]?.getD undef = undef := eval_get (given_at hD 40 rfl rfl rfl)
      refine wp_value (v := .bool true) (w' := w1) ?_ (hK _ _ hJ (Below.refl _ _) rfl)
      clear hK hD hA hJ hU
      go_simp
    · intro a w1 hJ hA hU hD K hK
      refine duty_plain rfl ?_
      have h84 : a.tmps[84]?.getD undef = .bool true := eval_get (given_at hD 1 rfl rfl rfl)
      have h124 : a.tmps[124]?.getD undef = .bool true := eval_get (given_at hD 41 rfl rfl rfl)
      refine wp_value (v := .bool true) (w' := w1) ?_ (hK _ _ hJ (Below.refl _ _) rfl)
      clear hK hD hA hJ hU
      go_simp
    · intro a w1 hJ hA hU hD K hK
      refine duty_plain rfl ?_
      have h125 : a.tmps[125]?.getD undef = .bool true := eval_get (given_at hD 42 rfl rfl rfl)
      refine wp_value (v := .bool true) (w' := w1) ?_ (hK _ _ hJ (Below.refl _ _) rfl)
      clear hK hD hA hJ hU
      go_simp
  · intro a w' hJ hA hG
    have hv11 : a.tmps[11]?.getD undef = .bool true := eval_get (hG 43 _ _ rfl rfl)
    have ha : a = ⟨#[t0, .slice (some g) n cap, t2, t3, t4, t5, t6, t7, t8, t9, .int .i64 (k : Int), .bool true, .int .i64 (m : Int), t13, t14, t15, t16, t17, t18, t19, t20, t21, t22, t23, t24, t25, t26, t27, t28, t29, t30, t31, t32, t33, t34, t35, t36, t37, t38, t39, t40, t41, t42, t43, t44, t45, t46, t47, t48, t49, t50, t51, t52, t53, t54, t55, t56, t57, t58, t59, t60, t61, t62, t63, t64, t65, t66, t67, t68, t69, t70, t71, t72, t73, t74, t75, t76, t77, t78, t79, t80, t81, t82, a.tmps[83]?.getD undef, a.tmps[84]?.getD undef, a.tmps[85]?.getD undef, a.tmps[86]?.getD undef, a.tmps[87]?.getD undef, a.tmps[88]?.getD undef, a.tmps[89]?.getD undef, a.tmps[90]?.getD undef, a.tmps[91]?.getD undef, a.tmps[92]?.getD undef, a.tmps[93]?.getD undef, a.tmps[94]?.getD undef, a.tmps[95]?.getD undef, a.tmps[96]?.getD undef, a.tmps[97]?.getD undef, a.tmps[98]?.getD undef, a.tmps[99]?.getD undef, a.tmps[100]?.getD undef, a.tmps[101]?.getD undef, a.tmps[102]?.getD undef, a.tmps[103]?.getD undef, a.tmps[104]?.getD undef, a.tmps[105]?.getD undef, a.tmps[106]?.getD undef, a.tmps[107]?.getD undef, a.tmps[108]?.getD undef, a.tmps[109]?.getD undef, a.tmps[110]?.getD undef, a.tmps[111]?.getD undef, a.tmps[112]?.getD undef, a.tmps[113]?.getD undef, a.tmps[114]?.getD undef, a.tmps[115]?.getD undef, a.tmps[116]?.getD undef, a.tmps[117]?.getD undef, a.tmps[118]?.getD undef, a.tmps[119]?.getD undef, a.tmps[120]?.getD undef, a.tmps[121]?.getD undef, a.tmps[122]?.getD undef, a.tmps[123]?.getD undef, a.tmps[124]?.getD undef, a.tmps[125]?.getD undef, t126, t127, t128, t129, t130, t131, t132, t133, t134, t135, t136, t137, t138, t139, t140, t141, t142, t143, t144, t145, t146, t147, t148, t149, t150, t151, t152, t153, t154, t155, t156, t157, t158, t159, t160, t161, t162, t163, t164, t165, t166, t167, t168, t169, t170, t171, t172, t173, t174, t175, t176, t177, t178, t179, t180, t181, t182, t183, t184, t185, t186, t187, t188, t189, t190, t191, t192, t193, t194, t195, t196, t197, t198, t199, t200, t201, t202, t203, t204, t205, t206, t207, t208, t209, t210, t211, t212, t213, t214, t215, t216], []⟩ := act_of ⟨eval_get (hA.at_ 0 (by kernel_rfl)), eval_get (hA.at_ 1 (by kernel_rfl)), eval_get (hA.at_ 2 (by kernel_rfl)), eval_get (hA.at_ 3 (by kernel_rfl)), eval_get (hA.at_ 4 (by kernel_rfl)), eval_get (hA.at_ 5 (by kernel_rfl)), eval_get (hA.at_ 6 (by kernel_rfl)), eval_get (hA.at_ 7 (by kernel_rfl)), eval_get (hA.at_ 8 (by kernel_rfl)), eval_get (hA.at_ 9 (by kernel_rfl)), eval_get (hA.at_ 10 (by kernel_rfl)), hv11, eval_get (hA.at_ 12 (by kernel_rfl)), eval_get (hA.at_ 13 (by kernel_rfl)), eval_get (hA.at_ 14 (by kernel_rfl)), eval_get (hA.at_ 15 (by kernel_rfl)), eval_get (hA.at_ 16 (by kernel_rfl)), eval_get (hA.at_ 17 (by kernel_rfl)), eval_get (hA.at_ 18 (by kernel_rfl)), eval_get (hA.at_ 19 (by kernel_rfl)), eval_get (hA.at_ 20 (by kernel_rfl)), eval_get (hA.at_ 21 (by kernel_rfl)), eval_get (hA.at_ 22 (by kernel_rfl)), eval_get (hA.at_ 23 (by kernel_rfl)), eval_get (hA.at_ 24 (by kernel_rfl)), eval_get (hA.at_ 25 (by kernel_rfl)), eval_get (hA.at_ 26 (by kernel_rfl)), eval_get (hA.at_ 27 (by kernel_rfl)), eval_get (hA.at_ 28 (by kernel_rfl)), eval_get (hA.at_ 29 (by kernel_rfl)), eval_get (hA.at_ 30 (by kernel_rfl)), eval_get (hA.at_ 31 (by kernel_rfl)), eval_get (hA.at_ 32 (by kernel_rfl)), eval_get (hA.at_ 33 (by kernel_rfl)), eval_get (hA.at_ 34 (by kernel_rfl)), eval_get (hA.at_ 35 (by kernel_rfl)), eval_get (hA.at_ 36 (by kernel_rfl)), eval_get (hA.at_ 37 (by kernel_rfl)), eval_get (hA.at_ 38 (by kernel_rfl)), eval_get (hA.at_ 39 (by kernel_rfl)), eval_get (hA.at_ 40 (by kernel_rfl)), eval_get (hA.at_ 41 (by kernel_rfl)), eval_get (hA.at_ 42 (by kernel_rfl)), eval_get (hA.at_ 43 (by kernel_rfl)), eval_get (hA.at_ 44 (by kernel_rfl)), eval_get (hA.at_ 45 (by kernel_rfl)), eval_get (hA.at_ 46 (by kernel_rfl)), eval_get (hA.at_ 47 (by kernel_rfl)), eval_get (hA.at_ 48 (by kernel_rfl)), eval_get (hA.at_ 49 (by kernel_rfl)), eval_get (hA.at_ 50 (by kernel_rfl)), eval_get (hA.at_ 51 (by kernel_rfl)), eval_get (hA.at_ 52 (by kernel_rfl)), eval_get (hA.at_ 53 (by kernel_rfl)), eval_get (hA.at_ 54 (by kernel_rfl)), eval_get (hA.at_ 55 (by kernel_rfl)), eval_get (hA.at_ 56 (by kernel_rfl)), eval_get (hA.at_ 57 (by kernel_rfl)), eval_get (hA.at_ 58 (by kernel_rfl)), eval_get (hA.at_ 59 (by kernel_rfl)), eval_get (hA.at_ 60 (by kernel_rfl)), eval_get (hA.at_ 61 (by kernel_rfl)), eval_get (hA.at_ 62 (by kernel_rfl)), eval_get (hA.at_ 63 (by kernel_rfl)), eval_get (hA.at_ 64 (by kernel_rfl)), eval_get (hA.at_ 65 (by kernel_rfl)), eval_get (hA.at_ 66 (by kernel_rfl)), eval_get (hA.at_ 67 (by kernel_rfl)), eval_get (hA.at_ 68 (by kernel_rfl)), eval_get (hA.at_ 69 (by kernel_rfl)), eval_get (hA.at_ 70 (by kernel_rfl)), eval_get (hA.at_ 71 (by kernel_rfl)), eval_get (hA.at_ 72 (by kernel_rfl)), eval_get (hA.at_ 73 (by kernel_rfl)), eval_get (hA.at_ 74 (by kernel_rfl)), eval_get (hA.at_ 75 (by kernel_rfl)), eval_get (hA.at_ 76 (by kernel_rfl)), eval_get (hA.at_ 77 (by kernel_rfl)), eval_get (hA.at_ 78 (by kernel_rfl)), eval_get (hA.at_ 79 (by kernel_rfl)), eval_get (hA.at_ 80 (by kernel_rfl)), eval_get (hA.at_ 81 (by kernel_rfl)), eval_get (hA.at_ 82 (by kernel_rfl)), rfl, rfl, rfl, rfl, rfl, rfl, rfl, rfl, rfl, rfl, rfl, rfl, rfl, rfl, rfl, rfl, rfl, rfl, rfl, rfl, rfl, rfl, rfl, rfl, rfl, rfl, rfl, rfl, rfl, rfl, rfl, rfl, rfl, rfl, rfl, rfl, rfl, rfl, rfl, rfl, rfl, rfl, rfl, eval_get (hA.at_ 126 (by kernel_rfl)), eval_get (hA.at_ 127 (by kernel_rfl)), eval_get (hA.at_ 128 (by kernel_rfl)), eval_get (hA.at_ 129 (by kernel_rfl)), eval_get (hA.at_ 130 (by kernel_rfl)), eval_get (hA.at_ 131 (by kernel_rfl)), eval_get (hA.at_ 132 (by kernel_rfl)), eval_get (hA.at_ 133 (by kernel_rfl)), eval_get (hA.at_ 134 (by kernel_rfl)), eval_get (hA.at_ 135 (by kernel_rfl)), eval_get (hA.at_ 136 (by kernel_rfl)), eval_get (hA.at_ 137 (by kernel_rfl)), eval_get (hA.at_ 138 (by kernel_rfl)), eval_get (hA.at_ 139 (by kernel_rfl)), eval_get (hA.at_ 140 (by kernel_rfl)), eval_get (hA.at_ 141 (by kernel_rfl)), eval_get (hA.at_ 142 (by kernel_rfl)), eval_get (hA.at_ 143 (by kernel_rfl)), eval_get (hA.at_ 144 (by kernel_rfl)), eval_get (hA.at_ 145 (by kernel_rfl)), eval_get (hA.at_ 146 (by kernel_rfl)), eval_get (hA.at_ 147 (by kernel_rfl)), eval_get (hA.at_ 148 (by kernel_rfl)), eval_get (hA.at_ 149 (by kernel_rfl)), eval_get (hA.at_ 150 (by kernel_rfl)), eval_get (hA.at_ 151 (by kernel_rfl)), eval_get (hA.at_ 152 (by kernel_rfl)), eval_get (hA.at_ 153 (by kernel_rfl)), eval_get (hA.at_ 154 (by kernel_rfl)), eval_get (hA.at_ 155 (by kernel_rfl)), eval_get (hA.at_ 156 (by kernel_rfl)), eval_get (hA.at_ 157 (by kernel_rfl)), eval_get (hA.at_ 158 (by kernel_rfl)), eval_get (hA.at_ 159 (by kernel_rfl)), eval_get (hA.at_ 160 (by kernel_rfl)), eval_get (hA.at_ 161 (by kernel_rfl)), eval_get (hA.at_ 162 (by kernel_rfl)), eval_get (hA.at_ 163 (by kernel_rfl)), eval_get (hA.at_ 164 (by kernel_rfl)), eval_get (hA.at_ 165 (by kernel_rfl)), eval_get (hA.at_ 166 (by kernel_rfl)), eval_get (hA.at_ 167 (by kernel_rfl)), eval_get (hA.at_ 168 (by kernel_rfl)), eval_get (hA.at_ 169 (by kernel_rfl)), eval_get (hA.at_ 170 (by kernel_rfl)), eval_get (hA.at_ 171 (by kernel_rfl)), eval_get (hA.at_ 172 (by kernel_rfl)), eval_get (hA.at_ 173 (by kernel_rfl)), eval_get (hA.at_ 174 (by kernel_rfl)), eval_get (hA.at_ 175 (by kernel_rfl)), eval_get (hA.at_ 176 (by kernel_rfl)), eval_get (hA.at_ 177 (by kernel_rfl)), eval_get (hA.at_ 178 (by kernel_rfl)), eval_get (hA.at_ 179 (by kernel_rfl)), eval_get (hA.at_ 180 (by kernel_rfl)), eval_get (hA.at_ 181 (by kernel_rfl)), eval_get (hA.at_ 182 (by kernel_rfl)), eval_get (hA.at_ 183 (by kernel_rfl)), eval_get (hA.at_ 184 (by kernel_rfl)), eval_get (hA.at_ 185 (by kernel_rfl)), eval_get (hA.at_ 186 (by kernel_rfl)), eval_get (hA.at_ 187 (by kernel_rfl)), eval_get (hA.at_ 188 (by kernel_rfl)), eval_get (hA.at_ 189 (by kernel_rfl)), eval_get (hA.at_ 190 (by kernel_rfl)), eval_get (hA.at_ 191 (by kernel_rfl)), eval_get (hA.at_ 192 (by kernel_rfl)), eval_get (hA.at_ 193 (by kernel_rfl)), eval_get (hA.at_ 194 (by kernel_rfl)), eval_get (hA.at_ 195 (by kernel_rfl)), eval_get (hA.at_ 196 (by kernel_rfl)), eval_get (hA.at_ 197 (by kernel_rfl)), eval_get (hA.at_ 198 (by kernel_rfl)), eval_get (hA.at_ 199 (by kernel_rfl)), eval_get (hA.at_ 200 (by kernel_rfl)), eval_get (hA.at_ 201 (by kernel_rfl)), eval_get (hA.at_ 202 (by kernel_rfl)), eval_get (hA.at_ 203 (by kernel_rfl)), eval_get (hA.at_ 204 (by kernel_rfl)), eval_get (hA.at_ 205 (by kernel_rfl)), eval_get (hA.at_ 206 (by kernel_rfl)), eval_get (hA.at_ 207 (by kernel_rfl)), eval_get (hA.at_ 208 (by kernel_rfl)), eval_get (hA.at_ 209 (by kernel_rfl)), eval_get (hA.at_ 210 (by kernel_rfl)), eval_get (hA.at_ 211 (by kernel_rfl)), eval_get (hA.at_ 212 (by kernel_rfl)), eval_get (hA.at_ 213 (by kernel_rfl)), eval_get (hA.at_ 214 (by kernel_rfl)), eval_get (hA.at_ 215 (by kernel_rfl)), eval_get (hA.at_ 216 (by kernel_rfl)), trivial⟩ hA.size hA.defers
    rw [ha]
    exact HK.out w' _ _ _ _ _ _ _ _ _ _ _ _ _ _ _ _ _ _ _ _ _ _ _ _ _ _ _ _ _ _ _ _ _ _ _ _ _ _ _ _ _ _ _ hJ


noncomputable def codefstC4 : Code := ((Try.f4.body.bind (theRegion 21)).getD .skip)

set_option linter.unusedVariables false in
def RfstC4 (g : Addr) (n cap k m : Nat) (x y : Int × Int) (j : Nat) (v : Value) (_w : World) : Prop :=
  v = [.bool true, .bool true, .slice (some g) n cap, .int .i64 (m : Int), .pointer (some (g.add (m * 2))), .pointer (some (g.add (m * 2))), .int .i64 y.1, .slice (some g) n cap, .int .i64 (k : Int), .pointer (some (g.add (k * 2))), .pointer (some (g.add (k * 2))), .int .i64 x.1, .bool false, .bool false, .slice (some g) n cap, .int .i64 (m : Int), .pointer (some (g.add (m * 2))), .pointer (some (g.add (m * 2))), .int .i64 y.1, .slice (some g) n cap, .int .i64 (m : Int), .pointer (some (g.add (m * 2))), .pointer (some ⟨(g.add (m * 2)).block, (g.add (m * 2)).off + 1, none⟩), .int .i64 y.2, .bool false, .bool false, .bool false, .slice (some g) n cap, .int .i64 (m : Int), .pointer (some (g.add (m * 2))), .pointer (some (g.add (m * 2))), .int .i64 y.1, .bool false, .bool false, .bool false, .slice (some g) n cap, .int .i64 (m : Int), .pointer (some (g.add (m * 2))), .pointer (some ⟨(g.add (m * 2)).block, (g.add (m * 2)).off + 1, none⟩), .int .i64 y.2, .bool true, .bool true, .bool true, .bool true].getD j undef
theorem RfstC4_le (g : Addr) (n cap k m : Nat) (x y : Int × Int) : ∀ j v w w', Below w.heap.size w w' → RfstC4 g n cap k m x y j v w → RfstC4 g n cap k m x y j v w' := by
  intro j v w w' hb h
  exact h

set_option linter.unusedVariables false in
set_option maxRecDepth 1000000 in
set_option maxHeartbeats 4000000 in
theorem fstC4 (Q : Exit → Act → World → Prop) (g : Addr) (n cap k m : Nat) (x y : Int × Int) (w : World)
    (hg : g.block < w.heap.size)
    (hm0 : (0 : Int) ≤ (m : Int))
    (hm1 : (m : Int) < (n : Int))
    (hk0 : (0 : Int) ≤ (k : Int))
    (hk1 : (k : Int) < (n : Int))
    (hy0 : w.cell? (g.add (m * 2)) = some (.int .i64 y.1))
    (hy1 : w.cell? ⟨(g.add (m * 2)).block, (g.add (m * 2)).off + 1, none⟩ = some (.int .i64 y.2))
    (hx0 : w.cell? (g.add (k * 2)) = some (.int .i64 x.1))
    (HEQ : y.1 = x.1 )
    (f1 : decide (y.2 ≤ y.1) = false)
    (f2 : decide (y.1 < 1) = false)
    (f3 : decide (1099511627776 ≤ y.2) = true)
    (t0 t2 t3 t4 t5 t6 t7 t8 t9 t13 t14 t15 t16 t17 t18 t19 t20 t21 t22 t23 t24 t25 t26 t27 t28 t29 t30 t31 t32 t33 t34 t35 t36 t37 t38 t39 t40 t41 t42 t43 t44 t45 t46 t47 t48 t49 t50 t51 t52 t53 t54 t55 t56 t57 t58 t59 t60 t61 t62 t63 t64 t65 t66 t67 t68 t69 t70 t71 t72 t73 t74 t75 t76 t77 t78 t79 t80 t81 t82 t83 t84 t85 t86 t87 t88 t89 t90 t91 t92 t93 t94 t95 t96 t97 t98 t99 t100 t101 t102 t103 t104 t105 t106 t107 t108 t109 t110 t111 t112 t113 t114 t115 t116 t117 t118 t119 t120 t121 t122 t123 t124 t125 t126 t127 t128 t129 t130 t131 t132 t133 t134 t135 t136 t137 t138 t139 t140 t141 t142 t143 t144 t145 t146 t147 t148 t149 t150 t151 t152 t153 t154 t155 t156 t157 t158 t159 t160 t161 t162 t163 t164 t165 t166 t167 t168 t169 t170 t171 t172 t173 t174 t175 t176 t177 t178 t179 t180 t181 t182 t183 t184 t185 t186 t187 t188 t189 t190 t191 t192 t193 t194 t195 t196 t197 t198 t199 t200 t201 t202 t203 t204 t205 t206 t207 t208 t209 t210 t211 t212 t213 t214 t215 t216 : Value) (hK : ∀ (w' : World) (s83 s84 s85 s86 s87 s88 s89 s90 s91 s92 s93 s94 s95 s96 s97 s98 s99 s100 s101 s102 s103 s104 s105 s106 s107 s108 s109 s110 s111 s112 s113 s114 s115 s116 s117 s118 s119 s120 s121 s122 s123 s124 s125 : Value), Below w.heap.size w w' → Q .normal ⟨#[t0, .slice (some g) n cap, t2, t3, t4, t5, t6, t7, t8, t9, .int .i64 (k : Int), .bool true, .int .i64 (m : Int), t13, t14, t15, t16, t17, t18, t19, t20, t21, t22, t23, t24, t25, t26, t27, t28, t29, t30, t31, t32, t33, t34, t35, t36, t37, t38, t39, t40, t41, t42, t43, t44, t45, t46, t47, t48, t49, t50, t51, t52, t53, t54, t55, t56, t57, t58, t59, t60, t61, t62, t63, t64, t65, t66, t67, t68, t69, t70, t71, t72, t73, t74, t75, t76, t77, t78, t79, t80, t81, t82, s83, s84, s85, s86, s87, s88, s89, s90, s91, s92, s93, s94, s95, s96, s97, s98, s99, s100, s101, s102, s103, s104, s105, s106, s107, s108, s109, s110, s111, s112, s113, s114, s115, s116, s117, s118, s119, s120, s121, s122, s123, s124, s125, t126, t127, t128, t129, t130, t131, t132, t133, t134, t135, t136, t137, t138, t139, t140, t141, t142, t143, t144, t145, t146, t147, t148, t149, t150, t151, t152, t153, t154, t155, t156, t157, t158, t159, t160, t161, t162, t163, t164, t165, t166, t167, t168, t169, t170, t171, t172, t173, t174, t175, t176, t177, t178, t179, t180, t181, t182, t183, t184, t185, t186, t187, t188, t189, t190, t191, t192, t193, t194, t195, t196, t197, t198, t199, t200, t201, t202, t203, t204, t205, t206, t207, t208, t209, t210, t211, t212, t213, t214, t215, t216], []⟩ w') :
    Code.wp Try.prog codefstC4 Q ⟨#[t0, .slice (some g) n cap, t2, t3, t4, t5, t6, t7, t8, t9, .int .i64 (k : Int), .bool true, .int .i64 (m : Int), t13, t14, t15, t16, t17, t18, t19, t20, t21, t22, t23, t24, t25, t26, t27, t28, t29, t30, t31, t32, t33, t34, t35, t36, t37, t38, t39, t40, t41, t42, t43, t44, t45, t46, t47, t48, t49, t50, t51, t52, t53, t54, t55, t56, t57, t58, t59, t60, t61, t62, t63, t64, t65, t66, t67, t68, t69, t70, t71, t72, t73, t74, t75, t76, t77, t78, t79, t80, t81, t82, t83, t84, t85, t86, t87, t88, t89, t90, t91, t92, t93, t94, t95, t96, t97, t98, t99, t100, t101, t102, t103, t104, t105, t106, t107, t108, t109, t110, t111, t112, t113, t114, t115, t116, t117, t118, t119, t120, t121, t122, t123, t124, t125, t126, t127, t128, t129, t130, t131, t132, t133, t134, t135, t136, t137, t138, t139, t140, t141, t142, t143, t144, t145, t146, t147, t148, t149, t150, t151, t152, t153, t154, t155, t156, t157, t158, t159, t160, t161, t162, t163, t164, t165, t166, t167, t168, t169, t170, t171, t172, t173, t174, t175, t176, t177, t178, t179, t180, t181, t182, t183, t184, t185, t186, t187, t188, t189, t190, t191, t192, t193, t194, t195, t196, t197, t198, t199, t200, t201, t202, t203, t204, t205, t206, t207, t208, t209, t210, t211, t212, t213, t214, t215, t216], []⟩ w := by
  replace HEQ := Lib.hid HEQ
  have HK := Lib.hid hK
  clear hK
  conv => arg 2; whnf
  refine wp_flow2 (P := Try.prog) (by kernel_rfl) (by kernel_rfl) (fun W => Below w.heap.size w W) (RfstC4 g n cap k m x y) (fun W W' => Below W.heap.size W W') (Below.refl _ _).drew (RfstC4_le g n cap k m x y) ?_ ?_
  · refine ⟨?_, ?_, ?_, ?_, ?_, ?_, ?_, ?_, ?_, ?_, ?_, ?_, ?_, ?_, ?_, ?_, ?_, ?_, ?_, ?_, ?_, ?_, ?_, ?_, ?_, ?_, ?_, ?_, ?_, ?_, ?_, ?_, ?_, ?_, ?_, ?_, ?_, ?_, ?_, ?_, ?_, ?_, ?_, ?_, trivial⟩
    · intro a w1 hJ hA hU hD K hK
      refine duty_plain rfl ?_
      have h11 : a.tmps[11]?.getD undef = .bool true := eval_get (hU.at_ 43 rfl rfl rfl)
      refine wp_value (v := .bool true) (w' := w1) ?_ (hK _ _ hJ (Below.refl _ _) rfl)
      clear hK hD hA hJ hU
      go_simp
    · intro a w1 hJ hA hU hD K hK
      refine duty_plain rfl ?_
      have h83 : a.tmps[83]?.getD undef = .bool true := eval_get (given_at hD 0 rfl rfl rfl)
      refine wp_value (v := .bool true) (w' := w1) ?_ (hK _ _ hJ (Below.refl _ _) rfl)
      clear hK hD hA hJ hU
      go_simp
    · intro a w1 hJ hA hU hD K hK
      refine duty_yes rfl rfl rfl (hA.lt 84 (by kernel_rfl)) (given_at hD 1 rfl rfl rfl) ?_
      have h1 : a.tmps[1]?.getD undef = .slice (some g) n cap := eval_get (hA.at_ 1 (by kernel_rfl))
      refine wp_value (v := .slice (some g) n cap) (w' := w1) ?_ (hK _ _ hJ (Below.refl _ _) rfl)
      clear hK hD hA hJ hU
      go_simp
    · intro a w1 hJ hA hU hD K hK
      refine duty_yes rfl rfl rfl (hA.lt 84 (by kernel_rfl)) (given_at hD 1 rfl rfl rfl) ?_
      have h12 : a.tmps[12]?.getD undef = .int .i64 (m : Int) := eval_get (hA.at_ 12 (by kernel_rfl))
      refine wp_value (v := .int .i64 (m : Int)) (w' := w1) ?_ (hK _ _ hJ (Below.refl _ _) rfl)
      clear hK hD hA hJ hU
      go_simp
    · intro a w1 hJ hA hU hD K hK
      refine duty_yes rfl rfl rfl (hA.lt 84 (by kernel_rfl)) (given_at hD 1 rfl rfl rfl) ?_
      have h85 : a.tmps[85]?.getD undef = .slice (some g) n cap := eval_get (given_at hD 2 rfl rfl rfl)
      have h86 : a.tmps[86]?.getD undef = .int .i64 (m : Int) := eval_get (given_at hD 3 rfl rfl rfl)
      refine wp_value (v := .pointer (some (g.add (m * 2)))) (w' := w1) ?_ (hK _ _ hJ (Below.refl _ _) rfl)
      clear hK hD hA hJ hU
      go_simp
    · intro a w1 hJ hA hU hD K hK
      refine duty_yes rfl rfl rfl (hA.lt 84 (by kernel_rfl)) (given_at hD 1 rfl rfl rfl) ?_
      have h87 : a.tmps[87]?.getD undef = .pointer (some (g.add (m * 2))) := eval_get (given_at hD 4 rfl rfl rfl)
      refine wp_value (v := .pointer (some (g.add (m * 2)))) (w' := w1) ?_ (hK _ _ hJ (Below.refl _ _) rfl)
      clear hK hD hA hJ hU
      go_simp
    · intro a w1 hJ hA hU hD K hK
      refine duty_yes rfl rfl rfl (hA.lt 84 (by kernel_rfl)) (given_at hD 1 rfl rfl rfl) ?_
      have h88 : a.tmps[88]?.getD undef = .pointer (some (g.add (m * 2))) := eval_get (given_at hD 5 rfl rfl rfl)
      have hc := (hJ.cell (p := g.add (m * 2)) (by show (g.add _).block < _; rw [add_block]; exact hg)).trans hy0
      refine wp_value (v := .int .i64 y.1) (w' := w1) ?_ (hK _ _ hJ (Below.refl _ _) rfl)
      clear hK hD hA hJ hU
      go_simp
    · intro a w1 hJ hA hU hD K hK
      refine duty_yes rfl rfl rfl (hA.lt 84 (by kernel_rfl)) (given_at hD 1 rfl rfl rfl) ?_
      have h1 : a.tmps[1]?.getD undef = .slice (some g) n cap := eval_get (hA.at_ 1 (by kernel_rfl))
      refine wp_value (v := .slice (some g) n cap) (w' := w1) ?_ (hK _ _ hJ (Below.refl _ _) rfl)
      clear hK hD hA hJ hU
      go_simp
    · intro a w1 hJ hA hU hD K hK
      refine duty_yes rfl rfl rfl (hA.lt 84 (by kernel_rfl)) (given_at hD 1 rfl rfl rfl) ?_
      have h10 : a.tmps[10]?.getD undef = .int .i64 (k : Int) := eval_get (hA.at_ 10 (by kernel_rfl))
      refine wp_value (v := .int .i64 (k : Int)) (w' := w1) ?_ (hK _ _ hJ (Below.refl _ _) rfl)
      clear hK hD hA hJ hU
      go_simp
    · intro a w1 hJ hA hU hD K hK
      refine duty_yes rfl rfl rfl (hA.lt 84 (by kernel_rfl)) (given_at hD 1 rfl rfl rfl) ?_
      have h90 : a.tmps[90]?.getD undef = .slice (some g) n cap := eval_get (given_at hD 7 rfl rfl rfl)
      have h91 : a.tmps[91]?.getD undef = .int .i64 (k : Int) := eval_get (given_at hD 8 rfl rfl rfl)
      refine wp_value (v := .pointer (some (g.add (k * 2)))) (w' := w1) ?_ (hK _ _ hJ (Below.refl _ _) rfl)
      clear hK hD hA hJ hU
      go_simp
    · intro a w1 hJ hA hU hD K hK
      refine duty_yes rfl rfl rfl (hA.lt 84 (by kernel_rfl)) (given_at hD 1 rfl rfl rfl) ?_
      have h92 : a.tmps[92]?.getD undef = .pointer (some (g.add (k * 2))) := eval_get (given_at hD 9 rfl rfl rfl)
      refine wp_value (v := .pointer (some (g.add (k * 2)))) (w' := w1) ?_ (hK _ _ hJ (Below.refl _ _) rfl)
      clear hK hD hA hJ hU
      go_simp
    · intro a w1 hJ hA hU hD K hK
      refine duty_yes rfl rfl rfl (hA.lt 84 (by kernel_rfl)) (given_at hD 1 rfl rfl rfl) ?_
      have h93 : a.tmps[93]?.getD undef = .pointer (some (g.add (k * 2))) := eval_get (given_at hD 10 rfl rfl rfl)
      have hc := (hJ.cell (p := g.add (k * 2)) (by show (g.add _).block < _; rw [add_block]; exact hg)).trans hx0
      refine wp_value (v := .int .i64 x.1) (w' := w1) ?_ (hK _ _ hJ (Below.refl _ _) rfl)
      clear hK hD hA hJ hU
      go_simp
    · intro a w1 hJ hA hU hD K hK
      refine duty_yes rfl rfl rfl (hA.lt 84 (by kernel_rfl)) (given_at hD 1 rfl rfl rfl) ?_
      have h89 : a.tmps[89]?.getD undef = .int .i64 y.1 := eval_get (given_at hD 6 rfl rfl rfl)
      have h94 : a.tmps[94]?.getD undef = .int .i64 x.1 := eval_get (given_at hD 11 rfl rfl rfl)
      refine wp_value (v := .bool false) (w' := w1) ?_ (hK _ _ hJ (Below.refl _ _) rfl)
      clear hK hD hA hJ hU
      go_simp
      exact HEQ.out
    · intro a w1 hJ hA hU hD K hK
      refine duty_yes rfl rfl rfl (hA.lt 84 (by kernel_rfl)) (given_at hD 1 rfl rfl rfl) ?_
      have h95 : a.tmps[95]?.getD undef = .bool false := eval_get (given_at hD 12 rfl rfl rfl)
      refine wp_value (v := .bool false) (w' := w1) ?_ (hK _ _ hJ (Below.refl _ _) rfl)
      clear hK hD hA hJ hU
      go_simp
    · intro a w1 hJ hA hU hD K hK
      refine duty_yes rfl rfl rfl (hA.lt 96 (by kernel_rfl)) (given_at hD 13 rfl rfl rfl) ?_
      have h1 : a.tmps[1]?.getD undef = .slice (some g) n cap := eval_get (hA.at_ 1 (by kernel_rfl))
      refine wp_value (v := .slice (some g) n cap) (w' := w1) ?_ (hK _ _ hJ (Below.refl _ _) rfl)
      clear hK hD hA hJ hU
      go_simp
    · intro a w1 hJ hA hU hD K hK
      refine duty_yes rfl rfl rfl (hA.lt 96 (by kernel_rfl)) (given_at hD 13 rfl rfl rfl) ?_
      have h12 : a.tmps[12]?.getD undef = .int .i64 (m : Int) := eval_get (hA.at_ 12 (by kernel_rfl))
      refine wp_value (v := .int .i64 (m : Int)) (w' := w1) ?_ (hK _ _ hJ (Below.refl _ _) rfl)
      clear hK hD hA hJ hU
      go_simp
    · intro a w1 hJ hA hU hD K hK
      refine duty_yes rfl rfl rfl (hA.lt 96 (by kernel_rfl)) (given_at hD 13 rfl rfl rfl) ?_
      have h97 : a.tmps[97]?.getD undef = .slice (some g) n cap := eval_get (given_at hD 14 rfl rfl rfl)
      have h98 : a.tmps[98]?.getD undef = .int .i64 (m : Int) := eval_get (given_at hD 15 rfl rfl rfl)
      refine wp_value (v := .pointer (some (g.add (m * 2)))) (w' := w1) ?_ (hK _ _ hJ (Below.refl _ _) rfl)
      clear hK hD hA hJ hU
      go_simp
    · intro a w1 hJ hA hU hD K hK
      refine duty_yes rfl rfl rfl (hA.lt 96 (by kernel_rfl)) (given_at hD 13 rfl rfl rfl) ?_
      have h99 : a.tmps[99]?.getD undef = .pointer (some (g.add (m * 2))) := eval_get (given_at hD 16 rfl rfl rfl)
      refine wp_value (v := .pointer (some (g.add (m * 2)))) (w' := w1) ?_ (hK _ _ hJ (Below.refl _ _) rfl)
      clear hK hD hA hJ hU
      go_simp
    · intro a w1 hJ hA hU hD K hK
      refine duty_yes rfl rfl rfl (hA.lt 96 (by kernel_rfl)) (given_at hD 13 rfl rfl rfl) ?_
      have h100 : a.tmps[100]?.getD undef = .pointer (some (g.add (m * 2))) := eval_get (given_at hD 17 rfl rfl rfl)
      have hc := (hJ.cell (p := g.add (m * 2)) (by show (g.add _).block < _; rw [add_block]; exact hg)).trans hy0
      refine wp_value (v := .int .i64 y.1) (w' := w1) ?_ (hK _ _ hJ (Below.refl _ _) rfl)
      clear hK hD hA hJ hU
      go_simp
    · intro a w1 hJ hA hU hD K hK
      refine duty_yes rfl rfl rfl (hA.lt 96 (by kernel_rfl)) (given_at hD 13 rfl rfl rfl) ?_
      have h1 : a.tmps[1]?.getD undef = .slice (some g) n cap := eval_get (hA.at_ 1 (by kernel_rfl))
      refine wp_value (v := .slice (some g) n cap) (w' := w1) ?_ (hK _ _ hJ (Below.refl _ _) rfl)
      clear hK hD hA hJ hU
      go_simp
    · intro a w1 hJ hA hU hD K hK
      refine duty_yes rfl rfl rfl (hA.lt 96 (by kernel_rfl)) (given_at hD 13 rfl rfl rfl) ?_
      have h12 : a.tmps[12]?.getD undef = .int .i64 (m : Int) := eval_get (hA.at_ 12 (by kernel_rfl))
      refine wp_value (v := .int .i64 (m : Int)) (w' := w1) ?_ (hK _ _ hJ (Below.refl _ _) rfl)
      clear hK hD hA hJ hU
      go_simp
    · intro a w1 hJ hA hU hD K hK
      refine duty_yes rfl rfl rfl (hA.lt 96 (by kernel_rfl)) (given_at hD 13 rfl rfl rfl) ?_
      have h102 : a.tmps[102]?.getD undef = .slice (some g) n cap := eval_get (given_at hD 19 rfl rfl rfl)
      have h103 : a.tmps[103]?.getD undef = .int .i64 (m : Int) := eval_get (given_at hD 20 rfl rfl rfl)
      refine wp_value (v := .pointer (some (g.add (m * 2)))) (w' := w1) ?_ (hK _ _ hJ (Below.refl _ _) rfl)
      clear hK hD hA hJ hU
      go_simp
    · intro a w1 hJ hA hU hD K hK
      refine duty_yes rfl rfl rfl (hA.lt 96 (by kernel_rfl)) (given_at hD 13 rfl rfl rfl) ?_
      have h104 : a.tmps[104]?.getD undef = .pointer (some (g.add (m * 2))) := eval_get (given_at hD 21 rfl rfl rfl)
      refine wp_value (v := .pointer (some ⟨(g.add (m * 2)).block, (g.add (m * 2)).off + 1, none⟩)) (w' := w1) ?_ (hK _ _ hJ (Below.refl _ _) rfl)
      clear hK hD hA hJ hU
      go_simp
    · intro a w1 hJ hA hU hD K hK
      refine duty_yes rfl rfl rfl (hA.lt 96 (by kernel_rfl)) (given_at hD 13 rfl rfl rfl) ?_
      have h105 : a.tmps[105]?.getD undef = .pointer (some ⟨(g.add (m * 2)).block, (g.add (m * 2)).off + 1, none⟩) := eval_get (given_at hD 22 rfl rfl rfl)
      have hc := (hJ.cell (p := ⟨(g.add (m * 2)).block, (g.add (m * 2)).off + 1, none⟩) (by show (g.add _).block < _; rw [add_block]; exact hg)).trans hy1
      refine wp_value (v := .int .i64 y.2) (w' := w1) ?_ (hK _ _ hJ (Below.refl _ _) rfl)
      clear hK hD hA hJ hU
      go_simp
    · intro a w1 hJ hA hU hD K hK
      refine duty_yes rfl rfl rfl (hA.lt 96 (by kernel_rfl)) (given_at hD 13 rfl rfl rfl) ?_
      have h101 : a.tmps[101]?.getD undef = .int .i64 y.1 := eval_get (given_at hD 18 rfl rfl rfl)
      have h106 : a.tmps[106]?.getD undef = .int .i64 y.2 := eval_get (given_at hD 23 rfl rfl rfl)
      refine wp_value (v := .bool false) (w' := w1) ?_ (hK _ _ hJ (Below.refl _ _) rfl)
      clear hK hD hA hJ hU
      go_simp
    · intro a w1 hJ hA hU hD K hK
      refine duty_yes rfl rfl rfl (hA.lt 84 (by kernel_rfl)) (given_at hD 1 rfl rfl rfl) ?_
      have h96 : a.tmps[96]?.getD undef = .bool false := eval_get (given_at hD 13 rfl rfl rfl)
      have h107 : a.tmps[107]?.getD undef = .bool false := eval_get (given_at hD 24 rfl rfl rfl)
      refine wp_value (v := .bool false) (w' := w1) ?_ (hK _ _ hJ (Below.refl _ _) rfl)
      clear hK hD hA hJ hU
      go_simp
    · intro a w1 hJ hA hU hD K hK
      refine duty_yes rfl rfl rfl (hA.lt 84 (by kernel_rfl)) (given_at hD 1 rfl rfl rfl) ?_
      have h108 : a.tmps[108]?.getD undef = .bool false := eval_get (given_at hD 25 rfl rfl rfl)
      refine wp_value (v := .bool false) (w' := w1) ?_ (hK _ _ hJ (Below.refl _ _) rfl)
      clear hK hD hA hJ hU
      go_simp
    · intro a w1 hJ hA hU hD K hK
      refine duty_yes rfl rfl rfl (hA.lt 109 (by kernel_rfl)) (given_at hD 26 rfl rfl rfl) ?_
      have h1 : a.tmps[1]?.getD undef = .slice (some g) n cap := eval_get (hA.at_ 1 (by kernel_rfl))
      refine wp_value (v := .slice (some g) n cap) (w' := w1) ?_ (hK _ _ hJ (Below.refl _ _) rfl)
      clear hK hD hA hJ hU
      go_simp
    · intro a w1 hJ hA hU hD K hK
      refine duty_yes rfl rfl rfl (hA.lt 109 (by kernel_rfl)) (given_at hD 26 rfl rfl rfl) ?_
      have h12 : a.tmps[12]?.getD undef = .int .i64 (m : Int) := eval_get (hA.at_ 12 (by kernel_rfl))
      refine wp_value (v := .int .i64 (m : Int)) (w' := w1) ?_ (hK _ _ hJ (Below.refl _ _) rfl)
      clear hK hD hA hJ hU
      go_simp
    · intro a w1 hJ hA hU hD K hK
      refine duty_yes rfl rfl rfl (hA.lt 109 (by kernel_rfl)) (given_at hD 26 rfl rfl rfl) ?_
      have h110 : a.tmps[110]?.getD undef = .slice (some g) n cap := eval_get (given_at hD 27 rfl rfl rfl)
      have h111 : a.tmps[111]?.getD undef = .int .i64 (m : Int) := eval_get (given_at hD 28 rfl rfl rfl)
      refine wp_value (v := .pointer (some (g.add (m * 2)))) (w' := w1) ?_ (hK _ _ hJ (Below.refl _ _) rfl)
      clear hK hD hA hJ hU
      go_simp
    · intro a w1 hJ hA hU hD K hK
      refine duty_yes rfl rfl rfl (hA.lt 109 (by kernel_rfl)) (given_at hD 26 rfl rfl rfl) ?_
      have h112 : a.tmps[112]?.getD undef = .pointer (some (g.add (m * 2))) := eval_get (given_at hD 29 rfl rfl rfl)
      refine wp_value (v := .pointer (some (g.add (m * 2)))) (w' := w1) ?_ (hK _ _ hJ (Below.refl _ _) rfl)
      clear hK hD hA hJ hU
      go_simp
    · intro a w1 hJ hA hU hD K hK
      refine duty_yes rfl rfl rfl (hA.lt 109 (by kernel_rfl)) (given_at hD 26 rfl rfl rfl) ?_
      have h113 : a.tmps[113]?.getD undef = .pointer (some (g.add (m * 2))) := eval_get (given_at hD 30 rfl rfl rfl)
      have hc := (hJ.cell (p := g.add (m * 2)) (by show (g.add _).block < _; rw [add_block]; exact hg)).trans hy0
      refine wp_value (v := .int .i64 y.1) (w' := w1) ?_ (hK _ _ hJ (Below.refl _ _) rfl)
      clear hK hD hA hJ hU
      go_simp
    · intro a w1 hJ hA hU hD K hK
      refine duty_yes rfl rfl rfl (hA.lt 109 (by kernel_rfl)) (given_at hD 26 rfl rfl rfl) ?_
      have h114 : a.tmps[114]?.getD undef = .int .i64 y.1 := eval_get (given_at hD 31 rfl rfl rfl)
      refine wp_value (v := .bool false) (w' := w1) ?_ (hK _ _ hJ (Below.refl _ _) rfl)
      clear hK hD hA hJ hU
      go_simp
    · intro a w1 hJ hA hU hD K hK
      refine duty_yes rfl rfl rfl (hA.lt 84 (by kernel_rfl)) (given_at hD 1 rfl rfl rfl) ?_
      have h109 : a.tmps[109]?.getD undef = .bool false := eval_get (given_at hD 26 rfl rfl rfl)
      have h115 : a.tmps[115]?.getD undef = .bool false := eval_get (given_at hD 32 rfl rfl rfl)
      refine wp_value (v := .bool false) (w' := w1) ?_ (hK _ _ hJ (Below.refl _ _) rfl)
      clear hK hD hA hJ hU
      go_simp
    · intro a w1 hJ hA hU hD K hK
      refine duty_yes rfl rfl rfl (hA.lt 84 (by kernel_rfl)) (given_at hD 1 rfl rfl rfl) ?_
      have h116 : a.tmps[116]?.getD undef = .bool false := eval_get (given_at hD 33 rfl rfl rfl)
      refine wp_value (v := .bool false) (w' := w1) ?_ (hK _ _ hJ (Below.refl _ _) rfl)
      clear hK hD hA hJ hU
      go_simp
    · intro a w1 hJ hA hU hD K hK
      refine duty_yes rfl rfl rfl (hA.lt 117 (by kernel_rfl)) (given_at hD 34 rfl rfl rfl) ?_
      have h1 : a.tmps[1]?.getD undef = .slice (some g) n cap := eval_get (hA.at_ 1 (by kernel_rfl))
      refine wp_value (v := .slice (some g) n cap) (w' := w1) ?_ (hK _ _ hJ (Below.refl _ _) rfl)
      clear hK hD hA hJ hU
      go_simp
    · intro a w1 hJ hA hU hD K hK
      refine duty_yes rfl rfl rfl (hA.lt 117 (by kernel_rfl)) (given_at hD 34 rfl rfl rfl) ?_
      have h12 : a.tmps[12]?.getD undef = .int .i64 (m : Int) := eval_get (hA.at_ 12 (by kernel_rfl))
      refine wp_value (v := .int .i64 (m : Int)) (w' := w1) ?_ (hK _ _ hJ (Below.refl _ _) rfl)
      clear hK hD hA hJ hU
      go_simp
    · intro a w1 hJ hA hU hD K hK
      refine duty_yes rfl rfl rfl (hA.lt 117 (by kernel_rfl)) (given_at hD 34 rfl rfl rfl) ?_
      have h118 : a.tmps[118]?.getD undef = .slice (some g) n cap := eval_get (given_at hD 35 rfl rfl rfl)
      have h119 : a.tmps[119]?.getD undef = .int .i64 (m : Int) := eval_get (given_at hD 36 rfl rfl rfl)
      refine wp_value (v := .pointer (some (g.add (m * 2)))) (w' := w1) ?_ (hK _ _ hJ (Below.refl _ _) rfl)
      clear hK hD hA hJ hU
      go_simp
    · intro a w1 hJ hA hU hD K hK
      refine duty_yes rfl rfl rfl (hA.lt 117 (by kernel_rfl)) (given_at hD 34 rfl rfl rfl) ?_
      have h120 : a.tmps[120]?.getD undef = .pointer (some (g.add (m * 2))) := eval_get (given_at hD 37 rfl rfl rfl)
      refine wp_value (v := .pointer (some ⟨(g.add (m * 2)).block, (g.add (m * 2)).off + 1, none⟩)) (w' := w1) ?_ (hK _ _ hJ (Below.refl _ _) rfl)
      clear hK hD hA hJ hU
      go_simp
    · intro a w1 hJ hA hU hD K hK
      refine duty_yes rfl rfl rfl (hA.lt 117 (by kernel_rfl)) (given_at hD 34 rfl rfl rfl) ?_
      have h121 : a.tmps[121]?.getD undef = .pointer (some ⟨(g.add (m * 2)).block, (g.add (m * 2)).off + 1, none⟩) := eval_get (given_at hD 38 rfl rfl rfl)
      have hc := (hJ.cell (p := ⟨(g.add (m * 2)).block, (g.add (m * 2)).off + 1, none⟩) (by show (g.add _).block < _; rw [add_block]; exact hg)).trans hy1
      refine wp_value (v := .int .i64 y.2) (w' := w1) ?_ (hK _ _ hJ (Below.refl _ _) rfl)
      clear hK hD hA hJ hU
      go_simp
    · intro a w1 hJ hA hU hD K hK
      refine duty_yes rfl rfl rfl (hA.lt 117 (by kernel_rfl)) (given_at hD 34 rfl rfl rfl) ?_
      have h122 : a.tmps[122]?.getD undef = .int .i64 y.2 := eval_get (given_at hD 39 rfl rfl rfl)
      refine wp_value (v := .bool true) (w' := w1) ?_ (hK _ _ hJ (Below.refl _ _) rfl)
      clear hK hD hA hJ hU
      go_simp
    · intro a w1 hJ hA hU hD K hK
      refine duty_yes rfl rfl rfl (hA.lt 84 (by kernel_rfl)) (given_at hD 1 rfl rfl rfl) ?_
      have h117 : a.tmps[117]?.getD undef = .bool false := eval_get (given_at hD 34 rfl rfl rfl)
      have h123 : a.tmps[123]?.getD undef = .bool true := eval_get (given_at hD 40 rfl rfl rfl)
      refine wp_value (v := .bool true) (w' := w1) ?_ (hK _ _ hJ (Below.refl _ _) rfl)
      clear hK hD hA hJ hU
      go_simp
    · intro a w1 hJ hA hU hD K hK
      refine duty_plain rfl ?_
      have h84 : a.tmps[84]?.getD undef = .bool true := eval_get (given_at hD 1 rfl rfl rfl)
      have h124 : a.tmps[124]?.getD undef = .bool true := eval_get (given_at hD 41 rfl rfl rfl)
      refine wp_value (v := .bool true) (w' := w1) ?_ (hK _ _ hJ (Below.refl _ _) rfl)
      clear hK hD hA hJ hU
      go_simp
    · intro a w1 hJ hA hU hD K hK
      refine duty_plain rfl ?_
      have h125 : a.tmps[125]?.getD undef = .bool true := eval_get (given_at hD 42 rfl rfl rfl)
      refine wp_value (v := .bool true) (w' := w1) ?_ (hK _ _ hJ (Below.refl _ _) rfl)
      clear hK hD hA hJ hU
      go_simp
  · intro a w' hJ hA hG
    have hv11 : a.tmps[11]?.getD undef = .bool true := eval_get (hG 43 _ _ rfl rfl)
    have ha : a = ⟨#[t0, .slice (some g) n cap, t2, t3, t4, t5, t6, t7, t8, t9, .int .i64 (k : Int), .bool true, .int .i64 (m : Int), t13, t14, t15, t16, t17, t18, t19, t20, t21, t22, t23, t24, t25, t26, t27, t28, t29, t30, t31, t32, t33, t34, t35, t36, t37, t38, t39, t40, t41, t42, t43, t44, t45, t46, t47, t48, t49, t50, t51, t52, t53, t54, t55, t56, t57, t58, t59, t60, t61, t62, t63, t64, t65, t66, t67, t68, t69, t70, t71, t72, t73, t74, t75, t76, t77, t78, t79, t80, t81, t82, a.tmps[83]?.getD undef, a.tmps[84]?.getD undef, a.tmps[85]?.getD undef, a.tmps[86]?.getD undef, a.tmps[87]?.getD undef, a.tmps[88]?.getD undef, a.tmps[89]?.getD undef, a.tmps[90]?.getD undef, a.tmps[91]?.getD undef, a.tmps[92]?.getD undef, a.tmps[93]?.getD undef, a.tmps[94]?.getD undef, a.tmps[95]?.getD undef, a.tmps[96]?.getD undef, a.tmps[97]?.getD undef, a.tmps[98]?.getD undef, a.tmps[99]?.getD undef, a.tmps[100]?.getD undef, a.tmps[101]?.getD undef, a.tmps[102]?.getD undef, a.tmps[103]?.getD undef, a.tmps[104]?.getD undef, a.tmps[105]?.getD undef, a.tmps[106]?.getD undef, a.tmps[107]?.getD undef, a.tmps[108]?.getD undef, a.tmps[109]?.getD undef, a.tmps[110]?.getD undef, a.tmps[111]?.getD undef, a.tmps[112]?.getD undef, a.tmps[113]?.getD undef, a.tmps[114]?.getD undef, a.tmps[115]?.getD undef, a.tmps[116]?.getD undef, a.tmps[117]?.getD undef, a.tmps[118]?.getD undef, a.tmps[119]?.getD undef, a.tmps[120]?.getD undef, a.tmps[121]?.getD undef, a.tmps[122]?.getD undef, a.tmps[123]?.getD undef, a.tmps[124]?.getD undef, a.tmps[125]?.getD undef, t126, t127, t128, t129, t130, t131, t132, t133, t134, t135, t136, t137, t138, t139, t140, t141, t142, t143, t144, t145, t146, t147, t148, t149, t150, t151, t152, t153, t154, t155, t156, t157, t158, t159, t160, t161, t162, t163, t164, t165, t166, t167, t168, t169, t170, t171, t172, t173, t174, t175, t176, t177, t178, t179, t180, t181, t182, t183, t184, t185, t186, t187, t188, t189, t190, t191, t192, t193, t194, t195, t196, t197, t198, t199, t200, t201, t202, t203, t204, t205, t206, t207, t208, t209, t210, t211, t212, t213, t214, t215, t216], []⟩ := act_of ⟨eval_get (hA.at_ 0 (by kernel_rfl)), eval_get (hA.at_ 1 (by kernel_rfl)), eval_get (hA.at_ 2 (by kernel_rfl)), eval_get (hA.at_ 3 (by kernel_rfl)), eval_get (hA.at_ 4 (by kernel_rfl)), eval_get (hA.at_ 5 (by kernel_rfl)), eval_get (hA.at_ 6 (by kernel_rfl)), eval_get (hA.at_ 7 (by kernel_rfl)), eval_get (hA.at_ 8 (by kernel_rfl)), eval_get (hA.at_ 9 (by kernel_rfl)), eval_get (hA.at_ 10 (by kernel_rfl)), hv11, eval_get (hA.at_ 12 (by kernel_rfl)), eval_get (hA.at_ 13 (by kernel_rfl)), eval_get (hA.at_ 14 (by kernel_rfl)), eval_get (hA.at_ 15 (by kernel_rfl)), eval_get (hA.at_ 16 (by kernel_rfl)), eval_get (hA.at_ 17 (by kernel_rfl)), eval_get (hA.at_ 18 (by kernel_rfl)), eval_get (hA.at_ 19 (by kernel_rfl)), eval_get (hA.at_ 20 (by kernel_rfl)), eval_get (hA.at_ 21 (by kernel_rfl)), eval_get (hA.at_ 22 (by kernel_rfl)), eval_get (hA.at_ 23 (by kernel_rfl)), eval_get (hA.at_ 24 (by kernel_rfl)), eval_get (hA.at_ 25 (by kernel_rfl)), eval_get (hA.at_ 26 (by kernel_rfl)), eval_get (hA.at_ 27 (by kernel_rfl)), eval_get (hA.at_ 28 (by kernel_rfl)), eval_get (hA.at_ 29 (by kernel_rfl)), eval_get (hA.at_ 30 (by kernel_rfl)), eval_get (hA.at_ 31 (by kernel_rfl)), eval_get (hA.at_ 32 (by kernel_rfl)), eval_get (hA.at_ 33 (by kernel_rfl)), eval_get (hA.at_ 34 (by kernel_rfl)), eval_get (hA.at_ 35 (by kernel_rfl)), eval_get (hA.at_ 36 (by kernel_rfl)), eval_get (hA.at_ 37 (by kernel_rfl)), eval_get (hA.at_ 38 (by kernel_rfl)), eval_get (hA.at_ 39 (by kernel_rfl)), eval_get (hA.at_ 40 (by kernel_rfl)), eval_get (hA.at_ 41 (by kernel_rfl)), eval_get (hA.at_ 42 (by kernel_rfl)), eval_get (hA.at_ 43 (by kernel_rfl)), eval_get (hA.at_ 44 (by kernel_rfl)), eval_get (hA.at_ 45 (by kernel_rfl)), eval_get (hA.at_ 46 (by kernel_rfl)), eval_get (hA.at_ 47 (by kernel_rfl)), eval_get (hA.at_ 48 (by kernel_rfl)), eval_get (hA.at_ 49 (by kernel_rfl)), eval_get (hA.at_ 50 (by kernel_rfl)), eval_get (hA.at_ 51 (by kernel_rfl)), eval_get (hA.at_ 52 (by kernel_rfl)), eval_get (hA.at_ 53 (by kernel_rfl)), eval_get (hA.at_ 54 (by kernel_rfl)), eval_get (hA.at_ 55 (by kernel_rfl)), eval_get (hA.at_ 56 (by kernel_rfl)), eval_get (hA.at_ 57 (by kernel_rfl)), eval_get (hA.at_ 58 (by kernel_rfl)), eval_get (hA.at_ 59 (by kernel_rfl)), eval_get (hA.at_ 60 (by kernel_rfl)), eval_get (hA.at_ 61 (by kernel_rfl)), eval_get (hA.at_ 62 (by kernel_rfl)), eval_get (hA.at_ 63 (by kernel_rfl)), eval_get (hA.at_ 64 (by kernel_rfl)), eval_get (hA.at_ 65 (by kernel_rfl)), eval_get (hA.at_ 66 (by kernel_rfl)), eval_get (hA.at_ 67 (by kernel_rfl)), eval_get (hA.at_ 68 (by kernel_rfl)), eval_get (hA.at_ 69 (by kernel_rfl)), eval_get (hA.at_ 70 (by kernel_rfl)), eval_get (hA.at_ 71 (by kernel_rfl)), eval_get (hA.at_ 72 (by kernel_rfl)), eval_get (hA.at_ 73 (by kernel_rfl)), eval_get (hA.at_ 74 (by kernel_rfl)), eval_get (hA.at_ 75 (by kernel_rfl)), eval_get (hA.at_ 76 (by kernel_rfl)), eval_get (hA.at_ 77 (by kernel_rfl)), eval_get (hA.at_ 78 (by kernel_rfl)), eval_get (hA.at_ 79 (by kernel_rfl)), eval_get (hA.at_ 80 (by kernel_rfl)), eval_get (hA.at_ 81 (by kernel_rfl)), eval_get (hA.at_ 82 (by kernel_rfl)), rfl, rfl, rfl, rfl, rfl, rfl, rfl, rfl, rfl, rfl, rfl, rfl, rfl, rfl, rfl, rfl, rfl, rfl, rfl, rfl, rfl, rfl, rfl, rfl, rfl, rfl, rfl, rfl, rfl, rfl, rfl, rfl, rfl, rfl, rfl, rfl, rfl, rfl, rfl, rfl, rfl, rfl, rfl, eval_get (hA.at_ 126 (by kernel_rfl)), eval_get (hA.at_ 127 (by kernel_rfl)), eval_get (hA.at_ 128 (by kernel_rfl)), eval_get (hA.at_ 129 (by kernel_rfl)), eval_get (hA.at_ 130 (by kernel_rfl)), eval_get (hA.at_ 131 (by kernel_rfl)), eval_get (hA.at_ 132 (by kernel_rfl)), eval_get (hA.at_ 133 (by kernel_rfl)), eval_get (hA.at_ 134 (by kernel_rfl)), eval_get (hA.at_ 135 (by kernel_rfl)), eval_get (hA.at_ 136 (by kernel_rfl)), eval_get (hA.at_ 137 (by kernel_rfl)), eval_get (hA.at_ 138 (by kernel_rfl)), eval_get (hA.at_ 139 (by kernel_rfl)), eval_get (hA.at_ 140 (by kernel_rfl)), eval_get (hA.at_ 141 (by kernel_rfl)), eval_get (hA.at_ 142 (by kernel_rfl)), eval_get (hA.at_ 143 (by kernel_rfl)), eval_get (hA.at_ 144 (by kernel_rfl)), eval_get (hA.at_ 145 (by kernel_rfl)), eval_get (hA.at_ 146 (by kernel_rfl)), eval_get (hA.at_ 147 (by kernel_rfl)), eval_get (hA.at_ 148 (by kernel_rfl)), eval_get (hA.at_ 149 (by kernel_rfl)), eval_get (hA.at_ 150 (by kernel_rfl)), eval_get (hA.at_ 151 (by kernel_rfl)), eval_get (hA.at_ 152 (by kernel_rfl)), eval_get (hA.at_ 153 (by kernel_rfl)), eval_get (hA.at_ 154 (by kernel_rfl)), eval_get (hA.at_ 155 (by kernel_rfl)), eval_get (hA.at_ 156 (by kernel_rfl)), eval_get (hA.at_ 157 (by kernel_rfl)), eval_get (hA.at_ 158 (by kernel_rfl)), eval_get (hA.at_ 159 (by kernel_rfl)), eval_get (hA.at_ 160 (by kernel_rfl)), eval_get (hA.at_ 161 (by kernel_rfl)), eval_get (hA.at_ 162 (by kernel_rfl)), eval_get (hA.at_ 163 (by kernel_rfl)), eval_get (hA.at_ 164 (by kernel_rfl)), eval_get (hA.at_ 165 (by kernel_rfl)), eval_get (hA.at_ 166 (by kernel_rfl)), eval_get (hA.at_ 167 (by kernel_rfl)), eval_get (hA.at_ 168 (by kernel_rfl)), eval_get (hA.at_ 169 (by kernel_rfl)), eval_get (hA.at_ 170 (by kernel_rfl)), eval_get (hA.at_ 171 (by kernel_rfl)), eval_get (hA.at_ 172 (by kernel_rfl)), eval_get (hA.at_ 173 (by kernel_rfl)), eval_get (hA.at_ 174 (by kernel_rfl)), eval_get (hA.at_ 175 (by kernel_rfl)), eval_get (hA.at_ 176 (by kernel_rfl)), eval_get (hA.at_ 177 (by kernel_rfl)), eval_get (hA.at_ 178 (by kernel_rfl)), eval_get (hA.at_ 179 (by kernel_rfl)), eval_get (hA.at_ 180 (by kernel_rfl)), eval_get (hA.at_ 181 (by kernel_rfl)), eval_get (hA.at_ 182 (by kernel_rfl)), eval_get (hA.at_ 183 (by kernel_rfl)), eval_get (hA.at_ 184 (by kernel_rfl)), eval_get (hA.at_ 185 (by kernel_rfl)), eval_get (hA.at_ 186 (by kernel_rfl)), eval_get (hA.at_ 187 (by kernel_rfl)), eval_get (hA.at_ 188 (by kernel_rfl)), eval_get (hA.at_ 189 (by kernel_rfl)), eval_get (hA.at_ 190 (by kernel_rfl)), eval_get (hA.at_ 191 (by kernel_rfl)), eval_get (hA.at_ 192 (by kernel_rfl)), eval_get (hA.at_ 193 (by kernel_rfl)), eval_get (hA.at_ 194 (by kernel_rfl)), eval_get (hA.at_ 195 (by kernel_rfl)), eval_get (hA.at_ 196 (by kernel_rfl)), eval_get (hA.at_ 197 (by kernel_rfl)), eval_get (hA.at_ 198 (by kernel_rfl)), eval_get (hA.at_ 199 (by kernel_rfl)), eval_get (hA.at_ 200 (by kernel_rfl)), eval_get (hA.at_ 201 (by kernel_rfl)), eval_get (hA.at_ 202 (by kernel_rfl)), eval_get (hA.at_ 203 (by kernel_rfl)), eval_get (hA.at_ 204 (by kernel_rfl)), eval_get (hA.at_ 205 (by kernel_rfl)), eval_get (hA.at_ 206 (by kernel_rfl)), eval_get (hA.at_ 207 (by kernel_rfl)), eval_get (hA.at_ 208 (by kernel_rfl)), eval_get (hA.at_ 209 (by kernel_rfl)), eval_get (hA.at_ 210 (by kernel_rfl)), eval_get (hA.at_ 211 (by kernel_rfl)), eval_get (hA.at_ 212 (by kernel_rfl)), eval_get (hA.at_ 213 (by kernel_rfl)), eval_get (hA.at_ 214 (by kernel_rfl)), eval_get (hA.at_ 215 (by kernel_rfl)), eval_get (hA.at_ 216 (by kernel_rfl)), trivial⟩ hA.size hA.defers
    rw [ha]
    exact HK.out w' _ _ _ _ _ _ _ _ _ _ _ _ _ _ _ _ _ _ _ _ _ _ _ _ _ _ _ _ _ _ _ _ _ _ _ _ _ _ _ _ _ _ _ hJ


noncomputable def codefstC5 : Code := ((Try.f4.body.bind (theRegion 21)).getD .skip)

set_option linter.unusedVariables false in
def RfstC5 (g : Addr) (n cap k m : Nat) (x y : Int × Int) (j : Nat) (v : Value) (_w : World) : Prop :=
  v = [.bool true, .bool true, .slice (some g) n cap, .int .i64 (m : Int), .pointer (some (g.add (m * 2))), .pointer (some (g.add (m * 2))), .int .i64 y.1, .slice (some g) n cap, .int .i64 (k : Int), .pointer (some (g.add (k * 2))), .pointer (some (g.add (k * 2))), .int .i64 x.1, .bool false, .bool false, .slice (some g) n cap, .int .i64 (m : Int), .pointer (some (g.add (m * 2))), .pointer (some (g.add (m * 2))), .int .i64 y.1, .slice (some g) n cap, .int .i64 (m : Int), .pointer (some (g.add (m * 2))), .pointer (some ⟨(g.add (m * 2)).block, (g.add (m * 2)).off + 1, none⟩), .int .i64 y.2, .bool false, .bool false, .bool false, .slice (some g) n cap, .int .i64 (m : Int), .pointer (some (g.add (m * 2))), .pointer (some (g.add (m * 2))), .int .i64 y.1, .bool false, .bool false, .bool false, .slice (some g) n cap, .int .i64 (m : Int), .pointer (some (g.add (m * 2))), .pointer (some ⟨(g.add (m * 2)).block, (g.add (m * 2)).off + 1, none⟩), .int .i64 y.2, .bool false, .bool false, .bool false, .bool false].getD j undef
theorem RfstC5_le (g : Addr) (n cap k m : Nat) (x y : Int × Int) : ∀ j v w w', Below w.heap.size w w' → RfstC5 g n cap k m x y j v w → RfstC5 g n cap k m x y j v w' := by
  intro j v w w' hb h
  exact h

set_option linter.unusedVariables false in
set_option maxRecDepth 1000000 in
set_option maxHeartbeats 4000000 in
theorem fstC5 (Q : Exit → Act → World → Prop) (g : Addr) (n cap k m : Nat) (x y : Int × Int) (w : World)
    (hg : g.block < w.heap.size)
    (hm0 : (0 : Int) ≤ (m : Int))
    (hm1 : (m : Int) < (n : Int))
    (hk0 : (0 : Int) ≤ (k : Int))
    (hk1 : (k : Int) < (n : Int))
    (hy0 : w.cell? (g.add (m * 2)) = some (.int .i64 y.1))
    (hy1 : w.cell? ⟨(g.add (m * 2)).block, (g.add (m * 2)).off + 1, none⟩ = some (.int .i64 y.2))
    (hx0 : w.cell? (g.add (k * 2)) = some (.int .i64 x.1))
    (HEQ : y.1 = x.1 )
    (f1 : decide (y.2 ≤ y.1) = false)
    (f2 : decide (y.1 < 1) = false)
    (f3 : decide (1099511627776 ≤ y.2) = false)
    (t0 t2 t3 t4 t5 t6 t7 t8 t9 t13 t14 t15 t16 t17 t18 t19 t20 t21 t22 t23 t24 t25 t26 t27 t28 t29 t30 t31 t32 t33 t34 t35 t36 t37 t38 t39 t40 t41 t42 t43 t44 t45 t46 t47 t48 t49 t50 t51 t52 t53 t54 t55 t56 t57 t58 t59 t60 t61 t62 t63 t64 t65 t66 t67 t68 t69 t70 t71 t72 t73 t74 t75 t76 t77 t78 t79 t80 t81 t82 t83 t84 t85 t86 t87 t88 t89 t90 t91 t92 t93 t94 t95 t96 t97 t98 t99 t100 t101 t102 t103 t104 t105 t106 t107 t108 t109 t110 t111 t112 t113 t114 t115 t116 t117 t118 t119 t120 t121 t122 t123 t124 t125 t126 t127 t128 t129 t130 t131 t132 t133 t134 t135 t136 t137 t138 t139 t140 t141 t142 t143 t144 t145 t146 t147 t148 t149 t150 t151 t152 t153 t154 t155 t156 t157 t158 t159 t160 t161 t162 t163 t164 t165 t166 t167 t168 t169 t170 t171 t172 t173 t174 t175 t176 t177 t178 t179 t180 t181 t182 t183 t184 t185 t186 t187 t188 t189 t190 t191 t192 t193 t194 t195 t196 t197 t198 t199 t200 t201 t202 t203 t204 t205 t206 t207 t208 t209 t210 t211 t212 t213 t214 t215 t216 : Value) (hK : ∀ (w' : World) (s83 s84 s85 s86 s87 s88 s89 s90 s91 s92 s93 s94 s95 s96 s97 s98 s99 s100 s101 s102 s103 s104 s105 s106 s107 s108 s109 s110 s111 s112 s113 s114 s115 s116 s117 s118 s119 s120 s121 s122 s123 s124 s125 : Value), Below w.heap.size w w' → Q .normal ⟨#[t0, .slice (some g) n cap, t2, t3, t4, t5, t6, t7, t8, t9, .int .i64 (k : Int), .bool false, .int .i64 (m : Int), t13, t14, t15, t16, t17, t18, t19, t20, t21, t22, t23, t24, t25, t26, t27, t28, t29, t30, t31, t32, t33, t34, t35, t36, t37, t38, t39, t40, t41, t42, t43, t44, t45, t46, t47, t48, t49, t50, t51, t52, t53, t54, t55, t56, t57, t58, t59, t60, t61, t62, t63, t64, t65, t66, t67, t68, t69, t70, t71, t72, t73, t74, t75, t76, t77, t78, t79, t80, t81, t82, s83, s84, s85, s86, s87, s88, s89, s90, s91, s92, s93, s94, s95, s96, s97, s98, s99, s100, s101, s102, s103, s104, s105, s106, s107, s108, s109, s110, s111, s112, s113, s114, s115, s116, s117, s118, s119, s120, s121, s122, s123, s124, s125, t126, t127, t128, t129, t130, t131, t132, t133, t134, t135, t136, t137, t138, t139, t140, t141, t142, t143, t144, t145, t146, t147, t148, t149, t150, t151, t152, t153, t154, t155, t156, t157, t158, t159, t160, t161, t162, t163, t164, t165, t166, t167, t168, t169, t170, t171, t172, t173, t174, t175, t176, t177, t178, t179, t180, t181, t182, t183, t184, t185, t186, t187, t188, t189, t190, t191, t192, t193, t194, t195, t196, t197, t198, t199, t200, t201, t202, t203, t204, t205, t206, t207, t208, t209, t210, t211, t212, t213, t214, t215, t216], []⟩ w') :
    Code.wp Try.prog codefstC5 Q ⟨#[t0, .slice (some g) n cap, t2, t3, t4, t5, t6, t7, t8, t9, .int .i64 (k : Int), .bool true, .int .i64 (m : Int), t13, t14, t15, t16, t17, t18, t19, t20, t21, t22, t23, t24, t25, t26, t27, t28, t29, t30, t31, t32, t33, t34, t35, t36, t37, t38, t39, t40, t41, t42, t43, t44, t45, t46, t47, t48, t49, t50, t51, t52, t53, t54, t55, t56, t57, t58, t59, t60, t61, t62, t63, t64, t65, t66, t67, t68, t69, t70, t71, t72, t73, t74, t75, t76, t77, t78, t79, t80, t81, t82, t83, t84, t85, t86, t87, t88, t89, t90, t91, t92, t93, t94, t95, t96, t97, t98, t99, t100, t101, t102, t103, t104, t105, t106, t107, t108, t109, t110, t111, t112, t113, t114, t115, t116, t117, t118, t119, t120, t121, t122, t123, t124, t125, t126, t127, t128, t129, t130, t131, t132, t133, t134, t135, t136, t137, t138, t139, t140, t141, t142, t143, t144, t145, t146, t147, t148, t149, t150, t151, t152, t153, t154, t155, t156, t157, t158, t159, t160, t161, t162, t163, t164, t165, t166, t167, t168, t169, t170, t171, t172, t173, t174, t175, t176, t177, t178, t179, t180, t181, t182, t183, t184, t185, t186, t187, t188, t189, t190, t191, t192, t193, t194, t195, t196, t197, t198, t199, t200, t201, t202, t203, t204, t205, t206, t207, t208, t209, t210, t211, t212, t213, t214, t215, t216], []⟩ w := by
  replace HEQ := Lib.hid HEQ
  have HK := Lib.hid hK
  clear hK
  conv => arg 2; whnf
  refine wp_flow2 (P := Try.prog) (by kernel_rfl) (by kernel_rfl) (fun W => Below w.heap.size w W) (RfstC5 g n cap k m x y) (fun W W' => Below W.heap.size W W') (Below.refl _ _).drew (RfstC5_le g n cap k m x y) ?_ ?_
  · refine ⟨?_, ?_, ?_, ?_, ?_, ?_, ?_, ?_, ?_, ?_, ?_, ?_, ?_, ?_, ?_, ?_, ?_, ?_, ?_, ?_, ?_, ?_, ?_, ?_, ?_, ?_, ?_, ?_, ?_, ?_, ?_, ?_, ?_, ?_, ?_, ?_, ?_, ?_, ?_, ?_, ?_, ?_, ?_, ?_, trivial⟩
    · intro a w1 hJ hA hU hD K hK
      refine duty_plain rfl ?_
      have h11 : a.tmps[11]?.getD undef = .bool true := eval_get (hU.at_ 43 rfl rfl rfl)
      refine wp_value (v := .bool true) (w' := w1) ?_ (hK _ _ hJ (Below.refl _ _) rfl)
      clear hK hD hA hJ hU
      go_simp
    · intro a w1 hJ hA hU hD K hK
      refine duty_plain rfl ?_
      have h83 : a.tmps[83]?.getD undef = .bool true := eval_get (given_at hD 0 rfl rfl rfl)
      refine wp_value (v := .bool true) (w' := w1) ?_ (hK _ _ hJ (Below.refl _ _) rfl)
      clear hK hD hA hJ hU
      go_simp
    · intro a w1 hJ hA hU hD K hK
      refine duty_yes rfl rfl rfl (hA.lt 84 (by kernel_rfl)) (given_at hD 1 rfl rfl rfl) ?_
      have h1 : a.tmps[1]?.getD undef = .slice (some g) n cap := eval_get (hA.at_ 1 (by kernel_rfl))
      refine wp_value (v := .slice (some g) n cap) (w' := w1) ?_ (hK _ _ hJ (Below.refl _ _) rfl)
      clear hK hD hA hJ hU
      go_simp
    · intro a w1 hJ hA hU hD K hK
      refine duty_yes rfl rfl rfl (hA.lt 84 (by kernel_rfl)) (given_at hD 1 rfl rfl rfl) ?_
      have h12 : a.tmps[12]?.getD undef = .int .i64 (m : Int) := eval_get (hA.at_ 12 (by kernel_rfl))
      refine wp_value (v := .int .i64 (m : Int)) (w' := w1) ?_ (hK _ _ hJ (Below.refl _ _) rfl)
      clear hK hD hA hJ hU
      go_simp
    · intro a w1 hJ hA hU hD K hK
      refine duty_yes rfl rfl rfl (hA.lt 84 (by kernel_rfl)) (given_at hD 1 rfl rfl rfl) ?_
      have h85 : a.tmps[85]?.getD undef = .slice (some g) n cap := eval_get (given_at hD 2 rfl rfl rfl)
      have h86 : a.tmps[86]?.getD undef = .int .i64 (m : Int) := eval_get (given_at hD 3 rfl rfl rfl)
      refine wp_value (v := .pointer (some (g.add (m * 2)))) (w' := w1) ?_ (hK _ _ hJ (Below.refl _ _) rfl)
      clear hK hD hA hJ hU
      go_simp
    · intro a w1 hJ hA hU hD K hK
      refine duty_yes rfl rfl rfl (hA.lt 84 (by kernel_rfl)) (given_at hD 1 rfl rfl rfl) ?_
      have h87 : a.tmps[87]?.getD undef = .pointer (some (g.add (m * 2))) := eval_get (given_at hD 4 rfl rfl rfl)
      refine wp_value (v := .pointer (some (g.add (m * 2)))) (w' := w1) ?_ (hK _ _ hJ (Below.refl _ _) rfl)
      clear hK hD hA hJ hU
      go_simp
    · intro a w1 hJ hA hU hD K hK
      refine duty_yes rfl rfl rfl (hA.lt 84 (by kernel_rfl)) (given_at hD 1 rfl rfl rfl) ?_
      have h88 : a.tmps[88]?.getD undef = .pointer (some (g.add (m * 2))) := eval_get (given_at hD 5 rfl rfl rfl)
      have hc := (hJ.cell (p := g.add (m * 2)) (by show (g.add _).block < _; rw [add_block]; exact hg)).trans hy0
      refine wp_value (v := .int .i64 y.1) (w' := w1) ?_ (hK _ _ hJ (Below.refl _ _) rfl)
      clear hK hD hA hJ hU
      go_simp
    · intro a w1 hJ hA hU hD K hK
      refine duty_yes rfl rfl rfl (hA.lt 84 (by kernel_rfl)) (given_at hD 1 rfl rfl rfl) ?_
      have h1 : a.tmps[1]?.getD undef = .slice (some g) n cap := eval_get (hA.at_ 1 (by kernel_rfl))
      refine wp_value (v := .slice (some g) n cap) (w' := w1) ?_ (hK _ _ hJ (Below.refl _ _) rfl)
      clear hK hD hA hJ hU
      go_simp
    · intro a w1 hJ hA hU hD K hK
      refine duty_yes rfl rfl rfl (hA.lt 84 (by kernel_rfl)) (given_at hD 1 rfl rfl rfl) ?_
      have h10 : a.tmps[10]?.getD undef = .int .i64 (k : Int) := eval_get (hA.at_ 10 (by kernel_rfl))
      refine wp_value (v := .int .i64 (k : Int)) (w' := w1) ?_ (hK _ _ hJ (Below.refl _ _) rfl)
      clear hK hD hA hJ hU
      go_simp
    · intro a w1 hJ hA hU hD K hK
      refine duty_yes rfl rfl rfl (hA.lt 84 (by kernel_rfl)) (given_at hD 1 rfl rfl rfl) ?_
      have h90 : a.tmps[90]?.getD undef = .slice (some g) n cap := eval_get (given_at hD 7 rfl rfl rfl)
      have h91 : a.tmps[91]?.getD undef = .int .i64 (k : Int) := eval_get (given_at hD 8 rfl rfl rfl)
      refine wp_value (v := .pointer (some (g.add (k * 2)))) (w' := w1) ?_ (hK _ _ hJ (Below.refl _ _) rfl)
      clear hK hD hA hJ hU
      go_simp
    · intro a w1 hJ hA hU hD K hK
      refine duty_yes rfl rfl rfl (hA.lt 84 (by kernel_rfl)) (given_at hD 1 rfl rfl rfl) ?_
      have h92 : a.tmps[92]?.getD undef = .pointer (some (g.add (k * 2))) := eval_get (given_at hD 9 rfl rfl rfl)
      refine wp_value (v := .pointer (some (g.add (k * 2)))) (w' := w1) ?_ (hK _ _ hJ (Below.refl _ _) rfl)
      clear hK hD hA hJ hU
      go_simp
    · intro a w1 hJ hA hU hD K hK
      refine duty_yes rfl rfl rfl (hA.lt 84 (by kernel_rfl)) (given_at hD 1 rfl rfl rfl) ?_
      have h93 : a.tmps[93]?.getD undef = .pointer (some (g.add (k * 2))) := eval_get (given_at hD 10 rfl rfl rfl)
      have hc := (hJ.cell (p := g.add (k * 2)) (by show (g.add _).block < _; rw [add_block]; exact hg)).trans hx0
      refine wp_value (v := .int .i64 x.1) (w' := w1) ?_ (hK _ _ hJ (Below.refl _ _) rfl)
      clear hK hD hA hJ hU
      go_simp
    · intro a w1 hJ hA hU hD K hK
      refine duty_yes rfl rfl rfl (hA.lt 84 (by kernel_rfl)) (given_at hD 1 rfl rfl rfl) ?_
      have h89 : a.tmps[89]?.getD undef = .int .i64 y.1 := eval_get (given_at hD 6 rfl rfl rfl)
      have h94 : a.tmps[94]?.getD undef = .int .i64 x.1 := eval_get (given_at hD 11 rfl rfl rfl)
      refine wp_value (v := .bool false) (w' := w1) ?_ (hK _ _ hJ (Below.refl _ _) rfl)
      clear hK hD hA hJ hU
      go_simp
      exact HEQ.out
    · intro a w1 hJ hA hU hD K hK
      refine duty_yes rfl rfl rfl (hA.lt 84 (by kernel_rfl)) (given_at hD 1 rfl rfl rfl) ?_
      have h95 : a.tmps[95]?.getD undef = .bool false := eval_get (given_at hD 12 rfl rfl rfl)
      refine wp_value (v := .bool false) (w' := w1) ?_ (hK _ _ hJ (Below.refl _ _) rfl)
      clear hK hD hA hJ hU
      go_simp
    · intro a w1 hJ hA hU hD K hK
      refine duty_yes rfl rfl rfl (hA.lt 96 (by kernel_rfl)) (given_at hD 13 rfl rfl rfl) ?_
      have h1 : a.tmps[1]?.getD undef = .slice (some g) n cap := eval_get (hA.at_ 1 (by kernel_rfl))
      refine wp_value (v := .slice (some g) n cap) (w' := w1) ?_ (hK _ _ hJ (Below.refl _ _) rfl)
      clear hK hD hA hJ hU
      go_simp
    · intro a w1 hJ hA hU hD K hK
      refine duty_yes rfl rfl rfl (hA.lt 96 (by kernel_rfl)) (given_at hD 13 rfl rfl rfl) ?_
      have h12 : a.tmps[12]?.getD undef = .int .i64 (m : Int) := eval_get (hA.at_ 12 (by kernel_rfl))
      refine wp_value (v := .int .i64 (m : Int)) (w' := w1) ?_ (hK _ _ hJ (Below.refl _ _) rfl)
      clear hK hD hA hJ hU
      go_simp
    · intro a w1 hJ hA hU hD K hK
      refine duty_yes rfl rfl rfl (hA.lt 96 (by kernel_rfl)) (given_at hD 13 rfl rfl rfl) ?_
      have h97 : a.tmps[97]?.getD undef = .slice (some g) n cap := eval_get (given_at hD 14 rfl rfl rfl)
      have h98 : a.tmps[98]?.getD undef = .int .i64 (m : Int) := eval_get (given_at hD 15 rfl rfl rfl)
      refine wp_value (v := .pointer (some (g.add (m * 2)))) (w' := w1) ?_ (hK _ _ hJ (Below.refl _ _) rfl)
      clear hK hD hA hJ hU
      go_simp
    · intro a w1 hJ hA hU hD K hK
      refine duty_yes rfl rfl rfl (hA.lt 96 (by kernel_rfl)) (given_at hD 13 rfl rfl rfl) ?_
      have h99 : a.tmps[99]?.getD undef = .pointer (some (g.add (m * 2))) := eval_get (given_at hD 16 rfl rfl rfl)
      refine wp_value (v := .pointer (some (g.add (m * 2)))) (w' := w1) ?_ (hK _ _ hJ (Below.refl _ _) rfl)
      clear hK hD hA hJ hU
      go_simp
    · intro a w1 hJ hA hU hD K hK
      refine duty_yes rfl rfl rfl (hA.lt 96 (by kernel_rfl)) (given_at hD 13 rfl rfl rfl) ?_
      have h100 : a.tmps[100]?.getD undef = .pointer (some (g.add (m * 2))) := eval_get (given_at hD 17 rfl rfl rfl)
      have hc := (hJ.cell (p := g.add (m * 2)) (by show (g.add _).block < _; rw [add_block]; exact hg)).trans hy0
      refine wp_value (v := .int .i64 y.1) (w' := w1) ?_ (hK _ _ hJ (Below.refl _ _) rfl)
      clear hK hD hA hJ hU
      go_simp
    · intro a w1 hJ hA hU hD K hK
      refine duty_yes rfl rfl rfl (hA.lt 96 (by kernel_rfl)) (given_at hD 13 rfl rfl rfl) ?_
      have h1 : a.tmps[1]?.getD undef = .slice (some g) n cap := eval_get (hA.at_ 1 (by kernel_rfl))
      refine wp_value (v := .slice (some g) n cap) (w' := w1) ?_ (hK _ _ hJ (Below.refl _ _) rfl)
      clear hK hD hA hJ hU
      go_simp
    · intro a w1 hJ hA hU hD K hK
      refine duty_yes rfl rfl rfl (hA.lt 96 (by kernel_rfl)) (given_at hD 13 rfl rfl rfl) ?_
      have h12 : a.tmps[12]?.getD undef = .int .i64 (m : Int) := eval_get (hA.at_ 12 (by kernel_rfl))
      refine wp_value (v := .int .i64 (m : Int)) (w' := w1) ?_ (hK _ _ hJ (Below.refl _ _) rfl)
      clear hK hD hA hJ hU
      go_simp
    · intro a w1 hJ hA hU hD K hK
      refine duty_yes rfl rfl rfl (hA.lt 96 (by kernel_rfl)) (given_at hD 13 rfl rfl rfl) ?_
      have h102 : a.tmps[102]?.getD undef = .slice (some g) n cap := eval_get (given_at hD 19 rfl rfl rfl)
      have h103 : a.tmps[103]?.getD undef = .int .i64 (m : Int) := eval_get (given_at hD 20 rfl rfl rfl)
      refine wp_value (v := .pointer (some (g.add (m * 2)))) (w' := w1) ?_ (hK _ _ hJ (Below.refl _ _) rfl)
      clear hK hD hA hJ hU
      go_simp
    · intro a w1 hJ hA hU hD K hK
      refine duty_yes rfl rfl rfl (hA.lt 96 (by kernel_rfl)) (given_at hD 13 rfl rfl rfl) ?_
      have h104 : a.tmps[104]?.getD undef = .pointer (some (g.add (m * 2))) := eval_get (given_at hD 21 rfl rfl rfl)
      refine wp_value (v := .pointer (some ⟨(g.add (m * 2)).block, (g.add (m * 2)).off + 1, none⟩)) (w' := w1) ?_ (hK _ _ hJ (Below.refl _ _) rfl)
      clear hK hD hA hJ hU
      go_simp
    · intro a w1 hJ hA hU hD K hK
      refine duty_yes rfl rfl rfl (hA.lt 96 (by kernel_rfl)) (given_at hD 13 rfl rfl rfl) ?_
      have h105 : a.tmps[105]?.getD undef = .pointer (some ⟨(g.add (m * 2)).block, (g.add (m * 2)).off + 1, none⟩) := eval_get (given_at hD 22 rfl rfl rfl)
      have hc := (hJ.cell (p := ⟨(g.add (m * 2)).block, (g.add (m * 2)).off + 1, none⟩) (by show (g.add _).block < _; rw [add_block]; exact hg)).trans hy1
      refine wp_value (v := .int .i64 y.2) (w' := w1) ?_ (hK _ _ hJ (Below.refl _ _) rfl)
      clear hK hD hA hJ hU
      go_simp
    · intro a w1 hJ hA hU hD K hK
      refine duty_yes rfl rfl rfl (hA.lt 96 (by kernel_rfl)) (given_at hD 13 rfl rfl rfl) ?_
      have h101 : a.tmps[101]?.getD undef = .int .i64 y.1 := eval_get (given_at hD 18 rfl rfl rfl)
      have h106 : a.tmps[106]?.getD undef = .int .i64 y.2 := eval_get (given_at hD 23 rfl rfl rfl)
      refine wp_value (v := .bool false) (w' := w1) ?_ (hK _ _ hJ (Below.refl _ _) rfl)
      clear hK hD hA hJ hU
      go_simp
    · intro a w1 hJ hA hU hD K hK
      refine duty_yes rfl rfl rfl (hA.lt 84 (by kernel_rfl)) (given_at hD 1 rfl rfl rfl) ?_
      have h96 : a.tmps[96]?.getD undef = .bool false := eval_get (given_at hD 13 rfl rfl rfl)
      have h107 : a.tmps[107]?.getD undef = .bool false := eval_get (given_at hD 24 rfl rfl rfl)
      refine wp_value (v := .bool false) (w' := w1) ?_ (hK _ _ hJ (Below.refl _ _) rfl)
      clear hK hD hA hJ hU
      go_simp
    · intro a w1 hJ hA hU hD K hK
      refine duty_yes rfl rfl rfl (hA.lt 84 (by kernel_rfl)) (given_at hD 1 rfl rfl rfl) ?_
      have h108 : a.tmps[108]?.getD undef = .bool false := eval_get (given_at hD 25 rfl rfl rfl)
      refine wp_value (v := .bool false) (w' := w1) ?_ (hK _ _ hJ (Below.refl _ _) rfl)
      clear hK hD hA hJ hU
      go_simp
    · intro a w1 hJ hA hU hD K hK
      refine duty_yes rfl rfl rfl (hA.lt 109 (by kernel_rfl)) (given_at hD 26 rfl rfl rfl) ?_
      have h1 : a.tmps[1]?.getD undef = .slice (some g) n cap := eval_get (hA.at_ 1 (by kernel_rfl))
      refine wp_value (v := .slice (some g) n cap) (w' := w1) ?_ (hK _ _ hJ (Below.refl _ _) rfl)
      clear hK hD hA hJ hU
      go_simp
    · intro a w1 hJ hA hU hD K hK
      refine duty_yes rfl rfl rfl (hA.lt 109 (by kernel_rfl)) (given_at hD 26 rfl rfl rfl) ?_
      have h12 : a.tmps[12]?.getD undef = .int .i64 (m : Int) := eval_get (hA.at_ 12 (by kernel_rfl))
      refine wp_value (v := .int .i64 (m : Int)) (w' := w1) ?_ (hK _ _ hJ (Below.refl _ _) rfl)
      clear hK hD hA hJ hU
      go_simp
    · intro a w1 hJ hA hU hD K hK
      refine duty_yes rfl rfl rfl (hA.lt 109 (by kernel_rfl)) (given_at hD 26 rfl rfl rfl) ?_
      have h110 : a.tmps[110]?.getD undef = .slice (some g) n cap := eval_get (given_at hD 27 rfl rfl rfl)
      have h111 : a.tmps[111]?.getD undef = .int .i64 (m : Int) := eval_get (given_at hD 28 rfl rfl rfl)
      refine wp_value (v := .pointer (some (g.add (m * 2)))) (w' := w1) ?_ (hK _ _ hJ (Below.refl _ _) rfl)
      clear hK hD hA hJ hU
      go_simp
    · intro a w1 hJ hA hU hD K hK
      refine duty_yes rfl rfl rfl (hA.lt 109 (by kernel_rfl)) (given_at hD 26 rfl rfl rfl) ?_
      have h112 : a.tmps[112]?.getD undef = .pointer (some (g.add (m * 2))) := eval_get (given_at hD 29 rfl rfl rfl)
      refine wp_value (v := .pointer (some (g.add (m * 2)))) (w' := w1) ?_ (hK _ _ hJ (Below.refl _ _) rfl)
      clear hK hD hA hJ hU
      go_simp
    · intro a w1 hJ hA hU hD K hK
      refine duty_yes rfl rfl rfl (hA.lt 109 (by kernel_rfl)) (given_at hD 26 rfl rfl rfl) ?_
      have h113 : a.tmps[113]?.getD undef = .pointer (some (g.add (m * 2))) := eval_get (given_at hD 30 rfl rfl rfl)
      have hc := (hJ.cell (p := g.add (m * 2)) (by show (g.add _).block < _; rw [add_block]; exact hg)).trans hy0
      refine wp_value (v := .int .i64 y.1) (w' := w1) ?_ (hK _ _ hJ (Below.refl _ _) rfl)
      clear hK hD hA hJ hU
      go_simp
    · intro a w1 hJ hA hU hD K hK
      refine duty_yes rfl rfl rfl (hA.lt 109 (by kernel_rfl)) (given_at hD 26 rfl rfl rfl) ?_
      have h114 : a.tmps[114]?.getD undef = .int .i64 y.1 := eval_get (given_at hD 31 rfl rfl rfl)
      refine wp_value (v := .bool false) (w' := w1) ?_ (hK _ _ hJ (Below.refl _ _) rfl)
      clear hK hD hA hJ hU
      go_simp
    · intro a w1 hJ hA hU hD K hK
      refine duty_yes rfl rfl rfl (hA.lt 84 (by kernel_rfl)) (given_at hD 1 rfl rfl rfl) ?_
      have h109 : a.tmps[109]?.getD undef = .bool false := eval_get (given_at hD 26 rfl rfl rfl)
      have h115 : a.tmps[115]?.getD undef = .bool false := eval_get (given_at hD 32 rfl rfl rfl)
      refine wp_value (v := .bool false) (w' := w1) ?_ (hK _ _ hJ (Below.refl _ _) rfl)
      clear hK hD hA hJ hU
      go_simp
    · intro a w1 hJ hA hU hD K hK
      refine duty_yes rfl rfl rfl (hA.lt 84 (by kernel_rfl)) (given_at hD 1 rfl rfl rfl) ?_
      have h116 : a.tmps[116]?.getD undef = .bool false := eval_get (given_at hD 33 rfl rfl rfl)
      refine wp_value (v := .bool false) (w' := w1) ?_ (hK _ _ hJ (Below.refl _ _) rfl)
      clear hK hD hA hJ hU
      go_simp
    · intro a w1 hJ hA hU hD K hK
      refine duty_yes rfl rfl rfl (hA.lt 117 (by kernel_rfl)) (given_at hD 34 rfl rfl rfl) ?_
      have h1 : a.tmps[1]?.getD undef = .slice (some g) n cap := eval_get (hA.at_ 1 (by kernel_rfl))
      refine wp_value (v := .slice (some g) n cap) (w' := w1) ?_ (hK _ _ hJ (Below.refl _ _) rfl)
      clear hK hD hA hJ hU
      go_simp
    · intro a w1 hJ hA hU hD K hK
      refine duty_yes rfl rfl rfl (hA.lt 117 (by kernel_rfl)) (given_at hD 34 rfl rfl rfl) ?_
      have h12 : a.tmps[12]?.getD undef = .int .i64 (m : Int) := eval_get (hA.at_ 12 (by kernel_rfl))
      refine wp_value (v := .int .i64 (m : Int)) (w' := w1) ?_ (hK _ _ hJ (Below.refl _ _) rfl)
      clear hK hD hA hJ hU
      go_simp
    · intro a w1 hJ hA hU hD K hK
      refine duty_yes rfl rfl rfl (hA.lt 117 (by kernel_rfl)) (given_at hD 34 rfl rfl rfl) ?_
      have h118 : a.tmps[118]?.getD undef = .slice (some g) n cap := eval_get (given_at hD 35 rfl rfl rfl)
      have h119 : a.tmps[119]?.getD undef = .int .i64 (m : Int) := eval_get (given_at hD 36 rfl rfl rfl)
      refine wp_value (v := .pointer (some (g.add (m * 2)))) (w' := w1) ?_ (hK _ _ hJ (Below.refl _ _) rfl)
      clear hK hD hA hJ hU
      go_simp
    · intro a w1 hJ hA hU hD K hK
      refine duty_yes rfl rfl rfl (hA.lt 117 (by kernel_rfl)) (given_at hD 34 rfl rfl rfl) ?_
      have h120 : a.tmps[120]?.getD undef = .pointer (some (g.add (m * 2))) := eval_get (given_at hD 37 rfl rfl rfl)
      refine wp_value (v := .pointer (some ⟨(g.add (m * 2)).block, (g.add (m * 2)).off + 1, none⟩)) (w' := w1) ?_ (hK _ _ hJ (Below.refl _ _) rfl)
      clear hK hD hA hJ hU
      go_simp
    · intro a w1 hJ hA hU hD K hK
      refine duty_yes rfl rfl rfl (hA.lt 117 (by kernel_rfl)) (given_at hD 34 rfl rfl rfl) ?_
      have h121 : a.tmps[121]?.getD undef = .pointer (some ⟨(g.add (m * 2)).block, (g.add (m * 2)).off + 1, none⟩) := eval_get (given_at hD 38 rfl rfl rfl)
      have hc := (hJ.cell (p := ⟨(g.add (m * 2)).block, (g.add (m * 2)).off + 1, none⟩) (by show (g.add _).block < _; rw [add_block]; exact hg)).trans hy1
      refine wp_value (v := .int .i64 y.2) (w' := w1) ?_ (hK _ _ hJ (Below.refl _ _) rfl)
      clear hK hD hA hJ hU
      go_simp
    · intro a w1 hJ hA hU hD K hK
      refine duty_yes rfl rfl rfl (hA.lt 117 (by kernel_rfl)) (given_at hD 34 rfl rfl rfl) ?_
      have h122 : a.tmps[122]?.getD undef = .int .i64 y.2 := eval_get (given_at hD 39 rfl rfl rfl)
      refine wp_value (v := .bool false) (w' := w1) ?_ (hK _ _ hJ (Below.refl _ _) rfl)
      clear hK hD hA hJ hU
      go_simp
    · intro a w1 hJ hA hU hD K hK
      refine duty_yes rfl rfl rfl (hA.lt 84 (by kernel_rfl)) (given_at hD 1 rfl rfl rfl) ?_
      have h117 : a.tmps[117]?.getD undef = .bool false := eval_get (given_at hD 34 rfl rfl rfl)
      have h123 : a.tmps[123]?.getD undef = .bool false := eval_get (given_at hD 40 rfl rfl rfl)
      refine wp_value (v := .bool false) (w' := w1) ?_ (hK _ _ hJ (Below.refl _ _) rfl)
      clear hK hD hA hJ hU
      go_simp
    · intro a w1 hJ hA hU hD K hK
      refine duty_plain rfl ?_
      have h84 : a.tmps[84]?.getD undef = .bool true := eval_get (given_at hD 1 rfl rfl rfl)
      have h124 : a.tmps[124]?.getD undef = .bool false := eval_get (given_at hD 41 rfl rfl rfl)
      refine wp_value (v := .bool false) (w' := w1) ?_ (hK _ _ hJ (Below.refl _ _) rfl)
      clear hK hD hA hJ hU
      go_simp
    · intro a w1 hJ hA hU hD K hK
      refine duty_plain rfl ?_
      have h125 : a.tmps[125]?.getD undef = .bool false := eval_get (given_at hD 42 rfl rfl rfl)
      refine wp_value (v := .bool false) (w' := w1) ?_ (hK _ _ hJ (Below.refl _ _) rfl)
      clear hK hD hA hJ hU
      go_simp
  · intro a w' hJ hA hG
    have hv11 : a.tmps[11]?.getD undef = .bool false := eval_get (hG 43 _ _ rfl rfl)
    have ha : a = ⟨#[t0, .slice (some g) n cap, t2, t3, t4, t5, t6, t7, t8, t9, .int .i64 (k : Int), .bool false, .int .i64 (m : Int), t13, t14, t15, t16, t17, t18, t19, t20, t21, t22, t23, t24, t25, t26, t27, t28, t29, t30, t31, t32, t33, t34, t35, t36, t37, t38, t39, t40, t41, t42, t43, t44, t45, t46, t47, t48, t49, t50, t51, t52, t53, t54, t55, t56, t57, t58, t59, t60, t61, t62, t63, t64, t65, t66, t67, t68, t69, t70, t71, t72, t73, t74, t75, t76, t77, t78, t79, t80, t81, t82, a.tmps[83]?.getD undef, a.tmps[84]?.getD undef, a.tmps[85]?.getD undef, a.tmps[86]?.getD undef, a.tmps[87]?.getD undef, a.tmps[88]?.getD undef, a.tmps[89]?.getD undef, a.tmps[90]?.getD undef, a.tmps[91]?.getD undef, a.tmps[92]?.getD undef, a.tmps[93]?.getD undef, a.tmps[94]?.getD undef, a.tmps[95]?.getD undef, a.tmps[96]?.getD undef, a.tmps[97]?.getD undef, a.tmps[98]?.getD undef, a.tmps[99]?.getD undef, a.tmps[100]?.getD undef, a.tmps[101]?.getD undef, a.tmps[102]?.getD undef, a.tmps[103]?.getD undef, a.tmps[104]?.getD undef, a.tmps[105]?.getD undef, a.tmps[106]?.getD undef, a.tmps[107]?.getD undef, a.tmps[108]?.getD undef, a.tmps[109]?.getD undef, a.tmps[110]?.getD undef, a.tmps[111]?.getD undef, a.tmps[112]?.getD undef, a.tmps[113]?.getD undef, a.tmps[114]?.getD undef, a.tmps[115]?.getD undef, a.tmps[116]?.getD undef, a.tmps[117]?.getD undef, a.tmps[118]?.getD undef, a.tmps[119]?.getD undef, a.tmps[120]?.getD undef, a.tmps[121]?.getD undef, a.tmps[122]?.getD undef, a.tmps[123]?.getD undef, a.tmps[124]?.getD undef, a.tmps[125]?.getD undef, t126, t127, t128, t129, t130, t131, t132, t133, t134, t135, t136, t137, t138, t139, t140, t141, t142, t143, t144, t145, t146, t147, t148, t149, t150, t151, t152, t153, t154, t155, t156, t157, t158, t159, t160, t161, t162, t163, t164, t165, t166, t167, t168, t169, t170, t171, t172, t173, t174, t175, t176, t177, t178, t179, t180, t181, t182, t183, t184, t185, t186, t187, t188, t189, t190, t191, t192, t193, t194, t195, t196, t197, t198, t199, t200, t201, t202, t203, t204, t205, t206, t207, t208, t209, t210, t211, t212, t213, t214, t215, t216], []⟩ := act_of ⟨eval_get (hA.at_ 0 (by kernel_rfl)), eval_get (hA.at_ 1 (by kernel_rfl)), eval_get (hA.at_ 2 (by kernel_rfl)), eval_get (hA.at_ 3 (by kernel_rfl)), eval_get (hA.at_ 4 (by kernel_rfl)), eval_get (hA.at_ 5 (by kernel_rfl)), eval_get (hA.at_ 6 (by kernel_rfl)), eval_get (hA.at_ 7 (by kernel_rfl)), eval_get (hA.at_ 8 (by kernel_rfl)), eval_get (hA.at_ 9 (by kernel_rfl)), eval_get (hA.at_ 10 (by kernel_rfl)), hv11, eval_get (hA.at_ 12 (by kernel_rfl)), eval_get (hA.at_ 13 (by kernel_rfl)), eval_get (hA.at_ 14 (by kernel_rfl)), eval_get (hA.at_ 15 (by kernel_rfl)), eval_get (hA.at_ 16 (by kernel_rfl)), eval_get (hA.at_ 17 (by kernel_rfl)), eval_get (hA.at_ 18 (by kernel_rfl)), eval_get (hA.at_ 19 (by kernel_rfl)), eval_get (hA.at_ 20 (by kernel_rfl)), eval_get (hA.at_ 21 (by kernel_rfl)), eval_get (hA.at_ 22 (by kernel_rfl)), eval_get (hA.at_ 23 (by kernel_rfl)), eval_get (hA.at_ 24 (by kernel_rfl)), eval_get (hA.at_ 25 (by kernel_rfl)), eval_get (hA.at_ 26 (by kernel_rfl)), eval_get (hA.at_ 27 (by kernel_rfl)), eval_get (hA.at_ 28 (by kernel_rfl)), eval_get (hA.at_ 29 (by kernel_rfl)), eval_get (hA.at_ 30 (by kernel_rfl)), eval_get (hA.at_ 31 (by kernel_rfl)), eval_get (hA.at_ 32 (by kernel_rfl)), eval_get (hA.at_ 33 (by kernel_rfl)), eval_get (hA.at_ 34 (by kernel_rfl)), eval_get (hA.at_ 35 (by kernel_rfl)), eval_get (hA.at_ 36 (by kernel_rfl)), eval_get (hA.at_ 37 (by kernel_rfl)), eval_get (hA.at_ 38 (by kernel_rfl)), eval_get (hA.at_ 39 (by kernel_rfl)), eval_get (hA.at_ 40 (by kernel_rfl)), eval_get (hA.at_ 41 (by kernel_rfl)), eval_get (hA.at_ 42 (by kernel_rfl)), eval_get (hA.at_ 43 (by kernel_rfl)), eval_get (hA.at_ 44 (by kernel_rfl)), eval_get (hA.at_ 45 (by kernel_rfl)), eval_get (hA.at_ 46 (by kernel_rfl)), eval_get (hA.at_ 47 (by kernel_rfl)), eval_get (hA.at_ 48 (by kernel_rfl)), eval_get (hA.at_ 49 (by kernel_rfl)), eval_get (hA.at_ 50 (by kernel_rfl)), eval_get (hA.at_ 51 (by kernel_rfl)), eval_get (hA.at_ 52 (by kernel_rfl)), eval_get (hA.at_ 53 (by kernel_rfl)), eval_get (hA.at_ 54 (by kernel_rfl)), eval_get (hA.at_ 55 (by kernel_rfl)), eval_get (hA.at_ 56 (by kernel_rfl)), eval_get (hA.at_ 57 (by kernel_rfl)), eval_get (hA.at_ 58 (by kernel_rfl)), eval_get (hA.at_ 59 (by kernel_rfl)), eval_get (hA.at_ 60 (by kernel_rfl)), eval_get (hA.at_ 61 (by kernel_rfl)), eval_get (hA.at_ 62 (by kernel_rfl)), eval_get (hA.at_ 63 (by kernel_rfl)), eval_get (hA.at_ 64 (by kernel_rfl)), eval_get (hA.at_ 65 (by kernel_rfl)), eval_get (hA.at_ 66 (by kernel_rfl)), eval_get (hA.at_ 67 (by kernel_rfl)), eval_get (hA.at_ 68 (by kernel_rfl)), eval_get (hA.at_ 69 (by kernel_rfl)), eval_get (hA.at_ 70 (by kernel_rfl)), eval_get (hA.at_ 71 (by kernel_rfl)), eval_get (hA.at_ 72 (by kernel_rfl)), eval_get (hA.at_ 73 (by kernel_rfl)), eval_get (hA.at_ 74 (by kernel_rfl)), eval_get (hA.at_ 75 (by kernel_rfl)), eval_get (hA.at_ 76 (by kernel_rfl)), eval_get (hA.at_ 77 (by kernel_rfl)), eval_get (hA.at_ 78 (by kernel_rfl)), eval_get (hA.at_ 79 (by kernel_rfl)), eval_get (hA.at_ 80 (by kernel_rfl)), eval_get (hA.at_ 81 (by kernel_rfl)), eval_get (hA.at_ 82 (by kernel_rfl)), rfl, rfl, rfl, rfl, rfl, rfl, rfl, rfl, rfl, rfl, rfl, rfl, rfl, rfl, rfl, rfl, rfl, rfl, rfl, rfl, rfl, rfl, rfl, rfl, rfl, rfl, rfl, rfl, rfl, rfl, rfl, rfl, rfl, rfl, rfl, rfl, rfl, rfl, rfl, rfl, rfl, rfl, rfl, eval_get (hA.at_ 126 (by kernel_rfl)), eval_get (hA.at_ 127 (by kernel_rfl)), eval_get (hA.at_ 128 (by kernel_rfl)), eval_get (hA.at_ 129 (by kernel_rfl)), eval_get (hA.at_ 130 (by kernel_rfl)), eval_get (hA.at_ 131 (by kernel_rfl)), eval_get (hA.at_ 132 (by kernel_rfl)), eval_get (hA.at_ 133 (by kernel_rfl)), eval_get (hA.at_ 134 (by kernel_rfl)), eval_get (hA.at_ 135 (by kernel_rfl)), eval_get (hA.at_ 136 (by kernel_rfl)), eval_get (hA.at_ 137 (by kernel_rfl)), eval_get (hA.at_ 138 (by kernel_rfl)), eval_get (hA.at_ 139 (by kernel_rfl)), eval_get (hA.at_ 140 (by kernel_rfl)), eval_get (hA.at_ 141 (by kernel_rfl)), eval_get (hA.at_ 142 (by kernel_rfl)), eval_get (hA.at_ 143 (by kernel_rfl)), eval_get (hA.at_ 144 (by kernel_rfl)), eval_get (hA.at_ 145 (by kernel_rfl)), eval_get (hA.at_ 146 (by kernel_rfl)), eval_get (hA.at_ 147 (by kernel_rfl)), eval_get (hA.at_ 148 (by kernel_rfl)), eval_get (hA.at_ 149 (by kernel_rfl)), eval_get (hA.at_ 150 (by kernel_rfl)), eval_get (hA.at_ 151 (by kernel_rfl)), eval_get (hA.at_ 152 (by kernel_rfl)), eval_get (hA.at_ 153 (by kernel_rfl)), eval_get (hA.at_ 154 (by kernel_rfl)), eval_get (hA.at_ 155 (by kernel_rfl)), eval_get (hA.at_ 156 (by kernel_rfl)), eval_get (hA.at_ 157 (by kernel_rfl)), eval_get (hA.at_ 158 (by kernel_rfl)), eval_get (hA.at_ 159 (by kernel_rfl)), eval_get (hA.at_ 160 (by kernel_rfl)), eval_get (hA.at_ 161 (by kernel_rfl)), eval_get (hA.at_ 162 (by kernel_rfl)), eval_get (hA.at_ 163 (by kernel_rfl)), eval_get (hA.at_ 164 (by kernel_rfl)), eval_get (hA.at_ 165 (by kernel_rfl)), eval_get (hA.at_ 166 (by kernel_rfl)), eval_get (hA.at_ 167 (by kernel_rfl)), eval_get (hA.at_ 168 (by kernel_rfl)), eval_get (hA.at_ 169 (by kernel_rfl)), eval_get (hA.at_ 170 (by kernel_rfl)), eval_get (hA.at_ 171 (by kernel_rfl)), eval_get (hA.at_ 172 (by kernel_rfl)), eval_get (hA.at_ 173 (by kernel_rfl)), eval_get (hA.at_ 174 (by kernel_rfl)), eval_get (hA.at_ 175 (by kernel_rfl)), eval_get (hA.at_ 176 (by kernel_rfl)), eval_get (hA.at_ 177 (by kernel_rfl)), eval_get (hA.at_ 178 (by kernel_rfl)), eval_get (hA.at_ 179 (by kernel_rfl)), eval_get (hA.at_ 180 (by kernel_rfl)), eval_get (hA.at_ 181 (by kernel_rfl)), eval_get (hA.at_ 182 (by kernel_rfl)), eval_get (hA.at_ 183 (by kernel_rfl)), eval_get (hA.at_ 184 (by kernel_rfl)), eval_get (hA.at_ 185 (by kernel_rfl)), eval_get (hA.at_ 186 (by kernel_rfl)), eval_get (hA.at_ 187 (by kernel_rfl)), eval_get (hA.at_ 188 (by kernel_rfl)), eval_get (hA.at_ 189 (by kernel_rfl)), eval_get (hA.at_ 190 (by kernel_rfl)), eval_get (hA.at_ 191 (by kernel_rfl)), eval_get (hA.at_ 192 (by kernel_rfl)), eval_get (hA.at_ 193 (by kernel_rfl)), eval_get (hA.at_ 194 (by kernel_rfl)), eval_get (hA.at_ 195 (by kernel_rfl)), eval_get (hA.at_ 196 (by kernel_rfl)), eval_get (hA.at_ 197 (by kernel_rfl)), eval_get (hA.at_ 198 (by kernel_rfl)), eval_get (hA.at_ 199 (by kernel_rfl)), eval_get (hA.at_ 200 (by kernel_rfl)), eval_get (hA.at_ 201 (by kernel_rfl)), eval_get (hA.at_ 202 (by kernel_rfl)), eval_get (hA.at_ 203 (by kernel_rfl)), eval_get (hA.at_ 204 (by kernel_rfl)), eval_get (hA.at_ 205 (by kernel_rfl)), eval_get (hA.at_ 206 (by kernel_rfl)), eval_get (hA.at_ 207 (by kernel_rfl)), eval_get (hA.at_ 208 (by kernel_rfl)), eval_get (hA.at_ 209 (by kernel_rfl)), eval_get (hA.at_ 210 (by kernel_rfl)), eval_get (hA.at_ 211 (by kernel_rfl)), eval_get (hA.at_ 212 (by kernel_rfl)), eval_get (hA.at_ 213 (by kernel_rfl)), eval_get (hA.at_ 214 (by kernel_rfl)), eval_get (hA.at_ 215 (by kernel_rfl)), eval_get (hA.at_ 216 (by kernel_rfl)), trivial⟩ hA.size hA.defers
    rw [ha]
    exact HK.out w' _ _ _ _ _ _ _ _ _ _ _ _ _ _ _ _ _ _ _ _ _ _ _ _ _ _ _ _ _ _ _ _ _ _ _ _ _ _ _ _ _ _ _ hJ


end Go.Proofs.Ytjggeodnoigkkaa
