/-
  PinsSafe: its greatest region that draws its order, where a pin holds the object (printed by wip/tools/gen24.py).
-/
import Derived.Test.YtjggeodnoigkkaaN
import Derived.Test.YtjggeodnoigkkaaFlow
namespace Go.Proofs.Ytjggeodnoigkkaa
open Go.RowKit Go.Maps Go.Shelf Go.Proofs.YtjggeodnoigkkaaM

def theRegion (n : Nat) : Code → Option Code
  | .region i ops d => if i = n then some (.region i ops d) else none
  | .loop c => theRegion n c
  | .seq a b => match theRegion n a with
    | some c => some c
    | none => theRegion n b
  | .block _ c => theRegion n c
  | .scope c => theRegion n c
  | .cond _ a b => match theRegion n a with
    | some c => some c
    | none => theRegion n b
  | _ => none
noncomputable def safe24 : Code := ((Try.f3.body.bind (theRegion 24)).getD .skip)

def R24Z (p gd n cd k : Nat) (y1 : Int) (j : Nat) (v : Value) (w : World) : Prop :=
  if j = 22 then ∃ b, v = .slice (some ⟨b, 0, none⟩) 1 1 ∧ RdI w (some ⟨b, 0, none⟩) [y1] else v = [.bool false, .bool true, .bool false, .bool false, undef, undef, undef, undef, undef, undef, undef, .bool false, .bool false, .bool false, .bool true, .bool true, .pointer (some ⟨p, 0, none⟩), .slice (some ⟨gd, 0, none⟩) n cd, .int .i64 (k : Int), .pointer (some ⟨gd, k * 2, none⟩), .pointer (some ⟨gd, k * 2, none⟩), .int .i64 y1, undef, .int .i64 37, .bool false, .bool false, .bool false, .bool false, .int .i64 (k : Int), .bool false, .bool false, undef, undef, undef, undef, undef, undef, undef, undef, undef, undef, undef, undef, .bool false, .bool false].getD j undef
theorem R24Z_le (p gd n cd k : Nat) (y1 : Int) : ∀ j v w w', Below w.heap.size w w' → R24Z p gd n cd k y1 j v w → R24Z p gd n cd k y1 j v w' := by
  intro j v w w' hb h
  by_cases hj : j = 22
  · subst hj
    obtain ⟨b, e, hr⟩ := h
    exact ⟨b, e, hr.below hb⟩
  · unfold R24Z at h ⊢
    rw [if_neg hj] at h ⊢
    exact h

set_option maxRecDepth 1000000 in
set_option maxHeartbeats 4000000 in
theorem safe24Z (K : Act → World → Prop) (Q : Exit → Act → World → Prop) (p gd n cd : Nat) (dur y1 : Int) (k : Nat) (w : World) (hk : k < n) (_hn : n ≤ 9223372036854775807) (hgd : gd < w.heap.size)
    (hz1 : w.cell? ⟨gd, k * 2, none⟩ = some (.int .i64 y1)) (hk0 : ¬ 0 < k)
    (HC17 : ∀ W b, Below w.heap.size w W → RdI W (some ⟨b, 0, none⟩) [y1] → Calls Try.prog 17 #[.pointer (some ⟨p, 0, none⟩), .slice (some ⟨b, 0, none⟩) 1 1] W fun e w' => e = .returned (.int .i64 37) ∧ Below W.heap.size W w')
    (t0 t2 t3 t4 t6 t7 t9 t10 t13 t14 t15 t17 t18 t19 t20 t21 t22 t23 t24 t25 t26 t27 t28 t29 t30 t31 t32 t33 t34 t35 t36 t37 t38 t39 t40 t41 t42 t43 t44 t45 t46 t47 t48 t49 t50 t51 t52 t53 t54 t55 t56 t57 t58 t59 t60 t61 t62 t63 t64 t65 t66 t67 t68 t69 t70 t71 t72 t73 t74 t75 t76 t77 t78 t79 t80 t81 t82 t83 t84 t85 t86 t87 t88 t89 t90 t91 t92 t93 t94 t95 t96 t97 t98 t99 t100 t101 t102 t103 t104 t105 t106 t107 t108 t109 t110 t111 t112 t113 t114 t115 t116 t117 t118 t119 t120 t121 t122 t123 t124 t125 t126 t127 t128 t129 t130 t131 t132 t133 t134 t135 t136 t137 t138 t139 t140 t141 t142 t143 t144 t145 t146 t147 t148 t149 t150 t151 t152 t153 t154 t155 t156 t157 t158 t159 t160 t161 : Value) (hK : ∀ (w' : World) (s112 s113 s114 s115 s116 s117 s118 s119 s120 s121 s122 s123 s124 s125 s126 s127 s128 s129 s130 s131 s132 s133 s134 s135 s136 s137 s138 s139 s140 s141 s142 s143 s144 s145 s146 s147 s148 s149 s150 s151 s152 s153 s154 s155 : Value), Below w.heap.size w w' → K ⟨#[t0, .int .i64 dur, t2, t3, t4, .pointer (some ⟨p, 0, none⟩), t6, t7, .slice (some ⟨gd, 0, none⟩) n cd, t9, t10, .int .i64 (k : Int), .bool true, t13, t14, t15, .bool false, t17, t18, t19, t20, t21, t22, t23, t24, t25, t26, t27, t28, t29, t30, t31, t32, t33, t34, t35, t36, t37, t38, t39, t40, t41, t42, t43, t44, t45, t46, t47, t48, t49, t50, t51, t52, t53, t54, t55, t56, t57, t58, t59, t60, t61, t62, t63, t64, t65, t66, t67, t68, t69, t70, t71, t72, t73, t74, t75, t76, t77, t78, t79, t80, t81, t82, t83, t84, t85, t86, t87, t88, t89, t90, t91, t92, t93, t94, t95, t96, t97, t98, t99, t100, t101, t102, t103, t104, t105, t106, t107, t108, t109, t110, t111, s112, s113, s114, s115, s116, s117, s118, s119, s120, s121, s122, s123, s124, s125, s126, s127, s128, s129, s130, s131, s132, s133, s134, s135, s136, s137, s138, s139, s140, s141, s142, s143, s144, s145, s146, s147, s148, s149, s150, s151, s152, s153, s154, s155, .bool false, t157, t158, t159, t160, t161], []⟩ w') :
    Code.wp Try.prog safe24 (Exit.then K Q) ⟨#[t0, .int .i64 dur, t2, t3, t4, .pointer (some ⟨p, 0, none⟩), t6, t7, .slice (some ⟨gd, 0, none⟩) n cd, t9, t10, .int .i64 (k : Int), .bool true, t13, t14, t15, .bool false, t17, t18, t19, t20, t21, t22, t23, t24, t25, t26, t27, t28, t29, t30, t31, t32, t33, t34, t35, t36, t37, t38, t39, t40, t41, t42, t43, t44, t45, t46, t47, t48, t49, t50, t51, t52, t53, t54, t55, t56, t57, t58, t59, t60, t61, t62, t63, t64, t65, t66, t67, t68, t69, t70, t71, t72, t73, t74, t75, t76, t77, t78, t79, t80, t81, t82, t83, t84, t85, t86, t87, t88, t89, t90, t91, t92, t93, t94, t95, t96, t97, t98, t99, t100, t101, t102, t103, t104, t105, t106, t107, t108, t109, t110, t111, t112, t113, t114, t115, t116, t117, t118, t119, t120, t121, t122, t123, t124, t125, t126, t127, t128, t129, t130, t131, t132, t133, t134, t135, t136, t137, t138, t139, t140, t141, t142, t143, t144, t145, t146, t147, t148, t149, t150, t151, t152, t153, t154, t155, t156, t157, t158, t159, t160, t161], []⟩ w := by
  have H := Lib.hid HC17
  have HK := Lib.hid hK
  clear HC17 hK
  have hk1 : (0 : Int) ≤ (k : Int) := by omega
  have hk2 : (k : Int) < (n : Int) := by omega
  have hd1 : decide (0 < (k : Int)) = false := decide_eq_false (by omega)
  have hd2 : decide (0 < k) = false := decide_eq_false hk0
  conv => arg 2; whnf
  refine wp_flow (P := Try.prog) (by kernel_rfl) (by kernel_rfl) (fun W => Below w.heap.size w W) (R24Z p gd n cd k y1) (fun W W' => Below W.heap.size W W') (Below.refl _ _).drew (R24Z_le p gd n cd k y1) ?_ ?_
  · refine ⟨?_, ?_, ?_, ?_, ?_, ?_, ?_, ?_, ?_, ?_, ?_, ?_, ?_, ?_, ?_, ?_, ?_, ?_, ?_, ?_, ?_, ?_, ?_, ?_, ?_, ?_, ?_, ?_, ?_, ?_, ?_, ?_, ?_, ?_, ?_, ?_, ?_, ?_, ?_, ?_, ?_, ?_, ?_, ?_, ?_, trivial⟩
    · intro a w1 hJ hA hD K hK
      refine duty_plain rfl ?_
      have h16 : a.tmps[16]?.getD undef = .bool false := eval_get (hA.at_ 16 (by kernel_rfl))
      refine wp_value (v := .bool false) (w' := w1) ?_ (hK _ _ hJ (Below.refl _ _) rfl)
      clear hK hD hA hJ
      go_simp
    · intro a w1 hJ hA hD K hK
      refine duty_plain rfl ?_
      have h12 : a.tmps[12]?.getD undef = .bool true := eval_get (hA.at_ 12 (by kernel_rfl))
      refine wp_value (v := .bool true) (w' := w1) ?_ (hK _ _ hJ (Below.refl _ _) rfl)
      clear hK hD hA hJ
      go_simp
    · intro a w1 hJ hA hD K hK
      refine duty_plain rfl ?_
      have h113 : a.tmps[113]?.getD undef = .bool true := eval_get (given_at hD 1 rfl rfl rfl)
      refine wp_value (v := .bool false) (w' := w1) ?_ (hK _ _ hJ (Below.refl _ _) rfl)
      clear hK hD hA hJ
      go_simp
    · intro a w1 hJ hA hD K hK
      refine duty_plain rfl ?_
      have h114 : a.tmps[114]?.getD undef = .bool false := eval_get (given_at hD 2 rfl rfl rfl)
      refine wp_value (v := .bool false) (w' := w1) ?_ (hK _ _ hJ (Below.refl _ _) rfl)
      clear hK hD hA hJ
      go_simp
    · intro a w1 hJ hA hD K hK
      refine duty_no (b := false) rfl rfl rfl (hA.lt 115 (by kernel_rfl)) (given_at hD 3 rfl rfl rfl) ?_
      exact hK _ _ hJ (Below.refl _ _) rfl
    · intro a w1 hJ hA hD K hK
      refine duty_no (b := false) rfl rfl rfl (hA.lt 115 (by kernel_rfl)) (given_at hD 3 rfl rfl rfl) ?_
      exact hK _ _ hJ (Below.refl _ _) rfl
    · intro a w1 hJ hA hD K hK
      refine duty_no (b := false) rfl rfl rfl (hA.lt 115 (by kernel_rfl)) (given_at hD 3 rfl rfl rfl) ?_
      exact hK _ _ hJ (Below.refl _ _) rfl
    · intro a w1 hJ hA hD K hK
      refine duty_no (b := false) rfl rfl rfl (hA.lt 115 (by kernel_rfl)) (given_at hD 3 rfl rfl rfl) ?_
      exact hK _ _ hJ (Below.refl _ _) rfl
    · intro a w1 hJ hA hD K hK
      refine duty_no (b := false) rfl rfl rfl (hA.lt 115 (by kernel_rfl)) (given_at hD 3 rfl rfl rfl) ?_
      exact hK _ _ hJ (Below.refl _ _) rfl
    · intro a w1 hJ hA hD K hK
      refine duty_no (b := false) rfl rfl rfl (hA.lt 115 (by kernel_rfl)) (given_at hD 3 rfl rfl rfl) ?_
      exact hK _ _ hJ (Below.refl _ _) rfl
    · intro a w1 hJ hA hD K hK
      refine duty_no (b := false) rfl rfl rfl (hA.lt 115 (by kernel_rfl)) (given_at hD 3 rfl rfl rfl) ?_
      exact hK _ _ hJ (Below.refl _ _) rfl
    · intro a w1 hJ hA hD K hK
      refine duty_plain rfl ?_
      have h115 : a.tmps[115]?.getD undef = .bool false := eval_get (given_at hD 3 rfl rfl rfl)
      have h122 : a.tmps[122]?.getD undef = undef := eval_get (given_at hD 10 rfl rfl rfl)
      refine wp_value (v := .bool false) (w' := w1) ?_ (hK _ _ hJ (Below.refl _ _) rfl)
      clear hK hD hA hJ
      go_simp
    · intro a w1 hJ hA hD K hK
      refine duty_plain rfl ?_
      have h112 : a.tmps[112]?.getD undef = .bool false := eval_get (given_at hD 0 rfl rfl rfl)
      have h123 : a.tmps[123]?.getD undef = .bool false := eval_get (given_at hD 11 rfl rfl rfl)
      refine wp_value (v := .bool false) (w' := w1) ?_ (hK _ _ hJ (Below.refl _ _) rfl)
      clear hK hD hA hJ
      go_simp
    · intro a w1 hJ hA hD K hK
      refine duty_plain rfl ?_
      have h124 : a.tmps[124]?.getD undef = .bool false := eval_get (given_at hD 12 rfl rfl rfl)
      refine wp_value (v := .bool false) (w' := w1) ?_ (hK _ _ hJ (Below.refl _ _) rfl)
      clear hK hD hA hJ
      go_simp
    · intro a w1 hJ hA hD K hK
      refine duty_yes rfl rfl rfl (hA.lt 125 (by kernel_rfl)) (given_at hD 13 rfl rfl rfl) ?_
      have h12 : a.tmps[12]?.getD undef = .bool true := eval_get (hA.at_ 12 (by kernel_rfl))
      refine wp_value (v := .bool true) (w' := w1) ?_ (hK _ _ hJ (Below.refl _ _) rfl)
      clear hK hD hA hJ
      go_simp
    · intro a w1 hJ hA hD K hK
      refine duty_yes rfl rfl rfl (hA.lt 125 (by kernel_rfl)) (given_at hD 13 rfl rfl rfl) ?_
      have h126 : a.tmps[126]?.getD undef = .bool true := eval_get (given_at hD 14 rfl rfl rfl)
      refine wp_value (v := .bool true) (w' := w1) ?_ (hK _ _ hJ (Below.refl _ _) rfl)
      clear hK hD hA hJ
      go_simp
    · intro a w1 hJ hA hD K hK
      refine duty_yes rfl rfl rfl (hA.lt 127 (by kernel_rfl)) (given_at hD 15 rfl rfl rfl) ?_
      have h5 : a.tmps[5]?.getD undef = .pointer (some ⟨p, 0, none⟩) := eval_get (hA.at_ 5 (by kernel_rfl))
      refine wp_value (v := .pointer (some ⟨p, 0, none⟩)) (w' := w1) ?_ (hK _ _ hJ (Below.refl _ _) rfl)
      clear hK hD hA hJ
      go_simp
    · intro a w1 hJ hA hD K hK
      refine duty_yes rfl rfl rfl (hA.lt 127 (by kernel_rfl)) (given_at hD 15 rfl rfl rfl) ?_
      have h8 : a.tmps[8]?.getD undef = .slice (some ⟨gd, 0, none⟩) n cd := eval_get (hA.at_ 8 (by kernel_rfl))
      refine wp_value (v := .slice (some ⟨gd, 0, none⟩) n cd) (w' := w1) ?_ (hK _ _ hJ (Below.refl _ _) rfl)
      clear hK hD hA hJ
      go_simp
    · intro a w1 hJ hA hD K hK
      refine duty_yes rfl rfl rfl (hA.lt 127 (by kernel_rfl)) (given_at hD 15 rfl rfl rfl) ?_
      have h11 : a.tmps[11]?.getD undef = .int .i64 (k : Int) := eval_get (hA.at_ 11 (by kernel_rfl))
      refine wp_value (v := .int .i64 (k : Int)) (w' := w1) ?_ (hK _ _ hJ (Below.refl _ _) rfl)
      clear hK hD hA hJ
      go_simp
    · intro a w1 hJ hA hD K hK
      refine duty_yes rfl rfl rfl (hA.lt 127 (by kernel_rfl)) (given_at hD 15 rfl rfl rfl) ?_
      have h129 : a.tmps[129]?.getD undef = .slice (some ⟨gd, 0, none⟩) n cd := eval_get (given_at hD 17 rfl rfl rfl)
      have h130 : a.tmps[130]?.getD undef = .int .i64 (k : Int) := eval_get (given_at hD 18 rfl rfl rfl)
      refine wp_value (v := .pointer (some ⟨gd, k * 2, none⟩)) (w' := w1) ?_ (hK _ _ hJ (Below.refl _ _) rfl)
      clear hK hD hA hJ
      go_simp
    · intro a w1 hJ hA hD K hK
      refine duty_yes rfl rfl rfl (hA.lt 127 (by kernel_rfl)) (given_at hD 15 rfl rfl rfl) ?_
      have h131 : a.tmps[131]?.getD undef = .pointer (some ⟨gd, k * 2, none⟩) := eval_get (given_at hD 19 rfl rfl rfl)
      refine wp_value (v := .pointer (some ⟨gd, k * 2, none⟩)) (w' := w1) ?_ (hK _ _ hJ (Below.refl _ _) rfl)
      clear hK hD hA hJ
      go_simp
    · intro a w1 hJ hA hD K hK
      refine duty_yes rfl rfl rfl (hA.lt 127 (by kernel_rfl)) (given_at hD 15 rfl rfl rfl) ?_
      have h132 : a.tmps[132]?.getD undef = .pointer (some ⟨gd, k * 2, none⟩) := eval_get (given_at hD 20 rfl rfl rfl)
      have hc := (hJ.cell (p := ⟨gd, k * 2, none⟩) hgd).trans hz1
      refine wp_value (v := .int .i64 y1) (w' := w1) ?_ (hK _ _ hJ (Below.refl _ _) rfl)
      clear hK hD hA hJ
      go_simp
    · intro a w1 hJ hA hD K hK
      refine duty_yes rfl rfl rfl (hA.lt 127 (by kernel_rfl)) (given_at hD 15 rfl rfl rfl) ?_
      have h133 : a.tmps[133]?.getD undef = .int .i64 y1 := eval_get (given_at hD 21 rfl rfl rfl)
      have hb1 : Below w1.heap.size w1 (w1.alloc (.cells #[.int .i64 y1] 3)) := (Below.refl _ _).alloc (Nat.le_refl _) _
      refine wp_value (v := .slice (some ⟨w1.heap.size, 0, none⟩) 1 1) (w' := w1.alloc (.cells #[.int .i64 y1] 3)) ?_ (hK _ _ (hJ.trans (hb1.mono hJ.size)) hb1 ⟨_, rfl, rd_lit1 w1 y1 3⟩)
      clear hK hD hA hJ
      go_simp
    · intro a w1 hJ hA hD K hK
      refine duty_yes rfl rfl rfl (hA.lt 127 (by kernel_rfl)) (given_at hD 15 rfl rfl rfl) ?_
      have h128 : a.tmps[128]?.getD undef = .pointer (some ⟨p, 0, none⟩) := eval_get (given_at hD 16 rfl rfl rfl)
      obtain ⟨b, hv, hr⟩ := given_at hD 22 rfl rfl rfl
      have h134 := eval_get hv
      refine wp_enter (f := 17) (args := #[.pointer (some ⟨p, 0, none⟩), .slice (some ⟨b, 0, none⟩) 1 1]) (w' := w1) ?_ ((H.out w1 b hJ hr).mono ?_)
      · clear hK hD hA hJ hv hr
        go_simp
      · rintro e w2 ⟨rfl, hb2⟩
        exact ⟨_, rfl, hK _ _ (hJ.trans (hb2.mono hJ.size)) hb2 rfl⟩
    · intro a w1 hJ hA hD K hK
      refine duty_yes rfl rfl rfl (hA.lt 127 (by kernel_rfl)) (given_at hD 15 rfl rfl rfl) ?_
      have h135 : a.tmps[135]?.getD undef = .int .i64 37 := eval_get (given_at hD 23 rfl rfl rfl)
      refine wp_value (v := .bool false) (w' := w1) ?_ (hK _ _ hJ (Below.refl _ _) rfl)
      clear hK hD hA hJ
      go_simp
    · intro a w1 hJ hA hD K hK
      refine duty_yes rfl rfl rfl (hA.lt 125 (by kernel_rfl)) (given_at hD 13 rfl rfl rfl) ?_
      have h127 : a.tmps[127]?.getD undef = .bool true := eval_get (given_at hD 15 rfl rfl rfl)
      have h136 : a.tmps[136]?.getD undef = .bool false := eval_get (given_at hD 24 rfl rfl rfl)
      refine wp_value (v := .bool false) (w' := w1) ?_ (hK _ _ hJ (Below.refl _ _) rfl)
      clear hK hD hA hJ
      go_simp
    · intro a w1 hJ hA hD K hK
      refine duty_plain rfl ?_
      have h125 : a.tmps[125]?.getD undef = .bool false := eval_get (given_at hD 13 rfl rfl rfl)
      have h137 : a.tmps[137]?.getD undef = .bool false := eval_get (given_at hD 25 rfl rfl rfl)
      refine wp_value (v := .bool false) (w' := w1) ?_ (hK _ _ hJ (Below.refl _ _) rfl)
      clear hK hD hA hJ
      go_simp
    · intro a w1 hJ hA hD K hK
      refine duty_plain rfl ?_
      have h138 : a.tmps[138]?.getD undef = .bool false := eval_get (given_at hD 26 rfl rfl rfl)
      refine wp_value (v := .bool false) (w' := w1) ?_ (hK _ _ hJ (Below.refl _ _) rfl)
      clear hK hD hA hJ
      go_simp
    · intro a w1 hJ hA hD K hK
      refine duty_yes rfl rfl rfl (hA.lt 139 (by kernel_rfl)) (given_at hD 27 rfl rfl rfl) ?_
      have h11 : a.tmps[11]?.getD undef = .int .i64 (k : Int) := eval_get (hA.at_ 11 (by kernel_rfl))
      refine wp_value (v := .int .i64 (k : Int)) (w' := w1) ?_ (hK _ _ hJ (Below.refl _ _) rfl)
      clear hK hD hA hJ
      go_simp
    · intro a w1 hJ hA hD K hK
      refine duty_yes rfl rfl rfl (hA.lt 139 (by kernel_rfl)) (given_at hD 27 rfl rfl rfl) ?_
      have h140 : a.tmps[140]?.getD undef = .int .i64 (k : Int) := eval_get (given_at hD 28 rfl rfl rfl)
      refine wp_value (v := .bool false) (w' := w1) ?_ (hK _ _ hJ (Below.refl _ _) rfl)
      clear hK hD hA hJ
      go_simp
    · intro a w1 hJ hA hD K hK
      refine duty_yes rfl rfl rfl (hA.lt 139 (by kernel_rfl)) (given_at hD 27 rfl rfl rfl) ?_
      have h141 : a.tmps[141]?.getD undef = .bool false := eval_get (given_at hD 29 rfl rfl rfl)
      refine wp_value (v := .bool false) (w' := w1) ?_ (hK _ _ hJ (Below.refl _ _) rfl)
      clear hK hD hA hJ
      go_simp
    · intro a w1 hJ hA hD K hK
      refine duty_no (b := false) rfl rfl rfl (hA.lt 142 (by kernel_rfl)) (given_at hD 30 rfl rfl rfl) ?_
      exact hK _ _ hJ (Below.refl _ _) rfl
    · intro a w1 hJ hA hD K hK
      refine duty_no (b := false) rfl rfl rfl (hA.lt 142 (by kernel_rfl)) (given_at hD 30 rfl rfl rfl) ?_
      exact hK _ _ hJ (Below.refl _ _) rfl
    · intro a w1 hJ hA hD K hK
      refine duty_no (b := false) rfl rfl rfl (hA.lt 142 (by kernel_rfl)) (given_at hD 30 rfl rfl rfl) ?_
      exact hK _ _ hJ (Below.refl _ _) rfl
    · intro a w1 hJ hA hD K hK
      refine duty_no (b := false) rfl rfl rfl (hA.lt 142 (by kernel_rfl)) (given_at hD 30 rfl rfl rfl) ?_
      exact hK _ _ hJ (Below.refl _ _) rfl
    · intro a w1 hJ hA hD K hK
      refine duty_no (b := false) rfl rfl rfl (hA.lt 142 (by kernel_rfl)) (given_at hD 30 rfl rfl rfl) ?_
      exact hK _ _ hJ (Below.refl _ _) rfl
    · intro a w1 hJ hA hD K hK
      refine duty_no (b := false) rfl rfl rfl (hA.lt 142 (by kernel_rfl)) (given_at hD 30 rfl rfl rfl) ?_
      exact hK _ _ hJ (Below.refl _ _) rfl
    · intro a w1 hJ hA hD K hK
      refine duty_no (b := false) rfl rfl rfl (hA.lt 142 (by kernel_rfl)) (given_at hD 30 rfl rfl rfl) ?_
      exact hK _ _ hJ (Below.refl _ _) rfl
    · intro a w1 hJ hA hD K hK
      refine duty_no (b := false) rfl rfl rfl (hA.lt 142 (by kernel_rfl)) (given_at hD 30 rfl rfl rfl) ?_
      exact hK _ _ hJ (Below.refl _ _) rfl
    · intro a w1 hJ hA hD K hK
      refine duty_no (b := false) rfl rfl rfl (hA.lt 142 (by kernel_rfl)) (given_at hD 30 rfl rfl rfl) ?_
      exact hK _ _ hJ (Below.refl _ _) rfl
    · intro a w1 hJ hA hD K hK
      refine duty_no (b := false) rfl rfl rfl (hA.lt 142 (by kernel_rfl)) (given_at hD 30 rfl rfl rfl) ?_
      exact hK _ _ hJ (Below.refl _ _) rfl
    · intro a w1 hJ hA hD K hK
      refine duty_no (b := false) rfl rfl rfl (hA.lt 142 (by kernel_rfl)) (given_at hD 30 rfl rfl rfl) ?_
      exact hK _ _ hJ (Below.refl _ _) rfl
    · intro a w1 hJ hA hD K hK
      refine duty_no (b := false) rfl rfl rfl (hA.lt 142 (by kernel_rfl)) (given_at hD 30 rfl rfl rfl) ?_
      exact hK _ _ hJ (Below.refl _ _) rfl
    · intro a w1 hJ hA hD K hK
      refine duty_yes rfl rfl rfl (hA.lt 139 (by kernel_rfl)) (given_at hD 27 rfl rfl rfl) ?_
      have h142 : a.tmps[142]?.getD undef = .bool false := eval_get (given_at hD 30 rfl rfl rfl)
      have h154 : a.tmps[154]?.getD undef = undef := eval_get (given_at hD 42 rfl rfl rfl)
      refine wp_value (v := .bool false) (w' := w1) ?_ (hK _ _ hJ (Below.refl _ _) rfl)
      clear hK hD hA hJ
      go_simp
    · intro a w1 hJ hA hD K hK
      refine duty_plain rfl ?_
      have h139 : a.tmps[139]?.getD undef = .bool false := eval_get (given_at hD 27 rfl rfl rfl)
      have h155 : a.tmps[155]?.getD undef = .bool false := eval_get (given_at hD 43 rfl rfl rfl)
      refine wp_value (v := .bool false) (w' := w1) ?_ (hK _ _ hJ (Below.refl _ _) rfl)
      clear hK hD hA hJ
      go_simp
  · intro a w' hJ hA hG
    have hv : a.tmps[156]?.getD undef = .bool false := eval_get (hG 44 _ _ rfl rfl)
    have ha : a = ⟨#[t0, .int .i64 dur, t2, t3, t4, .pointer (some ⟨p, 0, none⟩), t6, t7, .slice (some ⟨gd, 0, none⟩) n cd, t9, t10, .int .i64 (k : Int), .bool true, t13, t14, t15, .bool false, t17, t18, t19, t20, t21, t22, t23, t24, t25, t26, t27, t28, t29, t30, t31, t32, t33, t34, t35, t36, t37, t38, t39, t40, t41, t42, t43, t44, t45, t46, t47, t48, t49, t50, t51, t52, t53, t54, t55, t56, t57, t58, t59, t60, t61, t62, t63, t64, t65, t66, t67, t68, t69, t70, t71, t72, t73, t74, t75, t76, t77, t78, t79, t80, t81, t82, t83, t84, t85, t86, t87, t88, t89, t90, t91, t92, t93, t94, t95, t96, t97, t98, t99, t100, t101, t102, t103, t104, t105, t106, t107, t108, t109, t110, t111, a.tmps[112]?.getD undef, a.tmps[113]?.getD undef, a.tmps[114]?.getD undef, a.tmps[115]?.getD undef, a.tmps[116]?.getD undef, a.tmps[117]?.getD undef, a.tmps[118]?.getD undef, a.tmps[119]?.getD undef, a.tmps[120]?.getD undef, a.tmps[121]?.getD undef, a.tmps[122]?.getD undef, a.tmps[123]?.getD undef, a.tmps[124]?.getD undef, a.tmps[125]?.getD undef, a.tmps[126]?.getD undef, a.tmps[127]?.getD undef, a.tmps[128]?.getD undef, a.tmps[129]?.getD undef, a.tmps[130]?.getD undef, a.tmps[131]?.getD undef, a.tmps[132]?.getD undef, a.tmps[133]?.getD undef, a.tmps[134]?.getD undef, a.tmps[135]?.getD undef, a.tmps[136]?.getD undef, a.tmps[137]?.getD undef, a.tmps[138]?.getD undef, a.tmps[139]?.getD undef, a.tmps[140]?.getD undef, a.tmps[141]?.getD undef, a.tmps[142]?.getD undef, a.tmps[143]?.getD undef, a.tmps[144]?.getD undef, a.tmps[145]?.getD undef, a.tmps[146]?.getD undef, a.tmps[147]?.getD undef, a.tmps[148]?.getD undef, a.tmps[149]?.getD undef, a.tmps[150]?.getD undef, a.tmps[151]?.getD undef, a.tmps[152]?.getD undef, a.tmps[153]?.getD undef, a.tmps[154]?.getD undef, a.tmps[155]?.getD undef, .bool false, t157, t158, t159, t160, t161], []⟩ := act_of ⟨eval_get (hA.at_ 0 (by kernel_rfl)), eval_get (hA.at_ 1 (by kernel_rfl)), eval_get (hA.at_ 2 (by kernel_rfl)), eval_get (hA.at_ 3 (by kernel_rfl)), eval_get (hA.at_ 4 (by kernel_rfl)), eval_get (hA.at_ 5 (by kernel_rfl)), eval_get (hA.at_ 6 (by kernel_rfl)), eval_get (hA.at_ 7 (by kernel_rfl)), eval_get (hA.at_ 8 (by kernel_rfl)), eval_get (hA.at_ 9 (by kernel_rfl)), eval_get (hA.at_ 10 (by kernel_rfl)), eval_get (hA.at_ 11 (by kernel_rfl)), eval_get (hA.at_ 12 (by kernel_rfl)), eval_get (hA.at_ 13 (by kernel_rfl)), eval_get (hA.at_ 14 (by kernel_rfl)), eval_get (hA.at_ 15 (by kernel_rfl)), eval_get (hA.at_ 16 (by kernel_rfl)), eval_get (hA.at_ 17 (by kernel_rfl)), eval_get (hA.at_ 18 (by kernel_rfl)), eval_get (hA.at_ 19 (by kernel_rfl)), eval_get (hA.at_ 20 (by kernel_rfl)), eval_get (hA.at_ 21 (by kernel_rfl)), eval_get (hA.at_ 22 (by kernel_rfl)), eval_get (hA.at_ 23 (by kernel_rfl)), eval_get (hA.at_ 24 (by kernel_rfl)), eval_get (hA.at_ 25 (by kernel_rfl)), eval_get (hA.at_ 26 (by kernel_rfl)), eval_get (hA.at_ 27 (by kernel_rfl)), eval_get (hA.at_ 28 (by kernel_rfl)), eval_get (hA.at_ 29 (by kernel_rfl)), eval_get (hA.at_ 30 (by kernel_rfl)), eval_get (hA.at_ 31 (by kernel_rfl)), eval_get (hA.at_ 32 (by kernel_rfl)), eval_get (hA.at_ 33 (by kernel_rfl)), eval_get (hA.at_ 34 (by kernel_rfl)), eval_get (hA.at_ 35 (by kernel_rfl)), eval_get (hA.at_ 36 (by kernel_rfl)), eval_get (hA.at_ 37 (by kernel_rfl)), eval_get (hA.at_ 38 (by kernel_rfl)), eval_get (hA.at_ 39 (by kernel_rfl)), eval_get (hA.at_ 40 (by kernel_rfl)), eval_get (hA.at_ 41 (by kernel_rfl)), eval_get (hA.at_ 42 (by kernel_rfl)), eval_get (hA.at_ 43 (by kernel_rfl)), eval_get (hA.at_ 44 (by kernel_rfl)), eval_get (hA.at_ 45 (by kernel_rfl)), eval_get (hA.at_ 46 (by kernel_rfl)), eval_get (hA.at_ 47 (by kernel_rfl)), eval_get (hA.at_ 48 (by kernel_rfl)), eval_get (hA.at_ 49 (by kernel_rfl)), eval_get (hA.at_ 50 (by kernel_rfl)), eval_get (hA.at_ 51 (by kernel_rfl)), eval_get (hA.at_ 52 (by kernel_rfl)), eval_get (hA.at_ 53 (by kernel_rfl)), eval_get (hA.at_ 54 (by kernel_rfl)), eval_get (hA.at_ 55 (by kernel_rfl)), eval_get (hA.at_ 56 (by kernel_rfl)), eval_get (hA.at_ 57 (by kernel_rfl)), eval_get (hA.at_ 58 (by kernel_rfl)), eval_get (hA.at_ 59 (by kernel_rfl)), eval_get (hA.at_ 60 (by kernel_rfl)), eval_get (hA.at_ 61 (by kernel_rfl)), eval_get (hA.at_ 62 (by kernel_rfl)), eval_get (hA.at_ 63 (by kernel_rfl)), eval_get (hA.at_ 64 (by kernel_rfl)), eval_get (hA.at_ 65 (by kernel_rfl)), eval_get (hA.at_ 66 (by kernel_rfl)), eval_get (hA.at_ 67 (by kernel_rfl)), eval_get (hA.at_ 68 (by kernel_rfl)), eval_get (hA.at_ 69 (by kernel_rfl)), eval_get (hA.at_ 70 (by kernel_rfl)), eval_get (hA.at_ 71 (by kernel_rfl)), eval_get (hA.at_ 72 (by kernel_rfl)), eval_get (hA.at_ 73 (by kernel_rfl)), eval_get (hA.at_ 74 (by kernel_rfl)), eval_get (hA.at_ 75 (by kernel_rfl)), eval_get (hA.at_ 76 (by kernel_rfl)), eval_get (hA.at_ 77 (by kernel_rfl)), eval_get (hA.at_ 78 (by kernel_rfl)), eval_get (hA.at_ 79 (by kernel_rfl)), eval_get (hA.at_ 80 (by kernel_rfl)), eval_get (hA.at_ 81 (by kernel_rfl)), eval_get (hA.at_ 82 (by kernel_rfl)), eval_get (hA.at_ 83 (by kernel_rfl)), eval_get (hA.at_ 84 (by kernel_rfl)), eval_get (hA.at_ 85 (by kernel_rfl)), eval_get (hA.at_ 86 (by kernel_rfl)), eval_get (hA.at_ 87 (by kernel_rfl)), eval_get (hA.at_ 88 (by kernel_rfl)), eval_get (hA.at_ 89 (by kernel_rfl)), eval_get (hA.at_ 90 (by kernel_rfl)), eval_get (hA.at_ 91 (by kernel_rfl)), eval_get (hA.at_ 92 (by kernel_rfl)), eval_get (hA.at_ 93 (by kernel_rfl)), eval_get (hA.at_ 94 (by kernel_rfl)), eval_get (hA.at_ 95 (by kernel_rfl)), eval_get (hA.at_ 96 (by kernel_rfl)), eval_get (hA.at_ 97 (by kernel_rfl)), eval_get (hA.at_ 98 (by kernel_rfl)), eval_get (hA.at_ 99 (by kernel_rfl)), eval_get (hA.at_ 100 (by kernel_rfl)), eval_get (hA.at_ 101 (by kernel_rfl)), eval_get (hA.at_ 102 (by kernel_rfl)), eval_get (hA.at_ 103 (by kernel_rfl)), eval_get (hA.at_ 104 (by kernel_rfl)), eval_get (hA.at_ 105 (by kernel_rfl)), eval_get (hA.at_ 106 (by kernel_rfl)), eval_get (hA.at_ 107 (by kernel_rfl)), eval_get (hA.at_ 108 (by kernel_rfl)), eval_get (hA.at_ 109 (by kernel_rfl)), eval_get (hA.at_ 110 (by kernel_rfl)), eval_get (hA.at_ 111 (by kernel_rfl)), rfl, rfl, rfl, rfl, rfl, rfl, rfl, rfl, rfl, rfl, rfl, rfl, rfl, rfl, rfl, rfl, rfl, rfl, rfl, rfl, rfl, rfl, rfl, rfl, rfl, rfl, rfl, rfl, rfl, rfl, rfl, rfl, rfl, rfl, rfl, rfl, rfl, rfl, rfl, rfl, rfl, rfl, rfl, rfl, hv, eval_get (hA.at_ 157 (by kernel_rfl)), eval_get (hA.at_ 158 (by kernel_rfl)), eval_get (hA.at_ 159 (by kernel_rfl)), eval_get (hA.at_ 160 (by kernel_rfl)), eval_get (hA.at_ 161 (by kernel_rfl)), trivial⟩ hA.size hA.defers
    rw [ha]
    exact HK.out w' _ _ _ _ _ _ _ _ _ _ _ _ _ _ _ _ _ _ _ _ _ _ _ _ _ _ _ _ _ _ _ _ _ _ _ _ _ _ _ _ _ _ _ _ hJ

def R24P (p gd n cd k : Nat) (y1 z : Int) (j : Nat) (v : Value) (w : World) : Prop :=
  if j = 22 then ∃ b, v = .slice (some ⟨b, 0, none⟩) 1 1 ∧ RdI w (some ⟨b, 0, none⟩) [y1] else v = [.bool false, .bool true, .bool false, .bool false, undef, undef, undef, undef, undef, undef, undef, .bool false, .bool false, .bool false, .bool true, .bool true, .pointer (some ⟨p, 0, none⟩), .slice (some ⟨gd, 0, none⟩) n cd, .int .i64 (k : Int), .pointer (some ⟨gd, k * 2, none⟩), .pointer (some ⟨gd, k * 2, none⟩), .int .i64 y1, undef, .int .i64 37, .bool false, .bool false, .bool false, .bool false, .int .i64 (k : Int), .bool true, .bool true, .slice (some ⟨gd, 0, none⟩) n cd, .int .i64 (k : Int), .int .i64 ((k : Int) - 1), .pointer (some ⟨gd, (k - 1) * 2, none⟩), .pointer (some ⟨gd, (k - 1) * 2, none⟩), .int .i64 z, .slice (some ⟨gd, 0, none⟩) n cd, .int .i64 (k : Int), .pointer (some ⟨gd, k * 2, none⟩), .pointer (some ⟨gd, k * 2, none⟩), .int .i64 y1, .bool false, .bool false, .bool false].getD j undef
theorem R24P_le (p gd n cd k : Nat) (y1 z : Int) : ∀ j v w w', Below w.heap.size w w' → R24P p gd n cd k y1 z j v w → R24P p gd n cd k y1 z j v w' := by
  intro j v w w' hb h
  by_cases hj : j = 22
  · subst hj
    obtain ⟨b, e, hr⟩ := h
    exact ⟨b, e, hr.below hb⟩
  · unfold R24P at h ⊢
    rw [if_neg hj] at h ⊢
    exact h

set_option maxRecDepth 1000000 in
set_option maxHeartbeats 4000000 in
theorem safe24P (K : Act → World → Prop) (Q : Exit → Act → World → Prop) (p gd n cd : Nat) (dur y1 z : Int) (k : Nat) (w : World) (hk : k < n) (_hn : n ≤ 9223372036854775807) (hgd : gd < w.heap.size)
    (hz1 : w.cell? ⟨gd, k * 2, none⟩ = some (.int .i64 y1)) (hk0 : 0 < k) (hz2 : w.cell? ⟨gd, (k - 1) * 2, none⟩ = some (.int .i64 z)) (hzy : z < y1)
    (HC17 : ∀ W b, Below w.heap.size w W → RdI W (some ⟨b, 0, none⟩) [y1] → Calls Try.prog 17 #[.pointer (some ⟨p, 0, none⟩), .slice (some ⟨b, 0, none⟩) 1 1] W fun e w' => e = .returned (.int .i64 37) ∧ Below W.heap.size W w')
    (t0 t2 t3 t4 t6 t7 t9 t10 t13 t14 t15 t17 t18 t19 t20 t21 t22 t23 t24 t25 t26 t27 t28 t29 t30 t31 t32 t33 t34 t35 t36 t37 t38 t39 t40 t41 t42 t43 t44 t45 t46 t47 t48 t49 t50 t51 t52 t53 t54 t55 t56 t57 t58 t59 t60 t61 t62 t63 t64 t65 t66 t67 t68 t69 t70 t71 t72 t73 t74 t75 t76 t77 t78 t79 t80 t81 t82 t83 t84 t85 t86 t87 t88 t89 t90 t91 t92 t93 t94 t95 t96 t97 t98 t99 t100 t101 t102 t103 t104 t105 t106 t107 t108 t109 t110 t111 t112 t113 t114 t115 t116 t117 t118 t119 t120 t121 t122 t123 t124 t125 t126 t127 t128 t129 t130 t131 t132 t133 t134 t135 t136 t137 t138 t139 t140 t141 t142 t143 t144 t145 t146 t147 t148 t149 t150 t151 t152 t153 t154 t155 t156 t157 t158 t159 t160 t161 : Value) (hK : ∀ (w' : World) (s112 s113 s114 s115 s116 s117 s118 s119 s120 s121 s122 s123 s124 s125 s126 s127 s128 s129 s130 s131 s132 s133 s134 s135 s136 s137 s138 s139 s140 s141 s142 s143 s144 s145 s146 s147 s148 s149 s150 s151 s152 s153 s154 s155 : Value), Below w.heap.size w w' → K ⟨#[t0, .int .i64 dur, t2, t3, t4, .pointer (some ⟨p, 0, none⟩), t6, t7, .slice (some ⟨gd, 0, none⟩) n cd, t9, t10, .int .i64 (k : Int), .bool true, t13, t14, t15, .bool false, t17, t18, t19, t20, t21, t22, t23, t24, t25, t26, t27, t28, t29, t30, t31, t32, t33, t34, t35, t36, t37, t38, t39, t40, t41, t42, t43, t44, t45, t46, t47, t48, t49, t50, t51, t52, t53, t54, t55, t56, t57, t58, t59, t60, t61, t62, t63, t64, t65, t66, t67, t68, t69, t70, t71, t72, t73, t74, t75, t76, t77, t78, t79, t80, t81, t82, t83, t84, t85, t86, t87, t88, t89, t90, t91, t92, t93, t94, t95, t96, t97, t98, t99, t100, t101, t102, t103, t104, t105, t106, t107, t108, t109, t110, t111, s112, s113, s114, s115, s116, s117, s118, s119, s120, s121, s122, s123, s124, s125, s126, s127, s128, s129, s130, s131, s132, s133, s134, s135, s136, s137, s138, s139, s140, s141, s142, s143, s144, s145, s146, s147, s148, s149, s150, s151, s152, s153, s154, s155, .bool false, t157, t158, t159, t160, t161], []⟩ w') :
    Code.wp Try.prog safe24 (Exit.then K Q) ⟨#[t0, .int .i64 dur, t2, t3, t4, .pointer (some ⟨p, 0, none⟩), t6, t7, .slice (some ⟨gd, 0, none⟩) n cd, t9, t10, .int .i64 (k : Int), .bool true, t13, t14, t15, .bool false, t17, t18, t19, t20, t21, t22, t23, t24, t25, t26, t27, t28, t29, t30, t31, t32, t33, t34, t35, t36, t37, t38, t39, t40, t41, t42, t43, t44, t45, t46, t47, t48, t49, t50, t51, t52, t53, t54, t55, t56, t57, t58, t59, t60, t61, t62, t63, t64, t65, t66, t67, t68, t69, t70, t71, t72, t73, t74, t75, t76, t77, t78, t79, t80, t81, t82, t83, t84, t85, t86, t87, t88, t89, t90, t91, t92, t93, t94, t95, t96, t97, t98, t99, t100, t101, t102, t103, t104, t105, t106, t107, t108, t109, t110, t111, t112, t113, t114, t115, t116, t117, t118, t119, t120, t121, t122, t123, t124, t125, t126, t127, t128, t129, t130, t131, t132, t133, t134, t135, t136, t137, t138, t139, t140, t141, t142, t143, t144, t145, t146, t147, t148, t149, t150, t151, t152, t153, t154, t155, t156, t157, t158, t159, t160, t161], []⟩ w := by
  have H := Lib.hid HC17
  have HK := Lib.hid hK
  clear HC17 hK
  have hk1 : (0 : Int) ≤ (k : Int) := by omega
  have hk2 : (k : Int) < (n : Int) := by omega
  have hd1 : decide (0 < (k : Int)) = true := decide_eq_true (by omega)
  have hd2 : decide (0 < k) = true := decide_eq_true hk0
  have hd3 : decide (y1 ≤ z) = false := decide_eq_false (by omega)
  have hk3 : (0 : Int) ≤ (k : Int) - 1 := by omega
  have hk7 : (1 : Int) ≤ (k : Int) := by omega
  have hk4 : (k : Int) - 1 < (n : Int) := by omega
  have hk5 : ((k : Int) - 1).toNat = k - 1 := by omega
  have hk6 : IntKind.i64.wrap ((k : Int) - 1) = (k : Int) - 1 := IntWalk.i64_in _ (by omega)
  clear hzy
  conv => arg 2; whnf
  refine wp_flow (P := Try.prog) (by kernel_rfl) (by kernel_rfl) (fun W => Below w.heap.size w W) (R24P p gd n cd k y1 z) (fun W W' => Below W.heap.size W W') (Below.refl _ _).drew (R24P_le p gd n cd k y1 z) ?_ ?_
  · refine ⟨?_, ?_, ?_, ?_, ?_, ?_, ?_, ?_, ?_, ?_, ?_, ?_, ?_, ?_, ?_, ?_, ?_, ?_, ?_, ?_, ?_, ?_, ?_, ?_, ?_, ?_, ?_, ?_, ?_, ?_, ?_, ?_, ?_, ?_, ?_, ?_, ?_, ?_, ?_, ?_, ?_, ?_, ?_, ?_, ?_, trivial⟩
    · intro a w1 hJ hA hD K hK
      refine duty_plain rfl ?_
      have h16 : a.tmps[16]?.getD undef = .bool false := eval_get (hA.at_ 16 (by kernel_rfl))
      refine wp_value (v := .bool false) (w' := w1) ?_ (hK _ _ hJ (Below.refl _ _) rfl)
      clear hK hD hA hJ
      go_simp
    · intro a w1 hJ hA hD K hK
      refine duty_plain rfl ?_
      have h12 : a.tmps[12]?.getD undef = .bool true := eval_get (hA.at_ 12 (by kernel_rfl))
      refine wp_value (v := .bool true) (w' := w1) ?_ (hK _ _ hJ (Below.refl _ _) rfl)
      clear hK hD hA hJ
      go_simp
    · intro a w1 hJ hA hD K hK
      refine duty_plain rfl ?_
      have h113 : a.tmps[113]?.getD undef = .bool true := eval_get (given_at hD 1 rfl rfl rfl)
      refine wp_value (v := .bool false) (w' := w1) ?_ (hK _ _ hJ (Below.refl _ _) rfl)
      clear hK hD hA hJ
      go_simp
    · intro a w1 hJ hA hD K hK
      refine duty_plain rfl ?_
      have h114 : a.tmps[114]?.getD undef = .bool false := eval_get (given_at hD 2 rfl rfl rfl)
      refine wp_value (v := .bool false) (w' := w1) ?_ (hK _ _ hJ (Below.refl _ _) rfl)
      clear hK hD hA hJ
      go_simp
    · intro a w1 hJ hA hD K hK
      refine duty_no (b := false) rfl rfl rfl (hA.lt 115 (by kernel_rfl)) (given_at hD 3 rfl rfl rfl) ?_
      exact hK _ _ hJ (Below.refl _ _) rfl
    · intro a w1 hJ hA hD K hK
      refine duty_no (b := false) rfl rfl rfl (hA.lt 115 (by kernel_rfl)) (given_at hD 3 rfl rfl rfl) ?_
      exact hK _ _ hJ (Below.refl _ _) rfl
    · intro a w1 hJ hA hD K hK
      refine duty_no (b := false) rfl rfl rfl (hA.lt 115 (by kernel_rfl)) (given_at hD 3 rfl rfl rfl) ?_
      exact hK _ _ hJ (Below.refl _ _) rfl
    · intro a w1 hJ hA hD K hK
      refine duty_no (b := false) rfl rfl rfl (hA.lt 115 (by kernel_rfl)) (given_at hD 3 rfl rfl rfl) ?_
      exact hK _ _ hJ (Below.refl _ _) rfl
    · intro a w1 hJ hA hD K hK
      refine duty_no (b := false) rfl rfl rfl (hA.lt 115 (by kernel_rfl)) (given_at hD 3 rfl rfl rfl) ?_
      exact hK _ _ hJ (Below.refl _ _) rfl
    · intro a w1 hJ hA hD K hK
      refine duty_no (b := false) rfl rfl rfl (hA.lt 115 (by kernel_rfl)) (given_at hD 3 rfl rfl rfl) ?_
      exact hK _ _ hJ (Below.refl _ _) rfl
    · intro a w1 hJ hA hD K hK
      refine duty_no (b := false) rfl rfl rfl (hA.lt 115 (by kernel_rfl)) (given_at hD 3 rfl rfl rfl) ?_
      exact hK _ _ hJ (Below.refl _ _) rfl
    · intro a w1 hJ hA hD K hK
      refine duty_plain rfl ?_
      have h115 : a.tmps[115]?.getD undef = .bool false := eval_get (given_at hD 3 rfl rfl rfl)
      have h122 : a.tmps[122]?.getD undef = undef := eval_get (given_at hD 10 rfl rfl rfl)
      refine wp_value (v := .bool false) (w' := w1) ?_ (hK _ _ hJ (Below.refl _ _) rfl)
      clear hK hD hA hJ
      go_simp
    · intro a w1 hJ hA hD K hK
      refine duty_plain rfl ?_
      have h112 : a.tmps[112]?.getD undef = .bool false := eval_get (given_at hD 0 rfl rfl rfl)
      have h123 : a.tmps[123]?.getD undef = .bool false := eval_get (given_at hD 11 rfl rfl rfl)
      refine wp_value (v := .bool false) (w' := w1) ?_ (hK _ _ hJ (Below.refl _ _) rfl)
      clear hK hD hA hJ
      go_simp
    · intro a w1 hJ hA hD K hK
      refine duty_plain rfl ?_
      have h124 : a.tmps[124]?.getD undef = .bool false := eval_get (given_at hD 12 rfl rfl rfl)
      refine wp_value (v := .bool false) (w' := w1) ?_ (hK _ _ hJ (Below.refl _ _) rfl)
      clear hK hD hA hJ
      go_simp
    · intro a w1 hJ hA hD K hK
      refine duty_yes rfl rfl rfl (hA.lt 125 (by kernel_rfl)) (given_at hD 13 rfl rfl rfl) ?_
      have h12 : a.tmps[12]?.getD undef = .bool true := eval_get (hA.at_ 12 (by kernel_rfl))
      refine wp_value (v := .bool true) (w' := w1) ?_ (hK _ _ hJ (Below.refl _ _) rfl)
      clear hK hD hA hJ
      go_simp
    · intro a w1 hJ hA hD K hK
      refine duty_yes rfl rfl rfl (hA.lt 125 (by kernel_rfl)) (given_at hD 13 rfl rfl rfl) ?_
      have h126 : a.tmps[126]?.getD undef = .bool true := eval_get (given_at hD 14 rfl rfl rfl)
      refine wp_value (v := .bool true) (w' := w1) ?_ (hK _ _ hJ (Below.refl _ _) rfl)
      clear hK hD hA hJ
      go_simp
    · intro a w1 hJ hA hD K hK
      refine duty_yes rfl rfl rfl (hA.lt 127 (by kernel_rfl)) (given_at hD 15 rfl rfl rfl) ?_
      have h5 : a.tmps[5]?.getD undef = .pointer (some ⟨p, 0, none⟩) := eval_get (hA.at_ 5 (by kernel_rfl))
      refine wp_value (v := .pointer (some ⟨p, 0, none⟩)) (w' := w1) ?_ (hK _ _ hJ (Below.refl _ _) rfl)
      clear hK hD hA hJ
      go_simp
    · intro a w1 hJ hA hD K hK
      refine duty_yes rfl rfl rfl (hA.lt 127 (by kernel_rfl)) (given_at hD 15 rfl rfl rfl) ?_
      have h8 : a.tmps[8]?.getD undef = .slice (some ⟨gd, 0, none⟩) n cd := eval_get (hA.at_ 8 (by kernel_rfl))
      refine wp_value (v := .slice (some ⟨gd, 0, none⟩) n cd) (w' := w1) ?_ (hK _ _ hJ (Below.refl _ _) rfl)
      clear hK hD hA hJ
      go_simp
    · intro a w1 hJ hA hD K hK
      refine duty_yes rfl rfl rfl (hA.lt 127 (by kernel_rfl)) (given_at hD 15 rfl rfl rfl) ?_
      have h11 : a.tmps[11]?.getD undef = .int .i64 (k : Int) := eval_get (hA.at_ 11 (by kernel_rfl))
      refine wp_value (v := .int .i64 (k : Int)) (w' := w1) ?_ (hK _ _ hJ (Below.refl _ _) rfl)
      clear hK hD hA hJ
      go_simp
    · intro a w1 hJ hA hD K hK
      refine duty_yes rfl rfl rfl (hA.lt 127 (by kernel_rfl)) (given_at hD 15 rfl rfl rfl) ?_
      have h129 : a.tmps[129]?.getD undef = .slice (some ⟨gd, 0, none⟩) n cd := eval_get (given_at hD 17 rfl rfl rfl)
      have h130 : a.tmps[130]?.getD undef = .int .i64 (k : Int) := eval_get (given_at hD 18 rfl rfl rfl)
      refine wp_value (v := .pointer (some ⟨gd, k * 2, none⟩)) (w' := w1) ?_ (hK _ _ hJ (Below.refl _ _) rfl)
      clear hK hD hA hJ
      go_simp
    · intro a w1 hJ hA hD K hK
      refine duty_yes rfl rfl rfl (hA.lt 127 (by kernel_rfl)) (given_at hD 15 rfl rfl rfl) ?_
      have h131 : a.tmps[131]?.getD undef = .pointer (some ⟨gd, k * 2, none⟩) := eval_get (given_at hD 19 rfl rfl rfl)
      refine wp_value (v := .pointer (some ⟨gd, k * 2, none⟩)) (w' := w1) ?_ (hK _ _ hJ (Below.refl _ _) rfl)
      clear hK hD hA hJ
      go_simp
    · intro a w1 hJ hA hD K hK
      refine duty_yes rfl rfl rfl (hA.lt 127 (by kernel_rfl)) (given_at hD 15 rfl rfl rfl) ?_
      have h132 : a.tmps[132]?.getD undef = .pointer (some ⟨gd, k * 2, none⟩) := eval_get (given_at hD 20 rfl rfl rfl)
      have hc := (hJ.cell (p := ⟨gd, k * 2, none⟩) hgd).trans hz1
      refine wp_value (v := .int .i64 y1) (w' := w1) ?_ (hK _ _ hJ (Below.refl _ _) rfl)
      clear hK hD hA hJ
      go_simp
    · intro a w1 hJ hA hD K hK
      refine duty_yes rfl rfl rfl (hA.lt 127 (by kernel_rfl)) (given_at hD 15 rfl rfl rfl) ?_
      have h133 : a.tmps[133]?.getD undef = .int .i64 y1 := eval_get (given_at hD 21 rfl rfl rfl)
      have hb1 : Below w1.heap.size w1 (w1.alloc (.cells #[.int .i64 y1] 3)) := (Below.refl _ _).alloc (Nat.le_refl _) _
      refine wp_value (v := .slice (some ⟨w1.heap.size, 0, none⟩) 1 1) (w' := w1.alloc (.cells #[.int .i64 y1] 3)) ?_ (hK _ _ (hJ.trans (hb1.mono hJ.size)) hb1 ⟨_, rfl, rd_lit1 w1 y1 3⟩)
      clear hK hD hA hJ
      go_simp
    · intro a w1 hJ hA hD K hK
      refine duty_yes rfl rfl rfl (hA.lt 127 (by kernel_rfl)) (given_at hD 15 rfl rfl rfl) ?_
      have h128 : a.tmps[128]?.getD undef = .pointer (some ⟨p, 0, none⟩) := eval_get (given_at hD 16 rfl rfl rfl)
      obtain ⟨b, hv, hr⟩ := given_at hD 22 rfl rfl rfl
      have h134 := eval_get hv
      refine wp_enter (f := 17) (args := #[.pointer (some ⟨p, 0, none⟩), .slice (some ⟨b, 0, none⟩) 1 1]) (w' := w1) ?_ ((H.out w1 b hJ hr).mono ?_)
      · clear hK hD hA hJ hv hr
        go_simp
      · rintro e w2 ⟨rfl, hb2⟩
        exact ⟨_, rfl, hK _ _ (hJ.trans (hb2.mono hJ.size)) hb2 rfl⟩
    · intro a w1 hJ hA hD K hK
      refine duty_yes rfl rfl rfl (hA.lt 127 (by kernel_rfl)) (given_at hD 15 rfl rfl rfl) ?_
      have h135 : a.tmps[135]?.getD undef = .int .i64 37 := eval_get (given_at hD 23 rfl rfl rfl)
      refine wp_value (v := .bool false) (w' := w1) ?_ (hK _ _ hJ (Below.refl _ _) rfl)
      clear hK hD hA hJ
      go_simp
    · intro a w1 hJ hA hD K hK
      refine duty_yes rfl rfl rfl (hA.lt 125 (by kernel_rfl)) (given_at hD 13 rfl rfl rfl) ?_
      have h127 : a.tmps[127]?.getD undef = .bool true := eval_get (given_at hD 15 rfl rfl rfl)
      have h136 : a.tmps[136]?.getD undef = .bool false := eval_get (given_at hD 24 rfl rfl rfl)
      refine wp_value (v := .bool false) (w' := w1) ?_ (hK _ _ hJ (Below.refl _ _) rfl)
      clear hK hD hA hJ
      go_simp
    · intro a w1 hJ hA hD K hK
      refine duty_plain rfl ?_
      have h125 : a.tmps[125]?.getD undef = .bool false := eval_get (given_at hD 13 rfl rfl rfl)
      have h137 : a.tmps[137]?.getD undef = .bool false := eval_get (given_at hD 25 rfl rfl rfl)
      refine wp_value (v := .bool false) (w' := w1) ?_ (hK _ _ hJ (Below.refl _ _) rfl)
      clear hK hD hA hJ
      go_simp
    · intro a w1 hJ hA hD K hK
      refine duty_plain rfl ?_
      have h138 : a.tmps[138]?.getD undef = .bool false := eval_get (given_at hD 26 rfl rfl rfl)
      refine wp_value (v := .bool false) (w' := w1) ?_ (hK _ _ hJ (Below.refl _ _) rfl)
      clear hK hD hA hJ
      go_simp
    · intro a w1 hJ hA hD K hK
      refine duty_yes rfl rfl rfl (hA.lt 139 (by kernel_rfl)) (given_at hD 27 rfl rfl rfl) ?_
      have h11 : a.tmps[11]?.getD undef = .int .i64 (k : Int) := eval_get (hA.at_ 11 (by kernel_rfl))
      refine wp_value (v := .int .i64 (k : Int)) (w' := w1) ?_ (hK _ _ hJ (Below.refl _ _) rfl)
      clear hK hD hA hJ
      go_simp
    · intro a w1 hJ hA hD K hK
      refine duty_yes rfl rfl rfl (hA.lt 139 (by kernel_rfl)) (given_at hD 27 rfl rfl rfl) ?_
      have h140 : a.tmps[140]?.getD undef = .int .i64 (k : Int) := eval_get (given_at hD 28 rfl rfl rfl)
      refine wp_value (v := .bool true) (w' := w1) ?_ (hK _ _ hJ (Below.refl _ _) rfl)
      clear hK hD hA hJ
      go_simp
    · intro a w1 hJ hA hD K hK
      refine duty_yes rfl rfl rfl (hA.lt 139 (by kernel_rfl)) (given_at hD 27 rfl rfl rfl) ?_
      have h141 : a.tmps[141]?.getD undef = .bool true := eval_get (given_at hD 29 rfl rfl rfl)
      refine wp_value (v := .bool true) (w' := w1) ?_ (hK _ _ hJ (Below.refl _ _) rfl)
      clear hK hD hA hJ
      go_simp
    · intro a w1 hJ hA hD K hK
      refine duty_yes rfl rfl rfl (hA.lt 142 (by kernel_rfl)) (given_at hD 30 rfl rfl rfl) ?_
      have h8 : a.tmps[8]?.getD undef = .slice (some ⟨gd, 0, none⟩) n cd := eval_get (hA.at_ 8 (by kernel_rfl))
      refine wp_value (v := .slice (some ⟨gd, 0, none⟩) n cd) (w' := w1) ?_ (hK _ _ hJ (Below.refl _ _) rfl)
      clear hK hD hA hJ
      go_simp
    · intro a w1 hJ hA hD K hK
      refine duty_yes rfl rfl rfl (hA.lt 142 (by kernel_rfl)) (given_at hD 30 rfl rfl rfl) ?_
      have h11 : a.tmps[11]?.getD undef = .int .i64 (k : Int) := eval_get (hA.at_ 11 (by kernel_rfl))
      refine wp_value (v := .int .i64 (k : Int)) (w' := w1) ?_ (hK _ _ hJ (Below.refl _ _) rfl)
      clear hK hD hA hJ
      go_simp
    · intro a w1 hJ hA hD K hK
      refine duty_yes rfl rfl rfl (hA.lt 142 (by kernel_rfl)) (given_at hD 30 rfl rfl rfl) ?_
      have h144 : a.tmps[144]?.getD undef = .int .i64 (k : Int) := eval_get (given_at hD 32 rfl rfl rfl)
      refine wp_value (v := .int .i64 ((k : Int) - 1)) (w' := w1) ?_ (hK _ _ hJ (Below.refl _ _) rfl)
      clear hK hD hA hJ
      go_simp
    · intro a w1 hJ hA hD K hK
      refine duty_yes rfl rfl rfl (hA.lt 142 (by kernel_rfl)) (given_at hD 30 rfl rfl rfl) ?_
      have h143 : a.tmps[143]?.getD undef = .slice (some ⟨gd, 0, none⟩) n cd := eval_get (given_at hD 31 rfl rfl rfl)
      have h145 : a.tmps[145]?.getD undef = .int .i64 ((k : Int) - 1) := eval_get (given_at hD 33 rfl rfl rfl)
      refine wp_value (v := .pointer (some ⟨gd, (k - 1) * 2, none⟩)) (w' := w1) ?_ (hK _ _ hJ (Below.refl _ _) rfl)
      clear hK hD hA hJ
      go_simp
    · intro a w1 hJ hA hD K hK
      refine duty_yes rfl rfl rfl (hA.lt 142 (by kernel_rfl)) (given_at hD 30 rfl rfl rfl) ?_
      have h146 : a.tmps[146]?.getD undef = .pointer (some ⟨gd, (k - 1) * 2, none⟩) := eval_get (given_at hD 34 rfl rfl rfl)
      refine wp_value (v := .pointer (some ⟨gd, (k - 1) * 2, none⟩)) (w' := w1) ?_ (hK _ _ hJ (Below.refl _ _) rfl)
      clear hK hD hA hJ
      go_simp
    · intro a w1 hJ hA hD K hK
      refine duty_yes rfl rfl rfl (hA.lt 142 (by kernel_rfl)) (given_at hD 30 rfl rfl rfl) ?_
      have h147 : a.tmps[147]?.getD undef = .pointer (some ⟨gd, (k - 1) * 2, none⟩) := eval_get (given_at hD 35 rfl rfl rfl)
      have hc := (hJ.cell (p := ⟨gd, (k - 1) * 2, none⟩) hgd).trans hz2
      refine wp_value (v := .int .i64 z) (w' := w1) ?_ (hK _ _ hJ (Below.refl _ _) rfl)
      clear hK hD hA hJ
      go_simp
    · intro a w1 hJ hA hD K hK
      refine duty_yes rfl rfl rfl (hA.lt 142 (by kernel_rfl)) (given_at hD 30 rfl rfl rfl) ?_
      have h8 : a.tmps[8]?.getD undef = .slice (some ⟨gd, 0, none⟩) n cd := eval_get (hA.at_ 8 (by kernel_rfl))
      refine wp_value (v := .slice (some ⟨gd, 0, none⟩) n cd) (w' := w1) ?_ (hK _ _ hJ (Below.refl _ _) rfl)
      clear hK hD hA hJ
      go_simp
    · intro a w1 hJ hA hD K hK
      refine duty_yes rfl rfl rfl (hA.lt 142 (by kernel_rfl)) (given_at hD 30 rfl rfl rfl) ?_
      have h11 : a.tmps[11]?.getD undef = .int .i64 (k : Int) := eval_get (hA.at_ 11 (by kernel_rfl))
      refine wp_value (v := .int .i64 (k : Int)) (w' := w1) ?_ (hK _ _ hJ (Below.refl _ _) rfl)
      clear hK hD hA hJ
      go_simp
    · intro a w1 hJ hA hD K hK
      refine duty_yes rfl rfl rfl (hA.lt 142 (by kernel_rfl)) (given_at hD 30 rfl rfl rfl) ?_
      have h149 : a.tmps[149]?.getD undef = .slice (some ⟨gd, 0, none⟩) n cd := eval_get (given_at hD 37 rfl rfl rfl)
      have h150 : a.tmps[150]?.getD undef = .int .i64 (k : Int) := eval_get (given_at hD 38 rfl rfl rfl)
      refine wp_value (v := .pointer (some ⟨gd, k * 2, none⟩)) (w' := w1) ?_ (hK _ _ hJ (Below.refl _ _) rfl)
      clear hK hD hA hJ
      go_simp
    · intro a w1 hJ hA hD K hK
      refine duty_yes rfl rfl rfl (hA.lt 142 (by kernel_rfl)) (given_at hD 30 rfl rfl rfl) ?_
      have h151 : a.tmps[151]?.getD undef = .pointer (some ⟨gd, k * 2, none⟩) := eval_get (given_at hD 39 rfl rfl rfl)
      refine wp_value (v := .pointer (some ⟨gd, k * 2, none⟩)) (w' := w1) ?_ (hK _ _ hJ (Below.refl _ _) rfl)
      clear hK hD hA hJ
      go_simp
    · intro a w1 hJ hA hD K hK
      refine duty_yes rfl rfl rfl (hA.lt 142 (by kernel_rfl)) (given_at hD 30 rfl rfl rfl) ?_
      have h152 : a.tmps[152]?.getD undef = .pointer (some ⟨gd, k * 2, none⟩) := eval_get (given_at hD 40 rfl rfl rfl)
      have hc := (hJ.cell (p := ⟨gd, k * 2, none⟩) hgd).trans hz1
      refine wp_value (v := .int .i64 y1) (w' := w1) ?_ (hK _ _ hJ (Below.refl _ _) rfl)
      clear hK hD hA hJ
      go_simp
    · intro a w1 hJ hA hD K hK
      refine duty_yes rfl rfl rfl (hA.lt 142 (by kernel_rfl)) (given_at hD 30 rfl rfl rfl) ?_
      have h148 : a.tmps[148]?.getD undef = .int .i64 z := eval_get (given_at hD 36 rfl rfl rfl)
      have h153 : a.tmps[153]?.getD undef = .int .i64 y1 := eval_get (given_at hD 41 rfl rfl rfl)
      refine wp_value (v := .bool false) (w' := w1) ?_ (hK _ _ hJ (Below.refl _ _) rfl)
      clear hK hD hA hJ
      go_simp
    · intro a w1 hJ hA hD K hK
      refine duty_yes rfl rfl rfl (hA.lt 139 (by kernel_rfl)) (given_at hD 27 rfl rfl rfl) ?_
      have h142 : a.tmps[142]?.getD undef = .bool true := eval_get (given_at hD 30 rfl rfl rfl)
      have h154 : a.tmps[154]?.getD undef = .bool false := eval_get (given_at hD 42 rfl rfl rfl)
      refine wp_value (v := .bool false) (w' := w1) ?_ (hK _ _ hJ (Below.refl _ _) rfl)
      clear hK hD hA hJ
      go_simp
    · intro a w1 hJ hA hD K hK
      refine duty_plain rfl ?_
      have h139 : a.tmps[139]?.getD undef = .bool false := eval_get (given_at hD 27 rfl rfl rfl)
      have h155 : a.tmps[155]?.getD undef = .bool false := eval_get (given_at hD 43 rfl rfl rfl)
      refine wp_value (v := .bool false) (w' := w1) ?_ (hK _ _ hJ (Below.refl _ _) rfl)
      clear hK hD hA hJ
      go_simp
  · intro a w' hJ hA hG
    have hv : a.tmps[156]?.getD undef = .bool false := eval_get (hG 44 _ _ rfl rfl)
    have ha : a = ⟨#[t0, .int .i64 dur, t2, t3, t4, .pointer (some ⟨p, 0, none⟩), t6, t7, .slice (some ⟨gd, 0, none⟩) n cd, t9, t10, .int .i64 (k : Int), .bool true, t13, t14, t15, .bool false, t17, t18, t19, t20, t21, t22, t23, t24, t25, t26, t27, t28, t29, t30, t31, t32, t33, t34, t35, t36, t37, t38, t39, t40, t41, t42, t43, t44, t45, t46, t47, t48, t49, t50, t51, t52, t53, t54, t55, t56, t57, t58, t59, t60, t61, t62, t63, t64, t65, t66, t67, t68, t69, t70, t71, t72, t73, t74, t75, t76, t77, t78, t79, t80, t81, t82, t83, t84, t85, t86, t87, t88, t89, t90, t91, t92, t93, t94, t95, t96, t97, t98, t99, t100, t101, t102, t103, t104, t105, t106, t107, t108, t109, t110, t111, a.tmps[112]?.getD undef, a.tmps[113]?.getD undef, a.tmps[114]?.getD undef, a.tmps[115]?.getD undef, a.tmps[116]?.getD undef, a.tmps[117]?.getD undef, a.tmps[118]?.getD undef, a.tmps[119]?.getD undef, a.tmps[120]?.getD undef, a.tmps[121]?.getD undef, a.tmps[122]?.getD undef, a.tmps[123]?.getD undef, a.tmps[124]?.getD undef, a.tmps[125]?.getD undef, a.tmps[126]?.getD undef, a.tmps[127]?.getD undef, a.tmps[128]?.getD undef, a.tmps[129]?.getD undef, a.tmps[130]?.getD undef, a.tmps[131]?.getD undef, a.tmps[132]?.getD undef, a.tmps[133]?.getD undef, a.tmps[134]?.getD undef, a.tmps[135]?.getD undef, a.tmps[136]?.getD undef, a.tmps[137]?.getD undef, a.tmps[138]?.getD undef, a.tmps[139]?.getD undef, a.tmps[140]?.getD undef, a.tmps[141]?.getD undef, a.tmps[142]?.getD undef, a.tmps[143]?.getD undef, a.tmps[144]?.getD undef, a.tmps[145]?.getD undef, a.tmps[146]?.getD undef, a.tmps[147]?.getD undef, a.tmps[148]?.getD undef, a.tmps[149]?.getD undef, a.tmps[150]?.getD undef, a.tmps[151]?.getD undef, a.tmps[152]?.getD undef, a.tmps[153]?.getD undef, a.tmps[154]?.getD undef, a.tmps[155]?.getD undef, .bool false, t157, t158, t159, t160, t161], []⟩ := act_of ⟨eval_get (hA.at_ 0 (by kernel_rfl)), eval_get (hA.at_ 1 (by kernel_rfl)), eval_get (hA.at_ 2 (by kernel_rfl)), eval_get (hA.at_ 3 (by kernel_rfl)), eval_get (hA.at_ 4 (by kernel_rfl)), eval_get (hA.at_ 5 (by kernel_rfl)), eval_get (hA.at_ 6 (by kernel_rfl)), eval_get (hA.at_ 7 (by kernel_rfl)), eval_get (hA.at_ 8 (by kernel_rfl)), eval_get (hA.at_ 9 (by kernel_rfl)), eval_get (hA.at_ 10 (by kernel_rfl)), eval_get (hA.at_ 11 (by kernel_rfl)), eval_get (hA.at_ 12 (by kernel_rfl)), eval_get (hA.at_ 13 (by kernel_rfl)), eval_get (hA.at_ 14 (by kernel_rfl)), eval_get (hA.at_ 15 (by kernel_rfl)), eval_get (hA.at_ 16 (by kernel_rfl)), eval_get (hA.at_ 17 (by kernel_rfl)), eval_get (hA.at_ 18 (by kernel_rfl)), eval_get (hA.at_ 19 (by kernel_rfl)), eval_get (hA.at_ 20 (by kernel_rfl)), eval_get (hA.at_ 21 (by kernel_rfl)), eval_get (hA.at_ 22 (by kernel_rfl)), eval_get (hA.at_ 23 (by kernel_rfl)), eval_get (hA.at_ 24 (by kernel_rfl)), eval_get (hA.at_ 25 (by kernel_rfl)), eval_get (hA.at_ 26 (by kernel_rfl)), eval_get (hA.at_ 27 (by kernel_rfl)), eval_get (hA.at_ 28 (by kernel_rfl)), eval_get (hA.at_ 29 (by kernel_rfl)), eval_get (hA.at_ 30 (by kernel_rfl)), eval_get (hA.at_ 31 (by kernel_rfl)), eval_get (hA.at_ 32 (by kernel_rfl)), eval_get (hA.at_ 33 (by kernel_rfl)), eval_get (hA.at_ 34 (by kernel_rfl)), eval_get (hA.at_ 35 (by kernel_rfl)), eval_get (hA.at_ 36 (by kernel_rfl)), eval_get (hA.at_ 37 (by kernel_rfl)), eval_get (hA.at_ 38 (by kernel_rfl)), eval_get (hA.at_ 39 (by kernel_rfl)), eval_get (hA.at_ 40 (by kernel_rfl)), eval_get (hA.at_ 41 (by kernel_rfl)), eval_get (hA.at_ 42 (by kernel_rfl)), eval_get (hA.at_ 43 (by kernel_rfl)), eval_get (hA.at_ 44 (by kernel_rfl)), eval_get (hA.at_ 45 (by kernel_rfl)), eval_get (hA.at_ 46 (by kernel_rfl)), eval_get (hA.at_ 47 (by kernel_rfl)), eval_get (hA.at_ 48 (by kernel_rfl)), eval_get (hA.at_ 49 (by kernel_rfl)), eval_get (hA.at_ 50 (by kernel_rfl)), eval_get (hA.at_ 51 (by kernel_rfl)), eval_get (hA.at_ 52 (by kernel_rfl)), eval_get (hA.at_ 53 (by kernel_rfl)), eval_get (hA.at_ 54 (by kernel_rfl)), eval_get (hA.at_ 55 (by kernel_rfl)), eval_get (hA.at_ 56 (by kernel_rfl)), eval_get (hA.at_ 57 (by kernel_rfl)), eval_get (hA.at_ 58 (by kernel_rfl)), eval_get (hA.at_ 59 (by kernel_rfl)), eval_get (hA.at_ 60 (by kernel_rfl)), eval_get (hA.at_ 61 (by kernel_rfl)), eval_get (hA.at_ 62 (by kernel_rfl)), eval_get (hA.at_ 63 (by kernel_rfl)), eval_get (hA.at_ 64 (by kernel_rfl)), eval_get (hA.at_ 65 (by kernel_rfl)), eval_get (hA.at_ 66 (by kernel_rfl)), eval_get (hA.at_ 67 (by kernel_rfl)), eval_get (hA.at_ 68 (by kernel_rfl)), eval_get (hA.at_ 69 (by kernel_rfl)), eval_get (hA.at_ 70 (by kernel_rfl)), eval_get (hA.at_ 71 (by kernel_rfl)), eval_get (hA.at_ 72 (by kernel_rfl)), eval_get (hA.at_ 73 (by kernel_rfl)), eval_get (hA.at_ 74 (by kernel_rfl)), eval_get (hA.at_ 75 (by kernel_rfl)), eval_get (hA.at_ 76 (by kernel_rfl)), eval_get (hA.at_ 77 (by kernel_rfl)), eval_get (hA.at_ 78 (by kernel_rfl)), eval_get (hA.at_ 79 (by kernel_rfl)), eval_get (hA.at_ 80 (by kernel_rfl)), eval_get (hA.at_ 81 (by kernel_rfl)), eval_get (hA.at_ 82 (by kernel_rfl)), eval_get (hA.at_ 83 (by kernel_rfl)), eval_get (hA.at_ 84 (by kernel_rfl)), eval_get (hA.at_ 85 (by kernel_rfl)), eval_get (hA.at_ 86 (by kernel_rfl)), eval_get (hA.at_ 87 (by kernel_rfl)), eval_get (hA.at_ 88 (by kernel_rfl)), eval_get (hA.at_ 89 (by kernel_rfl)), eval_get (hA.at_ 90 (by kernel_rfl)), eval_get (hA.at_ 91 (by kernel_rfl)), eval_get (hA.at_ 92 (by kernel_rfl)), eval_get (hA.at_ 93 (by kernel_rfl)), eval_get (hA.at_ 94 (by kernel_rfl)), eval_get (hA.at_ 95 (by kernel_rfl)), eval_get (hA.at_ 96 (by kernel_rfl)), eval_get (hA.at_ 97 (by kernel_rfl)), eval_get (hA.at_ 98 (by kernel_rfl)), eval_get (hA.at_ 99 (by kernel_rfl)), eval_get (hA.at_ 100 (by kernel_rfl)), eval_get (hA.at_ 101 (by kernel_rfl)), eval_get (hA.at_ 102 (by kernel_rfl)), eval_get (hA.at_ 103 (by kernel_rfl)), eval_get (hA.at_ 104 (by kernel_rfl)), eval_get (hA.at_ 105 (by kernel_rfl)), eval_get (hA.at_ 106 (by kernel_rfl)), eval_get (hA.at_ 107 (by kernel_rfl)), eval_get (hA.at_ 108 (by kernel_rfl)), eval_get (hA.at_ 109 (by kernel_rfl)), eval_get (hA.at_ 110 (by kernel_rfl)), eval_get (hA.at_ 111 (by kernel_rfl)), rfl, rfl, rfl, rfl, rfl, rfl, rfl, rfl, rfl, rfl, rfl, rfl, rfl, rfl, rfl, rfl, rfl, rfl, rfl, rfl, rfl, rfl, rfl, rfl, rfl, rfl, rfl, rfl, rfl, rfl, rfl, rfl, rfl, rfl, rfl, rfl, rfl, rfl, rfl, rfl, rfl, rfl, rfl, rfl, hv, eval_get (hA.at_ 157 (by kernel_rfl)), eval_get (hA.at_ 158 (by kernel_rfl)), eval_get (hA.at_ 159 (by kernel_rfl)), eval_get (hA.at_ 160 (by kernel_rfl)), eval_get (hA.at_ 161 (by kernel_rfl)), trivial⟩ hA.size hA.defers
    rw [ha]
    exact HK.out w' _ _ _ _ _ _ _ _ _ _ _ _ _ _ _ _ _ _ _ _ _ _ _ _ _ _ _ _ _ _ _ _ _ _ _ _ _ _ _ _ _ _ _ _ hJ

end Go.Proofs.Ytjggeodnoigkkaa
