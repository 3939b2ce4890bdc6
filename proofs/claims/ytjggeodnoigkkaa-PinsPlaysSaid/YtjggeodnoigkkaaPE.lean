/-
  PinsPlays: the regions of same (merged).
-/
import Derived.Test.YtjggeodnoigkkaaPC
import Derived.Test.YtjggeodnoigkkaaPA
namespace Go.Proofs.Ytjggeodnoigkkaa
open Go.RowKit Go.Maps Go.Shelf Go.Proofs.YtjggeodnoigkkaaM

noncomputable def codesm3 : Code := ((Try.f24.body.bind (theRegion 3)).getD .skip)

def Rsm3 (p g n m lc dc c d : Nat) (LA LB A B : Option Addr) (dur : Int) (q : List Int) (z : ByteArray) (j : Nat) (v : Value) (w : World) : Prop :=
  if j = 17 then ∃ A' c', v = .slice A' q.length c' ∧ RdI w A' q else if j = 20 then ∃ A' c', v = .slice A' q.length c' ∧ RdI w A' q else v = [.slice LA n lc, .int .i64 (n : Int), .pointer (some ⟨g, 0, none⟩), .slice A n c, .int .i64 (n : Int), .bool false, .bool false, .slice LB m dc, .int .i64 (m : Int), .pointer (some ⟨g, 1, none⟩), .slice B m d, .int .i64 (m : Int), .bool false, .bool false, .bool false, .pointer (some ⟨p, 0, none⟩), .int .i64 dur, undef, .agg #[.slice A n c, .slice B m d], .int .i64 dur, undef, .bool true, .bool false, .bool false, .bool false, .pointer (some ⟨p, 0, none⟩), .string z, .agg #[.slice A n c, .slice B m d], .string z, .bool false, .bool false].getD j undef
theorem Rsm3_le (p g n m lc dc c d : Nat) (LA LB A B : Option Addr) (dur : Int) (q : List Int) (z : ByteArray) : ∀ j v w w', Below w.heap.size w w' → Rsm3 p g n m lc dc c d LA LB A B dur q z j v w → Rsm3 p g n m lc dc c d LA LB A B dur q z j v w' := by
  intro j v w w' hb h
  unfold Rsm3 at h ⊢
  by_cases hj17 : j = 17
  · subst hj17
    simp only [reduceIte] at h ⊢
    obtain ⟨A', c', e, hr⟩ := h
    exact ⟨A', c', e, hr.below hb⟩
  rw [if_neg hj17] at h ⊢
  by_cases hj20 : j = 20
  · subst hj20
    simp only [reduceIte] at h ⊢
    obtain ⟨A', c', e, hr⟩ := h
    exact ⟨A', c', e, hr.below hb⟩
  rw [if_neg hj20] at h ⊢
  exact h

set_option maxRecDepth 1000000 in
set_option maxHeartbeats 4000000 in
theorem sm3 (Q : Exit → Act → World → Prop) (p g n m lc dc c d : Nat) (LA LB A B : Option Addr) (dur : Int) (q : List Int) (z : ByteArray) (w : World)
    (hgl : g < w.heap.size)
    (hx0 : w.cell? ⟨g, 0, none⟩ = some (.slice A n c))
    (hx1 : w.cell? ⟨g, 1, none⟩ = some (.slice B m d))
    (H34 : ∀ W, Below w.heap.size w W → Calls Try.prog 13 #[.pointer (some ⟨p, 0, none⟩), .int .i64 dur] W fun e w' => (∃ A' c', e = .returned (.slice A' q.length c') ∧ RdI w' A' q) ∧ Below W.heap.size W w')
    (H37 : ∀ W, Below w.heap.size w W → Calls Try.prog 50 #[.agg #[.slice A n c, .slice B m d], .int .i64 dur] W fun e w' => (∃ A' c', e = .returned (.slice A' q.length c') ∧ RdI w' A' q) ∧ Below W.heap.size W w')
    (H38 : ∀ W A1 c1 A2 c2, RdI W A1 q → RdI W A2 q → Calls Try.prog 31 #[.slice A1 q.length c1, .slice A2 q.length c2] W fun e w' => e = .returned (.bool true) ∧ Below W.heap.size W w')
    (H43 : ∀ W, Below w.heap.size w W → Calls Try.prog 21 #[.pointer (some ⟨p, 0, none⟩)] W fun e w' => e = .returned (.string z) ∧ Below W.heap.size W w')
    (H45 : ∀ W, Below w.heap.size w W → Calls Try.prog 51 #[.agg #[.slice A n c, .slice B m d]] W fun e w' => e = .returned (.string z) ∧ Below W.heap.size W w')
    (t1 t3 t5 t6 t9 t10 t11 t12 t13 t14 t15 t16 t17 t18 t19 t20 t21 t22 t23 t24 t25 t26 t27 t28 t29 t30 t31 t32 t33 t34 t35 t36 t37 t38 t39 t40 t41 t42 t43 t44 t45 t46 t47 t48 t49 t50 t51 t52 t53 t54 t55 t56 t57 t58 t59 t60 t61 t62 t63 t64 t65 t66 t67 t68 t69 t70 t71 t72 t73 t74 t75 t76 t77 t78 t79 t80 t81 t82 t83 t84 t85 t86 t87 t88 t89 t90 t91 t92 t93 t94 t95 t96 t97 t98 t99 t100 t101 t102 t103 t104 t105 t106 t107 t108 t109 t110 t111 t112 t113 t114 t115 t116 t117 t118 t119 t120 t121 t122 t123 t124 t125 t126 t127 t128 t129 t130 t131 t132 t133 t134 t135 t136 t137 t138 t139 t140 t141 t142 t143 t144 t145 t146 t147 t148 t149 t150 t151 t152 t153 : Value) (hK : ∀ (w' : World) (s17 s18 s19 s20 s21 s22 s23 s24 s25 s26 s27 s28 s29 s30 s31 s32 s33 s34 s35 s36 s37 s38 s39 s40 s41 s42 s43 s44 s45 s46 : Value), Below w.heap.size w w' → Q .normal ⟨#[.pointer (some ⟨p, 0, none⟩), t1, .int .i64 dur, t3, .pointer (some ⟨g, 0, none⟩), t5, t6, .slice LA n lc, .slice LB m dc, t9, t10, t11, t12, t13, t14, t15, t16, s17, s18, s19, s20, s21, s22, s23, s24, s25, s26, s27, s28, s29, s30, s31, s32, s33, s34, s35, s36, s37, s38, s39, s40, s41, s42, s43, s44, s45, s46, .bool false, t48, t49, t50, t51, t52, t53, t54, t55, t56, t57, t58, t59, t60, t61, t62, t63, t64, t65, t66, t67, t68, t69, t70, t71, t72, t73, t74, t75, t76, t77, t78, t79, t80, t81, t82, t83, t84, t85, t86, t87, t88, t89, t90, t91, t92, t93, t94, t95, t96, t97, t98, t99, t100, t101, t102, t103, t104, t105, t106, t107, t108, t109, t110, t111, t112, t113, t114, t115, t116, t117, t118, t119, t120, t121, t122, t123, t124, t125, t126, t127, t128, t129, t130, t131, t132, t133, t134, t135, t136, t137, t138, t139, t140, t141, t142, t143, t144, t145, t146, t147, t148, t149, t150, t151, t152, t153], []⟩ w') :
    Code.wp Try.prog codesm3 Q ⟨#[.pointer (some ⟨p, 0, none⟩), t1, .int .i64 dur, t3, .pointer (some ⟨g, 0, none⟩), t5, t6, .slice LA n lc, .slice LB m dc, t9, t10, t11, t12, t13, t14, t15, t16, t17, t18, t19, t20, t21, t22, t23, t24, t25, t26, t27, t28, t29, t30, t31, t32, t33, t34, t35, t36, t37, t38, t39, t40, t41, t42, t43, t44, t45, t46, t47, t48, t49, t50, t51, t52, t53, t54, t55, t56, t57, t58, t59, t60, t61, t62, t63, t64, t65, t66, t67, t68, t69, t70, t71, t72, t73, t74, t75, t76, t77, t78, t79, t80, t81, t82, t83, t84, t85, t86, t87, t88, t89, t90, t91, t92, t93, t94, t95, t96, t97, t98, t99, t100, t101, t102, t103, t104, t105, t106, t107, t108, t109, t110, t111, t112, t113, t114, t115, t116, t117, t118, t119, t120, t121, t122, t123, t124, t125, t126, t127, t128, t129, t130, t131, t132, t133, t134, t135, t136, t137, t138, t139, t140, t141, t142, t143, t144, t145, t146, t147, t148, t149, t150, t151, t152, t153], []⟩ w := by
  replace H34 := Lib.hid H34
  replace H37 := Lib.hid H37
  replace H38 := Lib.hid H38
  replace H43 := Lib.hid H43
  replace H45 := Lib.hid H45
  have HK := Lib.hid hK
  clear hK
  conv => arg 2; whnf
  refine wp_flow (P := Try.prog) (by kernel_rfl) (by kernel_rfl) (fun W => Below w.heap.size w W) (Rsm3 p g n m lc dc c d LA LB A B dur q z) (fun W W' => Below W.heap.size W W') (Below.refl _ _).drew (Rsm3_le p g n m lc dc c d LA LB A B dur q z) ?_ ?_
  · refine ⟨?_, ?_, ?_, ?_, ?_, ?_, ?_, ?_, ?_, ?_, ?_, ?_, ?_, ?_, ?_, ?_, ?_, ?_, ?_, ?_, ?_, ?_, ?_, ?_, ?_, ?_, ?_, ?_, ?_, ?_, ?_, trivial⟩
    · intro a w1 hJ hA hD K hK
      refine duty_plain rfl ?_
      have h7 : a.tmps[7]?.getD undef = .slice LA n lc := eval_get (hA.at_ 7 (by kernel_rfl))
      refine wp_value (v := .slice LA n lc) (w' := w1) ?_ (hK _ _ hJ (Below.refl _ _) rfl)
      clear hK hD hA hJ
      go_simp
    · intro a w1 hJ hA hD K hK
      refine duty_plain rfl ?_
      have h17 : a.tmps[17]?.getD undef = .slice LA n lc := eval_get (given_at hD 0 rfl rfl rfl)
      refine wp_value (v := .int .i64 (n : Int)) (w' := w1) ?_ (hK _ _ hJ (Below.refl _ _) rfl)
      clear hK hD hA hJ
      go_simp
    · intro a w1 hJ hA hD K hK
      refine duty_plain rfl ?_
      have h4 : a.tmps[4]?.getD undef = .pointer (some ⟨g, 0, none⟩) := eval_get (hA.at_ 4 (by kernel_rfl))
      refine wp_value (v := .pointer (some ⟨g, 0, none⟩)) (w' := w1) ?_ (hK _ _ hJ (Below.refl _ _) rfl)
      clear hK hD hA hJ
      go_simp
    · intro a w1 hJ hA hD K hK
      refine duty_plain rfl ?_
      have h19 : a.tmps[19]?.getD undef = .pointer (some ⟨g, 0, none⟩) := eval_get (given_at hD 2 rfl rfl rfl)
      have hc := (hJ.cell (p := ⟨g, 0, none⟩) hgl).trans hx0
      refine wp_value (v := .slice A n c) (w' := w1) ?_ (hK _ _ hJ (Below.refl _ _) rfl)
      clear hK hD hA hJ
      go_simp
    · intro a w1 hJ hA hD K hK
      refine duty_plain rfl ?_
      have h20 : a.tmps[20]?.getD undef = .slice A n c := eval_get (given_at hD 3 rfl rfl rfl)
      refine wp_value (v := .int .i64 (n : Int)) (w' := w1) ?_ (hK _ _ hJ (Below.refl _ _) rfl)
      clear hK hD hA hJ
      go_simp
    · intro a w1 hJ hA hD K hK
      refine duty_plain rfl ?_
      have h18 : a.tmps[18]?.getD undef = .int .i64 (n : Int) := eval_get (given_at hD 1 rfl rfl rfl)
      have h21 : a.tmps[21]?.getD undef = .int .i64 (n : Int) := eval_get (given_at hD 4 rfl rfl rfl)
      refine wp_value (v := .bool false) (w' := w1) ?_ (hK _ _ hJ (Below.refl _ _) rfl)
      clear hK hD hA hJ
      go_simp
    · intro a w1 hJ hA hD K hK
      refine duty_plain rfl ?_
      have h22 : a.tmps[22]?.getD undef = .bool false := eval_get (given_at hD 5 rfl rfl rfl)
      refine wp_value (v := .bool false) (w' := w1) ?_ (hK _ _ hJ (Below.refl _ _) rfl)
      clear hK hD hA hJ
      go_simp
    · intro a w1 hJ hA hD K hK
      refine duty_yes rfl rfl rfl (hA.lt 23 (by kernel_rfl)) (given_at hD 6 rfl rfl rfl) ?_
      have h8 : a.tmps[8]?.getD undef = .slice LB m dc := eval_get (hA.at_ 8 (by kernel_rfl))
      refine wp_value (v := .slice LB m dc) (w' := w1) ?_ (hK _ _ hJ (Below.refl _ _) rfl)
      clear hK hD hA hJ
      go_simp
    · intro a w1 hJ hA hD K hK
      refine duty_yes rfl rfl rfl (hA.lt 23 (by kernel_rfl)) (given_at hD 6 rfl rfl rfl) ?_
      have h24 : a.tmps[24]?.getD undef = .slice LB m dc := eval_get (given_at hD 7 rfl rfl rfl)
      refine wp_value (v := .int .i64 (m : Int)) (w' := w1) ?_ (hK _ _ hJ (Below.refl _ _) rfl)
      clear hK hD hA hJ
      go_simp
    · intro a w1 hJ hA hD K hK
      refine duty_yes rfl rfl rfl (hA.lt 23 (by kernel_rfl)) (given_at hD 6 rfl rfl rfl) ?_
      have h4 : a.tmps[4]?.getD undef = .pointer (some ⟨g, 0, none⟩) := eval_get (hA.at_ 4 (by kernel_rfl))
      refine wp_value (v := .pointer (some ⟨g, 1, none⟩)) (w' := w1) ?_ (hK _ _ hJ (Below.refl _ _) rfl)
      clear hK hD hA hJ
      go_simp
    · intro a w1 hJ hA hD K hK
      refine duty_yes rfl rfl rfl (hA.lt 23 (by kernel_rfl)) (given_at hD 6 rfl rfl rfl) ?_
      have h26 : a.tmps[26]?.getD undef = .pointer (some ⟨g, 1, none⟩) := eval_get (given_at hD 9 rfl rfl rfl)
      have hc := (hJ.cell (p := ⟨g, 1, none⟩) hgl).trans hx1
      refine wp_value (v := .slice B m d) (w' := w1) ?_ (hK _ _ hJ (Below.refl _ _) rfl)
      clear hK hD hA hJ
      go_simp
    · intro a w1 hJ hA hD K hK
      refine duty_yes rfl rfl rfl (hA.lt 23 (by kernel_rfl)) (given_at hD 6 rfl rfl rfl) ?_
      have h27 : a.tmps[27]?.getD undef = .slice B m d := eval_get (given_at hD 10 rfl rfl rfl)
      refine wp_value (v := .int .i64 (m : Int)) (w' := w1) ?_ (hK _ _ hJ (Below.refl _ _) rfl)
      clear hK hD hA hJ
      go_simp
    · intro a w1 hJ hA hD K hK
      refine duty_yes rfl rfl rfl (hA.lt 23 (by kernel_rfl)) (given_at hD 6 rfl rfl rfl) ?_
      have h25 : a.tmps[25]?.getD undef = .int .i64 (m : Int) := eval_get (given_at hD 8 rfl rfl rfl)
      have h28 : a.tmps[28]?.getD undef = .int .i64 (m : Int) := eval_get (given_at hD 11 rfl rfl rfl)
      refine wp_value (v := .bool false) (w' := w1) ?_ (hK _ _ hJ (Below.refl _ _) rfl)
      clear hK hD hA hJ
      go_simp
    · intro a w1 hJ hA hD K hK
      refine duty_plain rfl ?_
      have h23 : a.tmps[23]?.getD undef = .bool false := eval_get (given_at hD 6 rfl rfl rfl)
      have h29 : a.tmps[29]?.getD undef = .bool false := eval_get (given_at hD 12 rfl rfl rfl)
      refine wp_value (v := .bool false) (w' := w1) ?_ (hK _ _ hJ (Below.refl _ _) rfl)
      clear hK hD hA hJ
      go_simp
    · intro a w1 hJ hA hD K hK
      refine duty_plain rfl ?_
      have h30 : a.tmps[30]?.getD undef = .bool false := eval_get (given_at hD 13 rfl rfl rfl)
      refine wp_value (v := .bool false) (w' := w1) ?_ (hK _ _ hJ (Below.refl _ _) rfl)
      clear hK hD hA hJ
      go_simp
    · intro a w1 hJ hA hD K hK
      refine duty_yes rfl rfl rfl (hA.lt 31 (by kernel_rfl)) (given_at hD 14 rfl rfl rfl) ?_
      have h0 : a.tmps[0]?.getD undef = .pointer (some ⟨p, 0, none⟩) := eval_get (hA.at_ 0 (by kernel_rfl))
      refine wp_value (v := .pointer (some ⟨p, 0, none⟩)) (w' := w1) ?_ (hK _ _ hJ (Below.refl _ _) rfl)
      clear hK hD hA hJ
      go_simp
    · intro a w1 hJ hA hD K hK
      refine duty_yes rfl rfl rfl (hA.lt 31 (by kernel_rfl)) (given_at hD 14 rfl rfl rfl) ?_
      have h2 : a.tmps[2]?.getD undef = .int .i64 dur := eval_get (hA.at_ 2 (by kernel_rfl))
      refine wp_value (v := .int .i64 dur) (w' := w1) ?_ (hK _ _ hJ (Below.refl _ _) rfl)
      clear hK hD hA hJ
      go_simp
    · intro a w1 hJ hA hD K hK
      refine duty_yes rfl rfl rfl (hA.lt 31 (by kernel_rfl)) (given_at hD 14 rfl rfl rfl) ?_
      have h32 : a.tmps[32]?.getD undef = .pointer (some ⟨p, 0, none⟩) := eval_get (given_at hD 15 rfl rfl rfl)
      have h33 : a.tmps[33]?.getD undef = .int .i64 dur := eval_get (given_at hD 16 rfl rfl rfl)
      refine wp_enter (f := 13) (args := #[.pointer (some ⟨p, 0, none⟩), .int .i64 dur]) (w' := w1) ?_ (Calls.mono (H34.out w1 hJ) ?_)
      · clear hK hD hA hJ
        go_simp
      · rintro e w2 ⟨⟨A', c', rfl, hr⟩, hb2⟩
        exact ⟨_, rfl, hK _ _ (hJ.trans (hb2.mono hJ.size)) hb2 ⟨A', c', rfl, hr⟩⟩
    · intro a w1 hJ hA hD K hK
      refine duty_yes rfl rfl rfl (hA.lt 31 (by kernel_rfl)) (given_at hD 14 rfl rfl rfl) ?_
      have h4 : a.tmps[4]?.getD undef = .pointer (some ⟨g, 0, none⟩) := eval_get (hA.at_ 4 (by kernel_rfl))
      have hc := (hJ.cell (p := ⟨g, 0, none⟩) hgl).trans hx0
      have hc' := (hJ.cell (p := ⟨g, 1, none⟩) hgl).trans hx1
      refine wp_value (v := .agg #[.slice A n c, .slice B m d]) (w' := w1) ?_ (hK _ _ hJ (Below.refl _ _) rfl)
      clear hK hD hA hJ
      go_simp
    · intro a w1 hJ hA hD K hK
      refine duty_yes rfl rfl rfl (hA.lt 31 (by kernel_rfl)) (given_at hD 14 rfl rfl rfl) ?_
      have h2 : a.tmps[2]?.getD undef = .int .i64 dur := eval_get (hA.at_ 2 (by kernel_rfl))
      refine wp_value (v := .int .i64 dur) (w' := w1) ?_ (hK _ _ hJ (Below.refl _ _) rfl)
      clear hK hD hA hJ
      go_simp
    · intro a w1 hJ hA hD K hK
      refine duty_yes rfl rfl rfl (hA.lt 31 (by kernel_rfl)) (given_at hD 14 rfl rfl rfl) ?_
      have h35 : a.tmps[35]?.getD undef = .agg #[.slice A n c, .slice B m d] := eval_get (given_at hD 18 rfl rfl rfl)
      have h36 : a.tmps[36]?.getD undef = .int .i64 dur := eval_get (given_at hD 19 rfl rfl rfl)
      refine wp_enter (f := 50) (args := #[.agg #[.slice A n c, .slice B m d], .int .i64 dur]) (w' := w1) ?_ (Calls.mono (H37.out w1 hJ) ?_)
      · clear hK hD hA hJ
        go_simp
      · rintro e w2 ⟨⟨A', c', rfl, hr⟩, hb2⟩
        exact ⟨_, rfl, hK _ _ (hJ.trans (hb2.mono hJ.size)) hb2 ⟨A', c', rfl, hr⟩⟩
    · intro a w1 hJ hA hD K hK
      refine duty_yes rfl rfl rfl (hA.lt 31 (by kernel_rfl)) (given_at hD 14 rfl rfl rfl) ?_
      have hv1 : ∃ A' c', a.eval (.tmp 34) = .slice A' q.length c' ∧ RdI w1 A' q := given_at hD 17 rfl rfl rfl
      have hv2 : ∃ A' c', a.eval (.tmp 37) = .slice A' q.length c' ∧ RdI w1 A' q := given_at hD 20 rfl rfl rfl
      obtain ⟨A1, c1, e1, r1⟩ := hv1
      obtain ⟨A2, c2, e2, r2⟩ := hv2
      have ha := eval_get e1
      have hb := eval_get e2
      refine wp_enter (f := 31) (args := #[.slice A1 q.length c1, .slice A2 q.length c2]) (w' := w1) ?_ (Calls.mono (H38.out w1 A1 c1 A2 c2 r1 r2) ?_)
      · clear hK hD hA hJ
        go_simp
      · rintro e w2 ⟨rfl, hb2⟩
        exact ⟨_, rfl, hK _ _ (hJ.trans (hb2.mono hJ.size)) hb2 rfl⟩
    · intro a w1 hJ hA hD K hK
      refine duty_yes rfl rfl rfl (hA.lt 31 (by kernel_rfl)) (given_at hD 14 rfl rfl rfl) ?_
      have h38 : a.tmps[38]?.getD undef = .bool true := eval_get (given_at hD 21 rfl rfl rfl)
      refine wp_value (v := .bool false) (w' := w1) ?_ (hK _ _ hJ (Below.refl _ _) rfl)
      clear hK hD hA hJ
      go_simp
    · intro a w1 hJ hA hD K hK
      refine duty_plain rfl ?_
      have h31 : a.tmps[31]?.getD undef = .bool false := eval_get (given_at hD 14 rfl rfl rfl)
      have h39 : a.tmps[39]?.getD undef = .bool false := eval_get (given_at hD 22 rfl rfl rfl)
      refine wp_value (v := .bool false) (w' := w1) ?_ (hK _ _ hJ (Below.refl _ _) rfl)
      clear hK hD hA hJ
      go_simp
    · intro a w1 hJ hA hD K hK
      refine duty_plain rfl ?_
      have h40 : a.tmps[40]?.getD undef = .bool false := eval_get (given_at hD 23 rfl rfl rfl)
      refine wp_value (v := .bool false) (w' := w1) ?_ (hK _ _ hJ (Below.refl _ _) rfl)
      clear hK hD hA hJ
      go_simp
    · intro a w1 hJ hA hD K hK
      refine duty_yes rfl rfl rfl (hA.lt 41 (by kernel_rfl)) (given_at hD 24 rfl rfl rfl) ?_
      have h0 : a.tmps[0]?.getD undef = .pointer (some ⟨p, 0, none⟩) := eval_get (hA.at_ 0 (by kernel_rfl))
      refine wp_value (v := .pointer (some ⟨p, 0, none⟩)) (w' := w1) ?_ (hK _ _ hJ (Below.refl _ _) rfl)
      clear hK hD hA hJ
      go_simp
    · intro a w1 hJ hA hD K hK
      refine duty_yes rfl rfl rfl (hA.lt 41 (by kernel_rfl)) (given_at hD 24 rfl rfl rfl) ?_
      have h42 : a.tmps[42]?.getD undef = .pointer (some ⟨p, 0, none⟩) := eval_get (given_at hD 25 rfl rfl rfl)
      refine wp_enter (f := 21) (args := #[.pointer (some ⟨p, 0, none⟩)]) (w' := w1) ?_ (Calls.mono (H43.out w1 hJ) ?_)
      · clear hK hD hA hJ
        go_simp
      · rintro e w2 ⟨rfl, hb2⟩
        exact ⟨_, rfl, hK _ _ (hJ.trans (hb2.mono hJ.size)) hb2 rfl⟩
    · intro a w1 hJ hA hD K hK
      refine duty_yes rfl rfl rfl (hA.lt 41 (by kernel_rfl)) (given_at hD 24 rfl rfl rfl) ?_
      have h4 : a.tmps[4]?.getD undef = .pointer (some ⟨g, 0, none⟩) := eval_get (hA.at_ 4 (by kernel_rfl))
      have hc := (hJ.cell (p := ⟨g, 0, none⟩) hgl).trans hx0
      have hc' := (hJ.cell (p := ⟨g, 1, none⟩) hgl).trans hx1
      refine wp_value (v := .agg #[.slice A n c, .slice B m d]) (w' := w1) ?_ (hK _ _ hJ (Below.refl _ _) rfl)
      clear hK hD hA hJ
      go_simp
    · intro a w1 hJ hA hD K hK
      refine duty_yes rfl rfl rfl (hA.lt 41 (by kernel_rfl)) (given_at hD 24 rfl rfl rfl) ?_
      have h44 : a.tmps[44]?.getD undef = .agg #[.slice A n c, .slice B m d] := eval_get (given_at hD 27 rfl rfl rfl)
      refine wp_enter (f := 51) (args := #[.agg #[.slice A n c, .slice B m d]]) (w' := w1) ?_ (Calls.mono (H45.out w1 hJ) ?_)
      · clear hK hD hA hJ
        go_simp
      · rintro e w2 ⟨rfl, hb2⟩
        exact ⟨_, rfl, hK _ _ (hJ.trans (hb2.mono hJ.size)) hb2 rfl⟩
    · intro a w1 hJ hA hD K hK
      refine duty_yes rfl rfl rfl (hA.lt 41 (by kernel_rfl)) (given_at hD 24 rfl rfl rfl) ?_
      have h43 : a.tmps[43]?.getD undef = .string z := eval_get (given_at hD 26 rfl rfl rfl)
      have h45 : a.tmps[45]?.getD undef = .string z := eval_get (given_at hD 28 rfl rfl rfl)
      refine wp_value (v := .bool false) (w' := w1) ?_ (hK _ _ hJ (Below.refl _ _) rfl)
      clear hK hD hA hJ
      go_simp
    · intro a w1 hJ hA hD K hK
      refine duty_plain rfl ?_
      have h41 : a.tmps[41]?.getD undef = .bool false := eval_get (given_at hD 24 rfl rfl rfl)
      have h46 : a.tmps[46]?.getD undef = .bool false := eval_get (given_at hD 29 rfl rfl rfl)
      refine wp_value (v := .bool false) (w' := w1) ?_ (hK _ _ hJ (Below.refl _ _) rfl)
      clear hK hD hA hJ
      go_simp
  · intro a w' hJ hA hG
    have hv47 : a.tmps[47]?.getD undef = .bool false := eval_get (hG 30 _ _ rfl rfl)
    have ha : a = ⟨#[.pointer (some ⟨p, 0, none⟩), t1, .int .i64 dur, t3, .pointer (some ⟨g, 0, none⟩), t5, t6, .slice LA n lc, .slice LB m dc, t9, t10, t11, t12, t13, t14, t15, t16, a.tmps[17]?.getD undef, a.tmps[18]?.getD undef, a.tmps[19]?.getD undef, a.tmps[20]?.getD undef, a.tmps[21]?.getD undef, a.tmps[22]?.getD undef, a.tmps[23]?.getD undef, a.tmps[24]?.getD undef, a.tmps[25]?.getD undef, a.tmps[26]?.getD undef, a.tmps[27]?.getD undef, a.tmps[28]?.getD undef, a.tmps[29]?.getD undef, a.tmps[30]?.getD undef, a.tmps[31]?.getD undef, a.tmps[32]?.getD undef, a.tmps[33]?.getD undef, a.tmps[34]?.getD undef, a.tmps[35]?.getD undef, a.tmps[36]?.getD undef, a.tmps[37]?.getD undef, a.tmps[38]?.getD undef, a.tmps[39]?.getD undef, a.tmps[40]?.getD undef, a.tmps[41]?.getD undef, a.tmps[42]?.getD undef, a.tmps[43]?.getD undef, a.tmps[44]?.getD undef, a.tmps[45]?.getD undef, a.tmps[46]?.getD undef, .bool false, t48, t49, t50, t51, t52, t53, t54, t55, t56, t57, t58, t59, t60, t61, t62, t63, t64, t65, t66, t67, t68, t69, t70, t71, t72, t73, t74, t75, t76, t77, t78, t79, t80, t81, t82, t83, t84, t85, t86, t87, t88, t89, t90, t91, t92, t93, t94, t95, t96, t97, t98, t99, t100, t101, t102, t103, t104, t105, t106, t107, t108, t109, t110, t111, t112, t113, t114, t115, t116, t117, t118, t119, t120, t121, t122, t123, t124, t125, t126, t127, t128, t129, t130, t131, t132, t133, t134, t135, t136, t137, t138, t139, t140, t141, t142, t143, t144, t145, t146, t147, t148, t149, t150, t151, t152, t153], []⟩ := act_of ⟨eval_get (hA.at_ 0 (by kernel_rfl)), eval_get (hA.at_ 1 (by kernel_rfl)), eval_get (hA.at_ 2 (by kernel_rfl)), eval_get (hA.at_ 3 (by kernel_rfl)), eval_get (hA.at_ 4 (by kernel_rfl)), eval_get (hA.at_ 5 (by kernel_rfl)), eval_get (hA.at_ 6 (by kernel_rfl)), eval_get (hA.at_ 7 (by kernel_rfl)), eval_get (hA.at_ 8 (by kernel_rfl)), eval_get (hA.at_ 9 (by kernel_rfl)), eval_get (hA.at_ 10 (by kernel_rfl)), eval_get (hA.at_ 11 (by kernel_rfl)), eval_get (hA.at_ 12 (by kernel_rfl)), eval_get (hA.at_ 13 (by kernel_rfl)), eval_get (hA.at_ 14 (by kernel_rfl)), eval_get (hA.at_ 15 (by kernel_rfl)), eval_get (hA.at_ 16 (by kernel_rfl)), rfl, rfl, rfl, rfl, rfl, rfl, rfl, rfl, rfl, rfl, rfl, rfl, rfl, rfl, rfl, rfl, rfl, rfl, rfl, rfl, rfl, rfl, rfl, rfl, rfl, rfl, rfl, rfl, rfl, rfl, hv47, eval_get (hA.at_ 48 (by kernel_rfl)), eval_get (hA.at_ 49 (by kernel_rfl)), eval_get (hA.at_ 50 (by kernel_rfl)), eval_get (hA.at_ 51 (by kernel_rfl)), eval_get (hA.at_ 52 (by kernel_rfl)), eval_get (hA.at_ 53 (by kernel_rfl)), eval_get (hA.at_ 54 (by kernel_rfl)), eval_get (hA.at_ 55 (by kernel_rfl)), eval_get (hA.at_ 56 (by kernel_rfl)), eval_get (hA.at_ 57 (by kernel_rfl)), eval_get (hA.at_ 58 (by kernel_rfl)), eval_get (hA.at_ 59 (by kernel_rfl)), eval_get (hA.at_ 60 (by kernel_rfl)), eval_get (hA.at_ 61 (by kernel_rfl)), eval_get (hA.at_ 62 (by kernel_rfl)), eval_get (hA.at_ 63 (by kernel_rfl)), eval_get (hA.at_ 64 (by kernel_rfl)), eval_get (hA.at_ 65 (by kernel_rfl)), eval_get (hA.at_ 66 (by kernel_rfl)), eval_get (hA.at_ 67 (by kernel_rfl)), eval_get (hA.at_ 68 (by kernel_rfl)), eval_get (hA.at_ 69 (by kernel_rfl)), eval_get (hA.at_ 70 (by kernel_rfl)), eval_get (hA.at_ 71 (by kernel_rfl)), eval_get (hA.at_ 72 (by kernel_rfl)), eval_get (hA.at_ 73 (by kernel_rfl)), eval_get (hA.at_ 74 (by kernel_rfl)), eval_get (hA.at_ 75 (by kernel_rfl)), eval_get (hA.at_ 76 (by kernel_rfl)), eval_get (hA.at_ 77 (by kernel_rfl)), eval_get (hA.at_ 78 (by kernel_rfl)), eval_get (hA.at_ 79 (by kernel_rfl)), eval_get (hA.at_ 80 (by kernel_rfl)), eval_get (hA.at_ 81 (by kernel_rfl)), eval_get (hA.at_ 82 (by kernel_rfl)), eval_get (hA.at_ 83 (by kernel_rfl)), eval_get (hA.at_ 84 (by kernel_rfl)), eval_get (hA.at_ 85 (by kernel_rfl)), eval_get (hA.at_ 86 (by kernel_rfl)), eval_get (hA.at_ 87 (by kernel_rfl)), eval_get (hA.at_ 88 (by kernel_rfl)), eval_get (hA.at_ 89 (by kernel_rfl)), eval_get (hA.at_ 90 (by kernel_rfl)), eval_get (hA.at_ 91 (by kernel_rfl)), eval_get (hA.at_ 92 (by kernel_rfl)), eval_get (hA.at_ 93 (by kernel_rfl)), eval_get (hA.at_ 94 (by kernel_rfl)), eval_get (hA.at_ 95 (by kernel_rfl)), eval_get (hA.at_ 96 (by kernel_rfl)), eval_get (hA.at_ 97 (by kernel_rfl)), eval_get (hA.at_ 98 (by kernel_rfl)), eval_get (hA.at_ 99 (by kernel_rfl)), eval_get (hA.at_ 100 (by kernel_rfl)), eval_get (hA.at_ 101 (by kernel_rfl)), eval_get (hA.at_ 102 (by kernel_rfl)), eval_get (hA.at_ 103 (by kernel_rfl)), eval_get (hA.at_ 104 (by kernel_rfl)), eval_get (hA.at_ 105 (by kernel_rfl)), eval_get (hA.at_ 106 (by kernel_rfl)), eval_get (hA.at_ 107 (by kernel_rfl)), eval_get (hA.at_ 108 (by kernel_rfl)), eval_get (hA.at_ 109 (by kernel_rfl)), eval_get (hA.at_ 110 (by kernel_rfl)), eval_get (hA.at_ 111 (by kernel_rfl)), eval_get (hA.at_ 112 (by kernel_rfl)), eval_get (hA.at_ 113 (by kernel_rfl)), eval_get (hA.at_ 114 (by kernel_rfl)), eval_get (hA.at_ 115 (by kernel_rfl)), eval_get (hA.at_ 116 (by kernel_rfl)), eval_get (hA.at_ 117 (by kernel_rfl)), eval_get (hA.at_ 118 (by kernel_rfl)), eval_get (hA.at_ 119 (by kernel_rfl)), eval_get (hA.at_ 120 (by kernel_rfl)), eval_get (hA.at_ 121 (by kernel_rfl)), eval_get (hA.at_ 122 (by kernel_rfl)), eval_get (hA.at_ 123 (by kernel_rfl)), eval_get (hA.at_ 124 (by kernel_rfl)), eval_get (hA.at_ 125 (by kernel_rfl)), eval_get (hA.at_ 126 (by kernel_rfl)), eval_get (hA.at_ 127 (by kernel_rfl)), eval_get (hA.at_ 128 (by kernel_rfl)), eval_get (hA.at_ 129 (by kernel_rfl)), eval_get (hA.at_ 130 (by kernel_rfl)), eval_get (hA.at_ 131 (by kernel_rfl)), eval_get (hA.at_ 132 (by kernel_rfl)), eval_get (hA.at_ 133 (by kernel_rfl)), eval_get (hA.at_ 134 (by kernel_rfl)), eval_get (hA.at_ 135 (by kernel_rfl)), eval_get (hA.at_ 136 (by kernel_rfl)), eval_get (hA.at_ 137 (by kernel_rfl)), eval_get (hA.at_ 138 (by kernel_rfl)), eval_get (hA.at_ 139 (by kernel_rfl)), eval_get (hA.at_ 140 (by kernel_rfl)), eval_get (hA.at_ 141 (by kernel_rfl)), eval_get (hA.at_ 142 (by kernel_rfl)), eval_get (hA.at_ 143 (by kernel_rfl)), eval_get (hA.at_ 144 (by kernel_rfl)), eval_get (hA.at_ 145 (by kernel_rfl)), eval_get (hA.at_ 146 (by kernel_rfl)), eval_get (hA.at_ 147 (by kernel_rfl)), eval_get (hA.at_ 148 (by kernel_rfl)), eval_get (hA.at_ 149 (by kernel_rfl)), eval_get (hA.at_ 150 (by kernel_rfl)), eval_get (hA.at_ 151 (by kernel_rfl)), eval_get (hA.at_ 152 (by kernel_rfl)), eval_get (hA.at_ 153 (by kernel_rfl)), trivial⟩ hA.size hA.defers
    rw [ha]
    exact HK.out w' _ _ _ _ _ _ _ _ _ _ _ _ _ _ _ _ _ _ _ _ _ _ _ _ _ _ _ _ _ _ hJ


noncomputable def codesm9 : Code := ((Try.f24.body.bind (theRegion 9)).getD .skip)

def Rsm9 (p g n m lc c d i : Nat) (a1 b : Addr) (B : Option Addr) (nm : ByteArray) (x : Int) (q : List Bs) (j : Nat) (v : Value) (w : World) : Prop :=
  if j = 31 then ∃ A' c', v = .slice A' q.length c' ∧ RdS w A' q else if j = 37 then ∃ A' c', v = .slice A' q.length c' ∧ RdS w A' q else v = [.slice (some a1) n lc, .int .i64 (i : Int), .pointer (some (a1.add i)), .string nm, .pointer (some ⟨g, 0, none⟩), .slice (some b) n c, .int .i64 (i : Int), .pointer (some (b.add (i * 3))), .pointer (some (b.add (i * 3))), .string nm, .bool false, .bool false, .int .i64 x, .pointer (some ⟨g, 0, none⟩), .slice (some b) n c, .int .i64 (i : Int), .pointer (some (b.add (i * 3))), .pointer (some ⟨(b.add (i * 3)).block, (b.add (i * 3)).off + 1, none⟩), .int .i64 x, .bool false, .bool false, .bool false, .int .i64 0, .bool false, .bool false, .bool false, .pointer (some ⟨p, 0, none⟩), .slice (some a1) n lc, .int .i64 (i : Int), .pointer (some (a1.add i)), .string nm, undef, .agg #[.slice (some b) n c, .slice B m d], .slice (some a1) n lc, .int .i64 (i : Int), .pointer (some (a1.add i)), .string nm, undef, .bool true, .bool false, .bool false].getD j undef
theorem Rsm9_le (p g n m lc c d i : Nat) (a1 b : Addr) (B : Option Addr) (nm : ByteArray) (x : Int) (q : List Bs) : ∀ j v w w', Below w.heap.size w w' → Rsm9 p g n m lc c d i a1 b B nm x q j v w → Rsm9 p g n m lc c d i a1 b B nm x q j v w' := by
  intro j v w w' hb h
  unfold Rsm9 at h ⊢
  by_cases hj31 : j = 31
  · subst hj31
    simp only [reduceIte] at h ⊢
    obtain ⟨A', c', e, hr⟩ := h
    exact ⟨A', c', e, hr.below hb⟩
  rw [if_neg hj31] at h ⊢
  by_cases hj37 : j = 37
  · subst hj37
    simp only [reduceIte] at h ⊢
    obtain ⟨A', c', e, hr⟩ := h
    exact ⟨A', c', e, hr.below hb⟩
  rw [if_neg hj37] at h ⊢
  exact h

set_option maxRecDepth 1000000 in
set_option maxHeartbeats 4000000 in
theorem sm9 (Q : Exit → Act → World → Prop) (p g n m lc c d i : Nat) (a1 b : Addr) (B : Option Addr) (nm : ByteArray) (x : Int) (q : List Bs) (w : World)
    (hgl : g < w.heap.size)
    (hx0 : w.cell? ⟨g, 0, none⟩ = some (.slice (some b) n c))
    (hx1 : w.cell? ⟨g, 1, none⟩ = some (.slice B m d))
    (ha1 : a1.block < w.heap.size)
    (hn0 : w.cell? (a1.add i) = some (.string nm))
    (hbl : b.block < w.heap.size)
    (hc0 : w.cell? (b.add (i * 3)) = some (.string nm))
    (hc1 : w.cell? ⟨(b.add (i * 3)).block, (b.add (i * 3)).off + 1, none⟩ = some (.int .i64 x))
    (hi0 : (0 : Int) ≤ (i : Int))
    (hi1 : (i : Int) < (n : Int))
    (H94 : ∀ W, Below w.heap.size w W → Calls Try.prog 26 #[.pointer (some ⟨p, 0, none⟩), .string nm] W fun e w' => (∃ A' c', e = .returned (.slice A' q.length c') ∧ RdS w' A' q) ∧ Below W.heap.size W w')
    (H100 : ∀ W, Below w.heap.size w W → Calls Try.prog 52 #[.agg #[.slice (some b) n c, .slice B m d], .string nm] W fun e w' => (∃ A' c', e = .returned (.slice A' q.length c') ∧ RdS w' A' q) ∧ Below W.heap.size W w')
    (H101 : ∀ W A1 c1 A2 c2, RdS W A1 q → RdS W A2 q → Calls Try.prog 30 #[.slice A1 q.length c1, .slice A2 q.length c2] W fun e w' => e = .returned (.bool true) ∧ Below W.heap.size W w')
    (t1 t2 t3 t5 t6 t8 t12 t13 t14 t15 t16 t17 t18 t19 t20 t21 t22 t23 t24 t25 t26 t27 t28 t29 t30 t31 t32 t33 t34 t35 t36 t37 t38 t39 t40 t41 t42 t43 t44 t45 t46 t47 t48 t49 t50 t51 t52 t53 t54 t55 t56 t57 t58 t59 t60 t61 t62 t63 t64 t65 t66 t67 t68 t69 t70 t71 t72 t73 t74 t75 t76 t77 t78 t79 t80 t81 t82 t83 t84 t85 t86 t87 t88 t89 t90 t91 t92 t93 t94 t95 t96 t97 t98 t99 t100 t101 t102 t103 t104 t105 t106 t107 t108 t109 t110 t111 t112 t113 t114 t115 t116 t117 t118 t119 t120 t121 t122 t123 t124 t125 t126 t127 t128 t129 t130 t131 t132 t133 t134 t135 t136 t137 t138 t139 t140 t141 t142 t143 t144 t145 t146 t147 t148 t149 t150 t151 t152 t153 : Value) (hK : ∀ (w' : World) (s63 s64 s65 s66 s67 s68 s69 s70 s71 s72 s73 s74 s75 s76 s77 s78 s79 s80 s81 s82 s83 s84 s85 s86 s87 s88 s89 s90 s91 s92 s93 s94 s95 s96 s97 s98 s99 s100 s101 s102 : Value), Below w.heap.size w w' → Q .normal ⟨#[.pointer (some ⟨p, 0, none⟩), t1, t2, t3, .pointer (some ⟨g, 0, none⟩), t5, t6, .slice (some a1) n lc, t8, .int .i64 (i : Int), .int .i64 x, .int .i64 0, t12, t13, t14, t15, t16, t17, t18, t19, t20, t21, t22, t23, t24, t25, t26, t27, t28, t29, t30, t31, t32, t33, t34, t35, t36, t37, t38, t39, t40, t41, t42, t43, t44, t45, t46, t47, t48, t49, t50, t51, t52, t53, t54, t55, t56, t57, t58, t59, t60, t61, t62, s63, s64, s65, s66, s67, s68, s69, s70, s71, s72, s73, s74, s75, s76, s77, s78, s79, s80, s81, s82, s83, s84, s85, s86, s87, s88, s89, s90, s91, s92, s93, s94, s95, s96, s97, s98, s99, s100, s101, s102, .bool false, t104, t105, t106, t107, t108, t109, t110, t111, t112, t113, t114, t115, t116, t117, t118, t119, t120, t121, t122, t123, t124, t125, t126, t127, t128, t129, t130, t131, t132, t133, t134, t135, t136, t137, t138, t139, t140, t141, t142, t143, t144, t145, t146, t147, t148, t149, t150, t151, t152, t153], []⟩ w') :
    Code.wp Try.prog codesm9 Q ⟨#[.pointer (some ⟨p, 0, none⟩), t1, t2, t3, .pointer (some ⟨g, 0, none⟩), t5, t6, .slice (some a1) n lc, t8, .int .i64 (i : Int), .int .i64 x, .int .i64 0, t12, t13, t14, t15, t16, t17, t18, t19, t20, t21, t22, t23, t24, t25, t26, t27, t28, t29, t30, t31, t32, t33, t34, t35, t36, t37, t38, t39, t40, t41, t42, t43, t44, t45, t46, t47, t48, t49, t50, t51, t52, t53, t54, t55, t56, t57, t58, t59, t60, t61, t62, t63, t64, t65, t66, t67, t68, t69, t70, t71, t72, t73, t74, t75, t76, t77, t78, t79, t80, t81, t82, t83, t84, t85, t86, t87, t88, t89, t90, t91, t92, t93, t94, t95, t96, t97, t98, t99, t100, t101, t102, t103, t104, t105, t106, t107, t108, t109, t110, t111, t112, t113, t114, t115, t116, t117, t118, t119, t120, t121, t122, t123, t124, t125, t126, t127, t128, t129, t130, t131, t132, t133, t134, t135, t136, t137, t138, t139, t140, t141, t142, t143, t144, t145, t146, t147, t148, t149, t150, t151, t152, t153], []⟩ w := by
  replace H94 := Lib.hid H94
  replace H100 := Lib.hid H100
  replace H101 := Lib.hid H101
  have HK := Lib.hid hK
  clear hK
  conv => arg 2; whnf
  refine wp_flow (P := Try.prog) (by kernel_rfl) (by kernel_rfl) (fun W => Below w.heap.size w W) (Rsm9 p g n m lc c d i a1 b B nm x q) (fun W W' => Below W.heap.size W W') (Below.refl _ _).drew (Rsm9_le p g n m lc c d i a1 b B nm x q) ?_ ?_
  · refine ⟨?_, ?_, ?_, ?_, ?_, ?_, ?_, ?_, ?_, ?_, ?_, ?_, ?_, ?_, ?_, ?_, ?_, ?_, ?_, ?_, ?_, ?_, ?_, ?_, ?_, ?_, ?_, ?_, ?_, ?_, ?_, ?_, ?_, ?_, ?_, ?_, ?_, ?_, ?_, ?_, ?_, trivial⟩
    · intro a w1 hJ hA hD K hK
      refine duty_plain rfl ?_
      have h7 : a.tmps[7]?.getD undef = .slice (some a1) n lc := eval_get (hA.at_ 7 (by kernel_rfl))
      refine wp_value (v := .slice (some a1) n lc) (w' := w1) ?_ (hK _ _ hJ (Below.refl _ _) rfl)
      clear hK hD hA hJ
      go_simp
    · intro a w1 hJ hA hD K hK
      refine duty_plain rfl ?_
      have h9 : a.tmps[9]?.getD undef = .int .i64 (i : Int) := eval_get (hA.at_ 9 (by kernel_rfl))
      refine wp_value (v := .int .i64 (i : Int)) (w' := w1) ?_ (hK _ _ hJ (Below.refl _ _) rfl)
      clear hK hD hA hJ
      go_simp
    · intro a w1 hJ hA hD K hK
      refine duty_plain rfl ?_
      have h63 : a.tmps[63]?.getD undef = .slice (some a1) n lc := eval_get (given_at hD 0 rfl rfl rfl)
      have h64 : a.tmps[64]?.getD undef = .int .i64 (i : Int) := eval_get (given_at hD 1 rfl rfl rfl)
      refine wp_value (v := .pointer (some (a1.add i))) (w' := w1) ?_ (hK _ _ hJ (Below.refl _ _) rfl)
      clear hK hD hA hJ
      go_simp
    · intro a w1 hJ hA hD K hK
      refine duty_plain rfl ?_
      have h65 : a.tmps[65]?.getD undef = .pointer (some (a1.add i)) := eval_get (given_at hD 2 rfl rfl rfl)
      have hc := (hJ.cell (p := a1.add i) (by rw [add_block]; exact ha1)).trans hn0
      refine wp_value (v := .string nm) (w' := w1) ?_ (hK _ _ hJ (Below.refl _ _) rfl)
      clear hK hD hA hJ
      go_simp
    · intro a w1 hJ hA hD K hK
      refine duty_plain rfl ?_
      have h4 : a.tmps[4]?.getD undef = .pointer (some ⟨g, 0, none⟩) := eval_get (hA.at_ 4 (by kernel_rfl))
      refine wp_value (v := .pointer (some ⟨g, 0, none⟩)) (w' := w1) ?_ (hK _ _ hJ (Below.refl _ _) rfl)
      clear hK hD hA hJ
      go_simp
    · intro a w1 hJ hA hD K hK
      refine duty_plain rfl ?_
      have h67 : a.tmps[67]?.getD undef = .pointer (some ⟨g, 0, none⟩) := eval_get (given_at hD 4 rfl rfl rfl)
      have hc := (hJ.cell (p := ⟨g, 0, none⟩) hgl).trans hx0
      refine wp_value (v := .slice (some b) n c) (w' := w1) ?_ (hK _ _ hJ (Below.refl _ _) rfl)
      clear hK hD hA hJ
      go_simp
    · intro a w1 hJ hA hD K hK
      refine duty_plain rfl ?_
      have h9 : a.tmps[9]?.getD undef = .int .i64 (i : Int) := eval_get (hA.at_ 9 (by kernel_rfl))
      refine wp_value (v := .int .i64 (i : Int)) (w' := w1) ?_ (hK _ _ hJ (Below.refl _ _) rfl)
      clear hK hD hA hJ
      go_simp
    · intro a w1 hJ hA hD K hK
      refine duty_plain rfl ?_
      have h68 : a.tmps[68]?.getD undef = .slice (some b) n c := eval_get (given_at hD 5 rfl rfl rfl)
      have h69 : a.tmps[69]?.getD undef = .int .i64 (i : Int) := eval_get (given_at hD 6 rfl rfl rfl)
      refine wp_value (v := .pointer (some (b.add (i * 3)))) (w' := w1) ?_ (hK _ _ hJ (Below.refl _ _) rfl)
      clear hK hD hA hJ
      go_simp
    · intro a w1 hJ hA hD K hK
      refine duty_plain rfl ?_
      have h70 : a.tmps[70]?.getD undef = .pointer (some (b.add (i * 3))) := eval_get (given_at hD 7 rfl rfl rfl)
      refine wp_value (v := .pointer (some (b.add (i * 3)))) (w' := w1) ?_ (hK _ _ hJ (Below.refl _ _) rfl)
      clear hK hD hA hJ
      go_simp
    · intro a w1 hJ hA hD K hK
      refine duty_plain rfl ?_
      have h71 : a.tmps[71]?.getD undef = .pointer (some (b.add (i * 3))) := eval_get (given_at hD 8 rfl rfl rfl)
      have hc := (hJ.cell (p := b.add (i * 3)) (by rw [add_block]; exact hbl)).trans hc0
      refine wp_value (v := .string nm) (w' := w1) ?_ (hK _ _ hJ (Below.refl _ _) rfl)
      clear hK hD hA hJ
      go_simp
    · intro a w1 hJ hA hD K hK
      refine duty_plain rfl ?_
      have h66 : a.tmps[66]?.getD undef = .string nm := eval_get (given_at hD 3 rfl rfl rfl)
      have h72 : a.tmps[72]?.getD undef = .string nm := eval_get (given_at hD 9 rfl rfl rfl)
      refine wp_value (v := .bool false) (w' := w1) ?_ (hK _ _ hJ (Below.refl _ _) rfl)
      clear hK hD hA hJ
      go_simp
    · intro a w1 hJ hA hD K hK
      refine duty_plain rfl ?_
      have h73 : a.tmps[73]?.getD undef = .bool false := eval_get (given_at hD 10 rfl rfl rfl)
      refine wp_value (v := .bool false) (w' := w1) ?_ (hK _ _ hJ (Below.refl _ _) rfl)
      clear hK hD hA hJ
      go_simp
    · intro a w1 hJ hA hD K hK
      refine duty_yes rfl rfl rfl (hA.lt 74 (by kernel_rfl)) (given_at hD 11 rfl rfl rfl) ?_
      have h10 : a.tmps[10]?.getD undef = .int .i64 x := eval_get (hA.at_ 10 (by kernel_rfl))
      refine wp_value (v := .int .i64 x) (w' := w1) ?_ (hK _ _ hJ (Below.refl _ _) rfl)
      clear hK hD hA hJ
      go_simp
    · intro a w1 hJ hA hD K hK
      refine duty_yes rfl rfl rfl (hA.lt 74 (by kernel_rfl)) (given_at hD 11 rfl rfl rfl) ?_
      have h4 : a.tmps[4]?.getD undef = .pointer (some ⟨g, 0, none⟩) := eval_get (hA.at_ 4 (by kernel_rfl))
      refine wp_value (v := .pointer (some ⟨g, 0, none⟩)) (w' := w1) ?_ (hK _ _ hJ (Below.refl _ _) rfl)
      clear hK hD hA hJ
      go_simp
    · intro a w1 hJ hA hD K hK
      refine duty_yes rfl rfl rfl (hA.lt 74 (by kernel_rfl)) (given_at hD 11 rfl rfl rfl) ?_
      have h76 : a.tmps[76]?.getD undef = .pointer (some ⟨g, 0, none⟩) := eval_get (given_at hD 13 rfl rfl rfl)
      have hc := (hJ.cell (p := ⟨g, 0, none⟩) hgl).trans hx0
      refine wp_value (v := .slice (some b) n c) (w' := w1) ?_ (hK _ _ hJ (Below.refl _ _) rfl)
      clear hK hD hA hJ
      go_simp
    · intro a w1 hJ hA hD K hK
      refine duty_yes rfl rfl rfl (hA.lt 74 (by kernel_rfl)) (given_at hD 11 rfl rfl rfl) ?_
      have h9 : a.tmps[9]?.getD undef = .int .i64 (i : Int) := eval_get (hA.at_ 9 (by kernel_rfl))
      refine wp_value (v := .int .i64 (i : Int)) (w' := w1) ?_ (hK _ _ hJ (Below.refl _ _) rfl)
      clear hK hD hA hJ
      go_simp
    · intro a w1 hJ hA hD K hK
      refine duty_yes rfl rfl rfl (hA.lt 74 (by kernel_rfl)) (given_at hD 11 rfl rfl rfl) ?_
      have h77 : a.tmps[77]?.getD undef = .slice (some b) n c := eval_get (given_at hD 14 rfl rfl rfl)
      have h78 : a.tmps[78]?.getD undef = .int .i64 (i : Int) := eval_get (given_at hD 15 rfl rfl rfl)
      refine wp_value (v := .pointer (some (b.add (i * 3)))) (w' := w1) ?_ (hK _ _ hJ (Below.refl _ _) rfl)
      clear hK hD hA hJ
      go_simp
    · intro a w1 hJ hA hD K hK
      refine duty_yes rfl rfl rfl (hA.lt 74 (by kernel_rfl)) (given_at hD 11 rfl rfl rfl) ?_
      have h79 : a.tmps[79]?.getD undef = .pointer (some (b.add (i * 3))) := eval_get (given_at hD 16 rfl rfl rfl)
      refine wp_value (v := .pointer (some ⟨(b.add (i * 3)).block, (b.add (i * 3)).off + 1, none⟩)) (w' := w1) ?_ (hK _ _ hJ (Below.refl _ _) rfl)
      clear hK hD hA hJ
      go_simp
    · intro a w1 hJ hA hD K hK
      refine duty_yes rfl rfl rfl (hA.lt 74 (by kernel_rfl)) (given_at hD 11 rfl rfl rfl) ?_
      have h80 : a.tmps[80]?.getD undef = .pointer (some ⟨(b.add (i * 3)).block, (b.add (i * 3)).off + 1, none⟩) := eval_get (given_at hD 17 rfl rfl rfl)
      have hc := (hJ.cell (p := ⟨(b.add (i * 3)).block, (b.add (i * 3)).off + 1, none⟩) (by show (b.add (i * 3)).block < _; rw [add_block]; exact hbl)).trans hc1
      refine wp_value (v := .int .i64 x) (w' := w1) ?_ (hK _ _ hJ (Below.refl _ _) rfl)
      clear hK hD hA hJ
      go_simp
    · intro a w1 hJ hA hD K hK
      refine duty_yes rfl rfl rfl (hA.lt 74 (by kernel_rfl)) (given_at hD 11 rfl rfl rfl) ?_
      have h75 : a.tmps[75]?.getD undef = .int .i64 x := eval_get (given_at hD 12 rfl rfl rfl)
      have h81 : a.tmps[81]?.getD undef = .int .i64 x := eval_get (given_at hD 18 rfl rfl rfl)
      refine wp_value (v := .bool false) (w' := w1) ?_ (hK _ _ hJ (Below.refl _ _) rfl)
      clear hK hD hA hJ
      go_simp
    · intro a w1 hJ hA hD K hK
      refine duty_plain rfl ?_
      have h74 : a.tmps[74]?.getD undef = .bool false := eval_get (given_at hD 11 rfl rfl rfl)
      have h82 : a.tmps[82]?.getD undef = .bool false := eval_get (given_at hD 19 rfl rfl rfl)
      refine wp_value (v := .bool false) (w' := w1) ?_ (hK _ _ hJ (Below.refl _ _) rfl)
      clear hK hD hA hJ
      go_simp
    · intro a w1 hJ hA hD K hK
      refine duty_plain rfl ?_
      have h83 : a.tmps[83]?.getD undef = .bool false := eval_get (given_at hD 20 rfl rfl rfl)
      refine wp_value (v := .bool false) (w' := w1) ?_ (hK _ _ hJ (Below.refl _ _) rfl)
      clear hK hD hA hJ
      go_simp
    · intro a w1 hJ hA hD K hK
      refine duty_yes rfl rfl rfl (hA.lt 84 (by kernel_rfl)) (given_at hD 21 rfl rfl rfl) ?_
      have h11 : a.tmps[11]?.getD undef = .int .i64 0 := eval_get (hA.at_ 11 (by kernel_rfl))
      refine wp_value (v := .int .i64 0) (w' := w1) ?_ (hK _ _ hJ (Below.refl _ _) rfl)
      clear hK hD hA hJ
      go_simp
    · intro a w1 hJ hA hD K hK
      refine duty_yes rfl rfl rfl (hA.lt 84 (by kernel_rfl)) (given_at hD 21 rfl rfl rfl) ?_
      have h85 : a.tmps[85]?.getD undef = .int .i64 0 := eval_get (given_at hD 22 rfl rfl rfl)
      refine wp_value (v := .bool false) (w' := w1) ?_ (hK _ _ hJ (Below.refl _ _) rfl)
      clear hK hD hA hJ
      go_simp
    · intro a w1 hJ hA hD K hK
      refine duty_plain rfl ?_
      have h84 : a.tmps[84]?.getD undef = .bool false := eval_get (given_at hD 21 rfl rfl rfl)
      have h86 : a.tmps[86]?.getD undef = .bool false := eval_get (given_at hD 23 rfl rfl rfl)
      refine wp_value (v := .bool false) (w' := w1) ?_ (hK _ _ hJ (Below.refl _ _) rfl)
      clear hK hD hA hJ
      go_simp
    · intro a w1 hJ hA hD K hK
      refine duty_plain rfl ?_
      have h87 : a.tmps[87]?.getD undef = .bool false := eval_get (given_at hD 24 rfl rfl rfl)
      refine wp_value (v := .bool false) (w' := w1) ?_ (hK _ _ hJ (Below.refl _ _) rfl)
      clear hK hD hA hJ
      go_simp
    · intro a w1 hJ hA hD K hK
      refine duty_yes rfl rfl rfl (hA.lt 88 (by kernel_rfl)) (given_at hD 25 rfl rfl rfl) ?_
      have h0 : a.tmps[0]?.getD undef = .pointer (some ⟨p, 0, none⟩) := eval_get (hA.at_ 0 (by kernel_rfl))
      refine wp_value (v := .pointer (some ⟨p, 0, none⟩)) (w' := w1) ?_ (hK _ _ hJ (Below.refl _ _) rfl)
      clear hK hD hA hJ
      go_simp
    · intro a w1 hJ hA hD K hK
      refine duty_yes rfl rfl rfl (hA.lt 88 (by kernel_rfl)) (given_at hD 25 rfl rfl rfl) ?_
      have h7 : a.tmps[7]?.getD undef = .slice (some a1) n lc := eval_get (hA.at_ 7 (by kernel_rfl))
      refine wp_value (v := .slice (some a1) n lc) (w' := w1) ?_ (hK _ _ hJ (Below.refl _ _) rfl)
      clear hK hD hA hJ
      go_simp
    · intro a w1 hJ hA hD K hK
      refine duty_yes rfl rfl rfl (hA.lt 88 (by kernel_rfl)) (given_at hD 25 rfl rfl rfl) ?_
      have h9 : a.tmps[9]?.getD undef = .int .i64 (i : Int) := eval_get (hA.at_ 9 (by kernel_rfl))
      refine wp_value (v := .int .i64 (i : Int)) (w' := w1) ?_ (hK _ _ hJ (Below.refl _ _) rfl)
      clear hK hD hA hJ
      go_simp
    · intro a w1 hJ hA hD K hK
      refine duty_yes rfl rfl rfl (hA.lt 88 (by kernel_rfl)) (given_at hD 25 rfl rfl rfl) ?_
      have h90 : a.tmps[90]?.getD undef = .slice (some a1) n lc := eval_get (given_at hD 27 rfl rfl rfl)
      have h91 : a.tmps[91]?.getD undef = .int .i64 (i : Int) := eval_get (given_at hD 28 rfl rfl rfl)
      refine wp_value (v := .pointer (some (a1.add i))) (w' := w1) ?_ (hK _ _ hJ (Below.refl _ _) rfl)
      clear hK hD hA hJ
      go_simp
    · intro a w1 hJ hA hD K hK
      refine duty_yes rfl rfl rfl (hA.lt 88 (by kernel_rfl)) (given_at hD 25 rfl rfl rfl) ?_
      have h92 : a.tmps[92]?.getD undef = .pointer (some (a1.add i)) := eval_get (given_at hD 29 rfl rfl rfl)
      have hc := (hJ.cell (p := a1.add i) (by rw [add_block]; exact ha1)).trans hn0
      refine wp_value (v := .string nm) (w' := w1) ?_ (hK _ _ hJ (Below.refl _ _) rfl)
      clear hK hD hA hJ
      go_simp
    · intro a w1 hJ hA hD K hK
      refine duty_yes rfl rfl rfl (hA.lt 88 (by kernel_rfl)) (given_at hD 25 rfl rfl rfl) ?_
      have h89 : a.tmps[89]?.getD undef = .pointer (some ⟨p, 0, none⟩) := eval_get (given_at hD 26 rfl rfl rfl)
      have h93 : a.tmps[93]?.getD undef = .string nm := eval_get (given_at hD 30 rfl rfl rfl)
      refine wp_enter (f := 26) (args := #[.pointer (some ⟨p, 0, none⟩), .string nm]) (w' := w1) ?_ (Calls.mono (H94.out w1 hJ) ?_)
      · clear hK hD hA hJ
        go_simp
      · rintro e w2 ⟨⟨A', c', rfl, hr⟩, hb2⟩
        exact ⟨_, rfl, hK _ _ (hJ.trans (hb2.mono hJ.size)) hb2 ⟨A', c', rfl, hr⟩⟩
    · intro a w1 hJ hA hD K hK
      refine duty_yes rfl rfl rfl (hA.lt 88 (by kernel_rfl)) (given_at hD 25 rfl rfl rfl) ?_
      have h4 : a.tmps[4]?.getD undef = .pointer (some ⟨g, 0, none⟩) := eval_get (hA.at_ 4 (by kernel_rfl))
      have hc := (hJ.cell (p := ⟨g, 0, none⟩) hgl).trans hx0
      have hc' := (hJ.cell (p := ⟨g, 1, none⟩) hgl).trans hx1
      refine wp_value (v := .agg #[.slice (some b) n c, .slice B m d]) (w' := w1) ?_ (hK _ _ hJ (Below.refl _ _) rfl)
      clear hK hD hA hJ
      go_simp
    · intro a w1 hJ hA hD K hK
      refine duty_yes rfl rfl rfl (hA.lt 88 (by kernel_rfl)) (given_at hD 25 rfl rfl rfl) ?_
      have h7 : a.tmps[7]?.getD undef = .slice (some a1) n lc := eval_get (hA.at_ 7 (by kernel_rfl))
      refine wp_value (v := .slice (some a1) n lc) (w' := w1) ?_ (hK _ _ hJ (Below.refl _ _) rfl)
      clear hK hD hA hJ
      go_simp
    · intro a w1 hJ hA hD K hK
      refine duty_yes rfl rfl rfl (hA.lt 88 (by kernel_rfl)) (given_at hD 25 rfl rfl rfl) ?_
      have h9 : a.tmps[9]?.getD undef = .int .i64 (i : Int) := eval_get (hA.at_ 9 (by kernel_rfl))
      refine wp_value (v := .int .i64 (i : Int)) (w' := w1) ?_ (hK _ _ hJ (Below.refl _ _) rfl)
      clear hK hD hA hJ
      go_simp
    · intro a w1 hJ hA hD K hK
      refine duty_yes rfl rfl rfl (hA.lt 88 (by kernel_rfl)) (given_at hD 25 rfl rfl rfl) ?_
      have h96 : a.tmps[96]?.getD undef = .slice (some a1) n lc := eval_get (given_at hD 33 rfl rfl rfl)
      have h97 : a.tmps[97]?.getD undef = .int .i64 (i : Int) := eval_get (given_at hD 34 rfl rfl rfl)
      refine wp_value (v := .pointer (some (a1.add i))) (w' := w1) ?_ (hK _ _ hJ (Below.refl _ _) rfl)
      clear hK hD hA hJ
      go_simp
    · intro a w1 hJ hA hD K hK
      refine duty_yes rfl rfl rfl (hA.lt 88 (by kernel_rfl)) (given_at hD 25 rfl rfl rfl) ?_
      have h98 : a.tmps[98]?.getD undef = .pointer (some (a1.add i)) := eval_get (given_at hD 35 rfl rfl rfl)
      have hc := (hJ.cell (p := a1.add i) (by rw [add_block]; exact ha1)).trans hn0
      refine wp_value (v := .string nm) (w' := w1) ?_ (hK _ _ hJ (Below.refl _ _) rfl)
      clear hK hD hA hJ
      go_simp
    · intro a w1 hJ hA hD K hK
      refine duty_yes rfl rfl rfl (hA.lt 88 (by kernel_rfl)) (given_at hD 25 rfl rfl rfl) ?_
      have h95 : a.tmps[95]?.getD undef = .agg #[.slice (some b) n c, .slice B m d] := eval_get (given_at hD 32 rfl rfl rfl)
      have h99 : a.tmps[99]?.getD undef = .string nm := eval_get (given_at hD 36 rfl rfl rfl)
      refine wp_enter (f := 52) (args := #[.agg #[.slice (some b) n c, .slice B m d], .string nm]) (w' := w1) ?_ (Calls.mono (H100.out w1 hJ) ?_)
      · clear hK hD hA hJ
        go_simp
      · rintro e w2 ⟨⟨A', c', rfl, hr⟩, hb2⟩
        exact ⟨_, rfl, hK _ _ (hJ.trans (hb2.mono hJ.size)) hb2 ⟨A', c', rfl, hr⟩⟩
    · intro a w1 hJ hA hD K hK
      refine duty_yes rfl rfl rfl (hA.lt 88 (by kernel_rfl)) (given_at hD 25 rfl rfl rfl) ?_
      have hv1 : ∃ A' c', a.eval (.tmp 94) = .slice A' q.length c' ∧ RdS w1 A' q := given_at hD 31 rfl rfl rfl
      have hv2 : ∃ A' c', a.eval (.tmp 100) = .slice A' q.length c' ∧ RdS w1 A' q := given_at hD 37 rfl rfl rfl
      obtain ⟨A1, c1, e1, r1⟩ := hv1
      obtain ⟨A2, c2, e2, r2⟩ := hv2
      have ha := eval_get e1
      have hb := eval_get e2
      refine wp_enter (f := 30) (args := #[.slice A1 q.length c1, .slice A2 q.length c2]) (w' := w1) ?_ (Calls.mono (H101.out w1 A1 c1 A2 c2 r1 r2) ?_)
      · clear hK hD hA hJ
        go_simp
      · rintro e w2 ⟨rfl, hb2⟩
        exact ⟨_, rfl, hK _ _ (hJ.trans (hb2.mono hJ.size)) hb2 rfl⟩
    · intro a w1 hJ hA hD K hK
      refine duty_yes rfl rfl rfl (hA.lt 88 (by kernel_rfl)) (given_at hD 25 rfl rfl rfl) ?_
      have h101 : a.tmps[101]?.getD undef = .bool true := eval_get (given_at hD 38 rfl rfl rfl)
      refine wp_value (v := .bool false) (w' := w1) ?_ (hK _ _ hJ (Below.refl _ _) rfl)
      clear hK hD hA hJ
      go_simp
    · intro a w1 hJ hA hD K hK
      refine duty_plain rfl ?_
      have h88 : a.tmps[88]?.getD undef = .bool false := eval_get (given_at hD 25 rfl rfl rfl)
      have h102 : a.tmps[102]?.getD undef = .bool false := eval_get (given_at hD 39 rfl rfl rfl)
      refine wp_value (v := .bool false) (w' := w1) ?_ (hK _ _ hJ (Below.refl _ _) rfl)
      clear hK hD hA hJ
      go_simp
  · intro a w' hJ hA hG
    have hv103 : a.tmps[103]?.getD undef = .bool false := eval_get (hG 40 _ _ rfl rfl)
    have ha : a = ⟨#[.pointer (some ⟨p, 0, none⟩), t1, t2, t3, .pointer (some ⟨g, 0, none⟩), t5, t6, .slice (some a1) n lc, t8, .int .i64 (i : Int), .int .i64 x, .int .i64 0, t12, t13, t14, t15, t16, t17, t18, t19, t20, t21, t22, t23, t24, t25, t26, t27, t28, t29, t30, t31, t32, t33, t34, t35, t36, t37, t38, t39, t40, t41, t42, t43, t44, t45, t46, t47, t48, t49, t50, t51, t52, t53, t54, t55, t56, t57, t58, t59, t60, t61, t62, a.tmps[63]?.getD undef, a.tmps[64]?.getD undef, a.tmps[65]?.getD undef, a.tmps[66]?.getD undef, a.tmps[67]?.getD undef, a.tmps[68]?.getD undef, a.tmps[69]?.getD undef, a.tmps[70]?.getD undef, a.tmps[71]?.getD undef, a.tmps[72]?.getD undef, a.tmps[73]?.getD undef, a.tmps[74]?.getD undef, a.tmps[75]?.getD undef, a.tmps[76]?.getD undef, a.tmps[77]?.getD undef, a.tmps[78]?.getD undef, a.tmps[79]?.getD undef, a.tmps[80]?.getD undef, a.tmps[81]?.getD undef, a.tmps[82]?.getD undef, a.tmps[83]?.getD undef, a.tmps[84]?.getD undef, a.tmps[85]?.getD undef, a.tmps[86]?.getD undef, a.tmps[87]?.getD undef, a.tmps[88]?.getD undef, a.tmps[89]?.getD undef, a.tmps[90]?.getD undef, a.tmps[91]?.getD undef, a.tmps[92]?.getD undef, a.tmps[93]?.getD undef, a.tmps[94]?.getD undef, a.tmps[95]?.getD undef, a.tmps[96]?.getD undef, a.tmps[97]?.getD undef, a.tmps[98]?.getD undef, a.tmps[99]?.getD undef, a.tmps[100]?.getD undef, a.tmps[101]?.getD undef, a.tmps[102]?.getD undef, .bool false, t104, t105, t106, t107, t108, t109, t110, t111, t112, t113, t114, t115, t116, t117, t118, t119, t120, t121, t122, t123, t124, t125, t126, t127, t128, t129, t130, t131, t132, t133, t134, t135, t136, t137, t138, t139, t140, t141, t142, t143, t144, t145, t146, t147, t148, t149, t150, t151, t152, t153], []⟩ := act_of ⟨eval_get (hA.at_ 0 (by kernel_rfl)), eval_get (hA.at_ 1 (by kernel_rfl)), eval_get (hA.at_ 2 (by kernel_rfl)), eval_get (hA.at_ 3 (by kernel_rfl)), eval_get (hA.at_ 4 (by kernel_rfl)), eval_get (hA.at_ 5 (by kernel_rfl)), eval_get (hA.at_ 6 (by kernel_rfl)), eval_get (hA.at_ 7 (by kernel_rfl)), eval_get (hA.at_ 8 (by kernel_rfl)), eval_get (hA.at_ 9 (by kernel_rfl)), eval_get (hA.at_ 10 (by kernel_rfl)), eval_get (hA.at_ 11 (by kernel_rfl)), eval_get (hA.at_ 12 (by kernel_rfl)), eval_get (hA.at_ 13 (by kernel_rfl)), eval_get (hA.at_ 14 (by kernel_rfl)), eval_get (hA.at_ 15 (by kernel_rfl)), eval_get (hA.at_ 16 (by kernel_rfl)), eval_get (hA.at_ 17 (by kernel_rfl)), eval_get (hA.at_ 18 (by kernel_rfl)), eval_get (hA.at_ 19 (by kernel_rfl)), eval_get (hA.at_ 20 (by kernel_rfl)), eval_get (hA.at_ 21 (by kernel_rfl)), eval_get (hA.at_ 22 (by kernel_rfl)), eval_get (hA.at_ 23 (by kernel_rfl)), eval_get (hA.at_ 24 (by kernel_rfl)), eval_get (hA.at_ 25 (by kernel_rfl)), eval_get (hA.at_ 26 (by kernel_rfl)), eval_get (hA.at_ 27 (by kernel_rfl)), eval_get (hA.at_ 28 (by kernel_rfl)), eval_get (hA.at_ 29 (by kernel_rfl)), eval_get (hA.at_ 30 (by kernel_rfl)), eval_get (hA.at_ 31 (by kernel_rfl)), eval_get (hA.at_ 32 (by kernel_rfl)), eval_get (hA.at_ 33 (by kernel_rfl)), eval_get (hA.at_ 34 (by kernel_rfl)), eval_get (hA.at_ 35 (by kernel_rfl)), eval_get (hA.at_ 36 (by kernel_rfl)), eval_get (hA.at_ 37 (by kernel_rfl)), eval_get (hA.at_ 38 (by kernel_rfl)), eval_get (hA.at_ 39 (by kernel_rfl)), eval_get (hA.at_ 40 (by kernel_rfl)), eval_get (hA.at_ 41 (by kernel_rfl)), eval_get (hA.at_ 42 (by kernel_rfl)), eval_get (hA.at_ 43 (by kernel_rfl)), eval_get (hA.at_ 44 (by kernel_rfl)), eval_get (hA.at_ 45 (by kernel_rfl)), eval_get (hA.at_ 46 (by kernel_rfl)), eval_get (hA.at_ 47 (by kernel_rfl)), eval_get (hA.at_ 48 (by kernel_rfl)), eval_get (hA.at_ 49 (by kernel_rfl)), eval_get (hA.at_ 50 (by kernel_rfl)), eval_get (hA.at_ 51 (by kernel_rfl)), eval_get (hA.at_ 52 (by kernel_rfl)), eval_get (hA.at_ 53 (by kernel_rfl)), eval_get (hA.at_ 54 (by kernel_rfl)), eval_get (hA.at_ 55 (by kernel_rfl)), eval_get (hA.at_ 56 (by kernel_rfl)), eval_get (hA.at_ 57 (by kernel_rfl)), eval_get (hA.at_ 58 (by kernel_rfl)), eval_get (hA.at_ 59 (by kernel_rfl)), eval_get (hA.at_ 60 (by kernel_rfl)), eval_get (hA.at_ 61 (by kernel_rfl)), eval_get (hA.at_ 62 (by kernel_rfl)), rfl, rfl, rfl, rfl, rfl, rfl, rfl, rfl, rfl, rfl, rfl, rfl, rfl, rfl, rfl, rfl, rfl, rfl, rfl, rfl, rfl, rfl, rfl, rfl, rfl, rfl, rfl, rfl, rfl, rfl, rfl, rfl, rfl, rfl, rfl, rfl, rfl, rfl, rfl, rfl, hv103, eval_get (hA.at_ 104 (by kernel_rfl)), eval_get (hA.at_ 105 (by kernel_rfl)), eval_get (hA.at_ 106 (by kernel_rfl)), eval_get (hA.at_ 107 (by kernel_rfl)), eval_get (hA.at_ 108 (by kernel_rfl)), eval_get (hA.at_ 109 (by kernel_rfl)), eval_get (hA.at_ 110 (by kernel_rfl)), eval_get (hA.at_ 111 (by kernel_rfl)), eval_get (hA.at_ 112 (by kernel_rfl)), eval_get (hA.at_ 113 (by kernel_rfl)), eval_get (hA.at_ 114 (by kernel_rfl)), eval_get (hA.at_ 115 (by kernel_rfl)), eval_get (hA.at_ 116 (by kernel_rfl)), eval_get (hA.at_ 117 (by kernel_rfl)), eval_get (hA.at_ 118 (by kernel_rfl)), eval_get (hA.at_ 119 (by kernel_rfl)), eval_get (hA.at_ 120 (by kernel_rfl)), eval_get (hA.at_ 121 (by kernel_rfl)), eval_get (hA.at_ 122 (by kernel_rfl)), eval_get (hA.at_ 123 (by kernel_rfl)), eval_get (hA.at_ 124 (by kernel_rfl)), eval_get (hA.at_ 125 (by kernel_rfl)), eval_get (hA.at_ 126 (by kernel_rfl)), eval_get (hA.at_ 127 (by kernel_rfl)), eval_get (hA.at_ 128 (by kernel_rfl)), eval_get (hA.at_ 129 (by kernel_rfl)), eval_get (hA.at_ 130 (by kernel_rfl)), eval_get (hA.at_ 131 (by kernel_rfl)), eval_get (hA.at_ 132 (by kernel_rfl)), eval_get (hA.at_ 133 (by kernel_rfl)), eval_get (hA.at_ 134 (by kernel_rfl)), eval_get (hA.at_ 135 (by kernel_rfl)), eval_get (hA.at_ 136 (by kernel_rfl)), eval_get (hA.at_ 137 (by kernel_rfl)), eval_get (hA.at_ 138 (by kernel_rfl)), eval_get (hA.at_ 139 (by kernel_rfl)), eval_get (hA.at_ 140 (by kernel_rfl)), eval_get (hA.at_ 141 (by kernel_rfl)), eval_get (hA.at_ 142 (by kernel_rfl)), eval_get (hA.at_ 143 (by kernel_rfl)), eval_get (hA.at_ 144 (by kernel_rfl)), eval_get (hA.at_ 145 (by kernel_rfl)), eval_get (hA.at_ 146 (by kernel_rfl)), eval_get (hA.at_ 147 (by kernel_rfl)), eval_get (hA.at_ 148 (by kernel_rfl)), eval_get (hA.at_ 149 (by kernel_rfl)), eval_get (hA.at_ 150 (by kernel_rfl)), eval_get (hA.at_ 151 (by kernel_rfl)), eval_get (hA.at_ 152 (by kernel_rfl)), eval_get (hA.at_ 153 (by kernel_rfl)), trivial⟩ hA.size hA.defers
    rw [ha]
    exact HK.out w' _ _ _ _ _ _ _ _ _ _ _ _ _ _ _ _ _ _ _ _ _ _ _ _ _ _ _ _ _ _ _ _ _ _ _ _ _ _ _ _ hJ


noncomputable def codesm14 : Code := ((Try.f24.body.bind (theRegion 14)).getD .skip)

def Rsm14 (p g n m dc c d i : Nat) (a2 b : Addr) (A : Option Addr) (x : Int × Int) (q : List Bs) (j : Nat) (v : Value) (w : World) : Prop :=
  if j = 33 then ∃ A' c', v = .slice A' q.length c' ∧ RdS w A' q else if j = 40 then ∃ A' c', v = .slice A' q.length c' ∧ RdS w A' q else v = [.slice (some a2) m dc, .int .i64 (i : Int), .pointer (some (a2.add (i * 2))), .pointer (some (a2.add (i * 2))), .int .i64 x.1, .pointer (some ⟨g, 1, none⟩), .slice (some b) m d, .int .i64 (i : Int), .pointer (some (b.add (i * 2))), .pointer (some (b.add (i * 2))), .int .i64 x.1, .bool false, .bool false, .slice (some a2) m dc, .int .i64 (i : Int), .pointer (some (a2.add (i * 2))), .pointer (some ⟨(a2.add (i * 2)).block, (a2.add (i * 2)).off + 1, none⟩), .int .i64 x.2, .pointer (some ⟨g, 1, none⟩), .slice (some b) m d, .int .i64 (i : Int), .pointer (some (b.add (i * 2))), .pointer (some ⟨(b.add (i * 2)).block, (b.add (i * 2)).off + 1, none⟩), .int .i64 x.2, .bool false, .bool false, .bool false, .pointer (some ⟨p, 0, none⟩), .slice (some a2) m dc, .int .i64 (i : Int), .pointer (some (a2.add (i * 2))), .pointer (some (a2.add (i * 2))), .int .i64 x.1, undef, .agg #[.slice A n c, .slice (some b) m d], .slice (some a2) m dc, .int .i64 (i : Int), .pointer (some (a2.add (i * 2))), .pointer (some (a2.add (i * 2))), .int .i64 x.1, undef, .bool true, .bool false, .bool false].getD j undef
theorem Rsm14_le (p g n m dc c d i : Nat) (a2 b : Addr) (A : Option Addr) (x : Int × Int) (q : List Bs) : ∀ j v w w', Below w.heap.size w w' → Rsm14 p g n m dc c d i a2 b A x q j v w → Rsm14 p g n m dc c d i a2 b A x q j v w' := by
  intro j v w w' hb h
  unfold Rsm14 at h ⊢
  by_cases hj33 : j = 33
  · subst hj33
    simp only [reduceIte] at h ⊢
    obtain ⟨A', c', e, hr⟩ := h
    exact ⟨A', c', e, hr.below hb⟩
  rw [if_neg hj33] at h ⊢
  by_cases hj40 : j = 40
  · subst hj40
    simp only [reduceIte] at h ⊢
    obtain ⟨A', c', e, hr⟩ := h
    exact ⟨A', c', e, hr.below hb⟩
  rw [if_neg hj40] at h ⊢
  exact h

set_option maxRecDepth 1000000 in
set_option maxHeartbeats 4000000 in
theorem sm14 (Q : Exit → Act → World → Prop) (p g n m dc c d i : Nat) (a2 b : Addr) (A : Option Addr) (x : Int × Int) (q : List Bs) (w : World)
    (hgl : g < w.heap.size)
    (hx0 : w.cell? ⟨g, 0, none⟩ = some (.slice A n c))
    (hx1 : w.cell? ⟨g, 1, none⟩ = some (.slice (some b) m d))
    (ha2 : a2.block < w.heap.size)
    (hd0 : w.cell? (a2.add (i * 2)) = some (.int .i64 x.1))
    (hd1 : w.cell? ⟨(a2.add (i * 2)).block, (a2.add (i * 2)).off + 1, none⟩ = some (.int .i64 x.2))
    (hbl : b.block < w.heap.size)
    (hc0 : w.cell? (b.add (i * 2)) = some (.int .i64 x.1))
    (hc1 : w.cell? ⟨(b.add (i * 2)).block, (b.add (i * 2)).off + 1, none⟩ = some (.int .i64 x.2))
    (hi0 : (0 : Int) ≤ (i : Int))
    (hi1 : (i : Int) < (m : Int))
    (H143 : ∀ W, Below w.heap.size w W → Calls Try.prog 27 #[.pointer (some ⟨p, 0, none⟩), .int .i64 x.1] W fun e w' => (∃ A' c', e = .returned (.slice A' q.length c') ∧ RdS w' A' q) ∧ Below W.heap.size W w')
    (H150 : ∀ W, Below w.heap.size w W → Calls Try.prog 53 #[.agg #[.slice A n c, .slice (some b) m d], .int .i64 x.1] W fun e w' => (∃ A' c', e = .returned (.slice A' q.length c') ∧ RdS w' A' q) ∧ Below W.heap.size W w')
    (H151 : ∀ W A1 c1 A2 c2, RdS W A1 q → RdS W A2 q → Calls Try.prog 30 #[.slice A1 q.length c1, .slice A2 q.length c2] W fun e w' => e = .returned (.bool true) ∧ Below W.heap.size W w')
    (t1 t2 t3 t5 t6 t7 t9 t10 t11 t13 t14 t15 t16 t17 t18 t19 t20 t21 t22 t23 t24 t25 t26 t27 t28 t29 t30 t31 t32 t33 t34 t35 t36 t37 t38 t39 t40 t41 t42 t43 t44 t45 t46 t47 t48 t49 t50 t51 t52 t53 t54 t55 t56 t57 t58 t59 t60 t61 t62 t63 t64 t65 t66 t67 t68 t69 t70 t71 t72 t73 t74 t75 t76 t77 t78 t79 t80 t81 t82 t83 t84 t85 t86 t87 t88 t89 t90 t91 t92 t93 t94 t95 t96 t97 t98 t99 t100 t101 t102 t103 t104 t105 t106 t107 t108 t109 t110 t111 t112 t113 t114 t115 t116 t117 t118 t119 t120 t121 t122 t123 t124 t125 t126 t127 t128 t129 t130 t131 t132 t133 t134 t135 t136 t137 t138 t139 t140 t141 t142 t143 t144 t145 t146 t147 t148 t149 t150 t151 t152 t153 : Value) (hK : ∀ (w' : World) (s110 s111 s112 s113 s114 s115 s116 s117 s118 s119 s120 s121 s122 s123 s124 s125 s126 s127 s128 s129 s130 s131 s132 s133 s134 s135 s136 s137 s138 s139 s140 s141 s142 s143 s144 s145 s146 s147 s148 s149 s150 s151 s152 : Value), Below w.heap.size w w' → Q .normal ⟨#[.pointer (some ⟨p, 0, none⟩), t1, t2, t3, .pointer (some ⟨g, 0, none⟩), t5, t6, t7, .slice (some a2) m dc, t9, t10, t11, .int .i64 (i : Int), t13, t14, t15, t16, t17, t18, t19, t20, t21, t22, t23, t24, t25, t26, t27, t28, t29, t30, t31, t32, t33, t34, t35, t36, t37, t38, t39, t40, t41, t42, t43, t44, t45, t46, t47, t48, t49, t50, t51, t52, t53, t54, t55, t56, t57, t58, t59, t60, t61, t62, t63, t64, t65, t66, t67, t68, t69, t70, t71, t72, t73, t74, t75, t76, t77, t78, t79, t80, t81, t82, t83, t84, t85, t86, t87, t88, t89, t90, t91, t92, t93, t94, t95, t96, t97, t98, t99, t100, t101, t102, t103, t104, t105, t106, t107, t108, t109, s110, s111, s112, s113, s114, s115, s116, s117, s118, s119, s120, s121, s122, s123, s124, s125, s126, s127, s128, s129, s130, s131, s132, s133, s134, s135, s136, s137, s138, s139, s140, s141, s142, s143, s144, s145, s146, s147, s148, s149, s150, s151, s152, .bool false], []⟩ w') :
    Code.wp Try.prog codesm14 Q ⟨#[.pointer (some ⟨p, 0, none⟩), t1, t2, t3, .pointer (some ⟨g, 0, none⟩), t5, t6, t7, .slice (some a2) m dc, t9, t10, t11, .int .i64 (i : Int), t13, t14, t15, t16, t17, t18, t19, t20, t21, t22, t23, t24, t25, t26, t27, t28, t29, t30, t31, t32, t33, t34, t35, t36, t37, t38, t39, t40, t41, t42, t43, t44, t45, t46, t47, t48, t49, t50, t51, t52, t53, t54, t55, t56, t57, t58, t59, t60, t61, t62, t63, t64, t65, t66, t67, t68, t69, t70, t71, t72, t73, t74, t75, t76, t77, t78, t79, t80, t81, t82, t83, t84, t85, t86, t87, t88, t89, t90, t91, t92, t93, t94, t95, t96, t97, t98, t99, t100, t101, t102, t103, t104, t105, t106, t107, t108, t109, t110, t111, t112, t113, t114, t115, t116, t117, t118, t119, t120, t121, t122, t123, t124, t125, t126, t127, t128, t129, t130, t131, t132, t133, t134, t135, t136, t137, t138, t139, t140, t141, t142, t143, t144, t145, t146, t147, t148, t149, t150, t151, t152, t153], []⟩ w := by
  replace H143 := Lib.hid H143
  replace H150 := Lib.hid H150
  replace H151 := Lib.hid H151
  have HK := Lib.hid hK
  clear hK
  conv => arg 2; whnf
  refine wp_flow (P := Try.prog) (by kernel_rfl) (by kernel_rfl) (fun W => Below w.heap.size w W) (Rsm14 p g n m dc c d i a2 b A x q) (fun W W' => Below W.heap.size W W') (Below.refl _ _).drew (Rsm14_le p g n m dc c d i a2 b A x q) ?_ ?_
  · refine ⟨?_, ?_, ?_, ?_, ?_, ?_, ?_, ?_, ?_, ?_, ?_, ?_, ?_, ?_, ?_, ?_, ?_, ?_, ?_, ?_, ?_, ?_, ?_, ?_, ?_, ?_, ?_, ?_, ?_, ?_, ?_, ?_, ?_, ?_, ?_, ?_, ?_, ?_, ?_, ?_, ?_, ?_, ?_, ?_, trivial⟩
    · intro a w1 hJ hA hD K hK
      refine duty_plain rfl ?_
      have h8 : a.tmps[8]?.getD undef = .slice (some a2) m dc := eval_get (hA.at_ 8 (by kernel_rfl))
      refine wp_value (v := .slice (some a2) m dc) (w' := w1) ?_ (hK _ _ hJ (Below.refl _ _) rfl)
      clear hK hD hA hJ
      go_simp
    · intro a w1 hJ hA hD K hK
      refine duty_plain rfl ?_
      have h12 : a.tmps[12]?.getD undef = .int .i64 (i : Int) := eval_get (hA.at_ 12 (by kernel_rfl))
      refine wp_value (v := .int .i64 (i : Int)) (w' := w1) ?_ (hK _ _ hJ (Below.refl _ _) rfl)
      clear hK hD hA hJ
      go_simp
    · intro a w1 hJ hA hD K hK
      refine duty_plain rfl ?_
      have h110 : a.tmps[110]?.getD undef = .slice (some a2) m dc := eval_get (given_at hD 0 rfl rfl rfl)
      have h111 : a.tmps[111]?.getD undef = .int .i64 (i : Int) := eval_get (given_at hD 1 rfl rfl rfl)
      refine wp_value (v := .pointer (some (a2.add (i * 2)))) (w' := w1) ?_ (hK _ _ hJ (Below.refl _ _) rfl)
      clear hK hD hA hJ
      go_simp
    · intro a w1 hJ hA hD K hK
      refine duty_plain rfl ?_
      have h112 : a.tmps[112]?.getD undef = .pointer (some (a2.add (i * 2))) := eval_get (given_at hD 2 rfl rfl rfl)
      refine wp_value (v := .pointer (some (a2.add (i * 2)))) (w' := w1) ?_ (hK _ _ hJ (Below.refl _ _) rfl)
      clear hK hD hA hJ
      go_simp
    · intro a w1 hJ hA hD K hK
      refine duty_plain rfl ?_
      have h113 : a.tmps[113]?.getD undef = .pointer (some (a2.add (i * 2))) := eval_get (given_at hD 3 rfl rfl rfl)
      have hc := (hJ.cell (p := a2.add (i * 2)) (by rw [add_block]; exact ha2)).trans hd0
      refine wp_value (v := .int .i64 x.1) (w' := w1) ?_ (hK _ _ hJ (Below.refl _ _) rfl)
      clear hK hD hA hJ
      go_simp
    · intro a w1 hJ hA hD K hK
      refine duty_plain rfl ?_
      have h4 : a.tmps[4]?.getD undef = .pointer (some ⟨g, 0, none⟩) := eval_get (hA.at_ 4 (by kernel_rfl))
      refine wp_value (v := .pointer (some ⟨g, 1, none⟩)) (w' := w1) ?_ (hK _ _ hJ (Below.refl _ _) rfl)
      clear hK hD hA hJ
      go_simp
    · intro a w1 hJ hA hD K hK
      refine duty_plain rfl ?_
      have h115 : a.tmps[115]?.getD undef = .pointer (some ⟨g, 1, none⟩) := eval_get (given_at hD 5 rfl rfl rfl)
      have hc := (hJ.cell (p := ⟨g, 1, none⟩) hgl).trans hx1
      refine wp_value (v := .slice (some b) m d) (w' := w1) ?_ (hK _ _ hJ (Below.refl _ _) rfl)
      clear hK hD hA hJ
      go_simp
    · intro a w1 hJ hA hD K hK
      refine duty_plain rfl ?_
      have h12 : a.tmps[12]?.getD undef = .int .i64 (i : Int) := eval_get (hA.at_ 12 (by kernel_rfl))
      refine wp_value (v := .int .i64 (i : Int)) (w' := w1) ?_ (hK _ _ hJ (Below.refl _ _) rfl)
      clear hK hD hA hJ
      go_simp
    · intro a w1 hJ hA hD K hK
      refine duty_plain rfl ?_
      have h116 : a.tmps[116]?.getD undef = .slice (some b) m d := eval_get (given_at hD 6 rfl rfl rfl)
      have h117 : a.tmps[117]?.getD undef = .int .i64 (i : Int) := eval_get (given_at hD 7 rfl rfl rfl)
      refine wp_value (v := .pointer (some (b.add (i * 2)))) (w' := w1) ?_ (hK _ _ hJ (Below.refl _ _) rfl)
      clear hK hD hA hJ
      go_simp
    · intro a w1 hJ hA hD K hK
      refine duty_plain rfl ?_
      have h118 : a.tmps[118]?.getD undef = .pointer (some (b.add (i * 2))) := eval_get (given_at hD 8 rfl rfl rfl)
      refine wp_value (v := .pointer (some (b.add (i * 2)))) (w' := w1) ?_ (hK _ _ hJ (Below.refl _ _) rfl)
      clear hK hD hA hJ
      go_simp
    · intro a w1 hJ hA hD K hK
      refine duty_plain rfl ?_
      have h119 : a.tmps[119]?.getD undef = .pointer (some (b.add (i * 2))) := eval_get (given_at hD 9 rfl rfl rfl)
      have hc := (hJ.cell (p := b.add (i * 2)) (by rw [add_block]; exact hbl)).trans hc0
      refine wp_value (v := .int .i64 x.1) (w' := w1) ?_ (hK _ _ hJ (Below.refl _ _) rfl)
      clear hK hD hA hJ
      go_simp
    · intro a w1 hJ hA hD K hK
      refine duty_plain rfl ?_
      have h114 : a.tmps[114]?.getD undef = .int .i64 x.1 := eval_get (given_at hD 4 rfl rfl rfl)
      have h120 : a.tmps[120]?.getD undef = .int .i64 x.1 := eval_get (given_at hD 10 rfl rfl rfl)
      refine wp_value (v := .bool false) (w' := w1) ?_ (hK _ _ hJ (Below.refl _ _) rfl)
      clear hK hD hA hJ
      go_simp
    · intro a w1 hJ hA hD K hK
      refine duty_plain rfl ?_
      have h121 : a.tmps[121]?.getD undef = .bool false := eval_get (given_at hD 11 rfl rfl rfl)
      refine wp_value (v := .bool false) (w' := w1) ?_ (hK _ _ hJ (Below.refl _ _) rfl)
      clear hK hD hA hJ
      go_simp
    · intro a w1 hJ hA hD K hK
      refine duty_yes rfl rfl rfl (hA.lt 122 (by kernel_rfl)) (given_at hD 12 rfl rfl rfl) ?_
      have h8 : a.tmps[8]?.getD undef = .slice (some a2) m dc := eval_get (hA.at_ 8 (by kernel_rfl))
      refine wp_value (v := .slice (some a2) m dc) (w' := w1) ?_ (hK _ _ hJ (Below.refl _ _) rfl)
      clear hK hD hA hJ
      go_simp
    · intro a w1 hJ hA hD K hK
      refine duty_yes rfl rfl rfl (hA.lt 122 (by kernel_rfl)) (given_at hD 12 rfl rfl rfl) ?_
      have h12 : a.tmps[12]?.getD undef = .int .i64 (i : Int) := eval_get (hA.at_ 12 (by kernel_rfl))
      refine wp_value (v := .int .i64 (i : Int)) (w' := w1) ?_ (hK _ _ hJ (Below.refl _ _) rfl)
      clear hK hD hA hJ
      go_simp
    · intro a w1 hJ hA hD K hK
      refine duty_yes rfl rfl rfl (hA.lt 122 (by kernel_rfl)) (given_at hD 12 rfl rfl rfl) ?_
      have h123 : a.tmps[123]?.getD undef = .slice (some a2) m dc := eval_get (given_at hD 13 rfl rfl rfl)
      have h124 : a.tmps[124]?.getD undef = .int .i64 (i : Int) := eval_get (given_at hD 14 rfl rfl rfl)
      refine wp_value (v := .pointer (some (a2.add (i * 2)))) (w' := w1) ?_ (hK _ _ hJ (Below.refl _ _) rfl)
      clear hK hD hA hJ
      go_simp
    · intro a w1 hJ hA hD K hK
      refine duty_yes rfl rfl rfl (hA.lt 122 (by kernel_rfl)) (given_at hD 12 rfl rfl rfl) ?_
      have h125 : a.tmps[125]?.getD undef = .pointer (some (a2.add (i * 2))) := eval_get (given_at hD 15 rfl rfl rfl)
      refine wp_value (v := .pointer (some ⟨(a2.add (i * 2)).block, (a2.add (i * 2)).off + 1, none⟩)) (w' := w1) ?_ (hK _ _ hJ (Below.refl _ _) rfl)
      clear hK hD hA hJ
      go_simp
    · intro a w1 hJ hA hD K hK
      refine duty_yes rfl rfl rfl (hA.lt 122 (by kernel_rfl)) (given_at hD 12 rfl rfl rfl) ?_
      have h126 : a.tmps[126]?.getD undef = .pointer (some ⟨(a2.add (i * 2)).block, (a2.add (i * 2)).off + 1, none⟩) := eval_get (given_at hD 16 rfl rfl rfl)
      have hc := (hJ.cell (p := ⟨(a2.add (i * 2)).block, (a2.add (i * 2)).off + 1, none⟩) (by show (a2.add (i * 2)).block < _; rw [add_block]; exact ha2)).trans hd1
      refine wp_value (v := .int .i64 x.2) (w' := w1) ?_ (hK _ _ hJ (Below.refl _ _) rfl)
      clear hK hD hA hJ
      go_simp
    · intro a w1 hJ hA hD K hK
      refine duty_yes rfl rfl rfl (hA.lt 122 (by kernel_rfl)) (given_at hD 12 rfl rfl rfl) ?_
      have h4 : a.tmps[4]?.getD undef = .pointer (some ⟨g, 0, none⟩) := eval_get (hA.at_ 4 (by kernel_rfl))
      refine wp_value (v := .pointer (some ⟨g, 1, none⟩)) (w' := w1) ?_ (hK _ _ hJ (Below.refl _ _) rfl)
      clear hK hD hA hJ
      go_simp
    · intro a w1 hJ hA hD K hK
      refine duty_yes rfl rfl rfl (hA.lt 122 (by kernel_rfl)) (given_at hD 12 rfl rfl rfl) ?_
      have h128 : a.tmps[128]?.getD undef = .pointer (some ⟨g, 1, none⟩) := eval_get (given_at hD 18 rfl rfl rfl)
      have hc := (hJ.cell (p := ⟨g, 1, none⟩) hgl).trans hx1
      refine wp_value (v := .slice (some b) m d) (w' := w1) ?_ (hK _ _ hJ (Below.refl _ _) rfl)
      clear hK hD hA hJ
      go_simp
    · intro a w1 hJ hA hD K hK
      refine duty_yes rfl rfl rfl (hA.lt 122 (by kernel_rfl)) (given_at hD 12 rfl rfl rfl) ?_
      have h12 : a.tmps[12]?.getD undef = .int .i64 (i : Int) := eval_get (hA.at_ 12 (by kernel_rfl))
      refine wp_value (v := .int .i64 (i : Int)) (w' := w1) ?_ (hK _ _ hJ (Below.refl _ _) rfl)
      clear hK hD hA hJ
      go_simp
    · intro a w1 hJ hA hD K hK
      refine duty_yes rfl rfl rfl (hA.lt 122 (by kernel_rfl)) (given_at hD 12 rfl rfl rfl) ?_
      have h129 : a.tmps[129]?.getD undef = .slice (some b) m d := eval_get (given_at hD 19 rfl rfl rfl)
      have h130 : a.tmps[130]?.getD undef = .int .i64 (i : Int) := eval_get (given_at hD 20 rfl rfl rfl)
      refine wp_value (v := .pointer (some (b.add (i * 2)))) (w' := w1) ?_ (hK _ _ hJ (Below.refl _ _) rfl)
      clear hK hD hA hJ
      go_simp
    · intro a w1 hJ hA hD K hK
      refine duty_yes rfl rfl rfl (hA.lt 122 (by kernel_rfl)) (given_at hD 12 rfl rfl rfl) ?_
      have h131 : a.tmps[131]?.getD undef = .pointer (some (b.add (i * 2))) := eval_get (given_at hD 21 rfl rfl rfl)
      refine wp_value (v := .pointer (some ⟨(b.add (i * 2)).block, (b.add (i * 2)).off + 1, none⟩)) (w' := w1) ?_ (hK _ _ hJ (Below.refl _ _) rfl)
      clear hK hD hA hJ
      go_simp
    · intro a w1 hJ hA hD K hK
      refine duty_yes rfl rfl rfl (hA.lt 122 (by kernel_rfl)) (given_at hD 12 rfl rfl rfl) ?_
      have h132 : a.tmps[132]?.getD undef = .pointer (some ⟨(b.add (i * 2)).block, (b.add (i * 2)).off + 1, none⟩) := eval_get (given_at hD 22 rfl rfl rfl)
      have hc := (hJ.cell (p := ⟨(b.add (i * 2)).block, (b.add (i * 2)).off + 1, none⟩) (by show (b.add (i * 2)).block < _; rw [add_block]; exact hbl)).trans hc1
      refine wp_value (v := .int .i64 x.2) (w' := w1) ?_ (hK _ _ hJ (Below.refl _ _) rfl)
      clear hK hD hA hJ
      go_simp
    · intro a w1 hJ hA hD K hK
      refine duty_yes rfl rfl rfl (hA.lt 122 (by kernel_rfl)) (given_at hD 12 rfl rfl rfl) ?_
      have h127 : a.tmps[127]?.getD undef = .int .i64 x.2 := eval_get (given_at hD 17 rfl rfl rfl)
      have h133 : a.tmps[133]?.getD undef = .int .i64 x.2 := eval_get (given_at hD 23 rfl rfl rfl)
      refine wp_value (v := .bool false) (w' := w1) ?_ (hK _ _ hJ (Below.refl _ _) rfl)
      clear hK hD hA hJ
      go_simp
    · intro a w1 hJ hA hD K hK
      refine duty_plain rfl ?_
      have h122 : a.tmps[122]?.getD undef = .bool false := eval_get (given_at hD 12 rfl rfl rfl)
      have h134 : a.tmps[134]?.getD undef = .bool false := eval_get (given_at hD 24 rfl rfl rfl)
      refine wp_value (v := .bool false) (w' := w1) ?_ (hK _ _ hJ (Below.refl _ _) rfl)
      clear hK hD hA hJ
      go_simp
    · intro a w1 hJ hA hD K hK
      refine duty_plain rfl ?_
      have h135 : a.tmps[135]?.getD undef = .bool false := eval_get (given_at hD 25 rfl rfl rfl)
      refine wp_value (v := .bool false) (w' := w1) ?_ (hK _ _ hJ (Below.refl _ _) rfl)
      clear hK hD hA hJ
      go_simp
    · intro a w1 hJ hA hD K hK
      refine duty_yes rfl rfl rfl (hA.lt 136 (by kernel_rfl)) (given_at hD 26 rfl rfl rfl) ?_
      have h0 : a.tmps[0]?.getD undef = .pointer (some ⟨p, 0, none⟩) := eval_get (hA.at_ 0 (by kernel_rfl))
      refine wp_value (v := .pointer (some ⟨p, 0, none⟩)) (w' := w1) ?_ (hK _ _ hJ (Below.refl _ _) rfl)
      clear hK hD hA hJ
      go_simp
    · intro a w1 hJ hA hD K hK
      refine duty_yes rfl rfl rfl (hA.lt 136 (by kernel_rfl)) (given_at hD 26 rfl rfl rfl) ?_
      have h8 : a.tmps[8]?.getD undef = .slice (some a2) m dc := eval_get (hA.at_ 8 (by kernel_rfl))
      refine wp_value (v := .slice (some a2) m dc) (w' := w1) ?_ (hK _ _ hJ (Below.refl _ _) rfl)
      clear hK hD hA hJ
      go_simp
    · intro a w1 hJ hA hD K hK
      refine duty_yes rfl rfl rfl (hA.lt 136 (by kernel_rfl)) (given_at hD 26 rfl rfl rfl) ?_
      have h12 : a.tmps[12]?.getD undef = .int .i64 (i : Int) := eval_get (hA.at_ 12 (by kernel_rfl))
      refine wp_value (v := .int .i64 (i : Int)) (w' := w1) ?_ (hK _ _ hJ (Below.refl _ _) rfl)
      clear hK hD hA hJ
      go_simp
    · intro a w1 hJ hA hD K hK
      refine duty_yes rfl rfl rfl (hA.lt 136 (by kernel_rfl)) (given_at hD 26 rfl rfl rfl) ?_
      have h138 : a.tmps[138]?.getD undef = .slice (some a2) m dc := eval_get (given_at hD 28 rfl rfl rfl)
      have h139 : a.tmps[139]?.getD undef = .int .i64 (i : Int) := eval_get (given_at hD 29 rfl rfl rfl)
      refine wp_value (v := .pointer (some (a2.add (i * 2)))) (w' := w1) ?_ (hK _ _ hJ (Below.refl _ _) rfl)
      clear hK hD hA hJ
      go_simp
    · intro a w1 hJ hA hD K hK
      refine duty_yes rfl rfl rfl (hA.lt 136 (by kernel_rfl)) (given_at hD 26 rfl rfl rfl) ?_
      have h140 : a.tmps[140]?.getD undef = .pointer (some (a2.add (i * 2))) := eval_get (given_at hD 30 rfl rfl rfl)
      refine wp_value (v := .pointer (some (a2.add (i * 2)))) (w' := w1) ?_ (hK _ _ hJ (Below.refl _ _) rfl)
      clear hK hD hA hJ
      go_simp
    · intro a w1 hJ hA hD K hK
      refine duty_yes rfl rfl rfl (hA.lt 136 (by kernel_rfl)) (given_at hD 26 rfl rfl rfl) ?_
      have h141 : a.tmps[141]?.getD undef = .pointer (some (a2.add (i * 2))) := eval_get (given_at hD 31 rfl rfl rfl)
      have hc := (hJ.cell (p := a2.add (i * 2)) (by rw [add_block]; exact ha2)).trans hd0
      refine wp_value (v := .int .i64 x.1) (w' := w1) ?_ (hK _ _ hJ (Below.refl _ _) rfl)
      clear hK hD hA hJ
      go_simp
    · intro a w1 hJ hA hD K hK
      refine duty_yes rfl rfl rfl (hA.lt 136 (by kernel_rfl)) (given_at hD 26 rfl rfl rfl) ?_
      have h137 : a.tmps[137]?.getD undef = .pointer (some ⟨p, 0, none⟩) := eval_get (given_at hD 27 rfl rfl rfl)
      have h142 : a.tmps[142]?.getD undef = .int .i64 x.1 := eval_get (given_at hD 32 rfl rfl rfl)
      refine wp_enter (f := 27) (args := #[.pointer (some ⟨p, 0, none⟩), .int .i64 x.1]) (w' := w1) ?_ (Calls.mono (H143.out w1 hJ) ?_)
      · clear hK hD hA hJ
        go_simp
      · rintro e w2 ⟨⟨A', c', rfl, hr⟩, hb2⟩
        exact ⟨_, rfl, hK _ _ (hJ.trans (hb2.mono hJ.size)) hb2 ⟨A', c', rfl, hr⟩⟩
    · intro a w1 hJ hA hD K hK
      refine duty_yes rfl rfl rfl (hA.lt 136 (by kernel_rfl)) (given_at hD 26 rfl rfl rfl) ?_
      have h4 : a.tmps[4]?.getD undef = .pointer (some ⟨g, 0, none⟩) := eval_get (hA.at_ 4 (by kernel_rfl))
      have hc := (hJ.cell (p := ⟨g, 0, none⟩) hgl).trans hx0
      have hc' := (hJ.cell (p := ⟨g, 1, none⟩) hgl).trans hx1
      refine wp_value (v := .agg #[.slice A n c, .slice (some b) m d]) (w' := w1) ?_ (hK _ _ hJ (Below.refl _ _) rfl)
      clear hK hD hA hJ
      go_simp
    · intro a w1 hJ hA hD K hK
      refine duty_yes rfl rfl rfl (hA.lt 136 (by kernel_rfl)) (given_at hD 26 rfl rfl rfl) ?_
      have h8 : a.tmps[8]?.getD undef = .slice (some a2) m dc := eval_get (hA.at_ 8 (by kernel_rfl))
      refine wp_value (v := .slice (some a2) m dc) (w' := w1) ?_ (hK _ _ hJ (Below.refl _ _) rfl)
      clear hK hD hA hJ
      go_simp
    · intro a w1 hJ hA hD K hK
      refine duty_yes rfl rfl rfl (hA.lt 136 (by kernel_rfl)) (given_at hD 26 rfl rfl rfl) ?_
      have h12 : a.tmps[12]?.getD undef = .int .i64 (i : Int) := eval_get (hA.at_ 12 (by kernel_rfl))
      refine wp_value (v := .int .i64 (i : Int)) (w' := w1) ?_ (hK _ _ hJ (Below.refl _ _) rfl)
      clear hK hD hA hJ
      go_simp
    · intro a w1 hJ hA hD K hK
      refine duty_yes rfl rfl rfl (hA.lt 136 (by kernel_rfl)) (given_at hD 26 rfl rfl rfl) ?_
      have h145 : a.tmps[145]?.getD undef = .slice (some a2) m dc := eval_get (given_at hD 35 rfl rfl rfl)
      have h146 : a.tmps[146]?.getD undef = .int .i64 (i : Int) := eval_get (given_at hD 36 rfl rfl rfl)
      refine wp_value (v := .pointer (some (a2.add (i * 2)))) (w' := w1) ?_ (hK _ _ hJ (Below.refl _ _) rfl)
      clear hK hD hA hJ
      go_simp
    · intro a w1 hJ hA hD K hK
      refine duty_yes rfl rfl rfl (hA.lt 136 (by kernel_rfl)) (given_at hD 26 rfl rfl rfl) ?_
      have h147 : a.tmps[147]?.getD undef = .pointer (some (a2.add (i * 2))) := eval_get (given_at hD 37 rfl rfl rfl)
      refine wp_value (v := .pointer (some (a2.add (i * 2)))) (w' := w1) ?_ (hK _ _ hJ (Below.refl _ _) rfl)
      clear hK hD hA hJ
      go_simp
    · intro a w1 hJ hA hD K hK
      refine duty_yes rfl rfl rfl (hA.lt 136 (by kernel_rfl)) (given_at hD 26 rfl rfl rfl) ?_
      have h148 : a.tmps[148]?.getD undef = .pointer (some (a2.add (i * 2))) := eval_get (given_at hD 38 rfl rfl rfl)
      have hc := (hJ.cell (p := a2.add (i * 2)) (by rw [add_block]; exact ha2)).trans hd0
      refine wp_value (v := .int .i64 x.1) (w' := w1) ?_ (hK _ _ hJ (Below.refl _ _) rfl)
      clear hK hD hA hJ
      go_simp
    · intro a w1 hJ hA hD K hK
      refine duty_yes rfl rfl rfl (hA.lt 136 (by kernel_rfl)) (given_at hD 26 rfl rfl rfl) ?_
      have h144 : a.tmps[144]?.getD undef = .agg #[.slice A n c, .slice (some b) m d] := eval_get (given_at hD 34 rfl rfl rfl)
      have h149 : a.tmps[149]?.getD undef = .int .i64 x.1 := eval_get (given_at hD 39 rfl rfl rfl)
      refine wp_enter (f := 53) (args := #[.agg #[.slice A n c, .slice (some b) m d], .int .i64 x.1]) (w' := w1) ?_ (Calls.mono (H150.out w1 hJ) ?_)
      · clear hK hD hA hJ
        go_simp
      · rintro e w2 ⟨⟨A', c', rfl, hr⟩, hb2⟩
        exact ⟨_, rfl, hK _ _ (hJ.trans (hb2.mono hJ.size)) hb2 ⟨A', c', rfl, hr⟩⟩
    · intro a w1 hJ hA hD K hK
      refine duty_yes rfl rfl rfl (hA.lt 136 (by kernel_rfl)) (given_at hD 26 rfl rfl rfl) ?_
      have hv1 : ∃ A' c', a.eval (.tmp 143) = .slice A' q.length c' ∧ RdS w1 A' q := given_at hD 33 rfl rfl rfl
      have hv2 : ∃ A' c', a.eval (.tmp 150) = .slice A' q.length c' ∧ RdS w1 A' q := given_at hD 40 rfl rfl rfl
      obtain ⟨A1, c1, e1, r1⟩ := hv1
      obtain ⟨A2, c2, e2, r2⟩ := hv2
      have ha := eval_get e1
      have hb := eval_get e2
      refine wp_enter (f := 30) (args := #[.slice A1 q.length c1, .slice A2 q.length c2]) (w' := w1) ?_ (Calls.mono (H151.out w1 A1 c1 A2 c2 r1 r2) ?_)
      · clear hK hD hA hJ
        go_simp
      · rintro e w2 ⟨rfl, hb2⟩
        exact ⟨_, rfl, hK _ _ (hJ.trans (hb2.mono hJ.size)) hb2 rfl⟩
    · intro a w1 hJ hA hD K hK
      refine duty_yes rfl rfl rfl (hA.lt 136 (by kernel_rfl)) (given_at hD 26 rfl rfl rfl) ?_
      have h151 : a.tmps[151]?.getD undef = .bool true := eval_get (given_at hD 41 rfl rfl rfl)
      refine wp_value (v := .bool false) (w' := w1) ?_ (hK _ _ hJ (Below.refl _ _) rfl)
      clear hK hD hA hJ
      go_simp
    · intro a w1 hJ hA hD K hK
      refine duty_plain rfl ?_
      have h136 : a.tmps[136]?.getD undef = .bool false := eval_get (given_at hD 26 rfl rfl rfl)
      have h152 : a.tmps[152]?.getD undef = .bool false := eval_get (given_at hD 42 rfl rfl rfl)
      refine wp_value (v := .bool false) (w' := w1) ?_ (hK _ _ hJ (Below.refl _ _) rfl)
      clear hK hD hA hJ
      go_simp
  · intro a w' hJ hA hG
    have hv153 : a.tmps[153]?.getD undef = .bool false := eval_get (hG 43 _ _ rfl rfl)
    have ha : a = ⟨#[.pointer (some ⟨p, 0, none⟩), t1, t2, t3, .pointer (some ⟨g, 0, none⟩), t5, t6, t7, .slice (some a2) m dc, t9, t10, t11, .int .i64 (i : Int), t13, t14, t15, t16, t17, t18, t19, t20, t21, t22, t23, t24, t25, t26, t27, t28, t29, t30, t31, t32, t33, t34, t35, t36, t37, t38, t39, t40, t41, t42, t43, t44, t45, t46, t47, t48, t49, t50, t51, t52, t53, t54, t55, t56, t57, t58, t59, t60, t61, t62, t63, t64, t65, t66, t67, t68, t69, t70, t71, t72, t73, t74, t75, t76, t77, t78, t79, t80, t81, t82, t83, t84, t85, t86, t87, t88, t89, t90, t91, t92, t93, t94, t95, t96, t97, t98, t99, t100, t101, t102, t103, t104, t105, t106, t107, t108, t109, a.tmps[110]?.getD undef, a.tmps[111]?.getD undef, a.tmps[112]?.getD undef, a.tmps[113]?.getD undef, a.tmps[114]?.getD undef, a.tmps[115]?.getD undef, a.tmps[116]?.getD undef, a.tmps[117]?.getD undef, a.tmps[118]?.getD undef, a.tmps[119]?.getD undef, a.tmps[120]?.getD undef, a.tmps[121]?.getD undef, a.tmps[122]?.getD undef, a.tmps[123]?.getD undef, a.tmps[124]?.getD undef, a.tmps[125]?.getD undef, a.tmps[126]?.getD undef, a.tmps[127]?.getD undef, a.tmps[128]?.getD undef, a.tmps[129]?.getD undef, a.tmps[130]?.getD undef, a.tmps[131]?.getD undef, a.tmps[132]?.getD undef, a.tmps[133]?.getD undef, a.tmps[134]?.getD undef, a.tmps[135]?.getD undef, a.tmps[136]?.getD undef, a.tmps[137]?.getD undef, a.tmps[138]?.getD undef, a.tmps[139]?.getD undef, a.tmps[140]?.getD undef, a.tmps[141]?.getD undef, a.tmps[142]?.getD undef, a.tmps[143]?.getD undef, a.tmps[144]?.getD undef, a.tmps[145]?.getD undef, a.tmps[146]?.getD undef, a.tmps[147]?.getD undef, a.tmps[148]?.getD undef, a.tmps[149]?.getD undef, a.tmps[150]?.getD undef, a.tmps[151]?.getD undef, a.tmps[152]?.getD undef, .bool false], []⟩ := act_of ⟨eval_get (hA.at_ 0 (by kernel_rfl)), eval_get (hA.at_ 1 (by kernel_rfl)), eval_get (hA.at_ 2 (by kernel_rfl)), eval_get (hA.at_ 3 (by kernel_rfl)), eval_get (hA.at_ 4 (by kernel_rfl)), eval_get (hA.at_ 5 (by kernel_rfl)), eval_get (hA.at_ 6 (by kernel_rfl)), eval_get (hA.at_ 7 (by kernel_rfl)), eval_get (hA.at_ 8 (by kernel_rfl)), eval_get (hA.at_ 9 (by kernel_rfl)), eval_get (hA.at_ 10 (by kernel_rfl)), eval_get (hA.at_ 11 (by kernel_rfl)), eval_get (hA.at_ 12 (by kernel_rfl)), eval_get (hA.at_ 13 (by kernel_rfl)), eval_get (hA.at_ 14 (by kernel_rfl)), eval_get (hA.at_ 15 (by kernel_rfl)), eval_get (hA.at_ 16 (by kernel_rfl)), eval_get (hA.at_ 17 (by kernel_rfl)), eval_get (hA.at_ 18 (by kernel_rfl)), eval_get (hA.at_ 19 (by kernel_rfl)), eval_get (hA.at_ 20 (by kernel_rfl)), eval_get (hA.at_ 21 (by kernel_rfl)), eval_get (hA.at_ 22 (by kernel_rfl)), eval_get (hA.at_ 23 (by kernel_rfl)), eval_get (hA.at_ 24 (by kernel_rfl)), eval_get (hA.at_ 25 (by kernel_rfl)), eval_get (hA.at_ 26 (by kernel_rfl)), eval_get (hA.at_ 27 (by kernel_rfl)), eval_get (hA.at_ 28 (by kernel_rfl)), eval_get (hA.at_ 29 (by kernel_rfl)), eval_get (hA.at_ 30 (by kernel_rfl)), eval_get (hA.at_ 31 (by kernel_rfl)), eval_get (hA.at_ 32 (by kernel_rfl)), eval_get (hA.at_ 33 (by kernel_rfl)), eval_get (hA.at_ 34 (by kernel_rfl)), eval_get (hA.at_ 35 (by kernel_rfl)), eval_get (hA.at_ 36 (by kernel_rfl)), eval_get (hA.at_ 37 (by kernel_rfl)), eval_get (hA.at_ 38 (by kernel_rfl)), eval_get (hA.at_ 39 (by kernel_rfl)), eval_get (hA.at_ 40 (by kernel_rfl)), eval_get (hA.at_ 41 (by kernel_rfl)), eval_get (hA.at_ 42 (by kernel_rfl)), eval_get (hA.at_ 43 (by kernel_rfl)), eval_get (hA.at_ 44 (by kernel_rfl)), eval_get (hA.at_ 45 (by kernel_rfl)), eval_get (hA.at_ 46 (by kernel_rfl)), eval_get (hA.at_ 47 (by kernel_rfl)), eval_get (hA.at_ 48 (by kernel_rfl)), eval_get (hA.at_ 49 (by kernel_rfl)), eval_get (hA.at_ 50 (by kernel_rfl)), eval_get (hA.at_ 51 (by kernel_rfl)), eval_get (hA.at_ 52 (by kernel_rfl)), eval_get (hA.at_ 53 (by kernel_rfl)), eval_get (hA.at_ 54 (by kernel_rfl)), eval_get (hA.at_ 55 (by kernel_rfl)), eval_get (hA.at_ 56 (by kernel_rfl)), eval_get (hA.at_ 57 (by kernel_rfl)), eval_get (hA.at_ 58 (by kernel_rfl)), eval_get (hA.at_ 59 (by kernel_rfl)), eval_get (hA.at_ 60 (by kernel_rfl)), eval_get (hA.at_ 61 (by kernel_rfl)), eval_get (hA.at_ 62 (by kernel_rfl)), eval_get (hA.at_ 63 (by kernel_rfl)), eval_get (hA.at_ 64 (by kernel_rfl)), eval_get (hA.at_ 65 (by kernel_rfl)), eval_get (hA.at_ 66 (by kernel_rfl)), eval_get (hA.at_ 67 (by kernel_rfl)), eval_get (hA.at_ 68 (by kernel_rfl)), eval_get (hA.at_ 69 (by kernel_rfl)), eval_get (hA.at_ 70 (by kernel_rfl)), eval_get (hA.at_ 71 (by kernel_rfl)), eval_get (hA.at_ 72 (by kernel_rfl)), eval_get (hA.at_ 73 (by kernel_rfl)), eval_get (hA.at_ 74 (by kernel_rfl)), eval_get (hA.at_ 75 (by kernel_rfl)), eval_get (hA.at_ 76 (by kernel_rfl)), eval_get (hA.at_ 77 (by kernel_rfl)), eval_get (hA.at_ 78 (by kernel_rfl)), eval_get (hA.at_ 79 (by kernel_rfl)), eval_get (hA.at_ 80 (by kernel_rfl)), eval_get (hA.at_ 81 (by kernel_rfl)), eval_get (hA.at_ 82 (by kernel_rfl)), eval_get (hA.at_ 83 (by kernel_rfl)), eval_get (hA.at_ 84 (by kernel_rfl)), eval_get (hA.at_ 85 (by kernel_rfl)), eval_get (hA.at_ 86 (by kernel_rfl)), eval_get (hA.at_ 87 (by kernel_rfl)), eval_get (hA.at_ 88 (by kernel_rfl)), eval_get (hA.at_ 89 (by kernel_rfl)), eval_get (hA.at_ 90 (by kernel_rfl)), eval_get (hA.at_ 91 (by kernel_rfl)), eval_get (hA.at_ 92 (by kernel_rfl)), eval_get (hA.at_ 93 (by kernel_rfl)), eval_get (hA.at_ 94 (by kernel_rfl)), eval_get (hA.at_ 95 (by kernel_rfl)), eval_get (hA.at_ 96 (by kernel_rfl)), eval_get (hA.at_ 97 (by kernel_rfl)), eval_get (hA.at_ 98 (by kernel_rfl)), eval_get (hA.at_ 99 (by kernel_rfl)), eval_get (hA.at_ 100 (by kernel_rfl)), eval_get (hA.at_ 101 (by kernel_rfl)), eval_get (hA.at_ 102 (by kernel_rfl)), eval_get (hA.at_ 103 (by kernel_rfl)), eval_get (hA.at_ 104 (by kernel_rfl)), eval_get (hA.at_ 105 (by kernel_rfl)), eval_get (hA.at_ 106 (by kernel_rfl)), eval_get (hA.at_ 107 (by kernel_rfl)), eval_get (hA.at_ 108 (by kernel_rfl)), eval_get (hA.at_ 109 (by kernel_rfl)), rfl, rfl, rfl, rfl, rfl, rfl, rfl, rfl, rfl, rfl, rfl, rfl, rfl, rfl, rfl, rfl, rfl, rfl, rfl, rfl, rfl, rfl, rfl, rfl, rfl, rfl, rfl, rfl, rfl, rfl, rfl, rfl, rfl, rfl, rfl, rfl, rfl, rfl, rfl, rfl, rfl, rfl, rfl, hv153, trivial⟩ hA.size hA.defers
    rw [ha]
    exact HK.out w' _ _ _ _ _ _ _ _ _ _ _ _ _ _ _ _ _ _ _ _ _ _ _ _ _ _ _ _ _ _ _ _ _ _ _ _ _ _ _ _ _ _ _ hJ


end Go.Proofs.Ytjggeodnoigkkaa
