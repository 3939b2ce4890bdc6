/-
  PinsOrder: name, and the two regions that pin (printed by wip/tools/genord.py).
-/
import Derived.Test.YtjggeodnoigkkaaOA
import Derived.Test.YtjggeodnoigkkaaFlow3
namespace Go.Proofs.Ytjggeodnoigkkaa
open Go.RowKit Go.Maps Go.Shelf Go.Proofs.YtjggeodnoigkkaaM

theorem IsPins.other {w w' : World} {q cm cd b : Nat} {M : PM} {D : DM} (h : IsPins w q cm cd M D) (hg : w.grownBy w' (some b)) (h1 : q ≠ b) (h2 : cm ≠ b) (h3 : cd ≠ b) : IsPins w' q cm cd M D :=
  ⟨hg.cell h.c0 (by simpa using h1), hg.cell h.c1 (by simpa using h1), h.m.kept hg (by simpa using h2), h.d.kept hg (by simpa using h3), h.ne⟩

set_option maxRecDepth 100000 in
theorem name_any (i : Nat) (w : World) (hi : i < 20) : Calls Try.prog 19 #[.int .i64 (i : Int)] w fun e w' => e = .returned (.string ⟨(nm i).toArray⟩) ∧ Below w.heap.size w w' := by
  obtain ⟨W, hW⟩ : ∃ W, W = w.alloc (.cells #[.int .u8 ((97 + (i : Int)) % 256)] 5) := ⟨_, rfl⟩
  have hcv := run_convert_bytes_arg (P := Try.prog) W 59 5 Try.underlying59 Try.underlying5 w.heap.size 0 1 1 [(97 + (i : Int)) % 256] rfl (fun j hj => by
    have : j = 0 := by omega
    subst this
    rw [hW]
    simp) 9 Try.underlying9
  obtain ⟨z, hz⟩ : ∃ z : ByteArray, z = strOfNums [(97 + (i : Int)) % 256] := ⟨_, rfl⟩
  rw [← hz] at hcv
  have H := Lib.hid (show z = ⟨(nm i).toArray⟩ from by
    rw [hz, nm]
    have : ((97 + (i : Int)) % 256).toNat = (97 + i) % 256 := by omega
    simp [strOfNums, this])
  rw [hW] at hcv
  clear hz hW
  have hw : IntKind.i64.wrap (97 + (i : Int)) = 97 + (i : Int) := IntWalk.i64_in _ (by omega)
  clear hi
  go_enter Try.func19, Try.ntmps19
  go_wp2_with fail
  go_ret
  exact ⟨by rw [← H.out]; rfl, (Below.refl _ _).alloc (Nat.le_refl _) _⟩

noncomputable def codeord8 : Code := ((Try.f4.body.bind (theRegion 8)).getD .skip)

set_option linter.unusedVariables false in
def Jord8 (w0 : World) (p bm bd q cm cd : Nat) (M M2 : PM) (D D2 : DM) (g : Addr) (n cap i : Nat) (x : Int) (L : Nat → Bool) (W : World) : Prop := Below w0.heap.size w0 W ∧ IsPins W q cm cd M2 D2 ∧ IsPins W p bm bd (bif L 7 then (pinF M (nm i) x).2 else M) D
set_option linter.unusedVariables false in
def Rord8 (w0 : World) (p bm bd q cm cd : Nat) (M M2 : PM) (D D2 : DM) (g : Addr) (n cap i : Nat) (x : Int) (j : Nat) (v : Value) (_w : World) : Prop :=
  v = [.pointer (some ⟨p, 0, none⟩), .int .i64 (i : Int), .string ⟨(nm i).toArray⟩, .slice (some g) n cap, .int .i64 (i : Int), .pointer (some (g.add i)), .int .i64 x, .int .i64 (pinF M (nm i) x).1].getD j undef
set_option maxRecDepth 1000000 in
set_option maxHeartbeats 4000000 in
theorem ord8 (Q : Exit → Act → World → Prop) (w0 : World) (p bm bd q cm cd : Nat) (M M2 : PM) (D D2 : DM) (g : Addr) (n cap i : Nat) (x : Int) (w : World)
    (hi : i < 20)
    (hin : i < n)
    (hg1 : (g.add i).block < w0.heap.size)
    (hgx : w0.cell? (g.add i) = some (.int .i64 x))
    (hM : M.length < maxLen)
    (hbm : w0.heap.size ≤ bm)
    (n1 : q ≠ bm)
    (n2 : cm ≠ bm)
    (n3 : cd ≠ bm)
    (hj0 : Jord8 w0 p bm bd q cm cd M M2 D D2 g n cap i x (fun _ => false) w.drew) (t1 t2 t3 t4 t6 t8 t9 t10 t11 t12 t13 t14 t15 t16 t17 t18 t19 t20 t21 t22 t23 t24 t25 t26 t27 t28 t29 t30 t31 t32 t33 t34 t35 t36 t37 t38 t39 t40 t41 t42 t43 t44 t45 t46 t47 t48 t49 t50 t51 t52 t53 t54 t55 t56 t57 t58 t59 t60 t61 t62 t63 t64 t65 t66 t67 t68 t69 t70 t71 t72 t73 t74 t75 t76 t77 t78 t79 t80 t81 t82 t83 t84 t85 t86 t87 t88 t89 t90 t91 t92 t93 t94 t95 t96 t97 t98 t99 t100 t101 t102 t103 t104 t105 t106 t107 t108 t109 t110 t111 t112 t113 t114 t115 t116 t117 t118 t119 t120 t121 t122 t123 t124 t125 t126 t127 t128 t129 t130 t131 t132 t133 t134 t135 t136 t137 t138 t139 t140 t141 t142 t143 t144 t145 t146 t147 t148 t149 t150 t151 t152 t153 t154 t155 t156 t157 t158 t159 t160 t161 t162 t163 t164 t165 t166 t167 t168 t169 t170 t171 t172 t173 t174 t175 t176 t177 t178 t179 t180 t181 t182 t183 t184 t185 t186 t187 t188 t189 t190 t191 t192 t193 t194 t195 t196 t197 t198 t199 t200 t201 t202 t203 t204 t205 t206 t207 t208 t209 t210 t211 t212 t213 t214 t215 t216 : Value) (hK : ∀ (w' : World) (s50 s51 s52 s53 s54 s55 s56 s57 : Value), Jord8 w0 p bm bd q cm cd M M2 D D2 g n cap i x (fun _ => true) w' → Q .normal ⟨#[.slice (some g) n cap, t1, t2, t3, t4, .pointer (some ⟨p, 0, none⟩), t6, .int .i64 (i : Int), t8, t9, t10, t11, t12, t13, t14, t15, t16, t17, t18, t19, t20, t21, t22, t23, t24, t25, t26, t27, t28, t29, t30, t31, t32, t33, t34, t35, t36, t37, t38, t39, t40, t41, t42, t43, t44, t45, t46, t47, t48, t49, s50, s51, s52, s53, s54, s55, s56, s57, t58, t59, t60, t61, t62, t63, t64, t65, t66, t67, t68, t69, t70, t71, t72, t73, t74, t75, t76, t77, t78, t79, t80, t81, t82, t83, t84, t85, t86, t87, t88, t89, t90, t91, t92, t93, t94, t95, t96, t97, t98, t99, t100, t101, t102, t103, t104, t105, t106, t107, t108, t109, t110, t111, t112, t113, t114, t115, t116, t117, t118, t119, t120, t121, t122, t123, t124, t125, t126, t127, t128, t129, t130, t131, t132, t133, t134, t135, t136, t137, t138, t139, t140, t141, t142, t143, t144, t145, t146, t147, t148, t149, t150, t151, t152, t153, t154, t155, t156, t157, t158, t159, t160, t161, t162, t163, t164, t165, t166, t167, t168, t169, t170, t171, t172, t173, t174, t175, t176, t177, t178, t179, t180, t181, t182, t183, t184, t185, t186, t187, t188, t189, t190, t191, t192, t193, t194, t195, t196, t197, t198, t199, t200, t201, t202, t203, t204, t205, t206, t207, t208, t209, t210, t211, t212, t213, t214, t215, t216], []⟩ w') :
    Code.wp Try.prog codeord8 Q ⟨#[.slice (some g) n cap, t1, t2, t3, t4, .pointer (some ⟨p, 0, none⟩), t6, .int .i64 (i : Int), t8, t9, t10, t11, t12, t13, t14, t15, t16, t17, t18, t19, t20, t21, t22, t23, t24, t25, t26, t27, t28, t29, t30, t31, t32, t33, t34, t35, t36, t37, t38, t39, t40, t41, t42, t43, t44, t45, t46, t47, t48, t49, t50, t51, t52, t53, t54, t55, t56, t57, t58, t59, t60, t61, t62, t63, t64, t65, t66, t67, t68, t69, t70, t71, t72, t73, t74, t75, t76, t77, t78, t79, t80, t81, t82, t83, t84, t85, t86, t87, t88, t89, t90, t91, t92, t93, t94, t95, t96, t97, t98, t99, t100, t101, t102, t103, t104, t105, t106, t107, t108, t109, t110, t111, t112, t113, t114, t115, t116, t117, t118, t119, t120, t121, t122, t123, t124, t125, t126, t127, t128, t129, t130, t131, t132, t133, t134, t135, t136, t137, t138, t139, t140, t141, t142, t143, t144, t145, t146, t147, t148, t149, t150, t151, t152, t153, t154, t155, t156, t157, t158, t159, t160, t161, t162, t163, t164, t165, t166, t167, t168, t169, t170, t171, t172, t173, t174, t175, t176, t177, t178, t179, t180, t181, t182, t183, t184, t185, t186, t187, t188, t189, t190, t191, t192, t193, t194, t195, t196, t197, t198, t199, t200, t201, t202, t203, t204, t205, t206, t207, t208, t209, t210, t211, t212, t213, t214, t215, t216], []⟩ w := by
  have HK := Lib.hid hK
  clear hK
  have hi0 : (0 : Int) ≤ (i : Int) := by omega
  have hi1 : (i : Int) < (n : Int) := by omega
  conv => arg 2; whnf
  refine wp_flow3 (P := Try.prog) (by kernel_rfl) (by kernel_rfl) (Jord8 w0 p bm bd q cm cd M M2 D D2 g n cap i x) (Rord8 w0 p bm bd q cm cd M M2 D D2 g n cap i x) (fun _ _ => True) hj0 (fun _ _ _ _ _ h => h) ?_ ?_
  · refine ⟨?_, ?_, ?_, ?_, ?_, ?_, ?_, ?_, trivial⟩
    · intro L a w1 hJ hA hU hT hD K hK
      refine duty_plain rfl ?_
      have h5 : a.tmps[5]?.getD undef = .pointer (some ⟨p, 0, none⟩) := eval_get (hA.at_ 5 (by kernel_rfl))
      refine wp_value (v := .pointer (some ⟨p, 0, none⟩)) (w' := w1) ?_ (hK _ _ hJ trivial rfl)
      clear hK hD hA hJ hU hT
      go_simp
    · intro L a w1 hJ hA hU hT hD K hK
      refine duty_plain rfl ?_
      have h7 : a.tmps[7]?.getD undef = .int .i64 (i : Int) := eval_get (hA.at_ 7 (by kernel_rfl))
      refine wp_value (v := .int .i64 (i : Int)) (w' := w1) ?_ (hK _ _ hJ trivial rfl)
      clear hK hD hA hJ hU hT
      go_simp
    · intro L a w1 hJ hA hU hT hD K hK
      refine duty_plain rfl ?_
      have h51 : a.tmps[51]?.getD undef = .int .i64 (i : Int) := eval_get (given_at hD 1 rfl rfl rfl)
      refine wp_enter (f := 19) (args := #[.int .i64 (i : Int)]) (w' := w1) ?_ (Calls.mono (name_any i w1 hi) ?_)
      · clear hK hD hA hJ hU hT
        go_simp
      · rintro e w2 ⟨rfl, hb2⟩
        exact ⟨_, rfl, hK _ _ (⟨hJ.1.trans (hb2.mono hJ.1.size), hJ.2.1.below hb2, hJ.2.2.below hb2⟩) trivial rfl⟩
    · intro L a w1 hJ hA hU hT hD K hK
      refine duty_plain rfl ?_
      have h0 : a.tmps[0]?.getD undef = .slice (some g) n cap := eval_get (hA.at_ 0 (by kernel_rfl))
      refine wp_value (v := .slice (some g) n cap) (w' := w1) ?_ (hK _ _ hJ trivial rfl)
      clear hK hD hA hJ hU hT
      go_simp
    · intro L a w1 hJ hA hU hT hD K hK
      refine duty_plain rfl ?_
      have h7 : a.tmps[7]?.getD undef = .int .i64 (i : Int) := eval_get (hA.at_ 7 (by kernel_rfl))
      refine wp_value (v := .int .i64 (i : Int)) (w' := w1) ?_ (hK _ _ hJ trivial rfl)
      clear hK hD hA hJ hU hT
      go_simp
    · intro L a w1 hJ hA hU hT hD K hK
      refine duty_plain rfl ?_
      have h53 : a.tmps[53]?.getD undef = .slice (some g) n cap := eval_get (given_at hD 3 rfl rfl rfl)
      have h54 : a.tmps[54]?.getD undef = .int .i64 (i : Int) := eval_get (given_at hD 4 rfl rfl rfl)
      refine wp_value (v := .pointer (some (g.add i))) (w' := w1) ?_ (hK _ _ hJ trivial rfl)
      clear hK hD hA hJ hU hT
      go_simp
    · intro L a w1 hJ hA hU hT hD K hK
      refine duty_plain rfl ?_
      have h55 : a.tmps[55]?.getD undef = .pointer (some (g.add i)) := eval_get (given_at hD 5 rfl rfl rfl)
      have hc := (hJ.1.cell (p := g.add i) hg1).trans hgx
      refine wp_value (v := .int .i64 x) (w' := w1) ?_ (hK _ _ hJ trivial rfl)
      clear hK hD hA hJ hU hT
      go_simp
    · intro L a w1 hJ hA hU hT hD K hK
      refine duty_plain rfl ?_
      have h50 : a.tmps[50]?.getD undef = .pointer (some ⟨p, 0, none⟩) := eval_get (given_at hD 0 rfl rfl rfl)
      have h52 : a.tmps[52]?.getD undef = .string ⟨(nm i).toArray⟩ := eval_get (given_at hD 2 rfl rfl rfl)
      have h56 : a.tmps[56]?.getD undef = .int .i64 x := eval_get (given_at hD 6 rfl rfl rfl)
      have hL := hT.self
      unfold Jord8 at hJ
      rw [hL] at hJ
      obtain ⟨j1, j2, j3⟩ := hJ
      refine wp_enter (f := 18) (args := #[.pointer (some ⟨p, 0, none⟩), .string ⟨(nm i).toArray⟩, .int .i64 x]) (w' := w1) ?_ ((pin_any p bm bd M D (nm i) x w1 j3 (by simp [nm, maxLen]) hM).mono ?_)
      · clear hK hD hA hU hT j1 j2 j3
        go_simp
      · rintro e w2 ⟨rfl, h2, hg⟩
        exact ⟨_, rfl, hK _ _ ⟨j1.trans (below_of_grown hg hbm j1.size), j2.other hg n1 n2 n3, h2⟩ trivial rfl⟩
  · intro L a w' hJ hL hA hG
    have ha : a = ⟨#[.slice (some g) n cap, t1, t2, t3, t4, .pointer (some ⟨p, 0, none⟩), t6, .int .i64 (i : Int), t8, t9, t10, t11, t12, t13, t14, t15, t16, t17, t18, t19, t20, t21, t22, t23, t24, t25, t26, t27, t28, t29, t30, t31, t32, t33, t34, t35, t36, t37, t38, t39, t40, t41, t42, t43, t44, t45, t46, t47, t48, t49, a.tmps[50]?.getD undef, a.tmps[51]?.getD undef, a.tmps[52]?.getD undef, a.tmps[53]?.getD undef, a.tmps[54]?.getD undef, a.tmps[55]?.getD undef, a.tmps[56]?.getD undef, a.tmps[57]?.getD undef, t58, t59, t60, t61, t62, t63, t64, t65, t66, t67, t68, t69, t70, t71, t72, t73, t74, t75, t76, t77, t78, t79, t80, t81, t82, t83, t84, t85, t86, t87, t88, t89, t90, t91, t92, t93, t94, t95, t96, t97, t98, t99, t100, t101, t102, t103, t104, t105, t106, t107, t108, t109, t110, t111, t112, t113, t114, t115, t116, t117, t118, t119, t120, t121, t122, t123, t124, t125, t126, t127, t128, t129, t130, t131, t132, t133, t134, t135, t136, t137, t138, t139, t140, t141, t142, t143, t144, t145, t146, t147, t148, t149, t150, t151, t152, t153, t154, t155, t156, t157, t158, t159, t160, t161, t162, t163, t164, t165, t166, t167, t168, t169, t170, t171, t172, t173, t174, t175, t176, t177, t178, t179, t180, t181, t182, t183, t184, t185, t186, t187, t188, t189, t190, t191, t192, t193, t194, t195, t196, t197, t198, t199, t200, t201, t202, t203, t204, t205, t206, t207, t208, t209, t210, t211, t212, t213, t214, t215, t216], []⟩ := act_of ⟨eval_get (hA.at_ 0 (by kernel_rfl)), eval_get (hA.at_ 1 (by kernel_rfl)), eval_get (hA.at_ 2 (by kernel_rfl)), eval_get (hA.at_ 3 (by kernel_rfl)), eval_get (hA.at_ 4 (by kernel_rfl)), eval_get (hA.at_ 5 (by kernel_rfl)), eval_get (hA.at_ 6 (by kernel_rfl)), eval_get (hA.at_ 7 (by kernel_rfl)), eval_get (hA.at_ 8 (by kernel_rfl)), eval_get (hA.at_ 9 (by kernel_rfl)), eval_get (hA.at_ 10 (by kernel_rfl)), eval_get (hA.at_ 11 (by kernel_rfl)), eval_get (hA.at_ 12 (by kernel_rfl)), eval_get (hA.at_ 13 (by kernel_rfl)), eval_get (hA.at_ 14 (by kernel_rfl)), eval_get (hA.at_ 15 (by kernel_rfl)), eval_get (hA.at_ 16 (by kernel_rfl)), eval_get (hA.at_ 17 (by kernel_rfl)), eval_get (hA.at_ 18 (by kernel_rfl)), eval_get (hA.at_ 19 (by kernel_rfl)), eval_get (hA.at_ 20 (by kernel_rfl)), eval_get (hA.at_ 21 (by kernel_rfl)), eval_get (hA.at_ 22 (by kernel_rfl)), eval_get (hA.at_ 23 (by kernel_rfl)), eval_get (hA.at_ 24 (by kernel_rfl)), eval_get (hA.at_ 25 (by kernel_rfl)), eval_get (hA.at_ 26 (by kernel_rfl)), eval_get (hA.at_ 27 (by kernel_rfl)), eval_get (hA.at_ 28 (by kernel_rfl)), eval_get (hA.at_ 29 (by kernel_rfl)), eval_get (hA.at_ 30 (by kernel_rfl)), eval_get (hA.at_ 31 (by kernel_rfl)), eval_get (hA.at_ 32 (by kernel_rfl)), eval_get (hA.at_ 33 (by kernel_rfl)), eval_get (hA.at_ 34 (by kernel_rfl)), eval_get (hA.at_ 35 (by kernel_rfl)), eval_get (hA.at_ 36 (by kernel_rfl)), eval_get (hA.at_ 37 (by kernel_rfl)), eval_get (hA.at_ 38 (by kernel_rfl)), eval_get (hA.at_ 39 (by kernel_rfl)), eval_get (hA.at_ 40 (by kernel_rfl)), eval_get (hA.at_ 41 (by kernel_rfl)), eval_get (hA.at_ 42 (by kernel_rfl)), eval_get (hA.at_ 43 (by kernel_rfl)), eval_get (hA.at_ 44 (by kernel_rfl)), eval_get (hA.at_ 45 (by kernel_rfl)), eval_get (hA.at_ 46 (by kernel_rfl)), eval_get (hA.at_ 47 (by kernel_rfl)), eval_get (hA.at_ 48 (by kernel_rfl)), eval_get (hA.at_ 49 (by kernel_rfl)), rfl, rfl, rfl, rfl, rfl, rfl, rfl, rfl, eval_get (hA.at_ 58 (by kernel_rfl)), eval_get (hA.at_ 59 (by kernel_rfl)), eval_get (hA.at_ 60 (by kernel_rfl)), eval_get (hA.at_ 61 (by kernel_rfl)), eval_get (hA.at_ 62 (by kernel_rfl)), eval_get (hA.at_ 63 (by kernel_rfl)), eval_get (hA.at_ 64 (by kernel_rfl)), eval_get (hA.at_ 65 (by kernel_rfl)), eval_get (hA.at_ 66 (by kernel_rfl)), eval_get (hA.at_ 67 (by kernel_rfl)), eval_get (hA.at_ 68 (by kernel_rfl)), eval_get (hA.at_ 69 (by kernel_rfl)), eval_get (hA.at_ 70 (by kernel_rfl)), eval_get (hA.at_ 71 (by kernel_rfl)), eval_get (hA.at_ 72 (by kernel_rfl)), eval_get (hA.at_ 73 (by kernel_rfl)), eval_get (hA.at_ 74 (by kernel_rfl)), eval_get (hA.at_ 75 (by kernel_rfl)), eval_get (hA.at_ 76 (by kernel_rfl)), eval_get (hA.at_ 77 (by kernel_rfl)), eval_get (hA.at_ 78 (by kernel_rfl)), eval_get (hA.at_ 79 (by kernel_rfl)), eval_get (hA.at_ 80 (by kernel_rfl)), eval_get (hA.at_ 81 (by kernel_rfl)), eval_get (hA.at_ 82 (by kernel_rfl)), eval_get (hA.at_ 83 (by kernel_rfl)), eval_get (hA.at_ 84 (by kernel_rfl)), eval_get (hA.at_ 85 (by kernel_rfl)), eval_get (hA.at_ 86 (by kernel_rfl)), eval_get (hA.at_ 87 (by kernel_rfl)), eval_get (hA.at_ 88 (by kernel_rfl)), eval_get (hA.at_ 89 (by kernel_rfl)), eval_get (hA.at_ 90 (by kernel_rfl)), eval_get (hA.at_ 91 (by kernel_rfl)), eval_get (hA.at_ 92 (by kernel_rfl)), eval_get (hA.at_ 93 (by kernel_rfl)), eval_get (hA.at_ 94 (by kernel_rfl)), eval_get (hA.at_ 95 (by kernel_rfl)), eval_get (hA.at_ 96 (by kernel_rfl)), eval_get (hA.at_ 97 (by kernel_rfl)), eval_get (hA.at_ 98 (by kernel_rfl)), eval_get (hA.at_ 99 (by kernel_rfl)), eval_get (hA.at_ 100 (by kernel_rfl)), eval_get (hA.at_ 101 (by kernel_rfl)), eval_get (hA.at_ 102 (by kernel_rfl)), eval_get (hA.at_ 103 (by kernel_rfl)), eval_get (hA.at_ 104 (by kernel_rfl)), eval_get (hA.at_ 105 (by kernel_rfl)), eval_get (hA.at_ 106 (by kernel_rfl)), eval_get (hA.at_ 107 (by kernel_rfl)), eval_get (hA.at_ 108 (by kernel_rfl)), eval_get (hA.at_ 109 (by kernel_rfl)), eval_get (hA.at_ 110 (by kernel_rfl)), eval_get (hA.at_ 111 (by kernel_rfl)), eval_get (hA.at_ 112 (by kernel_rfl)), eval_get (hA.at_ 113 (by kernel_rfl)), eval_get (hA.at_ 114 (by kernel_rfl)), eval_get (hA.at_ 115 (by kernel_rfl)), eval_get (hA.at_ 116 (by kernel_rfl)), eval_get (hA.at_ 117 (by kernel_rfl)), eval_get (hA.at_ 118 (by kernel_rfl)), eval_get (hA.at_ 119 (by kernel_rfl)), eval_get (hA.at_ 120 (by kernel_rfl)), eval_get (hA.at_ 121 (by kernel_rfl)), eval_get (hA.at_ 122 (by kernel_rfl)), eval_get (hA.at_ 123 (by kernel_rfl)), eval_get (hA.at_ 124 (by kernel_rfl)), eval_get (hA.at_ 125 (by kernel_rfl)), eval_get (hA.at_ 126 (by kernel_rfl)), eval_get (hA.at_ 127 (by kernel_rfl)), eval_get (hA.at_ 128 (by kernel_rfl)), eval_get (hA.at_ 129 (by kernel_rfl)), eval_get (hA.at_ 130 (by kernel_rfl)), eval_get (hA.at_ 131 (by kernel_rfl)), eval_get (hA.at_ 132 (by kernel_rfl)), eval_get (hA.at_ 133 (by kernel_rfl)), eval_get (hA.at_ 134 (by kernel_rfl)), eval_get (hA.at_ 135 (by kernel_rfl)), eval_get (hA.at_ 136 (by kernel_rfl)), eval_get (hA.at_ 137 (by kernel_rfl)), eval_get (hA.at_ 138 (by kernel_rfl)), eval_get (hA.at_ 139 (by kernel_rfl)), eval_get (hA.at_ 140 (by kernel_rfl)), eval_get (hA.at_ 141 (by kernel_rfl)), eval_get (hA.at_ 142 (by kernel_rfl)), eval_get (hA.at_ 143 (by kernel_rfl)), eval_get (hA.at_ 144 (by kernel_rfl)), eval_get (hA.at_ 145 (by kernel_rfl)), eval_get (hA.at_ 146 (by kernel_rfl)), eval_get (hA.at_ 147 (by kernel_rfl)), eval_get (hA.at_ 148 (by kernel_rfl)), eval_get (hA.at_ 149 (by kernel_rfl)), eval_get (hA.at_ 150 (by kernel_rfl)), eval_get (hA.at_ 151 (by kernel_rfl)), eval_get (hA.at_ 152 (by kernel_rfl)), eval_get (hA.at_ 153 (by kernel_rfl)), eval_get (hA.at_ 154 (by kernel_rfl)), eval_get (hA.at_ 155 (by kernel_rfl)), eval_get (hA.at_ 156 (by kernel_rfl)), eval_get (hA.at_ 157 (by kernel_rfl)), eval_get (hA.at_ 158 (by kernel_rfl)), eval_get (hA.at_ 159 (by kernel_rfl)), eval_get (hA.at_ 160 (by kernel_rfl)), eval_get (hA.at_ 161 (by kernel_rfl)), eval_get (hA.at_ 162 (by kernel_rfl)), eval_get (hA.at_ 163 (by kernel_rfl)), eval_get (hA.at_ 164 (by kernel_rfl)), eval_get (hA.at_ 165 (by kernel_rfl)), eval_get (hA.at_ 166 (by kernel_rfl)), eval_get (hA.at_ 167 (by kernel_rfl)), eval_get (hA.at_ 168 (by kernel_rfl)), eval_get (hA.at_ 169 (by kernel_rfl)), eval_get (hA.at_ 170 (by kernel_rfl)), eval_get (hA.at_ 171 (by kernel_rfl)), eval_get (hA.at_ 172 (by kernel_rfl)), eval_get (hA.at_ 173 (by kernel_rfl)), eval_get (hA.at_ 174 (by kernel_rfl)), eval_get (hA.at_ 175 (by kernel_rfl)), eval_get (hA.at_ 176 (by kernel_rfl)), eval_get (hA.at_ 177 (by kernel_rfl)), eval_get (hA.at_ 178 (by kernel_rfl)), eval_get (hA.at_ 179 (by kernel_rfl)), eval_get (hA.at_ 180 (by kernel_rfl)), eval_get (hA.at_ 181 (by kernel_rfl)), eval_get (hA.at_ 182 (by kernel_rfl)), eval_get (hA.at_ 183 (by kernel_rfl)), eval_get (hA.at_ 184 (by kernel_rfl)), eval_get (hA.at_ 185 (by kernel_rfl)), eval_get (hA.at_ 186 (by kernel_rfl)), eval_get (hA.at_ 187 (by kernel_rfl)), eval_get (hA.at_ 188 (by kernel_rfl)), eval_get (hA.at_ 189 (by kernel_rfl)), eval_get (hA.at_ 190 (by kernel_rfl)), eval_get (hA.at_ 191 (by kernel_rfl)), eval_get (hA.at_ 192 (by kernel_rfl)), eval_get (hA.at_ 193 (by kernel_rfl)), eval_get (hA.at_ 194 (by kernel_rfl)), eval_get (hA.at_ 195 (by kernel_rfl)), eval_get (hA.at_ 196 (by kernel_rfl)), eval_get (hA.at_ 197 (by kernel_rfl)), eval_get (hA.at_ 198 (by kernel_rfl)), eval_get (hA.at_ 199 (by kernel_rfl)), eval_get (hA.at_ 200 (by kernel_rfl)), eval_get (hA.at_ 201 (by kernel_rfl)), eval_get (hA.at_ 202 (by kernel_rfl)), eval_get (hA.at_ 203 (by kernel_rfl)), eval_get (hA.at_ 204 (by kernel_rfl)), eval_get (hA.at_ 205 (by kernel_rfl)), eval_get (hA.at_ 206 (by kernel_rfl)), eval_get (hA.at_ 207 (by kernel_rfl)), eval_get (hA.at_ 208 (by kernel_rfl)), eval_get (hA.at_ 209 (by kernel_rfl)), eval_get (hA.at_ 210 (by kernel_rfl)), eval_get (hA.at_ 211 (by kernel_rfl)), eval_get (hA.at_ 212 (by kernel_rfl)), eval_get (hA.at_ 213 (by kernel_rfl)), eval_get (hA.at_ 214 (by kernel_rfl)), eval_get (hA.at_ 215 (by kernel_rfl)), eval_get (hA.at_ 216 (by kernel_rfl)), trivial⟩ hA.size hA.defers
    rw [ha]
    refine HK.out w' _ _ _ _ _ _ _ _ ?_
    unfold Jord8 at hJ ⊢
    rw [hL 7 (of_decide_eq_true (by kernel_rfl))] at hJ
    exact hJ


noncomputable def codeord27 : Code := ((Try.f4.body.bind (theRegion 27)).getD .skip)

set_option linter.unusedVariables false in
def Jord27 (w0 : World) (p bm bd q cm cd : Nat) (M M2 : PM) (D D2 : DM) (g : Addr) (n cap i : Nat) (x : Int) (L : Nat → Bool) (W : World) : Prop := Below w0.heap.size w0 W ∧ IsPins W q cm cd M2 D2 ∧ IsPins W p bm bd (bif L 7 then (pinF M (nm i) x).2 else M) D
set_option linter.unusedVariables false in
def Rord27 (w0 : World) (p bm bd q cm cd : Nat) (M M2 : PM) (D D2 : DM) (g : Addr) (n cap i : Nat) (x : Int) (j : Nat) (v : Value) (_w : World) : Prop :=
  v = [.pointer (some ⟨p, 0, none⟩), .int .i64 (i : Int), .string ⟨(nm i).toArray⟩, .slice (some g) n cap, .int .i64 (i : Int), .pointer (some (g.add i)), .int .i64 x, .int .i64 (pinF M (nm i) x).1].getD j undef
set_option maxRecDepth 1000000 in
set_option maxHeartbeats 4000000 in
theorem ord27 (Q : Exit → Act → World → Prop) (w0 : World) (p bm bd q cm cd : Nat) (M M2 : PM) (D D2 : DM) (g : Addr) (n cap i : Nat) (x : Int) (w : World)
    (hi : i < 20)
    (hin : i < n)
    (hg1 : (g.add i).block < w0.heap.size)
    (hgx : w0.cell? (g.add i) = some (.int .i64 x))
    (hM : M.length < maxLen)
    (hbm : w0.heap.size ≤ bm)
    (n1 : q ≠ bm)
    (n2 : cm ≠ bm)
    (n3 : cd ≠ bm)
    (hj0 : Jord27 w0 p bm bd q cm cd M M2 D D2 g n cap i x (fun _ => false) w.drew) (t1 t2 t3 t4 t5 t7 t8 t9 t10 t11 t12 t14 t15 t16 t17 t18 t19 t20 t21 t22 t23 t24 t25 t26 t27 t28 t29 t30 t31 t32 t33 t34 t35 t36 t37 t38 t39 t40 t41 t42 t43 t44 t45 t46 t47 t48 t49 t50 t51 t52 t53 t54 t55 t56 t57 t58 t59 t60 t61 t62 t63 t64 t65 t66 t67 t68 t69 t70 t71 t72 t73 t74 t75 t76 t77 t78 t79 t80 t81 t82 t83 t84 t85 t86 t87 t88 t89 t90 t91 t92 t93 t94 t95 t96 t97 t98 t99 t100 t101 t102 t103 t104 t105 t106 t107 t108 t109 t110 t111 t112 t113 t114 t115 t116 t117 t118 t119 t120 t121 t122 t123 t124 t125 t126 t127 t128 t129 t130 t131 t132 t133 t134 t135 t136 t137 t138 t139 t140 t141 t142 t143 t144 t145 t146 t147 t148 t149 t150 t151 t152 t153 t154 t155 t156 t157 t158 t159 t160 t161 t162 t163 t164 t165 t166 t167 t168 t169 t170 t171 t172 t173 t174 t175 t176 t177 t178 t179 t180 t181 t182 t183 t184 t185 t186 t187 t188 t189 t190 t191 t192 t193 t194 t195 t196 t197 t198 t199 t200 t201 t202 t203 t204 t205 t206 t207 t208 t209 t210 t211 t212 t213 t214 t215 t216 : Value) (hK : ∀ (w' : World) (s152 s153 s154 s155 s156 s157 s158 s159 : Value), Jord27 w0 p bm bd q cm cd M M2 D D2 g n cap i x (fun _ => true) w' → Q .normal ⟨#[.slice (some g) n cap, t1, t2, t3, t4, t5, .pointer (some ⟨p, 0, none⟩), t7, t8, t9, t10, t11, t12, .int .i64 (i : Int), t14, t15, t16, t17, t18, t19, t20, t21, t22, t23, t24, t25, t26, t27, t28, t29, t30, t31, t32, t33, t34, t35, t36, t37, t38, t39, t40, t41, t42, t43, t44, t45, t46, t47, t48, t49, t50, t51, t52, t53, t54, t55, t56, t57, t58, t59, t60, t61, t62, t63, t64, t65, t66, t67, t68, t69, t70, t71, t72, t73, t74, t75, t76, t77, t78, t79, t80, t81, t82, t83, t84, t85, t86, t87, t88, t89, t90, t91, t92, t93, t94, t95, t96, t97, t98, t99, t100, t101, t102, t103, t104, t105, t106, t107, t108, t109, t110, t111, t112, t113, t114, t115, t116, t117, t118, t119, t120, t121, t122, t123, t124, t125, t126, t127, t128, t129, t130, t131, t132, t133, t134, t135, t136, t137, t138, t139, t140, t141, t142, t143, t144, t145, t146, t147, t148, t149, t150, t151, s152, s153, s154, s155, s156, s157, s158, s159, t160, t161, t162, t163, t164, t165, t166, t167, t168, t169, t170, t171, t172, t173, t174, t175, t176, t177, t178, t179, t180, t181, t182, t183, t184, t185, t186, t187, t188, t189, t190, t191, t192, t193, t194, t195, t196, t197, t198, t199, t200, t201, t202, t203, t204, t205, t206, t207, t208, t209, t210, t211, t212, t213, t214, t215, t216], []⟩ w') :
    Code.wp Try.prog codeord27 Q ⟨#[.slice (some g) n cap, t1, t2, t3, t4, t5, .pointer (some ⟨p, 0, none⟩), t7, t8, t9, t10, t11, t12, .int .i64 (i : Int), t14, t15, t16, t17, t18, t19, t20, t21, t22, t23, t24, t25, t26, t27, t28, t29, t30, t31, t32, t33, t34, t35, t36, t37, t38, t39, t40, t41, t42, t43, t44, t45, t46, t47, t48, t49, t50, t51, t52, t53, t54, t55, t56, t57, t58, t59, t60, t61, t62, t63, t64, t65, t66, t67, t68, t69, t70, t71, t72, t73, t74, t75, t76, t77, t78, t79, t80, t81, t82, t83, t84, t85, t86, t87, t88, t89, t90, t91, t92, t93, t94, t95, t96, t97, t98, t99, t100, t101, t102, t103, t104, t105, t106, t107, t108, t109, t110, t111, t112, t113, t114, t115, t116, t117, t118, t119, t120, t121, t122, t123, t124, t125, t126, t127, t128, t129, t130, t131, t132, t133, t134, t135, t136, t137, t138, t139, t140, t141, t142, t143, t144, t145, t146, t147, t148, t149, t150, t151, t152, t153, t154, t155, t156, t157, t158, t159, t160, t161, t162, t163, t164, t165, t166, t167, t168, t169, t170, t171, t172, t173, t174, t175, t176, t177, t178, t179, t180, t181, t182, t183, t184, t185, t186, t187, t188, t189, t190, t191, t192, t193, t194, t195, t196, t197, t198, t199, t200, t201, t202, t203, t204, t205, t206, t207, t208, t209, t210, t211, t212, t213, t214, t215, t216], []⟩ w := by
  have HK := Lib.hid hK
  clear hK
  have hi0 : (0 : Int) ≤ (i : Int) := by omega
  have hi1 : (i : Int) < (n : Int) := by omega
  conv => arg 2; whnf
  refine wp_flow3 (P := Try.prog) (by kernel_rfl) (by kernel_rfl) (Jord27 w0 p bm bd q cm cd M M2 D D2 g n cap i x) (Rord27 w0 p bm bd q cm cd M M2 D D2 g n cap i x) (fun _ _ => True) hj0 (fun _ _ _ _ _ h => h) ?_ ?_
  · refine ⟨?_, ?_, ?_, ?_, ?_, ?_, ?_, ?_, trivial⟩
    · intro L a w1 hJ hA hU hT hD K hK
      refine duty_plain rfl ?_
      have h6 : a.tmps[6]?.getD undef = .pointer (some ⟨p, 0, none⟩) := eval_get (hA.at_ 6 (by kernel_rfl))
      refine wp_value (v := .pointer (some ⟨p, 0, none⟩)) (w' := w1) ?_ (hK _ _ hJ trivial rfl)
      clear hK hD hA hJ hU hT
      go_simp
    · intro L a w1 hJ hA hU hT hD K hK
      refine duty_plain rfl ?_
      have h13 : a.tmps[13]?.getD undef = .int .i64 (i : Int) := eval_get (hA.at_ 13 (by kernel_rfl))
      refine wp_value (v := .int .i64 (i : Int)) (w' := w1) ?_ (hK _ _ hJ trivial rfl)
      clear hK hD hA hJ hU hT
      go_simp
    · intro L a w1 hJ hA hU hT hD K hK
      refine duty_plain rfl ?_
      have h153 : a.tmps[153]?.getD undef = .int .i64 (i : Int) := eval_get (given_at hD 1 rfl rfl rfl)
      refine wp_enter (f := 19) (args := #[.int .i64 (i : Int)]) (w' := w1) ?_ (Calls.mono (name_any i w1 hi) ?_)
      · clear hK hD hA hJ hU hT
        go_simp
      · rintro e w2 ⟨rfl, hb2⟩
        exact ⟨_, rfl, hK _ _ (⟨hJ.1.trans (hb2.mono hJ.1.size), hJ.2.1.below hb2, hJ.2.2.below hb2⟩) trivial rfl⟩
    · intro L a w1 hJ hA hU hT hD K hK
      refine duty_plain rfl ?_
      have h0 : a.tmps[0]?.getD undef = .slice (some g) n cap := eval_get (hA.at_ 0 (by kernel_rfl))
      refine wp_value (v := .slice (some g) n cap) (w' := w1) ?_ (hK _ _ hJ trivial rfl)
      clear hK hD hA hJ hU hT
      go_simp
    · intro L a w1 hJ hA hU hT hD K hK
      refine duty_plain rfl ?_
      have h13 : a.tmps[13]?.getD undef = .int .i64 (i : Int) := eval_get (hA.at_ 13 (by kernel_rfl))
      refine wp_value (v := .int .i64 (i : Int)) (w' := w1) ?_ (hK _ _ hJ trivial rfl)
      clear hK hD hA hJ hU hT
      go_simp
    · intro L a w1 hJ hA hU hT hD K hK
      refine duty_plain rfl ?_
      have h155 : a.tmps[155]?.getD undef = .slice (some g) n cap := eval_get (given_at hD 3 rfl rfl rfl)
      have h156 : a.tmps[156]?.getD undef = .int .i64 (i : Int) := eval_get (given_at hD 4 rfl rfl rfl)
      refine wp_value (v := .pointer (some (g.add i))) (w' := w1) ?_ (hK _ _ hJ trivial rfl)
      clear hK hD hA hJ hU hT
      go_simp
    · intro L a w1 hJ hA hU hT hD K hK
      refine duty_plain rfl ?_
      have h157 : a.tmps[157]?.getD undef = .pointer (some (g.add i)) := eval_get (given_at hD 5 rfl rfl rfl)
      have hc := (hJ.1.cell (p := g.add i) hg1).trans hgx
      refine wp_value (v := .int .i64 x) (w' := w1) ?_ (hK _ _ hJ trivial rfl)
      clear hK hD hA hJ hU hT
      go_simp
    · intro L a w1 hJ hA hU hT hD K hK
      refine duty_plain rfl ?_
      have h152 : a.tmps[152]?.getD undef = .pointer (some ⟨p, 0, none⟩) := eval_get (given_at hD 0 rfl rfl rfl)
      have h154 : a.tmps[154]?.getD undef = .string ⟨(nm i).toArray⟩ := eval_get (given_at hD 2 rfl rfl rfl)
      have h158 : a.tmps[158]?.getD undef = .int .i64 x := eval_get (given_at hD 6 rfl rfl rfl)
      have hL := hT.self
      unfold Jord27 at hJ
      rw [hL] at hJ
      obtain ⟨j1, j2, j3⟩ := hJ
      refine wp_enter (f := 18) (args := #[.pointer (some ⟨p, 0, none⟩), .string ⟨(nm i).toArray⟩, .int .i64 x]) (w' := w1) ?_ ((pin_any p bm bd M D (nm i) x w1 j3 (by simp [nm, maxLen]) hM).mono ?_)
      · clear hK hD hA hU hT j1 j2 j3
        go_simp
      · rintro e w2 ⟨rfl, h2, hg⟩
        exact ⟨_, rfl, hK _ _ ⟨j1.trans (below_of_grown hg hbm j1.size), j2.other hg n1 n2 n3, h2⟩ trivial rfl⟩
  · intro L a w' hJ hL hA hG
    have ha : a = ⟨#[.slice (some g) n cap, t1, t2, t3, t4, t5, .pointer (some ⟨p, 0, none⟩), t7, t8, t9, t10, t11, t12, .int .i64 (i : Int), t14, t15, t16, t17, t18, t19, t20, t21, t22, t23, t24, t25, t26, t27, t28, t29, t30, t31, t32, t33, t34, t35, t36, t37, t38, t39, t40, t41, t42, t43, t44, t45, t46, t47, t48, t49, t50, t51, t52, t53, t54, t55, t56, t57, t58, t59, t60, t61, t62, t63, t64, t65, t66, t67, t68, t69, t70, t71, t72, t73, t74, t75, t76, t77, t78, t79, t80, t81, t82, t83, t84, t85, t86, t87, t88, t89, t90, t91, t92, t93, t94, t95, t96, t97, t98, t99, t100, t101, t102, t103, t104, t105, t106, t107, t108, t109, t110, t111, t112, t113, t114, t115, t116, t117, t118, t119, t120, t121, t122, t123, t124, t125, t126, t127, t128, t129, t130, t131, t132, t133, t134, t135, t136, t137, t138, t139, t140, t141, t142, t143, t144, t145, t146, t147, t148, t149, t150, t151, a.tmps[152]?.getD undef, a.tmps[153]?.getD undef, a.tmps[154]?.getD undef, a.tmps[155]?.getD undef, a.tmps[156]?.getD undef, a.tmps[157]?.getD undef, a.tmps[158]?.getD undef, a.tmps[159]?.getD undef, t160, t161, t162, t163, t164, t165, t166, t167, t168, t169, t170, t171, t172, t173, t174, t175, t176, t177, t178, t179, t180, t181, t182, t183, t184, t185, t186, t187, t188, t189, t190, t191, t192, t193, t194, t195, t196, t197, t198, t199, t200, t201, t202, t203, t204, t205, t206, t207, t208, t209, t210, t211, t212, t213, t214, t215, t216], []⟩ := act_of ⟨eval_get (hA.at_ 0 (by kernel_rfl)), eval_get (hA.at_ 1 (by kernel_rfl)), eval_get (hA.at_ 2 (by kernel_rfl)), eval_get (hA.at_ 3 (by kernel_rfl)), eval_get (hA.at_ 4 (by kernel_rfl)), eval_get (hA.at_ 5 (by kernel_rfl)), eval_get (hA.at_ 6 (by kernel_rfl)), eval_get (hA.at_ 7 (by kernel_rfl)), eval_get (hA.at_ 8 (by kernel_rfl)), eval_get (hA.at_ 9 (by kernel_rfl)), eval_get (hA.at_ 10 (by kernel_rfl)), eval_get (hA.at_ 11 (by kernel_rfl)), eval_get (hA.at_ 12 (by kernel_rfl)), eval_get (hA.at_ 13 (by kernel_rfl)), eval_get (hA.at_ 14 (by kernel_rfl)), eval_get (hA.at_ 15 (by kernel_rfl)), eval_get (hA.at_ 16 (by kernel_rfl)), eval_get (hA.at_ 17 (by kernel_rfl)), eval_get (hA.at_ 18 (by kernel_rfl)), eval_get (hA.at_ 19 (by kernel_rfl)), eval_get (hA.at_ 20 (by kernel_rfl)), eval_get (hA.at_ 21 (by kernel_rfl)), eval_get (hA.at_ 22 (by kernel_rfl)), eval_get (hA.at_ 23 (by kernel_rfl)), eval_get (hA.at_ 24 (by kernel_rfl)), eval_get (hA.at_ 25 (by kernel_rfl)), eval_get (hA.at_ 26 (by kernel_rfl)), eval_get (hA.at_ 27 (by kernel_rfl)), eval_get (hA.at_ 28 (by kernel_rfl)), eval_get (hA.at_ 29 (by kernel_rfl)), eval_get (hA.at_ 30 (by kernel_rfl)), eval_get (hA.at_ 31 (by kernel_rfl)), eval_get (hA.at_ 32 (by kernel_rfl)), eval_get (hA.at_ 33 (by kernel_rfl)), eval_get (hA.at_ 34 (by kernel_rfl)), eval_get (hA.at_ 35 (by kernel_rfl)), eval_get (hA.at_ 36 (by kernel_rfl)), eval_get (hA.at_ 37 (by kernel_rfl)), eval_get (hA.at_ 38 (by kernel_rfl)), eval_get (hA.at_ 39 (by kernel_rfl)), eval_get (hA.at_ 40 (by kernel_rfl)), eval_get (hA.at_ 41 (by kernel_rfl)), eval_get (hA.at_ 42 (by kernel_rfl)), eval_get (hA.at_ 43 (by kernel_rfl)), eval_get (hA.at_ 44 (by kernel_rfl)), eval_get (hA.at_ 45 (by kernel_rfl)), eval_get (hA.at_ 46 (by kernel_rfl)), eval_get (hA.at_ 47 (by kernel_rfl)), eval_get (hA.at_ 48 (by kernel_rfl)), eval_get (hA.at_ 49 (by kernel_rfl)), eval_get (hA.at_ 50 (by kernel_rfl)), eval_get (hA.at_ 51 (by kernel_rfl)), eval_get (hA.at_ 52 (by kernel_rfl)), eval_get (hA.at_ 53 (by kernel_rfl)), eval_get (hA.at_ 54 (by kernel_rfl)), eval_get (hA.at_ 55 (by kernel_rfl)), eval_get (hA.at_ 56 (by kernel_rfl)), eval_get (hA.at_ 57 (by kernel_rfl)), eval_get (hA.at_ 58 (by kernel_rfl)), eval_get (hA.at_ 59 (by kernel_rfl)), eval_get (hA.at_ 60 (by kernel_rfl)), eval_get (hA.at_ 61 (by kernel_rfl)), eval_get (hA.at_ 62 (by kernel_rfl)), eval_get (hA.at_ 63 (by kernel_rfl)), eval_get (hA.at_ 64 (by kernel_rfl)), eval_get (hA.at_ 65 (by kernel_rfl)), eval_get (hA.at_ 66 (by kernel_rfl)), eval_get (hA.at_ 67 (by kernel_rfl)), eval_get (hA.at_ 68 (by kernel_rfl)), eval_get (hA.at_ 69 (by kernel_rfl)), eval_get (hA.at_ 70 (by kernel_rfl)), eval_get (hA.at_ 71 (by kernel_rfl)), eval_get (hA.at_ 72 (by kernel_rfl)), eval_get (hA.at_ 73 (by kernel_rfl)), eval_get (hA.at_ 74 (by kernel_rfl)), eval_get (hA.at_ 75 (by kernel_rfl)), eval_get (hA.at_ 76 (by kernel_rfl)), eval_get (hA.at_ 77 (by kernel_rfl)), eval_get (hA.at_ 78 (by kernel_rfl)), eval_get (hA.at_ 79 (by kernel_rfl)), eval_get (hA.at_ 80 (by kernel_rfl)), eval_get (hA.at_ 81 (by kernel_rfl)), eval_get (hA.at_ 82 (by kernel_rfl)), eval_get (hA.at_ 83 (by kernel_rfl)), eval_get (hA.at_ 84 (by kernel_rfl)), eval_get (hA.at_ 85 (by kernel_rfl)), eval_get (hA.at_ 86 (by kernel_rfl)), eval_get (hA.at_ 87 (by kernel_rfl)), eval_get (hA.at_ 88 (by kernel_rfl)), eval_get (hA.at_ 89 (by kernel_rfl)), eval_get (hA.at_ 90 (by kernel_rfl)), eval_get (hA.at_ 91 (by kernel_rfl)), eval_get (hA.at_ 92 (by kernel_rfl)), eval_get (hA.at_ 93 (by kernel_rfl)), eval_get (hA.at_ 94 (by kernel_rfl)), eval_get (hA.at_ 95 (by kernel_rfl)), eval_get (hA.at_ 96 (by kernel_rfl)), eval_get (hA.at_ 97 (by kernel_rfl)), eval_get (hA.at_ 98 (by kernel_rfl)), eval_get (hA.at_ 99 (by kernel_rfl)), eval_get (hA.at_ 100 (by kernel_rfl)), eval_get (hA.at_ 101 (by kernel_rfl)), eval_get (hA.at_ 102 (by kernel_rfl)), eval_get (hA.at_ 103 (by kernel_rfl)), eval_get (hA.at_ 104 (by kernel_rfl)), eval_get (hA.at_ 105 (by kernel_rfl)), eval_get (hA.at_ 106 (by kernel_rfl)), eval_get (hA.at_ 107 (by kernel_rfl)), eval_get (hA.at_ 108 (by kernel_rfl)), eval_get (hA.at_ 109 (by kernel_rfl)), eval_get (hA.at_ 110 (by kernel_rfl)), eval_get (hA.at_ 111 (by kernel_rfl)), eval_get (hA.at_ 112 (by kernel_rfl)), eval_get (hA.at_ 113 (by kernel_rfl)), eval_get (hA.at_ 114 (by kernel_rfl)), eval_get (hA.at_ 115 (by kernel_rfl)), eval_get (hA.at_ 116 (by kernel_rfl)), eval_get (hA.at_ 117 (by kernel_rfl)), eval_get (hA.at_ 118 (by kernel_rfl)), eval_get (hA.at_ 119 (by kernel_rfl)), eval_get (hA.at_ 120 (by kernel_rfl)), eval_get (hA.at_ 121 (by kernel_rfl)), eval_get (hA.at_ 122 (by kernel_rfl)), eval_get (hA.at_ 123 (by kernel_rfl)), eval_get (hA.at_ 124 (by kernel_rfl)), eval_get (hA.at_ 125 (by kernel_rfl)), eval_get (hA.at_ 126 (by kernel_rfl)), eval_get (hA.at_ 127 (by kernel_rfl)), eval_get (hA.at_ 128 (by kernel_rfl)), eval_get (hA.at_ 129 (by kernel_rfl)), eval_get (hA.at_ 130 (by kernel_rfl)), eval_get (hA.at_ 131 (by kernel_rfl)), eval_get (hA.at_ 132 (by kernel_rfl)), eval_get (hA.at_ 133 (by kernel_rfl)), eval_get (hA.at_ 134 (by kernel_rfl)), eval_get (hA.at_ 135 (by kernel_rfl)), eval_get (hA.at_ 136 (by kernel_rfl)), eval_get (hA.at_ 137 (by kernel_rfl)), eval_get (hA.at_ 138 (by kernel_rfl)), eval_get (hA.at_ 139 (by kernel_rfl)), eval_get (hA.at_ 140 (by kernel_rfl)), eval_get (hA.at_ 141 (by kernel_rfl)), eval_get (hA.at_ 142 (by kernel_rfl)), eval_get (hA.at_ 143 (by kernel_rfl)), eval_get (hA.at_ 144 (by kernel_rfl)), eval_get (hA.at_ 145 (by kernel_rfl)), eval_get (hA.at_ 146 (by kernel_rfl)), eval_get (hA.at_ 147 (by kernel_rfl)), eval_get (hA.at_ 148 (by kernel_rfl)), eval_get (hA.at_ 149 (by kernel_rfl)), eval_get (hA.at_ 150 (by kernel_rfl)), eval_get (hA.at_ 151 (by kernel_rfl)), rfl, rfl, rfl, rfl, rfl, rfl, rfl, rfl, eval_get (hA.at_ 160 (by kernel_rfl)), eval_get (hA.at_ 161 (by kernel_rfl)), eval_get (hA.at_ 162 (by kernel_rfl)), eval_get (hA.at_ 163 (by kernel_rfl)), eval_get (hA.at_ 164 (by kernel_rfl)), eval_get (hA.at_ 165 (by kernel_rfl)), eval_get (hA.at_ 166 (by kernel_rfl)), eval_get (hA.at_ 167 (by kernel_rfl)), eval_get (hA.at_ 168 (by kernel_rfl)), eval_get (hA.at_ 169 (by kernel_rfl)), eval_get (hA.at_ 170 (by kernel_rfl)), eval_get (hA.at_ 171 (by kernel_rfl)), eval_get (hA.at_ 172 (by kernel_rfl)), eval_get (hA.at_ 173 (by kernel_rfl)), eval_get (hA.at_ 174 (by kernel_rfl)), eval_get (hA.at_ 175 (by kernel_rfl)), eval_get (hA.at_ 176 (by kernel_rfl)), eval_get (hA.at_ 177 (by kernel_rfl)), eval_get (hA.at_ 178 (by kernel_rfl)), eval_get (hA.at_ 179 (by kernel_rfl)), eval_get (hA.at_ 180 (by kernel_rfl)), eval_get (hA.at_ 181 (by kernel_rfl)), eval_get (hA.at_ 182 (by kernel_rfl)), eval_get (hA.at_ 183 (by kernel_rfl)), eval_get (hA.at_ 184 (by kernel_rfl)), eval_get (hA.at_ 185 (by kernel_rfl)), eval_get (hA.at_ 186 (by kernel_rfl)), eval_get (hA.at_ 187 (by kernel_rfl)), eval_get (hA.at_ 188 (by kernel_rfl)), eval_get (hA.at_ 189 (by kernel_rfl)), eval_get (hA.at_ 190 (by kernel_rfl)), eval_get (hA.at_ 191 (by kernel_rfl)), eval_get (hA.at_ 192 (by kernel_rfl)), eval_get (hA.at_ 193 (by kernel_rfl)), eval_get (hA.at_ 194 (by kernel_rfl)), eval_get (hA.at_ 195 (by kernel_rfl)), eval_get (hA.at_ 196 (by kernel_rfl)), eval_get (hA.at_ 197 (by kernel_rfl)), eval_get (hA.at_ 198 (by kernel_rfl)), eval_get (hA.at_ 199 (by kernel_rfl)), eval_get (hA.at_ 200 (by kernel_rfl)), eval_get (hA.at_ 201 (by kernel_rfl)), eval_get (hA.at_ 202 (by kernel_rfl)), eval_get (hA.at_ 203 (by kernel_rfl)), eval_get (hA.at_ 204 (by kernel_rfl)), eval_get (hA.at_ 205 (by kernel_rfl)), eval_get (hA.at_ 206 (by kernel_rfl)), eval_get (hA.at_ 207 (by kernel_rfl)), eval_get (hA.at_ 208 (by kernel_rfl)), eval_get (hA.at_ 209 (by kernel_rfl)), eval_get (hA.at_ 210 (by kernel_rfl)), eval_get (hA.at_ 211 (by kernel_rfl)), eval_get (hA.at_ 212 (by kernel_rfl)), eval_get (hA.at_ 213 (by kernel_rfl)), eval_get (hA.at_ 214 (by kernel_rfl)), eval_get (hA.at_ 215 (by kernel_rfl)), eval_get (hA.at_ 216 (by kernel_rfl)), trivial⟩ hA.size hA.defers
    rw [ha]
    refine HK.out w' _ _ _ _ _ _ _ _ ?_
    unfold Jord27 at hJ ⊢
    rw [hL 7 (of_decide_eq_true (by kernel_rfl))] at hJ
    exact hJ


end Go.Proofs.Ytjggeodnoigkkaa
