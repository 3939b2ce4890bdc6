/-
  Encode: its two regions that draw their order (printed by wip/tools/genenc.py).
-/
import Derived.Test.YtjggeodnoigkkaaU
import Derived.Test.YtjggeodnoigkkaaFlow2
namespace Go.Proofs.Ytjggeodnoigkkaa
open Go.RowKit Go.Maps Go.Shelf Go.Proofs.YtjggeodnoigkkaaM

noncomputable def codeenc9 : Code := ((Try.f21.body.bind (theRegion 9)).getD .skip)

def Renc9 (out nv fv n1 n2 n3 : ByteArray) (x : Int) (b : Nat) (j : Nat) (v : Value) (_w : World) : Prop :=
  v = [.string out, .string nv, .string n1, .pointer (some ⟨b, 1, none⟩), .string fv, .string n2, .string (n1 ++ n2), .pointer (some ⟨b, 0, none⟩), .int .i64 x, .string n3, .string (n1 ++ n2 ++ n3), .string (out ++ (n1 ++ n2 ++ n3)), .string (out ++ (n1 ++ n2 ++ n3))].getD j undef
theorem Renc9_le (out nv fv n1 n2 n3 : ByteArray) (x : Int) (b : Nat) : ∀ j v w w', Below w.heap.size w w' → Renc9 out nv fv n1 n2 n3 x b j v w → Renc9 out nv fv n1 n2 n3 x b j v w' := by
  intro j v w w' hb h
  exact h

set_option maxRecDepth 1000000 in
set_option maxHeartbeats 4000000 in
theorem enc9 (Q : Exit → Act → World → Prop) (out nv fv n1 n2 n3 : ByteArray) (x : Int) (b : Nat) (w : World)
    (hb : b < w.heap.size)
    (hc0 : w.cell? ⟨b, 0, none⟩ = some (.int .i64 x))
    (hc1 : w.cell? ⟨b, 1, none⟩ = some (.string fv))
    (H1 : ∀ W, Calls Try.prog 43 #[.string nv] W fun e w' => e = .returned (.string n1) ∧ Below W.heap.size W w')
    (H2 : ∀ W, Calls Try.prog 43 #[.string fv] W fun e w' => e = .returned (.string n2) ∧ Below W.heap.size W w')
    (H3 : ∀ W, Calls Try.prog 42 #[.int .i64 x] W fun e w' => e = .returned (.string n3) ∧ Below W.heap.size W w')
    (hs1 : n1.size + n2.size ≤ 9223372036854775807)
    (hs2 : n1.size + n2.size + n3.size ≤ 9223372036854775807)
    (hs3 : out.size + (n1.size + n2.size + n3.size) ≤ 9223372036854775807)
    (t0 t1 t2 t3 t5 t8 t9 t10 t11 t12 t13 t14 t15 t16 t17 t18 t19 t20 t21 t22 t23 t24 t25 t26 t27 t28 t29 t30 t31 t32 t33 t34 t35 t36 t37 t38 t39 t40 t41 t42 t43 t44 t45 t46 t47 t48 t49 t50 t51 t52 t53 t54 t55 t56 t57 t58 t59 t60 t61 t62 t63 t64 t65 t66 t67 t68 t69 : Value) (hK : ∀ (w' : World) (s33 s34 s35 s36 s37 s38 s39 s40 s41 s42 s43 s44 : Value), Below w.heap.size w w' → Q .normal ⟨#[t0, t1, t2, t3, .string (out ++ (n1 ++ n2 ++ n3)), t5, .string nv, .pointer (some ⟨b, 0, none⟩), t8, t9, t10, t11, t12, t13, t14, t15, t16, t17, t18, t19, t20, t21, t22, t23, t24, t25, t26, t27, t28, t29, t30, t31, t32, s33, s34, s35, s36, s37, s38, s39, s40, s41, s42, s43, s44, t45, t46, t47, t48, t49, t50, t51, t52, t53, t54, t55, t56, t57, t58, t59, t60, t61, t62, t63, t64, t65, t66, t67, t68, t69], []⟩ w') :
    Code.wp Try.prog codeenc9 Q ⟨#[t0, t1, t2, t3, .string out, t5, .string nv, .pointer (some ⟨b, 0, none⟩), t8, t9, t10, t11, t12, t13, t14, t15, t16, t17, t18, t19, t20, t21, t22, t23, t24, t25, t26, t27, t28, t29, t30, t31, t32, t33, t34, t35, t36, t37, t38, t39, t40, t41, t42, t43, t44, t45, t46, t47, t48, t49, t50, t51, t52, t53, t54, t55, t56, t57, t58, t59, t60, t61, t62, t63, t64, t65, t66, t67, t68, t69], []⟩ w := by
  replace H1 := Lib.hid H1
  replace H2 := Lib.hid H2
  replace H3 := Lib.hid H3
  have HK := Lib.hid hK
  clear hK
  conv => arg 2; whnf
  refine wp_flow2 (P := Try.prog) (by kernel_rfl) (by kernel_rfl) (fun W => Below w.heap.size w W) (Renc9 out nv fv n1 n2 n3 x b) (fun W W' => Below W.heap.size W W') (Below.refl _ _).drew (Renc9_le out nv fv n1 n2 n3 x b) ?_ ?_
  · refine ⟨?_, ?_, ?_, ?_, ?_, ?_, ?_, ?_, ?_, ?_, ?_, ?_, ?_, trivial⟩
    · intro a w1 hJ hA hU hD K hK
      refine duty_plain rfl ?_
      have h4 : a.tmps[4]?.getD undef = .string out := eval_get (hU.at_ 12 rfl rfl rfl)
      refine wp_value (v := .string out) (w' := w1) ?_ (hK _ _ hJ (Below.refl _ _) rfl)
      clear hK hD hA hJ hU
      go_simp
    · intro a w1 hJ hA hU hD K hK
      refine duty_plain rfl ?_
      have h6 : a.tmps[6]?.getD undef = .string nv := eval_get (hA.at_ 6 (by kernel_rfl))
      refine wp_value (v := .string nv) (w' := w1) ?_ (hK _ _ hJ (Below.refl _ _) rfl)
      clear hK hD hA hJ hU
      go_simp
    · intro a w1 hJ hA hU hD K hK
      refine duty_plain rfl ?_
      have h34 : a.tmps[34]?.getD undef = .string nv := eval_get (given_at hD 1 rfl rfl rfl)
      refine wp_enter (f := 43) (args := #[.string nv]) (w' := w1) ?_ (Calls.mono (H1.out w1) ?_)
      · clear hK hD hA hJ
        go_simp
      · rintro e w2 ⟨rfl, hb2⟩
        exact ⟨_, rfl, hK _ _ (hJ.trans (hb2.mono hJ.size)) hb2 rfl⟩
    · intro a w1 hJ hA hU hD K hK
      refine duty_plain rfl ?_
      have h7 : a.tmps[7]?.getD undef = .pointer (some ⟨b, 0, none⟩) := eval_get (hA.at_ 7 (by kernel_rfl))
      refine wp_value (v := .pointer (some ⟨b, 1, none⟩)) (w' := w1) ?_ (hK _ _ hJ (Below.refl _ _) rfl)
      clear hK hD hA hJ hU
      go_simp
    · intro a w1 hJ hA hU hD K hK
      refine duty_plain rfl ?_
      have h36 : a.tmps[36]?.getD undef = .pointer (some ⟨b, 1, none⟩) := eval_get (given_at hD 3 rfl rfl rfl)
      have hc := (hJ.cell (p := ⟨b, 1, none⟩) hb).trans hc1
      refine wp_value (v := .string fv) (w' := w1) ?_ (hK _ _ hJ (Below.refl _ _) rfl)
      clear hK hD hA hJ hU
      go_simp
    · intro a w1 hJ hA hU hD K hK
      refine duty_plain rfl ?_
      have h37 : a.tmps[37]?.getD undef = .string fv := eval_get (given_at hD 4 rfl rfl rfl)
      refine wp_enter (f := 43) (args := #[.string fv]) (w' := w1) ?_ (Calls.mono (H2.out w1) ?_)
      · clear hK hD hA hJ
        go_simp
      · rintro e w2 ⟨rfl, hb2⟩
        exact ⟨_, rfl, hK _ _ (hJ.trans (hb2.mono hJ.size)) hb2 rfl⟩
    · intro a w1 hJ hA hU hD K hK
      refine duty_plain rfl ?_
      have h35 : a.tmps[35]?.getD undef = .string n1 := eval_get (given_at hD 2 rfl rfl rfl)
      have h38 : a.tmps[38]?.getD undef = .string n2 := eval_get (given_at hD 5 rfl rfl rfl)
      refine wp_value (v := .string (n1 ++ n2)) (w' := w1) ?_ (hK _ _ hJ (Below.refl _ _) rfl)
      clear hK hD hA hJ hU
      go_simp
    · intro a w1 hJ hA hU hD K hK
      refine duty_plain rfl ?_
      have h7 : a.tmps[7]?.getD undef = .pointer (some ⟨b, 0, none⟩) := eval_get (hA.at_ 7 (by kernel_rfl))
      refine wp_value (v := .pointer (some ⟨b, 0, none⟩)) (w' := w1) ?_ (hK _ _ hJ (Below.refl _ _) rfl)
      clear hK hD hA hJ hU
      go_simp
    · intro a w1 hJ hA hU hD K hK
      refine duty_plain rfl ?_
      have h40 : a.tmps[40]?.getD undef = .pointer (some ⟨b, 0, none⟩) := eval_get (given_at hD 7 rfl rfl rfl)
      have hc := (hJ.cell (p := ⟨b, 0, none⟩) hb).trans hc0
      refine wp_value (v := .int .i64 x) (w' := w1) ?_ (hK _ _ hJ (Below.refl _ _) rfl)
      clear hK hD hA hJ hU
      go_simp
    · intro a w1 hJ hA hU hD K hK
      refine duty_plain rfl ?_
      have h41 : a.tmps[41]?.getD undef = .int .i64 x := eval_get (given_at hD 8 rfl rfl rfl)
      refine wp_enter (f := 42) (args := #[.int .i64 x]) (w' := w1) ?_ (Calls.mono (H3.out w1) ?_)
      · clear hK hD hA hJ
        go_simp
      · rintro e w2 ⟨rfl, hb2⟩
        exact ⟨_, rfl, hK _ _ (hJ.trans (hb2.mono hJ.size)) hb2 rfl⟩
    · intro a w1 hJ hA hU hD K hK
      refine duty_plain rfl ?_
      have h39 : a.tmps[39]?.getD undef = .string (n1 ++ n2) := eval_get (given_at hD 6 rfl rfl rfl)
      have h42 : a.tmps[42]?.getD undef = .string n3 := eval_get (given_at hD 9 rfl rfl rfl)
      refine wp_value (v := .string (n1 ++ n2 ++ n3)) (w' := w1) ?_ (hK _ _ hJ (Below.refl _ _) rfl)
      clear hK hD hA hJ hU
      go_simp
    · intro a w1 hJ hA hU hD K hK
      refine duty_plain rfl ?_
      have h33 : a.tmps[33]?.getD undef = .string out := eval_get (given_at hD 0 rfl rfl rfl)
      have h43 : a.tmps[43]?.getD undef = .string (n1 ++ n2 ++ n3) := eval_get (given_at hD 10 rfl rfl rfl)
      refine wp_value (v := .string (out ++ (n1 ++ n2 ++ n3))) (w' := w1) ?_ (hK _ _ hJ (Below.refl _ _) rfl)
      clear hK hD hA hJ hU
      go_simp
    · intro a w1 hJ hA hU hD K hK
      refine duty_plain rfl ?_
      have h44 : a.tmps[44]?.getD undef = .string (out ++ (n1 ++ n2 ++ n3)) := eval_get (given_at hD 11 rfl rfl rfl)
      refine wp_value (v := .string (out ++ (n1 ++ n2 ++ n3))) (w' := w1) ?_ (hK _ _ hJ (Below.refl _ _) rfl)
      clear hK hD hA hJ hU
      go_simp
  · intro a w' hJ hA hG
    have hv4 : a.tmps[4]?.getD undef = .string (out ++ (n1 ++ n2 ++ n3)) := eval_get (hG 12 _ _ rfl rfl)
    have ha : a = ⟨#[t0, t1, t2, t3, .string (out ++ (n1 ++ n2 ++ n3)), t5, .string nv, .pointer (some ⟨b, 0, none⟩), t8, t9, t10, t11, t12, t13, t14, t15, t16, t17, t18, t19, t20, t21, t22, t23, t24, t25, t26, t27, t28, t29, t30, t31, t32, a.tmps[33]?.getD undef, a.tmps[34]?.getD undef, a.tmps[35]?.getD undef, a.tmps[36]?.getD undef, a.tmps[37]?.getD undef, a.tmps[38]?.getD undef, a.tmps[39]?.getD undef, a.tmps[40]?.getD undef, a.tmps[41]?.getD undef, a.tmps[42]?.getD undef, a.tmps[43]?.getD undef, a.tmps[44]?.getD undef, t45, t46, t47, t48, t49, t50, t51, t52, t53, t54, t55, t56, t57, t58, t59, t60, t61, t62, t63, t64, t65, t66, t67, t68, t69], []⟩ := act_of ⟨eval_get (hA.at_ 0 (by kernel_rfl)), eval_get (hA.at_ 1 (by kernel_rfl)), eval_get (hA.at_ 2 (by kernel_rfl)), eval_get (hA.at_ 3 (by kernel_rfl)), hv4, eval_get (hA.at_ 5 (by kernel_rfl)), eval_get (hA.at_ 6 (by kernel_rfl)), eval_get (hA.at_ 7 (by kernel_rfl)), eval_get (hA.at_ 8 (by kernel_rfl)), eval_get (hA.at_ 9 (by kernel_rfl)), eval_get (hA.at_ 10 (by kernel_rfl)), eval_get (hA.at_ 11 (by kernel_rfl)), eval_get (hA.at_ 12 (by kernel_rfl)), eval_get (hA.at_ 13 (by kernel_rfl)), eval_get (hA.at_ 14 (by kernel_rfl)), eval_get (hA.at_ 15 (by kernel_rfl)), eval_get (hA.at_ 16 (by kernel_rfl)), eval_get (hA.at_ 17 (by kernel_rfl)), eval_get (hA.at_ 18 (by kernel_rfl)), eval_get (hA.at_ 19 (by kernel_rfl)), eval_get (hA.at_ 20 (by kernel_rfl)), eval_get (hA.at_ 21 (by kernel_rfl)), eval_get (hA.at_ 22 (by kernel_rfl)), eval_get (hA.at_ 23 (by kernel_rfl)), eval_get (hA.at_ 24 (by kernel_rfl)), eval_get (hA.at_ 25 (by kernel_rfl)), eval_get (hA.at_ 26 (by kernel_rfl)), eval_get (hA.at_ 27 (by kernel_rfl)), eval_get (hA.at_ 28 (by kernel_rfl)), eval_get (hA.at_ 29 (by kernel_rfl)), eval_get (hA.at_ 30 (by kernel_rfl)), eval_get (hA.at_ 31 (by kernel_rfl)), eval_get (hA.at_ 32 (by kernel_rfl)), rfl, rfl, rfl, rfl, rfl, rfl, rfl, rfl, rfl, rfl, rfl, rfl, eval_get (hA.at_ 45 (by kernel_rfl)), eval_get (hA.at_ 46 (by kernel_rfl)), eval_get (hA.at_ 47 (by kernel_rfl)), eval_get (hA.at_ 48 (by kernel_rfl)), eval_get (hA.at_ 49 (by kernel_rfl)), eval_get (hA.at_ 50 (by kernel_rfl)), eval_get (hA.at_ 51 (by kernel_rfl)), eval_get (hA.at_ 52 (by kernel_rfl)), eval_get (hA.at_ 53 (by kernel_rfl)), eval_get (hA.at_ 54 (by kernel_rfl)), eval_get (hA.at_ 55 (by kernel_rfl)), eval_get (hA.at_ 56 (by kernel_rfl)), eval_get (hA.at_ 57 (by kernel_rfl)), eval_get (hA.at_ 58 (by kernel_rfl)), eval_get (hA.at_ 59 (by kernel_rfl)), eval_get (hA.at_ 60 (by kernel_rfl)), eval_get (hA.at_ 61 (by kernel_rfl)), eval_get (hA.at_ 62 (by kernel_rfl)), eval_get (hA.at_ 63 (by kernel_rfl)), eval_get (hA.at_ 64 (by kernel_rfl)), eval_get (hA.at_ 65 (by kernel_rfl)), eval_get (hA.at_ 66 (by kernel_rfl)), eval_get (hA.at_ 67 (by kernel_rfl)), eval_get (hA.at_ 68 (by kernel_rfl)), eval_get (hA.at_ 69 (by kernel_rfl)), trivial⟩ hA.size hA.defers
    rw [ha]
    exact HK.out w' _ _ _ _ _ _ _ _ _ _ _ _ hJ


noncomputable def codeenc16 : Code := ((Try.f21.body.bind (theRegion 16)).getD .skip)

def Renc16 (out n1 n2 : ByteArray) (x y : Int) (b : Nat) (j : Nat) (v : Value) (_w : World) : Prop :=
  v = [.string out, .pointer (some ⟨b, 0, none⟩), .int .i64 x, .string n1, .pointer (some ⟨b, 1, none⟩), .int .i64 y, .string n2, .string (n1 ++ n2), .string (out ++ (n1 ++ n2)), .string (out ++ (n1 ++ n2))].getD j undef
theorem Renc16_le (out n1 n2 : ByteArray) (x y : Int) (b : Nat) : ∀ j v w w', Below w.heap.size w w' → Renc16 out n1 n2 x y b j v w → Renc16 out n1 n2 x y b j v w' := by
  intro j v w w' hb h
  exact h

set_option maxRecDepth 1000000 in
set_option maxHeartbeats 4000000 in
theorem enc16 (Q : Exit → Act → World → Prop) (out n1 n2 : ByteArray) (x y : Int) (b : Nat) (w : World)
    (hb : b < w.heap.size)
    (hc0 : w.cell? ⟨b, 0, none⟩ = some (.int .i64 x))
    (hc1 : w.cell? ⟨b, 1, none⟩ = some (.int .i64 y))
    (H1 : ∀ W, Calls Try.prog 42 #[.int .i64 x] W fun e w' => e = .returned (.string n1) ∧ Below W.heap.size W w')
    (H2 : ∀ W, Calls Try.prog 42 #[.int .i64 y] W fun e w' => e = .returned (.string n2) ∧ Below W.heap.size W w')
    (hs1 : n1.size + n2.size ≤ 9223372036854775807)
    (hs2 : out.size + (n1.size + n2.size) ≤ 9223372036854775807)
    (t0 t1 t2 t3 t5 t6 t7 t8 t9 t11 t12 t13 t14 t15 t16 t17 t18 t19 t20 t21 t22 t23 t24 t25 t26 t27 t28 t29 t30 t31 t32 t33 t34 t35 t36 t37 t38 t39 t40 t41 t42 t43 t44 t45 t46 t47 t48 t49 t50 t51 t52 t53 t54 t55 t56 t57 t58 t59 t60 t61 t62 t63 t64 t65 t66 t67 t68 t69 : Value) (hK : ∀ (w' : World) (s59 s60 s61 s62 s63 s64 s65 s66 s67 : Value), Below w.heap.size w w' → Q .normal ⟨#[t0, t1, t2, t3, .string (out ++ (n1 ++ n2)), t5, t6, t7, t8, t9, .pointer (some ⟨b, 0, none⟩), t11, t12, t13, t14, t15, t16, t17, t18, t19, t20, t21, t22, t23, t24, t25, t26, t27, t28, t29, t30, t31, t32, t33, t34, t35, t36, t37, t38, t39, t40, t41, t42, t43, t44, t45, t46, t47, t48, t49, t50, t51, t52, t53, t54, t55, t56, t57, t58, s59, s60, s61, s62, s63, s64, s65, s66, s67, t68, t69], []⟩ w') :
    Code.wp Try.prog codeenc16 Q ⟨#[t0, t1, t2, t3, .string out, t5, t6, t7, t8, t9, .pointer (some ⟨b, 0, none⟩), t11, t12, t13, t14, t15, t16, t17, t18, t19, t20, t21, t22, t23, t24, t25, t26, t27, t28, t29, t30, t31, t32, t33, t34, t35, t36, t37, t38, t39, t40, t41, t42, t43, t44, t45, t46, t47, t48, t49, t50, t51, t52, t53, t54, t55, t56, t57, t58, t59, t60, t61, t62, t63, t64, t65, t66, t67, t68, t69], []⟩ w := by
  replace H1 := Lib.hid H1
  replace H2 := Lib.hid H2
  have HK := Lib.hid hK
  clear hK
  conv => arg 2; whnf
  refine wp_flow2 (P := Try.prog) (by kernel_rfl) (by kernel_rfl) (fun W => Below w.heap.size w W) (Renc16 out n1 n2 x y b) (fun W W' => Below W.heap.size W W') (Below.refl _ _).drew (Renc16_le out n1 n2 x y b) ?_ ?_
  · refine ⟨?_, ?_, ?_, ?_, ?_, ?_, ?_, ?_, ?_, ?_, trivial⟩
    · intro a w1 hJ hA hU hD K hK
      refine duty_plain rfl ?_
      have h4 : a.tmps[4]?.getD undef = .string out := eval_get (hU.at_ 9 rfl rfl rfl)
      refine wp_value (v := .string out) (w' := w1) ?_ (hK _ _ hJ (Below.refl _ _) rfl)
      clear hK hD hA hJ hU
      go_simp
    · intro a w1 hJ hA hU hD K hK
      refine duty_plain rfl ?_
      have h10 : a.tmps[10]?.getD undef = .pointer (some ⟨b, 0, none⟩) := eval_get (hA.at_ 10 (by kernel_rfl))
      refine wp_value (v := .pointer (some ⟨b, 0, none⟩)) (w' := w1) ?_ (hK _ _ hJ (Below.refl _ _) rfl)
      clear hK hD hA hJ hU
      go_simp
    · intro a w1 hJ hA hU hD K hK
      refine duty_plain rfl ?_
      have h60 : a.tmps[60]?.getD undef = .pointer (some ⟨b, 0, none⟩) := eval_get (given_at hD 1 rfl rfl rfl)
      have hc := (hJ.cell (p := ⟨b, 0, none⟩) hb).trans hc0
      refine wp_value (v := .int .i64 x) (w' := w1) ?_ (hK _ _ hJ (Below.refl _ _) rfl)
      clear hK hD hA hJ hU
      go_simp
    · intro a w1 hJ hA hU hD K hK
      refine duty_plain rfl ?_
      have h61 : a.tmps[61]?.getD undef = .int .i64 x := eval_get (given_at hD 2 rfl rfl rfl)
      refine wp_enter (f := 42) (args := #[.int .i64 x]) (w' := w1) ?_ (Calls.mono (H1.out w1) ?_)
      · clear hK hD hA hJ
        go_simp
      · rintro e w2 ⟨rfl, hb2⟩
        exact ⟨_, rfl, hK _ _ (hJ.trans (hb2.mono hJ.size)) hb2 rfl⟩
    · intro a w1 hJ hA hU hD K hK
      refine duty_plain rfl ?_
      have h10 : a.tmps[10]?.getD undef = .pointer (some ⟨b, 0, none⟩) := eval_get (hA.at_ 10 (by kernel_rfl))
      refine wp_value (v := .pointer (some ⟨b, 1, none⟩)) (w' := w1) ?_ (hK _ _ hJ (Below.refl _ _) rfl)
      clear hK hD hA hJ hU
      go_simp
    · intro a w1 hJ hA hU hD K hK
      refine duty_plain rfl ?_
      have h63 : a.tmps[63]?.getD undef = .pointer (some ⟨b, 1, none⟩) := eval_get (given_at hD 4 rfl rfl rfl)
      have hc := (hJ.cell (p := ⟨b, 1, none⟩) hb).trans hc1
      refine wp_value (v := .int .i64 y) (w' := w1) ?_ (hK _ _ hJ (Below.refl _ _) rfl)
      clear hK hD hA hJ hU
      go_simp
    · intro a w1 hJ hA hU hD K hK
      refine duty_plain rfl ?_
      have h64 : a.tmps[64]?.getD undef = .int .i64 y := eval_get (given_at hD 5 rfl rfl rfl)
      refine wp_enter (f := 42) (args := #[.int .i64 y]) (w' := w1) ?_ (Calls.mono (H2.out w1) ?_)
      · clear hK hD hA hJ
        go_simp
      · rintro e w2 ⟨rfl, hb2⟩
        exact ⟨_, rfl, hK _ _ (hJ.trans (hb2.mono hJ.size)) hb2 rfl⟩
    · intro a w1 hJ hA hU hD K hK
      refine duty_plain rfl ?_
      have h62 : a.tmps[62]?.getD undef = .string n1 := eval_get (given_at hD 3 rfl rfl rfl)
      have h65 : a.tmps[65]?.getD undef = .string n2 := eval_get (given_at hD 6 rfl rfl rfl)
      refine wp_value (v := .string (n1 ++ n2)) (w' := w1) ?_ (hK _ _ hJ (Below.refl _ _) rfl)
      clear hK hD hA hJ hU
      go_simp
    · intro a w1 hJ hA hU hD K hK
      refine duty_plain rfl ?_
      have h59 : a.tmps[59]?.getD undef = .string out := eval_get (given_at hD 0 rfl rfl rfl)
      have h66 : a.tmps[66]?.getD undef = .string (n1 ++ n2) := eval_get (given_at hD 7 rfl rfl rfl)
      refine wp_value (v := .string (out ++ (n1 ++ n2))) (w' := w1) ?_ (hK _ _ hJ (Below.refl _ _) rfl)
      clear hK hD hA hJ hU
      go_simp
    · intro a w1 hJ hA hU hD K hK
      refine duty_plain rfl ?_
      have h67 : a.tmps[67]?.getD undef = .string (out ++ (n1 ++ n2)) := eval_get (given_at hD 8 rfl rfl rfl)
      refine wp_value (v := .string (out ++ (n1 ++ n2))) (w' := w1) ?_ (hK _ _ hJ (Below.refl _ _) rfl)
      clear hK hD hA hJ hU
      go_simp
  · intro a w' hJ hA hG
    have hv4 : a.tmps[4]?.getD undef = .string (out ++ (n1 ++ n2)) := eval_get (hG 9 _ _ rfl rfl)
    have ha : a = ⟨#[t0, t1, t2, t3, .string (out ++ (n1 ++ n2)), t5, t6, t7, t8, t9, .pointer (some ⟨b, 0, none⟩), t11, t12, t13, t14, t15, t16, t17, t18, t19, t20, t21, t22, t23, t24, t25, t26, t27, t28, t29, t30, t31, t32, t33, t34, t35, t36, t37, t38, t39, t40, t41, t42, t43, t44, t45, t46, t47, t48, t49, t50, t51, t52, t53, t54, t55, t56, t57, t58, a.tmps[59]?.getD undef, a.tmps[60]?.getD undef, a.tmps[61]?.getD undef, a.tmps[62]?.getD undef, a.tmps[63]?.getD undef, a.tmps[64]?.getD undef, a.tmps[65]?.getD undef, a.tmps[66]?.getD undef, a.tmps[67]?.getD undef, t68, t69], []⟩ := act_of ⟨eval_get (hA.at_ 0 (by kernel_rfl)), eval_get (hA.at_ 1 (by kernel_rfl)), eval_get (hA.at_ 2 (by kernel_rfl)), eval_get (hA.at_ 3 (by kernel_rfl)), hv4, eval_get (hA.at_ 5 (by kernel_rfl)), eval_get (hA.at_ 6 (by kernel_rfl)), eval_get (hA.at_ 7 (by kernel_rfl)), eval_get (hA.at_ 8 (by kernel_rfl)), eval_get (hA.at_ 9 (by kernel_rfl)), eval_get (hA.at_ 10 (by kernel_rfl)), eval_get (hA.at_ 11 (by kernel_rfl)), eval_get (hA.at_ 12 (by kernel_rfl)), eval_get (hA.at_ 13 (by kernel_rfl)), eval_get (hA.at_ 14 (by kernel_rfl)), eval_get (hA.at_ 15 (by kernel_rfl)), eval_get (hA.at_ 16 (by kernel_rfl)), eval_get (hA.at_ 17 (by kernel_rfl)), eval_get (hA.at_ 18 (by kernel_rfl)), eval_get (hA.at_ 19 (by kernel_rfl)), eval_get (hA.at_ 20 (by kernel_rfl)), eval_get (hA.at_ 21 (by kernel_rfl)), eval_get (hA.at_ 22 (by kernel_rfl)), eval_get (hA.at_ 23 (by kernel_rfl)), eval_get (hA.at_ 24 (by kernel_rfl)), eval_get (hA.at_ 25 (by kernel_rfl)), eval_get (hA.at_ 26 (by kernel_rfl)), eval_get (hA.at_ 27 (by kernel_rfl)), eval_get (hA.at_ 28 (by kernel_rfl)), eval_get (hA.at_ 29 (by kernel_rfl)), eval_get (hA.at_ 30 (by kernel_rfl)), eval_get (hA.at_ 31 (by kernel_rfl)), eval_get (hA.at_ 32 (by kernel_rfl)), eval_get (hA.at_ 33 (by kernel_rfl)), eval_get (hA.at_ 34 (by kernel_rfl)), eval_get (hA.at_ 35 (by kernel_rfl)), eval_get (hA.at_ 36 (by kernel_rfl)), eval_get (hA.at_ 37 (by kernel_rfl)), eval_get (hA.at_ 38 (by kernel_rfl)), eval_get (hA.at_ 39 (by kernel_rfl)), eval_get (hA.at_ 40 (by kernel_rfl)), eval_get (hA.at_ 41 (by kernel_rfl)), eval_get (hA.at_ 42 (by kernel_rfl)), eval_get (hA.at_ 43 (by kernel_rfl)), eval_get (hA.at_ 44 (by kernel_rfl)), eval_get (hA.at_ 45 (by kernel_rfl)), eval_get (hA.at_ 46 (by kernel_rfl)), eval_get (hA.at_ 47 (by kernel_rfl)), eval_get (hA.at_ 48 (by kernel_rfl)), eval_get (hA.at_ 49 (by kernel_rfl)), eval_get (hA.at_ 50 (by kernel_rfl)), eval_get (hA.at_ 51 (by kernel_rfl)), eval_get (hA.at_ 52 (by kernel_rfl)), eval_get (hA.at_ 53 (by kernel_rfl)), eval_get (hA.at_ 54 (by kernel_rfl)), eval_get (hA.at_ 55 (by kernel_rfl)), eval_get (hA.at_ 56 (by kernel_rfl)), eval_get (hA.at_ 57 (by kernel_rfl)), eval_get (hA.at_ 58 (by kernel_rfl)), rfl, rfl, rfl, rfl, rfl, rfl, rfl, rfl, rfl, eval_get (hA.at_ 68 (by kernel_rfl)), eval_get (hA.at_ 69 (by kernel_rfl)), trivial⟩ hA.size hA.defers
    rw [ha]
    exact HK.out w' _ _ _ _ _ _ _ _ _ hJ


end Go.Proofs.Ytjggeodnoigkkaa
