/-
  PinsNil: its greatest region that draws its order (printed by wip/tools/gennil.py).
-/
import Derived.Test.YtjggeodnoigkkaaS
import Derived.Test.YtjggeodnoigkkaaQ
import Derived.Laws.MakeOwn
import Derived.Laws.BytesArg
namespace Go.Proofs.Ytjggeodnoigkkaa
open Go.RowKit Go.Maps Go.Shelf Go.Proofs.YtjggeodnoigkkaaM

theorem info5' : (Try.prog.info? 5).map (fun i => (i.zero, i.size, i.bytes)) = some (some (.int .u8 0), 1, 1) := by kernel_rfl
theorem made_bytes (n : Nat) : madeCells (Value.int .u8 0).cells (n * 1) = (List.replicate n (Value.int .u8 0)).toArray := by
  refine Array.ext (by simp [size_madeCells]) fun i h1 h2 => ?_
  simp [madeCells, Value.cells, Nat.mod_one]
theorem make_bytes (n : Nat) (hn : n ≤ 1000) (w : World) : (Instr.makeSlice 59 (.int .i64 (n : Int)) (.int .i64 (n : Int))).run Try.prog w = .ok (.slice (some ⟨w.heap.size, 0, none⟩) n n) (w.alloc (.cells (List.replicate n (Value.int .u8 0)).toArray 5)) := by
  obtain ⟨i0, hi, hz0, hz1, hz2⟩ := info_parts info5'
  have hr := run_make (P := Try.prog) w 59 5 i0 (.int .u8 0) Try.underlying59 hi hz0 .i64 .i64 (n : Int) (n : Int) (by omega) (by omega) (by rw [hz2]; omega) (by omega)
  rw [hz1] at hr
  simp only [Int.toNat_natCast] at hr
  rw [made_bytes] at hr
  exact hr
theorem made_cell (n : Nat) (w : World) : ∀ k, k < n → (w.alloc (.cells (List.replicate n (Value.int .u8 0)).toArray 5)).cell? ⟨w.heap.size, k, none⟩ = some (.int .u8 ((List.replicate n (0 : Int)).getD k 0)) := by
  intro k hk
  simp [hk, List.getD_eq_getElem?_getD]


noncomputable def codenil5 : Code := ((Try.f6.body.bind (theRegion 5)).getD .skip)

def Rnil5 (b : Nat) (o : OpV) (A4 : Option Addr) (c4 : Nat) (A5 : Option Addr) (c5 : Nat) (n : Int) (z : ByteArray) (j : Nat) (v : Value) (w : World) : Prop :=
  if j = 49 then ∃ b', v = .slice (some ⟨b', 0, none⟩) 16 16 ∧ b' < w.heap.size ∧ ∀ k, k < 16 → w.cell? ⟨b', k, none⟩ = some (.int .u8 ((List.replicate 16 (0 : Int)).getD k 0)) else v = [.pointer none, .agg #[.int .i64 o.ask, .string ⟨o.name.toArray⟩, .string ⟨o.of_.toArray⟩, .int .i64 o.n, .slice A4 o.drops.length c4, .slice A5 o.nums.length c5], .int .i64 2, .bool true, .bool true, .int .i64 0, .bool true, .bool true, .bool true, .int .i64 2, .bool true, .bool true, .bool true, .pointer none, .slice none 0 0, .int .i64 0, .bool true, .bool true, .bool true, .pointer none, .pointer (some ⟨b, 1, none⟩), .string ⟨o.name.toArray⟩, .slice none 0 0, .int .i64 0, .bool true, .bool true, .bool true, .pointer none, .slice none 0 0, .int .i64 0, .bool true, .bool true, .bool true, .pointer none, .int .i64 n, .slice none 0 0, .int .i64 0, .bool true, .bool true, .bool true, .pointer none, .int .i64 n, .slice none 0 0, .int .i64 0, .bool true, .bool true, .bool true, .pointer none, .string z, undef, .string z, .bool true, .bool true, .bool true, .bool true, .bool true, .bool true].getD j undef
theorem Rnil5_le (b : Nat) (o : OpV) (A4 : Option Addr) (c4 : Nat) (A5 : Option Addr) (c5 : Nat) (n : Int) (z : ByteArray) : ∀ j v w w', Below w.heap.size w w' → Rnil5 b o A4 c4 A5 c5 n z j v w → Rnil5 b o A4 c4 A5 c5 n z j v w' := by
  intro j v w w' hb h
  unfold Rnil5 at h ⊢
  by_cases hj49 : j = 49
  · subst hj49
    simp only [reduceIte] at h ⊢
    obtain ⟨b', e, hl, hc⟩ := h
    exact ⟨b', e, Nat.lt_of_lt_of_le hl hb.size, fun k hk => (hb.cell (p := ⟨b', k, none⟩) hl).trans (hc k hk)⟩
  rw [if_neg hj49] at h ⊢
  exact h

set_option maxRecDepth 1000000 in
set_option maxHeartbeats 4000000 in
theorem nil5 (Q : Exit → Act → World → Prop) (b : Nat) (o : OpV) (A4 : Option Addr) (c4 : Nat) (A5 : Option Addr) (c5 : Nat) (n : Int) (z : ByteArray) (w : World)
    (HO : OpAt w ⟨b, 0, none⟩ o A4 c4 A5 c5)
    (HZ : strOfNums (List.replicate 16 0) = z)
    (HE : ∀ W, Calls Try.prog 21 #[.pointer none] W fun e w' => e = .returned (.string z) ∧ Below W.heap.size W w')
    (t0 t3 t4 t8 t9 t10 t11 t12 t13 t14 t15 t16 t17 t18 t19 t20 t21 t22 t23 t24 t25 t26 t27 t28 t29 t30 t31 t32 t33 t34 t35 t36 t37 t38 t39 t40 t41 t42 t43 t44 t45 t46 t47 t48 t49 t50 t51 t52 t53 t54 t55 t56 t57 t58 t59 t60 t61 t62 t63 t64 t65 t66 t67 t68 t69 t70 t71 t72 t73 t74 t75 : Value) (hK : ∀ (w' : World) (s20 s21 s22 s23 s24 s25 s26 s27 s28 s29 s30 s31 s32 s33 s34 s35 s36 s37 s38 s39 s40 s41 s42 s43 s44 s45 s46 s47 s48 s49 s50 s51 s52 s53 s54 s55 s56 s57 s58 s59 s60 s61 s62 s63 s64 s65 s66 s67 s68 s69 s70 s71 s72 s73 s74 s75 : Value), Below w.heap.size w w' → Q .normal ⟨#[t0, .int .i64 n, .pointer (some ⟨b, 0, none⟩), t3, .bool true, .pointer none, .int .i64 0, .int .i64 2, t8, t9, t10, t11, t12, t13, t14, t15, t16, t17, t18, t19, s20, s21, s22, s23, s24, s25, s26, s27, s28, s29, s30, s31, s32, s33, s34, s35, s36, s37, s38, s39, s40, s41, s42, s43, s44, s45, s46, s47, s48, s49, s50, s51, s52, s53, s54, s55, s56, s57, s58, s59, s60, s61, s62, s63, s64, s65, s66, s67, s68, s69, s70, s71, s72, s73, s74, s75], []⟩ w') :
    Code.wp Try.prog codenil5 Q ⟨#[t0, .int .i64 n, .pointer (some ⟨b, 0, none⟩), t3, t4, .pointer none, .int .i64 0, .int .i64 2, t8, t9, t10, t11, t12, t13, t14, t15, t16, t17, t18, t19, t20, t21, t22, t23, t24, t25, t26, t27, t28, t29, t30, t31, t32, t33, t34, t35, t36, t37, t38, t39, t40, t41, t42, t43, t44, t45, t46, t47, t48, t49, t50, t51, t52, t53, t54, t55, t56, t57, t58, t59, t60, t61, t62, t63, t64, t65, t66, t67, t68, t69, t70, t71, t72, t73, t74, t75], []⟩ w := by
  replace HO := Lib.hid HO
  replace HZ := Lib.hid HZ
  replace HE := Lib.hid HE
  have HK := Lib.hid hK
  clear hK
  conv => arg 2; whnf
  refine wp_flow (P := Try.prog) (by kernel_rfl) (by kernel_rfl) (fun W => Below w.heap.size w W) (Rnil5 b o A4 c4 A5 c5 n z) (fun W W' => Below W.heap.size W W') (Below.refl _ _).drew (Rnil5_le b o A4 c4 A5 c5 n z) ?_ ?_
  · refine ⟨?_, ?_, ?_, ?_, ?_, ?_, ?_, ?_, ?_, ?_, ?_, ?_, ?_, ?_, ?_, ?_, ?_, ?_, ?_, ?_, ?_, ?_, ?_, ?_, ?_, ?_, ?_, ?_, ?_, ?_, ?_, ?_, ?_, ?_, ?_, ?_, ?_, ?_, ?_, ?_, ?_, ?_, ?_, ?_, ?_, ?_, ?_, ?_, ?_, ?_, ?_, ?_, ?_, ?_, ?_, ?_, ?_, trivial⟩
    · intro a w1 hJ hA hD K hK
      refine duty_plain rfl ?_
      have h5 : a.tmps[5]?.getD undef = .pointer none := eval_get (hA.at_ 5 (by kernel_rfl))
      refine wp_value (v := .pointer none) (w' := w1) ?_ (hK _ _ hJ (Below.refl _ _) rfl)
      clear hK hD hA hJ
      go_simp
    · intro a w1 hJ hA hD K hK
      refine duty_plain rfl ?_
      have h2 : a.tmps[2]?.getD undef = .pointer (some ⟨b, 0, none⟩) := eval_get (hA.at_ 2 (by kernel_rfl))
      obtain ⟨x0, x1, x2, x3, x4, x5, _, _, _, _, _, _, _⟩ := HO.out.below hJ
      refine wp_value (v := .agg #[.int .i64 o.ask, .string ⟨o.name.toArray⟩, .string ⟨o.of_.toArray⟩, .int .i64 o.n, .slice A4 o.drops.length c4, .slice A5 o.nums.length c5]) (w' := w1) ?_ (hK _ _ hJ (Below.refl _ _) rfl)
      clear hK hD hA hJ
      go_simp
    · intro a w1 hJ hA hD K hK
      refine duty_plain rfl ?_
      have h20 : a.tmps[20]?.getD undef = .pointer none := eval_get (given_at hD 0 rfl rfl rfl)
      have h21 : a.tmps[21]?.getD undef = .agg #[.int .i64 o.ask, .string ⟨o.name.toArray⟩, .string ⟨o.of_.toArray⟩, .int .i64 o.n, .slice A4 o.drops.length c4, .slice A5 o.nums.length c5] := eval_get (given_at hD 1 rfl rfl rfl)
      refine wp_enter (f := 12) (args := #[.pointer none, .agg #[.int .i64 o.ask, .string ⟨o.name.toArray⟩, .string ⟨o.of_.toArray⟩, .int .i64 o.n, .slice A4 o.drops.length c4, .slice A5 o.nums.length c5]]) (w' := w1) ?_ (Calls.mono (does_nil _ _ _ _ _ _ _ _ _ _ w1) ?_)
      · clear hK hD hA hJ
        go_simp
      · rintro e w2 ⟨rfl, hb2⟩
        exact ⟨_, rfl, hK _ _ (hJ.trans (hb2.mono hJ.size)) hb2 rfl⟩
    · intro a w1 hJ hA hD K hK
      refine duty_plain rfl ?_
      have h22 : a.tmps[22]?.getD undef = .int .i64 2 := eval_get (given_at hD 2 rfl rfl rfl)
      refine wp_value (v := .bool true) (w' := w1) ?_ (hK _ _ hJ (Below.refl _ _) rfl)
      clear hK hD hA hJ
      go_simp
    · intro a w1 hJ hA hD K hK
      refine duty_plain rfl ?_
      have h23 : a.tmps[23]?.getD undef = .bool true := eval_get (given_at hD 3 rfl rfl rfl)
      refine wp_value (v := .bool true) (w' := w1) ?_ (hK _ _ hJ (Below.refl _ _) rfl)
      clear hK hD hA hJ
      go_simp
    · intro a w1 hJ hA hD K hK
      refine duty_yes rfl rfl rfl (hA.lt 24 (by kernel_rfl)) (given_at hD 4 rfl rfl rfl) ?_
      have h6 : a.tmps[6]?.getD undef = .int .i64 0 := eval_get (hA.at_ 6 (by kernel_rfl))
      refine wp_value (v := .int .i64 0) (w' := w1) ?_ (hK _ _ hJ (Below.refl _ _) rfl)
      clear hK hD hA hJ
      go_simp
    · intro a w1 hJ hA hD K hK
      refine duty_yes rfl rfl rfl (hA.lt 24 (by kernel_rfl)) (given_at hD 4 rfl rfl rfl) ?_
      have h25 : a.tmps[25]?.getD undef = .int .i64 0 := eval_get (given_at hD 5 rfl rfl rfl)
      refine wp_value (v := .bool true) (w' := w1) ?_ (hK _ _ hJ (Below.refl _ _) rfl)
      clear hK hD hA hJ
      go_simp
    · intro a w1 hJ hA hD K hK
      refine duty_plain rfl ?_
      have h24 : a.tmps[24]?.getD undef = .bool true := eval_get (given_at hD 4 rfl rfl rfl)
      have h26 : a.tmps[26]?.getD undef = .bool true := eval_get (given_at hD 6 rfl rfl rfl)
      refine wp_value (v := .bool true) (w' := w1) ?_ (hK _ _ hJ (Below.refl _ _) rfl)
      clear hK hD hA hJ
      go_simp
    · intro a w1 hJ hA hD K hK
      refine duty_plain rfl ?_
      have h27 : a.tmps[27]?.getD undef = .bool true := eval_get (given_at hD 7 rfl rfl rfl)
      refine wp_value (v := .bool true) (w' := w1) ?_ (hK _ _ hJ (Below.refl _ _) rfl)
      clear hK hD hA hJ
      go_simp
    · intro a w1 hJ hA hD K hK
      refine duty_yes rfl rfl rfl (hA.lt 28 (by kernel_rfl)) (given_at hD 8 rfl rfl rfl) ?_
      have h7 : a.tmps[7]?.getD undef = .int .i64 2 := eval_get (hA.at_ 7 (by kernel_rfl))
      refine wp_value (v := .int .i64 2) (w' := w1) ?_ (hK _ _ hJ (Below.refl _ _) rfl)
      clear hK hD hA hJ
      go_simp
    · intro a w1 hJ hA hD K hK
      refine duty_yes rfl rfl rfl (hA.lt 28 (by kernel_rfl)) (given_at hD 8 rfl rfl rfl) ?_
      have h29 : a.tmps[29]?.getD undef = .int .i64 2 := eval_get (given_at hD 9 rfl rfl rfl)
      refine wp_value (v := .bool true) (w' := w1) ?_ (hK _ _ hJ (Below.refl _ _) rfl)
      clear hK hD hA hJ
      go_simp
    · intro a w1 hJ hA hD K hK
      refine duty_plain rfl ?_
      have h28 : a.tmps[28]?.getD undef = .bool true := eval_get (given_at hD 8 rfl rfl rfl)
      have h30 : a.tmps[30]?.getD undef = .bool true := eval_get (given_at hD 10 rfl rfl rfl)
      refine wp_value (v := .bool true) (w' := w1) ?_ (hK _ _ hJ (Below.refl _ _) rfl)
      clear hK hD hA hJ
      go_simp
    · intro a w1 hJ hA hD K hK
      refine duty_plain rfl ?_
      have h31 : a.tmps[31]?.getD undef = .bool true := eval_get (given_at hD 11 rfl rfl rfl)
      refine wp_value (v := .bool true) (w' := w1) ?_ (hK _ _ hJ (Below.refl _ _) rfl)
      clear hK hD hA hJ
      go_simp
    · intro a w1 hJ hA hD K hK
      refine duty_yes rfl rfl rfl (hA.lt 32 (by kernel_rfl)) (given_at hD 12 rfl rfl rfl) ?_
      have h5 : a.tmps[5]?.getD undef = .pointer none := eval_get (hA.at_ 5 (by kernel_rfl))
      refine wp_value (v := .pointer none) (w' := w1) ?_ (hK _ _ hJ (Below.refl _ _) rfl)
      clear hK hD hA hJ
      go_simp
    · intro a w1 hJ hA hD K hK
      refine duty_yes rfl rfl rfl (hA.lt 32 (by kernel_rfl)) (given_at hD 12 rfl rfl rfl) ?_
      have h33 : a.tmps[33]?.getD undef = .pointer none := eval_get (given_at hD 13 rfl rfl rfl)
      refine wp_enter (f := 15) (args := #[.pointer none]) (w' := w1) ?_ (Calls.mono (names_nil w1) ?_)
      · clear hK hD hA hJ
        go_simp
      · rintro e w2 ⟨rfl, hb2⟩
        exact ⟨_, rfl, hK _ _ (hJ.trans (hb2.mono hJ.size)) hb2 rfl⟩
    · intro a w1 hJ hA hD K hK
      refine duty_yes rfl rfl rfl (hA.lt 32 (by kernel_rfl)) (given_at hD 12 rfl rfl rfl) ?_
      have h34 : a.tmps[34]?.getD undef = .slice none 0 0 := eval_get (given_at hD 14 rfl rfl rfl)
      refine wp_value (v := .int .i64 0) (w' := w1) ?_ (hK _ _ hJ (Below.refl _ _) rfl)
      clear hK hD hA hJ
      go_simp
    · intro a w1 hJ hA hD K hK
      refine duty_yes rfl rfl rfl (hA.lt 32 (by kernel_rfl)) (given_at hD 12 rfl rfl rfl) ?_
      have h35 : a.tmps[35]?.getD undef = .int .i64 0 := eval_get (given_at hD 15 rfl rfl rfl)
      refine wp_value (v := .bool true) (w' := w1) ?_ (hK _ _ hJ (Below.refl _ _) rfl)
      clear hK hD hA hJ
      go_simp
    · intro a w1 hJ hA hD K hK
      refine duty_plain rfl ?_
      have h32 : a.tmps[32]?.getD undef = .bool true := eval_get (given_at hD 12 rfl rfl rfl)
      have h36 : a.tmps[36]?.getD undef = .bool true := eval_get (given_at hD 16 rfl rfl rfl)
      refine wp_value (v := .bool true) (w' := w1) ?_ (hK _ _ hJ (Below.refl _ _) rfl)
      clear hK hD hA hJ
      go_simp
    · intro a w1 hJ hA hD K hK
      refine duty_plain rfl ?_
      have h37 : a.tmps[37]?.getD undef = .bool true := eval_get (given_at hD 17 rfl rfl rfl)
      refine wp_value (v := .bool true) (w' := w1) ?_ (hK _ _ hJ (Below.refl _ _) rfl)
      clear hK hD hA hJ
      go_simp
    · intro a w1 hJ hA hD K hK
      refine duty_yes rfl rfl rfl (hA.lt 38 (by kernel_rfl)) (given_at hD 18 rfl rfl rfl) ?_
      have h5 : a.tmps[5]?.getD undef = .pointer none := eval_get (hA.at_ 5 (by kernel_rfl))
      refine wp_value (v := .pointer none) (w' := w1) ?_ (hK _ _ hJ (Below.refl _ _) rfl)
      clear hK hD hA hJ
      go_simp
    · intro a w1 hJ hA hD K hK
      refine duty_yes rfl rfl rfl (hA.lt 38 (by kernel_rfl)) (given_at hD 18 rfl rfl rfl) ?_
      have h2 : a.tmps[2]?.getD undef = .pointer (some ⟨b, 0, none⟩) := eval_get (hA.at_ 2 (by kernel_rfl))
      refine wp_value (v := .pointer (some ⟨b, 1, none⟩)) (w' := w1) ?_ (hK _ _ hJ (Below.refl _ _) rfl)
      clear hK hD hA hJ
      go_simp
    · intro a w1 hJ hA hD K hK
      refine duty_yes rfl rfl rfl (hA.lt 38 (by kernel_rfl)) (given_at hD 18 rfl rfl rfl) ?_
      have h40 : a.tmps[40]?.getD undef = .pointer (some ⟨b, 1, none⟩) := eval_get (given_at hD 20 rfl rfl rfl)
      have x1 := (HO.out.below hJ).x1
      refine wp_value (v := .string ⟨o.name.toArray⟩) (w' := w1) ?_ (hK _ _ hJ (Below.refl _ _) rfl)
      clear hK hD hA hJ
      go_simp
    · intro a w1 hJ hA hD K hK
      refine duty_yes rfl rfl rfl (hA.lt 38 (by kernel_rfl)) (given_at hD 18 rfl rfl rfl) ?_
      have h39 : a.tmps[39]?.getD undef = .pointer none := eval_get (given_at hD 19 rfl rfl rfl)
      have h41 : a.tmps[41]?.getD undef = .string ⟨o.name.toArray⟩ := eval_get (given_at hD 21 rfl rfl rfl)
      refine wp_enter (f := 26) (args := #[.pointer none, .string ⟨o.name.toArray⟩]) (w' := w1) ?_ (Calls.mono (clones_nil w1 _) ?_)
      · clear hK hD hA hJ
        go_simp
      · rintro e w2 ⟨rfl, hb2⟩
        exact ⟨_, rfl, hK _ _ (hJ.trans (hb2.mono hJ.size)) hb2 rfl⟩
    · intro a w1 hJ hA hD K hK
      refine duty_yes rfl rfl rfl (hA.lt 38 (by kernel_rfl)) (given_at hD 18 rfl rfl rfl) ?_
      have h42 : a.tmps[42]?.getD undef = .slice none 0 0 := eval_get (given_at hD 22 rfl rfl rfl)
      refine wp_value (v := .int .i64 0) (w' := w1) ?_ (hK _ _ hJ (Below.refl _ _) rfl)
      clear hK hD hA hJ
      go_simp
    · intro a w1 hJ hA hD K hK
      refine duty_yes rfl rfl rfl (hA.lt 38 (by kernel_rfl)) (given_at hD 18 rfl rfl rfl) ?_
      have h43 : a.tmps[43]?.getD undef = .int .i64 0 := eval_get (given_at hD 23 rfl rfl rfl)
      refine wp_value (v := .bool true) (w' := w1) ?_ (hK _ _ hJ (Below.refl _ _) rfl)
      clear hK hD hA hJ
      go_simp
    · intro a w1 hJ hA hD K hK
      refine duty_plain rfl ?_
      have h38 : a.tmps[38]?.getD undef = .bool true := eval_get (given_at hD 18 rfl rfl rfl)
      have h44 : a.tmps[44]?.getD undef = .bool true := eval_get (given_at hD 24 rfl rfl rfl)
      refine wp_value (v := .bool true) (w' := w1) ?_ (hK _ _ hJ (Below.refl _ _) rfl)
      clear hK hD hA hJ
      go_simp
    · intro a w1 hJ hA hD K hK
      refine duty_plain rfl ?_
      have h45 : a.tmps[45]?.getD undef = .bool true := eval_get (given_at hD 25 rfl rfl rfl)
      refine wp_value (v := .bool true) (w' := w1) ?_ (hK _ _ hJ (Below.refl _ _) rfl)
      clear hK hD hA hJ
      go_simp
    · intro a w1 hJ hA hD K hK
      refine duty_yes rfl rfl rfl (hA.lt 46 (by kernel_rfl)) (given_at hD 26 rfl rfl rfl) ?_
      have h5 : a.tmps[5]?.getD undef = .pointer none := eval_get (hA.at_ 5 (by kernel_rfl))
      refine wp_value (v := .pointer none) (w' := w1) ?_ (hK _ _ hJ (Below.refl _ _) rfl)
      clear hK hD hA hJ
      go_simp
    · intro a w1 hJ hA hD K hK
      refine duty_yes rfl rfl rfl (hA.lt 46 (by kernel_rfl)) (given_at hD 26 rfl rfl rfl) ?_
      have h47 : a.tmps[47]?.getD undef = .pointer none := eval_get (given_at hD 27 rfl rfl rfl)
      refine wp_enter (f := 14) (args := #[.pointer none]) (w' := w1) ?_ (Calls.mono (pending_nil w1) ?_)
      · clear hK hD hA hJ
        go_simp
      · rintro e w2 ⟨rfl, hb2⟩
        exact ⟨_, rfl, hK _ _ (hJ.trans (hb2.mono hJ.size)) hb2 rfl⟩
    · intro a w1 hJ hA hD K hK
      refine duty_yes rfl rfl rfl (hA.lt 46 (by kernel_rfl)) (given_at hD 26 rfl rfl rfl) ?_
      have h48 : a.tmps[48]?.getD undef = .slice none 0 0 := eval_get (given_at hD 28 rfl rfl rfl)
      refine wp_value (v := .int .i64 0) (w' := w1) ?_ (hK _ _ hJ (Below.refl _ _) rfl)
      clear hK hD hA hJ
      go_simp
    · intro a w1 hJ hA hD K hK
      refine duty_yes rfl rfl rfl (hA.lt 46 (by kernel_rfl)) (given_at hD 26 rfl rfl rfl) ?_
      have h49 : a.tmps[49]?.getD undef = .int .i64 0 := eval_get (given_at hD 29 rfl rfl rfl)
      refine wp_value (v := .bool true) (w' := w1) ?_ (hK _ _ hJ (Below.refl _ _) rfl)
      clear hK hD hA hJ
      go_simp
    · intro a w1 hJ hA hD K hK
      refine duty_plain rfl ?_
      have h46 : a.tmps[46]?.getD undef = .bool true := eval_get (given_at hD 26 rfl rfl rfl)
      have h50 : a.tmps[50]?.getD undef = .bool true := eval_get (given_at hD 30 rfl rfl rfl)
      refine wp_value (v := .bool true) (w' := w1) ?_ (hK _ _ hJ (Below.refl _ _) rfl)
      clear hK hD hA hJ
      go_simp
    · intro a w1 hJ hA hD K hK
      refine duty_plain rfl ?_
      have h51 : a.tmps[51]?.getD undef = .bool true := eval_get (given_at hD 31 rfl rfl rfl)
      refine wp_value (v := .bool true) (w' := w1) ?_ (hK _ _ hJ (Below.refl _ _) rfl)
      clear hK hD hA hJ
      go_simp
    · intro a w1 hJ hA hD K hK
      refine duty_yes rfl rfl rfl (hA.lt 52 (by kernel_rfl)) (given_at hD 32 rfl rfl rfl) ?_
      have h5 : a.tmps[5]?.getD undef = .pointer none := eval_get (hA.at_ 5 (by kernel_rfl))
      refine wp_value (v := .pointer none) (w' := w1) ?_ (hK _ _ hJ (Below.refl _ _) rfl)
      clear hK hD hA hJ
      go_simp
    · intro a w1 hJ hA hD K hK
      refine duty_yes rfl rfl rfl (hA.lt 52 (by kernel_rfl)) (given_at hD 32 rfl rfl rfl) ?_
      have h1 : a.tmps[1]?.getD undef = .int .i64 n := eval_get (hA.at_ 1 (by kernel_rfl))
      refine wp_value (v := .int .i64 n) (w' := w1) ?_ (hK _ _ hJ (Below.refl _ _) rfl)
      clear hK hD hA hJ
      go_simp
    · intro a w1 hJ hA hD K hK
      refine duty_yes rfl rfl rfl (hA.lt 52 (by kernel_rfl)) (given_at hD 32 rfl rfl rfl) ?_
      have h53 : a.tmps[53]?.getD undef = .pointer none := eval_get (given_at hD 33 rfl rfl rfl)
      have h54 : a.tmps[54]?.getD undef = .int .i64 n := eval_get (given_at hD 34 rfl rfl rfl)
      refine wp_enter (f := 27) (args := #[.pointer none, .int .i64 n]) (w' := w1) ?_ (Calls.mono (holds_nil w1 n) ?_)
      · clear hK hD hA hJ
        go_simp
      · rintro e w2 ⟨rfl, hb2⟩
        exact ⟨_, rfl, hK _ _ (hJ.trans (hb2.mono hJ.size)) hb2 rfl⟩
    · intro a w1 hJ hA hD K hK
      refine duty_yes rfl rfl rfl (hA.lt 52 (by kernel_rfl)) (given_at hD 32 rfl rfl rfl) ?_
      have h55 : a.tmps[55]?.getD undef = .slice none 0 0 := eval_get (given_at hD 35 rfl rfl rfl)
      refine wp_value (v := .int .i64 0) (w' := w1) ?_ (hK _ _ hJ (Below.refl _ _) rfl)
      clear hK hD hA hJ
      go_simp
    · intro a w1 hJ hA hD K hK
      refine duty_yes rfl rfl rfl (hA.lt 52 (by kernel_rfl)) (given_at hD 32 rfl rfl rfl) ?_
      have h56 : a.tmps[56]?.getD undef = .int .i64 0 := eval_get (given_at hD 36 rfl rfl rfl)
      refine wp_value (v := .bool true) (w' := w1) ?_ (hK _ _ hJ (Below.refl _ _) rfl)
      clear hK hD hA hJ
      go_simp
    · intro a w1 hJ hA hD K hK
      refine duty_plain rfl ?_
      have h52 : a.tmps[52]?.getD undef = .bool true := eval_get (given_at hD 32 rfl rfl rfl)
      have h57 : a.tmps[57]?.getD undef = .bool true := eval_get (given_at hD 37 rfl rfl rfl)
      refine wp_value (v := .bool true) (w' := w1) ?_ (hK _ _ hJ (Below.refl _ _) rfl)
      clear hK hD hA hJ
      go_simp
    · intro a w1 hJ hA hD K hK
      refine duty_plain rfl ?_
      have h58 : a.tmps[58]?.getD undef = .bool true := eval_get (given_at hD 38 rfl rfl rfl)
      refine wp_value (v := .bool true) (w' := w1) ?_ (hK _ _ hJ (Below.refl _ _) rfl)
      clear hK hD hA hJ
      go_simp
    · intro a w1 hJ hA hD K hK
      refine duty_yes rfl rfl rfl (hA.lt 59 (by kernel_rfl)) (given_at hD 39 rfl rfl rfl) ?_
      have h5 : a.tmps[5]?.getD undef = .pointer none := eval_get (hA.at_ 5 (by kernel_rfl))
      refine wp_value (v := .pointer none) (w' := w1) ?_ (hK _ _ hJ (Below.refl _ _) rfl)
      clear hK hD hA hJ
      go_simp
    · intro a w1 hJ hA hD K hK
      refine duty_yes rfl rfl rfl (hA.lt 59 (by kernel_rfl)) (given_at hD 39 rfl rfl rfl) ?_
      have h1 : a.tmps[1]?.getD undef = .int .i64 n := eval_get (hA.at_ 1 (by kernel_rfl))
      refine wp_value (v := .int .i64 n) (w' := w1) ?_ (hK _ _ hJ (Below.refl _ _) rfl)
      clear hK hD hA hJ
      go_simp
    · intro a w1 hJ hA hD K hK
      refine duty_yes rfl rfl rfl (hA.lt 59 (by kernel_rfl)) (given_at hD 39 rfl rfl rfl) ?_
      have h60 : a.tmps[60]?.getD undef = .pointer none := eval_get (given_at hD 40 rfl rfl rfl)
      have h61 : a.tmps[61]?.getD undef = .int .i64 n := eval_get (given_at hD 41 rfl rfl rfl)
      refine wp_enter (f := 13) (args := #[.pointer none, .int .i64 n]) (w' := w1) ?_ (Calls.mono (free_nil w1 n) ?_)
      · clear hK hD hA hJ
        go_simp
      · rintro e w2 ⟨rfl, hb2⟩
        exact ⟨_, rfl, hK _ _ (hJ.trans (hb2.mono hJ.size)) hb2 rfl⟩
    · intro a w1 hJ hA hD K hK
      refine duty_yes rfl rfl rfl (hA.lt 59 (by kernel_rfl)) (given_at hD 39 rfl rfl rfl) ?_
      have h62 : a.tmps[62]?.getD undef = .slice none 0 0 := eval_get (given_at hD 42 rfl rfl rfl)
      refine wp_value (v := .int .i64 0) (w' := w1) ?_ (hK _ _ hJ (Below.refl _ _) rfl)
      clear hK hD hA hJ
      go_simp
    · intro a w1 hJ hA hD K hK
      refine duty_yes rfl rfl rfl (hA.lt 59 (by kernel_rfl)) (given_at hD 39 rfl rfl rfl) ?_
      have h63 : a.tmps[63]?.getD undef = .int .i64 0 := eval_get (given_at hD 43 rfl rfl rfl)
      refine wp_value (v := .bool true) (w' := w1) ?_ (hK _ _ hJ (Below.refl _ _) rfl)
      clear hK hD hA hJ
      go_simp
    · intro a w1 hJ hA hD K hK
      refine duty_plain rfl ?_
      have h59 : a.tmps[59]?.getD undef = .bool true := eval_get (given_at hD 39 rfl rfl rfl)
      have h64 : a.tmps[64]?.getD undef = .bool true := eval_get (given_at hD 44 rfl rfl rfl)
      refine wp_value (v := .bool true) (w' := w1) ?_ (hK _ _ hJ (Below.refl _ _) rfl)
      clear hK hD hA hJ
      go_simp
    · intro a w1 hJ hA hD K hK
      refine duty_plain rfl ?_
      have h65 : a.tmps[65]?.getD undef = .bool true := eval_get (given_at hD 45 rfl rfl rfl)
      refine wp_value (v := .bool true) (w' := w1) ?_ (hK _ _ hJ (Below.refl _ _) rfl)
      clear hK hD hA hJ
      go_simp
    · intro a w1 hJ hA hD K hK
      refine duty_yes rfl rfl rfl (hA.lt 66 (by kernel_rfl)) (given_at hD 46 rfl rfl rfl) ?_
      have h5 : a.tmps[5]?.getD undef = .pointer none := eval_get (hA.at_ 5 (by kernel_rfl))
      refine wp_value (v := .pointer none) (w' := w1) ?_ (hK _ _ hJ (Below.refl _ _) rfl)
      clear hK hD hA hJ
      go_simp
    · intro a w1 hJ hA hD K hK
      refine duty_yes rfl rfl rfl (hA.lt 66 (by kernel_rfl)) (given_at hD 46 rfl rfl rfl) ?_
      have h67 : a.tmps[67]?.getD undef = .pointer none := eval_get (given_at hD 47 rfl rfl rfl)
      refine wp_enter (f := 21) (args := #[.pointer none]) (w' := w1) ?_ (Calls.mono (HE.out w1) ?_)
      · clear hK hD hA hJ
        go_simp
      · rintro e w2 ⟨rfl, hb2⟩
        exact ⟨_, rfl, hK _ _ (hJ.trans (hb2.mono hJ.size)) hb2 rfl⟩
    · intro a w1 hJ hA hD K hK
      refine duty_yes rfl rfl rfl (hA.lt 66 (by kernel_rfl)) (given_at hD 46 rfl rfl rfl) ?_
      obtain ⟨W9, hW9⟩ : ∃ W, W = w1.alloc (.cells (List.replicate 16 (Value.int .u8 0)).toArray 5) := ⟨_, rfl⟩
      have hr : (Instr.makeSlice 59 (.int .i64 16) (.int .i64 16)).run Try.prog w1 = .ok (.slice (some ⟨w1.heap.size, 0, none⟩) 16 16) W9 := by rw [hW9]; exact make_bytes 16 (by decide) w1
      have hb1 : Below w1.heap.size w1 W9 := by rw [hW9]; exact (Below.refl _ _).alloc (Nat.le_refl _) _
      refine wp_value (v := .slice (some ⟨w1.heap.size, 0, none⟩) 16 16) (w' := W9) ?_ (hK _ _ (hJ.trans (hb1.mono hJ.size)) hb1 ⟨w1.heap.size, rfl, by rw [hW9]; simp, by rw [hW9]; exact made_cell 16 w1⟩)
      clear hK hD hA hJ hb1 hW9
      go_simp
    · intro a w1 hJ hA hD K hK
      refine duty_yes rfl rfl rfl (hA.lt 66 (by kernel_rfl)) (given_at hD 46 rfl rfl rfl) ?_
      obtain ⟨b', hv, hlt', hc⟩ := given_at hD 49 rfl rfl rfl
      have h69 := eval_get hv
      have hr := run_convert_bytes_arg (P := Try.prog) w1 59 5 Try.underlying59 Try.underlying5 b' 0 16 16 (List.replicate 16 0) rfl (by simpa using hc) 9 Try.underlying9
      rw [HZ.out] at hr
      refine wp_value (v := .string z) (w' := w1) ?_ (hK _ _ hJ (Below.refl _ _) rfl)
      clear hK hD hA hJ hv hc
      go_simp
    · intro a w1 hJ hA hD K hK
      refine duty_yes rfl rfl rfl (hA.lt 66 (by kernel_rfl)) (given_at hD 46 rfl rfl rfl) ?_
      have h68 : a.tmps[68]?.getD undef = .string z := eval_get (given_at hD 48 rfl rfl rfl)
      have h70 : a.tmps[70]?.getD undef = .string z := eval_get (given_at hD 50 rfl rfl rfl)
      refine wp_value (v := .bool true) (w' := w1) ?_ (hK _ _ hJ (Below.refl _ _) rfl)
      clear hK hD hA hJ
      go_simp
    · intro a w1 hJ hA hD K hK
      refine duty_plain rfl ?_
      have h66 : a.tmps[66]?.getD undef = .bool true := eval_get (given_at hD 46 rfl rfl rfl)
      have h71 : a.tmps[71]?.getD undef = .bool true := eval_get (given_at hD 51 rfl rfl rfl)
      refine wp_value (v := .bool true) (w' := w1) ?_ (hK _ _ hJ (Below.refl _ _) rfl)
      clear hK hD hA hJ
      go_simp
    · intro a w1 hJ hA hD K hK
      refine duty_plain rfl ?_
      have h72 : a.tmps[72]?.getD undef = .bool true := eval_get (given_at hD 52 rfl rfl rfl)
      refine wp_value (v := .bool true) (w' := w1) ?_ (hK _ _ hJ (Below.refl _ _) rfl)
      clear hK hD hA hJ
      go_simp
    · intro a w1 hJ hA hD K hK
      refine duty_yes rfl rfl rfl (hA.lt 73 (by kernel_rfl)) (given_at hD 53 rfl rfl rfl) ?_
      refine wp_enter (f := 11) (args := #[]) (w' := w1) ?_ (Calls.mono (awake_any w1) ?_)
      · clear hK hD hA hJ
        go_simp
      · rintro e w2 ⟨rfl, hb2⟩
        exact ⟨_, rfl, hK _ _ (hJ.trans (hb2.mono hJ.size)) hb2 rfl⟩
    · intro a w1 hJ hA hD K hK
      refine duty_plain rfl ?_
      have h73 : a.tmps[73]?.getD undef = .bool true := eval_get (given_at hD 53 rfl rfl rfl)
      have h74 : a.tmps[74]?.getD undef = .bool true := eval_get (given_at hD 54 rfl rfl rfl)
      refine wp_value (v := .bool true) (w' := w1) ?_ (hK _ _ hJ (Below.refl _ _) rfl)
      clear hK hD hA hJ
      go_simp
    · intro a w1 hJ hA hD K hK
      refine duty_plain rfl ?_
      have h75 : a.tmps[75]?.getD undef = .bool true := eval_get (given_at hD 55 rfl rfl rfl)
      refine wp_value (v := .bool true) (w' := w1) ?_ (hK _ _ hJ (Below.refl _ _) rfl)
      clear hK hD hA hJ
      go_simp
  · intro a w' hJ hA hG
    have hv4 : a.tmps[4]?.getD undef = .bool true := eval_get (hG 56 _ _ rfl rfl)
    have ha : a = ⟨#[t0, .int .i64 n, .pointer (some ⟨b, 0, none⟩), t3, .bool true, .pointer none, .int .i64 0, .int .i64 2, t8, t9, t10, t11, t12, t13, t14, t15, t16, t17, t18, t19, a.tmps[20]?.getD undef, a.tmps[21]?.getD undef, a.tmps[22]?.getD undef, a.tmps[23]?.getD undef, a.tmps[24]?.getD undef, a.tmps[25]?.getD undef, a.tmps[26]?.getD undef, a.tmps[27]?.getD undef, a.tmps[28]?.getD undef, a.tmps[29]?.getD undef, a.tmps[30]?.getD undef, a.tmps[31]?.getD undef, a.tmps[32]?.getD undef, a.tmps[33]?.getD undef, a.tmps[34]?.getD undef, a.tmps[35]?.getD undef, a.tmps[36]?.getD undef, a.tmps[37]?.getD undef, a.tmps[38]?.getD undef, a.tmps[39]?.getD undef, a.tmps[40]?.getD undef, a.tmps[41]?.getD undef, a.tmps[42]?.getD undef, a.tmps[43]?.getD undef, a.tmps[44]?.getD undef, a.tmps[45]?.getD undef, a.tmps[46]?.getD undef, a.tmps[47]?.getD undef, a.tmps[48]?.getD undef, a.tmps[49]?.getD undef, a.tmps[50]?.getD undef, a.tmps[51]?.getD undef, a.tmps[52]?.getD undef, a.tmps[53]?.getD undef, a.tmps[54]?.getD undef, a.tmps[55]?.getD undef, a.tmps[56]?.getD undef, a.tmps[57]?.getD undef, a.tmps[58]?.getD undef, a.tmps[59]?.getD undef, a.tmps[60]?.getD undef, a.tmps[61]?.getD undef, a.tmps[62]?.getD undef, a.tmps[63]?.getD undef, a.tmps[64]?.getD undef, a.tmps[65]?.getD undef, a.tmps[66]?.getD undef, a.tmps[67]?.getD undef, a.tmps[68]?.getD undef, a.tmps[69]?.getD undef, a.tmps[70]?.getD undef, a.tmps[71]?.getD undef, a.tmps[72]?.getD undef, a.tmps[73]?.getD undef, a.tmps[74]?.getD undef, a.tmps[75]?.getD undef], []⟩ := act_of ⟨eval_get (hA.at_ 0 (by kernel_rfl)), eval_get (hA.at_ 1 (by kernel_rfl)), eval_get (hA.at_ 2 (by kernel_rfl)), eval_get (hA.at_ 3 (by kernel_rfl)), hv4, eval_get (hA.at_ 5 (by kernel_rfl)), eval_get (hA.at_ 6 (by kernel_rfl)), eval_get (hA.at_ 7 (by kernel_rfl)), eval_get (hA.at_ 8 (by kernel_rfl)), eval_get (hA.at_ 9 (by kernel_rfl)), eval_get (hA.at_ 10 (by kernel_rfl)), eval_get (hA.at_ 11 (by kernel_rfl)), eval_get (hA.at_ 12 (by kernel_rfl)), eval_get (hA.at_ 13 (by kernel_rfl)), eval_get (hA.at_ 14 (by kernel_rfl)), eval_get (hA.at_ 15 (by kernel_rfl)), eval_get (hA.at_ 16 (by kernel_rfl)), eval_get (hA.at_ 17 (by kernel_rfl)), eval_get (hA.at_ 18 (by kernel_rfl)), eval_get (hA.at_ 19 (by kernel_rfl)), rfl, rfl, rfl, rfl, rfl, rfl, rfl, rfl, rfl, rfl, rfl, rfl, rfl, rfl, rfl, rfl, rfl, rfl, rfl, rfl, rfl, rfl, rfl, rfl, rfl, rfl, rfl, rfl, rfl, rfl, rfl, rfl, rfl, rfl, rfl, rfl, rfl, rfl, rfl, rfl, rfl, rfl, rfl, rfl, rfl, rfl, rfl, rfl, rfl, rfl, rfl, rfl, rfl, rfl, rfl, rfl, trivial⟩ hA.size hA.defers
    rw [ha]
    exact HK.out w' _ _ _ _ _ _ _ _ _ _ _ _ _ _ _ _ _ _ _ _ _ _ _ _ _ _ _ _ _ _ _ _ _ _ _ _ _ _ _ _ _ _ _ _ _ _ _ _ _ _ _ _ _ _ _ _ hJ


end Go.Proofs.Ytjggeodnoigkkaa
