/-
  The document's answer for pins, at its place: plain, Drop, Done, asked (merged).
-/
import Derived.Test.YtjggeodnoigkkaaPB
import Derived.Test.YtjggeodnoigkkaaFlow4
namespace Go.Proofs.Ytjggeodnoigkkaa
open Go.RowKit Go.Maps Go.Shelf Go.Proofs.YtjggeodnoigkkaaM

theorem info95 : (Try.prog.info? 95).map (fun i => (i.zero, i.size, i.bytes)) = some (some (.agg #[.int .i64 0, .int .i64 0]), 2, 16) := by kernel_rfl
def Drs (w : World) (base : Nat) (v : Value) (l : DM) : Prop := w.ownsRow base 95 2 v l.length (l.flatMap dcells)
theorem Drs.below {w w' : World} {base : Nat} {v : Value} {l : DM} (h : Drs w base v l) (hb : Below w.heap.size w w') : Drs w' base v l := World.ownsRow.kept h (gb hb none) (by cases v.ownBlock <;> simp)
theorem Drs.rd {w : World} {base : Nat} {v : Value} {l : DM} (h : Drs w base v l) : ∃ A cap, v = .slice A l.length cap ∧ l.length ≤ cap ∧ RdD w A l ∧ ∀ ad, A = some ad → base ≤ ad.block ∧ ad.block < w.heap.size := by
  rcases h.2 with ⟨hv, hx⟩ | ⟨g, cap, cur, hv, hB, hh, hc, _⟩
  · subst hv
    have hl : l = [] := List.eq_nil_of_length_eq_zero hx
    subst hl
    exact ⟨none, 0, rfl, Nat.le_refl _, fun k hk => by simp at hk, fun ad e => by cases e⟩
  · subst hv
    have hlt := (World.ownsRow.lt h g rfl).2
    refine ⟨_, cap, rfl, hc, fun k hk => ⟨_, rfl, hlt, ?_⟩, fun ad e => by cases e; exact ⟨hB, hlt⟩⟩
    have e : (⟨g, 0, none⟩ : Addr).add (k * 2) = ⟨g, k * 2, none⟩ := by unfold Addr.add; split <;> simp_all
    obtain ⟨p0, p1⟩ := flat_at l k hk
    have hl := flat_len l
    rw [e]
    refine ⟨?_, ?_⟩
    · rw [World.ownsRow.cellAt h (k * 2) (by omega)]
      exact p0
    · show w.cell? ⟨g, k * 2 + 1, none⟩ = _
      rw [World.ownsRow.cellAt h (k * 2 + 1) (by omega)]
      exact p1
theorem dcells_one (l : DM) : ∀ u ∈ l.flatMap dcells, u.oneCell' = true := by
  intro u hu
  obtain ⟨x, _, hx⟩ := List.mem_flatMap.1 hu
  simp only [dcells, List.mem_cons, List.not_mem_nil, or_false] at hx
  rcases hx with rfl | rfl <;> rfl
/-- 'append(out, l[..]...)'. -/
theorem wl_appendD {ops : Array Oper} {rest : List Oper} {o : Oper} {a : Act} {Q : Exit → Act → World → Prop} (w : World) (hgd : o.guard = none) (s x : Operand)
    (ho : o.op = .call { callee := .builtin .append, args := #[s, x], argTypes := #[50, 50] }) (base : Nat)
    (v : Value) (l : DM) (hs : a.eval s = v) (hown : Drs w base v l) (ad : Addr) (m c : Nat) (ys : DM) (hys : ys.length = m) (hx : a.eval x = .slice (some ad) m c) (hcell : ∀ j u, (ys.flatMap dcells)[j]? = some u → w.cell? (ad.add j) = some u)
    (hbytes : (l.length + m) * 16 ≤ 140737488355328) (hbase : base ≤ w.heap.size)
    (h : ∀ v' w', Drs w' base v' (l ++ ys) → Below base w w' → wpList Try.prog ops Q rest (a.put o.dst v') w') : wpList Try.prog ops Q (o :: rest) a w := by
  obtain ⟨i0, hi, hz0, hz1, hz2⟩ := info_parts info95
  refine wpList_append_own w hgd s x 50 ho base 95 i0 _ 2 16 Try.underlying50 hi hz0 hz1 hz2 rfl (by decide) v l.length (l.flatMap dcells) hs hown ad m c (ys.flatMap dcells) hx (by rw [flat_len, hys]) hcell (dcells_one ys) ?_ hbytes hbase ?_
  · show l.length + m ≤ 2 ^ 63 - 1
    omega
  · intro v' w' h1 h2 h3
    refine h v' w' ?_ ?_
    · unfold Drs
      rw [List.flatMap_append, List.length_append, hys]
      exact h1
    · exact (Below.refl base w).grown h2 hbase fun k hk => (World.ownsRow.lt hown k hk).1
/-- 'append(out, Drop{..})'. -/
theorem wl_append95 {ops : Array Oper} {rest : List Oper} {o : Oper} {a : Act} {Q : Exit → Act → World → Prop} (w : World) (hgd : o.guard = none) (s x : Operand)
    (ho : o.op = .call { callee := .builtin .append, args := #[s, x], argTypes := #[50, 50] }) (base : Nat)
    (v : Value) (l : DM) (hs : a.eval s = v) (hown : Drs w base v l) (u : Int × Int) (hx : a.eval x = .slice (some ⟨w.heap.size, 0, none⟩) 1 1)
    (hbytes : (l.length + 1) * 16 ≤ 140737488355328) (hbase : base ≤ w.heap.size)
    (h : ∀ v' w', Drs w' base v' (l ++ [u]) → Below base w w' → wpList Try.prog ops Q rest (a.put o.dst v') w') : wpList Try.prog ops Q (o :: rest) a (w.alloc (.cells #[.int .i64 u.1, .int .i64 u.2] 95)) := by
  refine wl_appendD (w.alloc (.cells #[.int .i64 u.1, .int .i64 u.2] 95)) hgd s x ho base v l hs (World.ownsRow.alloc hown _) ⟨w.heap.size, 0, none⟩ 1 1 [u] rfl hx (fun j v hj => two_new w _ _ _ j v hj) hbytes (by simp; omega) fun v' w' h1 h2 => h v' w' h1 (((Below.refl base w).alloc hbase _).trans h2)
theorem rdd_cells {w : World} {ad : Addr} {P : DM} (h : RdD w (some ad) P) (off m : Nat) (hm : off + m ≤ P.length) (j : Nat) (u : Value) (hj : (((P.drop off).take m).flatMap dcells)[j]? = some u) : w.cell? ((ad.add (off * 2)).add j) = some u := by
  have hl : ((P.drop off).take m).length = m := by rw [List.length_take, List.length_drop]; omega
  have hj3 : j < m * 2 := by
    have := (List.getElem?_eq_some_iff.1 hj).1
    rw [flat_len, hl] at this
    exact this
  obtain ⟨q, r, hr, rfl⟩ : ∃ q r, r < 2 ∧ j = q * 2 + r := ⟨j / 2, j % 2, by omega, by omega⟩
  have hq : q < m := by omega
  obtain ⟨p0, p1⟩ := flat_at ((P.drop off).take m) q (by rw [hl]; exact hq)
  have e0 : ((P.drop off).take m).getD q (0, 0) = P.getD (off + q) (0, 0) := by
    simp [List.getD_eq_getElem?_getD, hq]
  rw [e0] at p0 p1
  obtain ⟨ad', e, _, c0, c1⟩ := h (off + q) (by omega)
  obtain rfl := Option.some.inj e
  have eb : (ad.add (off * 2)).add (q * 2) = ad.add ((off + q) * 2) := by rw [add_add, Nat.add_mul]
  match r, hr with
  | 0, _ =>
    rw [Nat.add_zero] at hj ⊢
    rw [p0] at hj
    rw [eb, c0]
    exact hj
  | 1, _ =>
    rw [p1] at hj
    rw [add_add, add_pos _ (by omega)]
    rw [add_block, add_off] at c1
    rw [show off * 2 + (q * 2 + 1) = (off + q) * 2 + 1 from by omega, ← Nat.add_assoc, c1]
    exact hj

noncomputable def codepl5 : Code := ((Try.f48.body.bind (theRegion 5)).getD .skip)

set_option linter.unusedVariables false in
def Jpl5 (w0 : World) (base : Nat) (ov : Value) (l : DM) (b : Addr) (n c i : Nat) (x : Int × Int) (L : Nat → Bool) (W : World) : Prop := (Below base w0 W ∧ base ≤ W.heap.size) ∧ (bif L 13 then True else (Drs W base ov l ∧ Below w0.heap.size w0 W ∧ (bif L 12 then (W.cell? ⟨w0.heap.size, 0, none⟩ = some (.int .i64 x.1) ∧ W.cell? ⟨w0.heap.size, 1, none⟩ = some (.int .i64 x.2)) else W.heap.size = w0.heap.size)))
set_option linter.unusedVariables false in
def Rpl5 (w0 : World) (base : Nat) (ov : Value) (l : DM) (b : Addr) (n c i : Nat) (x : Int × Int) (j : Nat) (v : Value) (w : World) : Prop :=
  if j = 13 then Drs w base v (l ++ [x]) else if j = 14 then Drs w base v (l ++ [x]) else v = [ov, .slice (some b) n c, .int .i64 (i : Int), .pointer (some (b.add (i * 2))), .pointer (some (b.add (i * 2))), .int .i64 x.1, .slice (some b) n c, .int .i64 (i : Int), .pointer (some (b.add (i * 2))), .pointer (some ⟨(b.add (i * 2)).block, (b.add (i * 2)).off + 1, none⟩), .int .i64 x.2, .agg #[.int .i64 x.1, .int .i64 x.2], .slice (some ⟨w0.heap.size, 0, none⟩) 1 1, undef, undef].getD j undef
set_option maxRecDepth 1000000 in
set_option maxHeartbeats 4000000 in
theorem pl5 (Q : Exit → Act → World → Prop) (w0 : World) (base : Nat) (ov : Value) (l : DM) (b : Addr) (n c i : Nat) (x : Int × Int) (w : World)
    (hbl : b.block < base)
    (hc0 : w0.cell? (b.add (i * 2)) = some (.int .i64 x.1))
    (hc1 : w0.cell? ⟨(b.add (i * 2)).block, (b.add (i * 2)).off + 1, none⟩ = some (.int .i64 x.2))
    (hi0 : (0 : Int) ≤ (i : Int))
    (hi1 : (i : Int) < (n : Int))
    (hby : (l.length + 1) * 16 ≤ 140737488355328)
    (hj0 : Jpl5 w0 base ov l b n c i x (fun _ => false) w.drew) (t1 t2 t5 t6 t7 t8 t9 t10 t11 t12 t13 t14 t15 t16 t17 t18 t19 t20 t21 t22 t23 t24 t25 : Value) (hK : ∀ (w' : World) (s3 s11 s12 s13 s14 s15 s16 s17 s18 s19 s20 s21 s22 s23 s24 : Value), Drs w' base s3 (l ++ [x]) → Jpl5 w0 base ov l b n c i x (fun _ => true) w' → Q .normal ⟨#[.slice (some b) n c, t1, t2, s3, .int .i64 (i : Int), t5, t6, t7, t8, t9, t10, s11, s12, s13, s14, s15, s16, s17, s18, s19, s20, s21, s22, s23, s24, t25], []⟩ w') :
    Code.wp Try.prog codepl5 Q ⟨#[.slice (some b) n c, t1, t2, ov, .int .i64 (i : Int), t5, t6, t7, t8, t9, t10, t11, t12, t13, t14, t15, t16, t17, t18, t19, t20, t21, t22, t23, t24, t25], []⟩ w := by
  have HK := Lib.hid hK
  clear hK
  conv => arg 2; whnf
  refine wp_flow4 (P := Try.prog) (by kernel_rfl) (by kernel_rfl) (Jpl5 w0 base ov l b n c i x) (Rpl5 w0 base ov l b n c i x) hj0 ?_ ?_
  · refine ⟨?_, ?_, ?_, ?_, ?_, ?_, ?_, ?_, ?_, ?_, ?_, ?_, ?_, ?_, ?_, trivial⟩
    · intro L a w1 hJ hA hU hT hD K hK
      refine duty_plain rfl ?_
      have h3 : a.tmps[3]?.getD undef = ov := eval_get (hU.at_ 14 rfl rfl rfl)
      refine wp_value (v := ov) (w' := w1) ?_ (hK _ _ hJ (fun _ _ _ h => h) rfl)
      clear hK hD hA hJ hU hT
      go_simp
    · intro L a w1 hJ hA hU hT hD K hK
      refine duty_plain rfl ?_
      have h0 : a.tmps[0]?.getD undef = .slice (some b) n c := eval_get (hA.at_ 0 (by kernel_rfl))
      refine wp_value (v := .slice (some b) n c) (w' := w1) ?_ (hK _ _ hJ (fun _ _ _ h => h) rfl)
      clear hK hD hA hJ hU hT
      go_simp
    · intro L a w1 hJ hA hU hT hD K hK
      refine duty_plain rfl ?_
      have h4 : a.tmps[4]?.getD undef = .int .i64 (i : Int) := eval_get (hA.at_ 4 (by kernel_rfl))
      refine wp_value (v := .int .i64 (i : Int)) (w' := w1) ?_ (hK _ _ hJ (fun _ _ _ h => h) rfl)
      clear hK hD hA hJ hU hT
      go_simp
    · intro L a w1 hJ hA hU hT hD K hK
      refine duty_plain rfl ?_
      have h12 : a.tmps[12]?.getD undef = .slice (some b) n c := eval_get (given_at hD 1 rfl rfl rfl)
      have h13 : a.tmps[13]?.getD undef = .int .i64 (i : Int) := eval_get (given_at hD 2 rfl rfl rfl)
      refine wp_value (v := .pointer (some (b.add (i * 2)))) (w' := w1) ?_ (hK _ _ hJ (fun _ _ _ h => h) rfl)
      clear hK hD hA hJ hU hT
      go_simp
    · intro L a w1 hJ hA hU hT hD K hK
      refine duty_plain rfl ?_
      have h14 : a.tmps[14]?.getD undef = .pointer (some (b.add (i * 2))) := eval_get (given_at hD 3 rfl rfl rfl)
      refine wp_value (v := .pointer (some (b.add (i * 2)))) (w' := w1) ?_ (hK _ _ hJ (fun _ _ _ h => h) rfl)
      clear hK hD hA hJ hU hT
      go_simp
    · intro L a w1 hJ hA hU hT hD K hK
      refine duty_plain rfl ?_
      have h15 : a.tmps[15]?.getD undef = .pointer (some (b.add (i * 2))) := eval_get (given_at hD 4 rfl rfl rfl)
      have hc := (hJ.1.1.cell (p := b.add (i * 2)) (by rw [add_block]; exact hbl)).trans hc0
      refine wp_value (v := .int .i64 x.1) (w' := w1) ?_ (hK _ _ hJ (fun _ _ _ h => h) rfl)
      clear hK hD hA hJ hU hT
      go_simp
    · intro L a w1 hJ hA hU hT hD K hK
      refine duty_plain rfl ?_
      have h0 : a.tmps[0]?.getD undef = .slice (some b) n c := eval_get (hA.at_ 0 (by kernel_rfl))
      refine wp_value (v := .slice (some b) n c) (w' := w1) ?_ (hK _ _ hJ (fun _ _ _ h => h) rfl)
      clear hK hD hA hJ hU hT
      go_simp
    · intro L a w1 hJ hA hU hT hD K hK
      refine duty_plain rfl ?_
      have h4 : a.tmps[4]?.getD undef = .int .i64 (i : Int) := eval_get (hA.at_ 4 (by kernel_rfl))
      refine wp_value (v := .int .i64 (i : Int)) (w' := w1) ?_ (hK _ _ hJ (fun _ _ _ h => h) rfl)
      clear hK hD hA hJ hU hT
      go_simp
    · intro L a w1 hJ hA hU hT hD K hK
      refine duty_plain rfl ?_
      have h17 : a.tmps[17]?.getD undef = .slice (some b) n c := eval_get (given_at hD 6 rfl rfl rfl)
      have h18 : a.tmps[18]?.getD undef = .int .i64 (i : Int) := eval_get (given_at hD 7 rfl rfl rfl)
      refine wp_value (v := .pointer (some (b.add (i * 2)))) (w' := w1) ?_ (hK _ _ hJ (fun _ _ _ h => h) rfl)
      clear hK hD hA hJ hU hT
      go_simp
    · intro L a w1 hJ hA hU hT hD K hK
      refine duty_plain rfl ?_
      have h19 : a.tmps[19]?.getD undef = .pointer (some (b.add (i * 2))) := eval_get (given_at hD 8 rfl rfl rfl)
      refine wp_value (v := .pointer (some ⟨(b.add (i * 2)).block, (b.add (i * 2)).off + 1, none⟩)) (w' := w1) ?_ (hK _ _ hJ (fun _ _ _ h => h) rfl)
      clear hK hD hA hJ hU hT
      go_simp
    · intro L a w1 hJ hA hU hT hD K hK
      refine duty_plain rfl ?_
      have h20 : a.tmps[20]?.getD undef = .pointer (some ⟨(b.add (i * 2)).block, (b.add (i * 2)).off + 1, none⟩) := eval_get (given_at hD 9 rfl rfl rfl)
      have hc := (hJ.1.1.cell (p := ⟨(b.add (i * 2)).block, (b.add (i * 2)).off + 1, none⟩) (by show (b.add (i * 2)).block < _; rw [add_block]; exact hbl)).trans hc1
      refine wp_value (v := .int .i64 x.2) (w' := w1) ?_ (hK _ _ hJ (fun _ _ _ h => h) rfl)
      clear hK hD hA hJ hU hT
      go_simp
    · intro L a w1 hJ hA hU hT hD K hK
      refine duty_plain rfl ?_
      have h16 : a.tmps[16]?.getD undef = .int .i64 x.1 := eval_get (given_at hD 5 rfl rfl rfl)
      have h21 : a.tmps[21]?.getD undef = .int .i64 x.2 := eval_get (given_at hD 10 rfl rfl rfl)
      refine wp_value (v := .agg #[.int .i64 x.1, .int .i64 x.2]) (w' := w1) ?_ (hK _ _ hJ (fun _ _ _ h => h) rfl)
      clear hK hD hA hJ hU hT
      go_simp
    · intro L a w1 hJ hA hU hT hD K hK
      refine duty_plain rfl ?_
      have h22 : a.tmps[22]?.getD undef = .agg #[.int .i64 x.1, .int .i64 x.2] := eval_get (given_at hD 11 rfl rfl rfl)
      have hL := hT.self
      have hL2 := hT.no 13 rfl rfl
      unfold Jpl5 at hJ
      rw [hL, hL2] at hJ
      obtain ⟨⟨j0, j0'⟩, j1, j2, j3⟩ := hJ
      have j3' : w1.heap.size = w0.heap.size := j3
      have hal : Below w1.heap.size w1 (w1.alloc (.cells #[.int .i64 x.1, .int .i64 x.2] 95)) := (Below.refl _ _).alloc (Nat.le_refl _) _
      refine wp_value (v := .slice (some ⟨w0.heap.size, 0, none⟩) 1 1) (w' := w1.alloc (.cells #[.int .i64 x.1, .int .i64 x.2] 95)) ?_ (hK _ _ ⟨⟨j0.trans (hal.mono j0'), Nat.le_trans j0' hal.size⟩, by simp only [done_]; rw [hL2]; exact ⟨j1.below hal, j2.trans (hal.mono j2.size), by rw [← j3']; exact ⟨two_new w1 _ _ _ 0 _ rfl, two_new w1 _ _ _ 1 _ rfl⟩⟩⟩ ?_ rfl)
      · clear hK hD hA hU hT j1 j2 hL hL2
        rw [← j3']
        go_simp
      · intro j u hj h
        unfold Rpl5 at h ⊢
        by_cases e3 : j = 13
        · rw [if_pos e3] at h ⊢; exact Drs.below h hal
        · rw [if_neg e3] at h ⊢
          by_cases e4 : j = 14
          · rw [if_pos e4] at h ⊢; exact Drs.below h hal
          · rw [if_neg e4] at h ⊢; exact h
    · intro L a w1 hJ hA hU hT hD K hK
      refine duty_plain rfl ?_
      have h11 : a.tmps[11]?.getD undef = ov := eval_get (given_at hD 0 rfl rfl rfl)
      have h23 : a.tmps[23]?.getD undef = .slice (some ⟨w0.heap.size, 0, none⟩) 1 1 := eval_get (given_at hD 12 rfl rfl rfl)
      have hL := hT.self
      have hL2 := hT.yes 12 rfl
      have hL3 := hT.no 14 rfl rfl
      unfold Jpl5 at hJ
      rw [hL, hL2] at hJ
      obtain ⟨⟨j0, j0'⟩, j1, j2, j3, j4⟩ := hJ
      obtain ⟨i0, hi, hz0, hz1, hz2⟩ := info_parts info95
      have hs : a.eval (.tmp 11) = ov := given_at hD 0 rfl rfl rfl
      have hx : a.eval (.tmp 23) = .slice (some ⟨w0.heap.size, 0, none⟩) 1 1 := given_at hD 12 rfl rfl rfl
      refine wp_append_own w1 (.tmp 11) (.tmp 23) 50 rfl base 95 i0 _ 2 16 Try.underlying50 hi hz0 hz1 hz2 rfl (by decide) ov l.length (l.flatMap dcells) hs j1 ⟨w0.heap.size, 0, none⟩ 1 1 (dcells x) hx rfl ?_ ?_ ?_ hby j0' ?_
      · intro j u hj
        match j, hj with
        | 0, hj => simp [dcells] at hj; subst hj; simpa [Addr.add] using j3
        | 1, hj => simp [dcells] at hj; subst hj; simpa [Addr.add] using j4
        | j + 2, hj => simp [dcells] at hj
      · simp [dcells, Value.oneCell']
      · show l.length + 1 ≤ 2 ^ 63 - 1
        omega
      · intro v' w' h1 h2 h3
        have hbl2 : Below base w1 w' := (Below.refl base w1).grown h2 j0' fun k hk => (World.ownsRow.lt j1 k hk).1
        refine hK v' w' ⟨⟨j0.trans hbl2, Nat.le_trans j0' hbl2.size⟩, trivial⟩ ?_ ?_
        · intro j u hj h
          unfold Rpl5 at h ⊢
          by_cases e3 : j = 13
          · rw [e3, hL] at hj; cases hj
          · rw [if_neg e3] at h ⊢
            by_cases e4 : j = 14
            · rw [e4, hL3] at hj; cases hj
            · rw [if_neg e4] at h ⊢; exact h
        · show Drs w' base v' (l ++ [x])
          unfold Drs
          rw [List.flatMap_append, List.length_append]
          simpa using h1
    · intro L a w1 hJ hA hU hT hD K hK
      refine duty_plain rfl ?_
      have hv : Drs w1 base (a.eval (.tmp 24)) (l ++ [x]) := given_at hD 13 rfl rfl rfl
      refine wp_value (v := a.eval (.tmp 24)) (w' := w1) ?_ (hK _ _ hJ (fun _ _ _ h => h) hv)
      clear hK hD hA hJ hU hT hv
      go_simp
  · intro L a w' hJ hL hA hG
    have hp3 : Drs w' base (a.tmps[3]?.getD undef) (l ++ [x]) := by
      have h := hG 14 _ _ rfl rfl
      rw [← eval_get (a := a) (s := 3) rfl] at h
      exact h
    have ha : a = ⟨#[.slice (some b) n c, t1, t2, a.tmps[3]?.getD undef, .int .i64 (i : Int), t5, t6, t7, t8, t9, t10, a.tmps[11]?.getD undef, a.tmps[12]?.getD undef, a.tmps[13]?.getD undef, a.tmps[14]?.getD undef, a.tmps[15]?.getD undef, a.tmps[16]?.getD undef, a.tmps[17]?.getD undef, a.tmps[18]?.getD undef, a.tmps[19]?.getD undef, a.tmps[20]?.getD undef, a.tmps[21]?.getD undef, a.tmps[22]?.getD undef, a.tmps[23]?.getD undef, a.tmps[24]?.getD undef, t25], []⟩ := act_of ⟨eval_get (hA.at_ 0 (by kernel_rfl)), eval_get (hA.at_ 1 (by kernel_rfl)), eval_get (hA.at_ 2 (by kernel_rfl)), rfl, eval_get (hA.at_ 4 (by kernel_rfl)), eval_get (hA.at_ 5 (by kernel_rfl)), eval_get (hA.at_ 6 (by kernel_rfl)), eval_get (hA.at_ 7 (by kernel_rfl)), eval_get (hA.at_ 8 (by kernel_rfl)), eval_get (hA.at_ 9 (by kernel_rfl)), eval_get (hA.at_ 10 (by kernel_rfl)), rfl, rfl, rfl, rfl, rfl, rfl, rfl, rfl, rfl, rfl, rfl, rfl, rfl, rfl, eval_get (hA.at_ 25 (by kernel_rfl)), trivial⟩ hA.size hA.defers
    rw [ha]
    refine HK.out w' _ _ _ _ _ _ _ _ _ _ _ _ _ _ _ hp3 ?_
    unfold Jpl5 at hJ ⊢
    rw [hL 13 (of_decide_eq_true (by kernel_rfl))] at hJ
    exact hJ

set_option maxRecDepth 100000 in
set_option maxHeartbeats 2000000 in
theorem plain_any (A : Option Addr) (c n : Nat) (l : DM) (w : World) (hn : l.length = n) (hl : RdD w A l) (h63 : n ≤ 1000) :
    Calls Try.prog 48 #[.slice A n c] w fun e w' => ∃ B d, e = .returned (.slice B n d) ∧ n ≤ d ∧ RdD w' B l ∧ (∀ ad, B = some ad → w.heap.size ≤ ad.block) ∧ Below w.heap.size w w' := by
  subst hn
  have HL := Lib.hid hl
  have H63 := Lib.hid h63
  clear hl h63
  go_enter Try.func48, Try.ntmps48
  go_wp2_with fail
  go_loopw [3, 4] (fun v i wr => ∃ k : Nat, k ≤ l.length ∧ i = .int .i64 k ∧ Drs wr w.heap.size v (l.take k) ∧ Below w.heap.size w wr) (fun _ i _ => l.length - (intOf i).toNat)
  case atStart => exact ⟨0, Nat.zero_le _, rfl, World.ownsRow_nil _ _ _ _, Below.refl _ _⟩
  case round =>
    obtain ⟨k, hk, rfl, hout, hb⟩ := hrel
    have h63 := H63.out
    by_cases hlt : k < l.length
    · obtain ⟨ad, rfl, hb1, hd0, hd1⟩ := HL.out k hlt
      have e0 : l.getD k (0, 0) = l[k] := by simp [List.getD_eq_getElem?_getD, hlt]
      rw [e0] at hd0 hd1
      have hc0 := (hb.cell (p := ad.add (k * 2)) (by rw [add_block]; exact hb1)).trans hd0
      have hc1 := (hb.cell (p := ⟨(ad.add (k * 2)).block, (ad.add (k * 2)).off + 1, none⟩) (by show (ad.add (k * 2)).block < _; rw [add_block]; exact hb1)).trans hd1
      have hk0 : (0 : Int) ≤ (k : Int) := by omega
      have hk1 : (k : Int) < (l.length : Int) := by omega
      have HT := Lib.hid (List.take_succ_eq_append_getElem hlt)
      have Hby := Lib.hid (show ((l.take k).length + 1) * 16 ≤ 140737488355328 from by rw [List.length_take]; omega)
      have hbs : w.heap.size ≤ wr.heap.size := hb.size
      clear e0 hd0 hd1
      generalize l[k] = y at hc0 hc1 HT
      have HO := Lib.hid hout
      clear hout
      go_upto_region 5 with fail
      refine pl5 _ wr w.heap.size _ (l.take k) ad l.length c k y _ hb1 hc0 hc1 hk0 hk1 Hby.out ⟨⟨(Below.refl _ _).drew, hbs⟩, HO.out.below (Below.refl _ _).drew, (Below.refl _ _).drew, rfl⟩ _ _ _ _ _ _ _ _ _ _ _ _ _ _ _ _ _ _ _ _ _ _ _ ?_
      intro w9 _ _ _ _ _ _ _ _ _ _ _ _ _ _ _ hout hj
      obtain ⟨⟨j0, _⟩, _⟩ := hj
      dsimp only [Exit.inBlock, Exit.then]
      go_wp2_with fail
      go_roundw
      case rel => exact ⟨k + 1, by omega, by go_num, by rw [HT.out]; exact hout, hb.trans j0⟩
      case measure => simp [intOf]; omega
    · have hke : k = l.length := by omega
      subst hke
      rw [List.take_length] at hout
      obtain ⟨B, d, rfl, hd, hrd, hbl⟩ := hout.rd
      have HX := Lib.hid (And.intro hd (And.intro hrd hbl))
      clear hd hrd hbl hout
      go_wp2_with fail
      go_ret
      exact ⟨_, _, rfl, HX.out.1, HX.out.2.1, fun ad e => (HX.out.2.2 ad e).1, hb⟩

end Go.Proofs.Ytjggeodnoigkkaa

namespace Go.Proofs.Ytjggeodnoigkkaa
open Go.RowKit Go.Maps Go.Shelf Go.Proofs.YtjggeodnoigkkaaM

theorem RefAt.putD {w : World} {x : Nat} {P : PM} {D l : DM} {A : Option Addr} {c : Nat} {B : Option Addr} {d base : Nat} {v : Value} (h : RefAt w x P D A c B d) (hp : Drs w base v l) (hx : x < base) : ∃ B' d', RefAt (w.setCell ⟨x, 1, none⟩ v) x P l A c B' d' := by
  obtain ⟨B', d', rfl, hd, hr, hB⟩ := hp.rd
  have hg := grown_set w x 1 (.slice B' l.length d')
  exact ⟨B', d', (World.cell?_setCell_other _ ⟨x, 1, none⟩ ⟨x, 0, none⟩ _ (by intro h; cases h)).trans h.c0, World.cell?_setCell_same _ _ _ h.c1, (World.frozen?_setCell _ _ _ _).trans h.f0, (World.frozen?_setCell _ _ _ _).trans h.f1,
    h.rP.kept hg fun ad e => by simpa using h.nA ad e, hr.keep hg fun ad e => by have := (hB ad e).1; simp; omega, h.nA, fun ad e => by have := (hB ad e).1; omega, h.lc, hd⟩
theorem grown_of1 {w w1 : World} {x : Nat} {v : Value} (hb : Below w.heap.size w w1) : w.grownBy (w1.setCell ⟨x, 1, none⟩ v) (some x) := (gb hb _).trans (grown_set _ _ _ _)

theorem insI_step (y : Int × Int) (P : DM) (k : Nat) (h : k < P.length) : insM y (P.drop k) = if y.1 < P[k].1 then y :: P.drop k else P[k] :: insM y (P.drop (k + 1)) := by
  rw [List.drop_eq_getElem_cons h]
  conv => lhs; unfold insM
  by_cases hl : y.1 < P[k].1
  · rw [if_pos (show (MKey.lt y.1 P[k].1 : Bool) = true from decide_eq_true hl), if_pos hl]
  · rw [if_neg (show ¬ (MKey.lt y.1 P[k].1 : Bool) = true from by rw [show (MKey.lt y.1 P[k].1 : Bool) = decide (y.1 < P[k].1) from rfl, decide_eq_false hl]; simp), if_neg hl]
structure DropAt (y : Int × Int) (P : DM) (k : Nat) (done : Bool) (l : DM) : Prop where
  all : l ++ (bif done then P.drop k else insM y (P.drop k)) = insM y P
  len : l.length ≤ k + 1
theorem DropAt.start (y : Int × Int) (P : DM) : DropAt y P 0 false [] := ⟨rfl, by simp⟩
theorem DropAt.plain {y : Int × Int} {P : DM} {k : Nat} {l : DM} (h : DropAt y P k true l) (hk : k < P.length) : DropAt y P (k + 1) true (l ++ [P[k]]) := by
  have h1 := h.all
  have h2 := h.len
  refine ⟨?_, by simp; omega⟩
  rw [cond_true] at h1 ⊢
  rw [List.drop_eq_getElem_cons hk] at h1
  simpa using h1
theorem DropAt.none {y : Int × Int} {P : DM} {k : Nat} {l : DM} (h : DropAt y P k false l) (hk : k < P.length) (hlt : ¬ y.1 < P[k].1) : DropAt y P (k + 1) false (l ++ [P[k]]) := by
  have h1 := h.all
  have h2 := h.len
  refine ⟨?_, by simp; omega⟩
  rw [cond_false] at h1 ⊢
  rw [insI_step y P k hk, if_neg hlt] at h1
  simpa using h1
theorem DropAt.here {y : Int × Int} {P : DM} {k : Nat} {l : DM} (h : DropAt y P k false l) (hl : l.length ≤ k) (hk : k < P.length) (hlt : y.1 < P[k].1) : DropAt y P (k + 1) true (l ++ [y] ++ [P[k]]) := by
  have h1 := h.all
  refine ⟨?_, by simp; omega⟩
  rw [cond_false] at h1
  rw [cond_true]
  rw [insI_step y P k hk, if_pos hlt, List.drop_eq_getElem_cons hk] at h1
  simpa using h1

theorem hasM_putAll : ∀ (l D : DM) (s : Int), hasM (putAll D l) s = (hasM D s || l.any fun y => decide (y.1 = s))
  | [], D, s => by simp [putAll]
  | x :: l, D, s => by
    have ih := hasM_putAll l (putM D x.1 x.2) s
    rw [putAll, List.foldl_cons] at *
    rw [show List.foldl (fun m x => putM m x.1 x.2) (putM D x.1 x.2) l = putAll (putM D x.1 x.2) l from rfl] at *
    rw [ih, hasM_put, List.any_cons, ← Bool.or_assoc, Bool.or_comm (decide (x.1 = s))]
theorem put_newI {D : DM} {k v : Int} (h : hasM D k = false) : putM D k v = insM (k, v) D := by
  have hd : delM D k = D := List.filter_eq_self.2 fun y hy => by
    have : y.1 ≠ k := fun e => by
      rw [hasM, List.any_eq_false] at h
      exact h y hy (by simp [e])
    simp [this]
  rw [putM, hd]
theorem clash_of (D l : DM) (i : Nat) (h : i < l.length) : clashAt D l i = (hasM D l[i].1 || (l.take i).any fun y => decide (y.1 = l[i].1)) := by
  have e : l.getD i (0, 0) = l[i] := by simp [List.getD_eq_getElem?_getD, h]
  rw [clashAt, e]

/-- What a call makes of the document's drops. -/
def RefPostD (x : Nat) (A : Option Addr) (c : Nat) (P : PM) (r : Int × DM) (w : World) (e : Ending) (w' : World) : Prop :=
  e = .returned (.int .i64 r.1) ∧ (∃ B' d', RefAt w' x P r.2 A c B' d') ∧ w.grownBy w' (some x)

set_option maxRecDepth 100000 in
set_option maxHeartbeats 8000000 in
theorem refDrop_any (x : Nat) (P : PM) (D : DM) (A : Option Addr) (c : Nat) (B : Option Addr) (d : Nat) (L : Option Addr) (cl : Nat) (l : DM) (w : World) (h : RefAt w x P D A c B d) (hl : RdD w L l) (nL : ∀ ad, L = some ad → ad.block ≠ x) (h63 : l.length ≤ 1000) (m63 : D.length ≤ 100000) :
    Calls Try.prog 47 #[.pointer (some ⟨x, 0, none⟩), .slice L l.length cl] w (RefPostD x A c P (dropF D l) w) := by
  have H := Lib.hid h
  have HL := Lib.hid hl
  have H63 := Lib.hid (And.intro h63 m63)
  have NL := Lib.hid nL
  clear h hl h63 m63 nL
  go_enter Try.func47, Try.ntmps47
  go_wp2_with fail
  go_loopw [5] (fun i wr => ∃ k : Nat, k ≤ l.length ∧ i = .int .i64 k ∧ Hid ((l.take k).all mayB = true) ∧ Below w.heap.size w wr) (fun i _ => l.length - (intOf i).toNat)
  case atStart => exact ⟨0, Nat.zero_le _, rfl, Lib.hid rfl, Below.refl _ _⟩
  case round =>
    obtain ⟨k, hk, rfl, hall, hb⟩ := hrel
    have h63 := H63.out.1
    by_cases hlt : k < l.length
    · obtain ⟨ad, rfl, hb1, hc0, hc1⟩ := (HL.out.below hb) k hlt
      have e0 : l.getD k (0, 0) = l[k] := by simp [List.getD_eq_getElem?_getD, hlt]
      rw [e0] at hc0 hc1
      have hk0 : (0 : Int) ≤ (k : Int) := by omega
      have hk1 : (k : Int) < (l.length : Int) := by omega
      have hb9 := Lib.hid (fun n => hb.trans ((below_drewN wr n).mono hb.size))
      have hs := all_take_succ mayB l k hlt
      have hbad : mayB l[k] = false → dropF D l = (1, D) := fun e => by
        rw [dropF, if_pos]
        rw [List.all_eq_false]
        exact ⟨l[k], List.getElem_mem _, by simp [e]⟩
      have HS := Lib.hid hs
      have HBAD := Lib.hid hbad
      clear e0 hs hbad hb
      generalize l[k] = y at hc0 hc1 HS HBAD
      have bad : mayB y = false → ∀ n, RefPostD x A c P (dropF D l) w (.returned (.int .i64 1)) (wr.drewN n) := fun e n => by
        rw [HBAD.out e]
        exact ⟨rfl, ⟨B, d, H.out.below (hb9.out n)⟩, gb (hb9.out n) _⟩
      have HB := Lib.hid bad
      clear bad HBAD
      by_cases q1 : y.1 < 1
      · have f1 : decide (y.1 < 1) = true := decide_eq_true q1
        have HB2 := Lib.hid (HB.out (by rw [mayB, decide_eq_false (p := 1 ≤ y.1) (by omega)]; rfl))
        clear q1 HB HS
        go_upto_region 4 with fail
        go_quiet (fail)
        go_wp2_with fail
        go_ret
        exact HB2.out _
      · have f1 : decide (y.1 < 1) = false := decide_eq_false q1
        by_cases q2 : y.2 ≤ y.1
        · have f2 : decide (y.2 ≤ y.1) = true := decide_eq_true q2
          have HB2 := Lib.hid (HB.out (by rw [mayB, decide_eq_false (p := y.1 < y.2) (by omega)]; simp))
          clear q1 q2 HB HS
          go_upto_region 4 with fail
          go_quiet (fail)
          go_wp2_with fail
          go_ret
          exact HB2.out _
        · have f2 : decide (y.2 ≤ y.1) = false := decide_eq_false q2
          by_cases q3 : 1099511627776 ≤ y.2
          · have f3 : decide (1099511627776 ≤ y.2) = true := decide_eq_true q3
            have HB2 := Lib.hid (HB.out (by rw [mayB, decide_eq_false (p := y.2 < 1099511627776) (by omega)]; simp))
            clear q1 q2 q3 HB HS
            go_upto_region 4 with fail
            go_quiet (fail)
            go_wp2_with fail
            go_ret
            exact HB2.out _
          · have f3 : decide (1099511627776 ≤ y.2) = false := decide_eq_false q3
            have hT := Lib.hid (show (l.take (k + 1)).all mayB = true from by rw [HS.out, hall.out, (mayB_iff y).2 ⟨by omega, by omega, by omega⟩]; rfl)
            clear q1 q2 q3 HB HS
            go_upto_region 4 with fail
            go_quiet (fail)
            go_wp2_with fail
            go_roundw
            case rel => exact ⟨k + 1, by omega, by go_num, hT, hb9.out _⟩
            case measure => simp [intOf]; omega
    · have hke : k = l.length := by omega
      subst hke
      rw [List.take_length] at hall
      obtain ⟨w1, hw1⟩ : ∃ w1, w1 = wr := ⟨_, rfl⟩
      rw [← hw1] at hb
      rw [← hw1]
      clear hw1
      have HB1 := Lib.hid hb
      clear hb
      have HMAY := Lib.hid hall.out
      clear hall
      have HCL := Lib.hid (show ∀ i (h : i < l.length), clashAt D l i = true → dropF D l = (16, D) from fun i h e => by
        rw [dropF, if_neg (by rw [HMAY.out]; simp), if_pos]
        rw [List.any_eq_true]
        exact ⟨i, List.mem_range.2 h, e⟩)
      go_wp2_with fail
      go_loopw [6] (fun i wr => ∃ k : Nat, k ≤ l.length ∧ i = .int .i64 k ∧ Hid ((List.range k).any (clashAt D l) = false) ∧ Below w.heap.size w wr) (fun i _ => l.length - (intOf i).toNat)
      case atStart => exact ⟨0, Nat.zero_le _, rfl, Lib.hid rfl, HB1.out⟩
      case round =>
        obtain ⟨i, hi, rfl, hno, hb⟩ := hrel
        have h63 := H63.out.1
        by_cases hlt : i < l.length
        · obtain ⟨ad, hLe, hb1, hc0, _⟩ := HL.out i hlt
          subst hLe
          have e0 : l.getD i (0, 0) = l[i] := by simp [List.getD_eq_getElem?_getD, hlt]
          rw [e0] at hc0
          have hi0 : (0 : Int) ≤ (i : Int) := by omega
          have hi1 : (i : Int) < (l.length : Int) := by omega
          have HC0 := Lib.hid (fun W (hW : Below w.heap.size w W) => (hW.cell (p := ad.add (i * 2)) (by rw [add_block]; exact hb1)).trans hc0)
          have HCI := Lib.hid (clash_of D l i hlt)
          have HCL2 := Lib.hid (HCL.out i hlt)
          have HN2 := Lib.hid (show clashAt D l i = false → (List.range (i + 1)).any (clashAt D l) = false from fun e => by rw [List.range_succ, List.any_append, hno.out]; simp [e])
          clear e0 hc0 hno
          generalize l[i] = y at HC0 HCI
          go_wp2_with fail
          go_loopw [7] (fun m wr => ∃ k : Nat, k ≤ i ∧ m = .int .i64 k ∧ Hid (((l.take k).any fun z => decide (z.1 = y.1)) = false) ∧ Below w.heap.size w wr) (fun m _ => i - (intOf m).toNat)
          case atStart => exact ⟨0, Nat.zero_le _, rfl, Lib.hid rfl, hb⟩
          case round =>
            clear hb
            obtain ⟨k, hk, rfl, hnk, hb⟩ := hrel
            have hci := HC0.out wr hb
            have hb9 := Lib.hid (fun n => hb.trans ((below_drewN wr n).mono hb.size))
            by_cases hki : k < i
            · have hkl : k < l.length := by omega
              obtain ⟨ad', hLe, _, hck, _⟩ := (HL.out.below hb) k hkl
              obtain rfl : ad = ad' := Option.some.inj hLe
              have e0 : l.getD k (0, 0) = l[k] := by simp [List.getD_eq_getElem?_getD, hkl]
              rw [e0] at hck
              have hk0 : (0 : Int) ≤ (k : Int) := by omega
              have hk1 : (k : Int) < (l.length : Int) := by omega
              have HS := Lib.hid (any_take_succ (fun z => decide (z.1 = y.1)) l k hkl)
              have HHIT := Lib.hid (show decide (l[k].1 = y.1) = true → clashAt D l i = true from fun e => by
                rw [HCI.out]
                have : ((l.take i).any fun z => decide (z.1 = y.1)) = true := by
                  rw [List.any_eq_true]
                  exact ⟨l[k], by rw [List.mem_take_iff_getElem]; exact ⟨k, by omega, rfl⟩, e⟩
                rw [this]
                simp)
              clear e0 hLe hb
              generalize l[k] = z at hck HS HHIT
              by_cases q : z.1 = y.1
              · have f : (z.1 == y.1) = true := by simpa using q
                have HF := Lib.hid (HCL2.out (HHIT.out (decide_eq_true q)))
                clear q HS HHIT
                go_upto_region 12 with fail
                go_quiet (fail)
                go_wp2_with fail
                go_ret
                unfold RefPostD
                rw [HF.out]
                exact ⟨rfl, ⟨B, d, H.out.below (hb9.out _)⟩, gb (hb9.out _) _⟩
              · have f : (z.1 == y.1) = false := by simpa using q
                have hT := Lib.hid (show ((l.take (k + 1)).any fun z => decide (z.1 = y.1)) = false from by rw [HS.out, hnk.out, decide_eq_false q]; rfl)
                clear q HS HHIT hnk
                go_upto_region 12 with fail
                go_quiet (fail)
                go_wp2_with fail
                go_roundw
                case rel => exact ⟨k + 1, by omega, by go_num, hT, hb9.out _⟩
                case measure => simp [intOf]; omega
            · have hke : k = i := by omega
              subst hke
              have hx := H.out.below hb
              have x0 := hx.c0
              have x1 := hx.c1
              have HD := Lib.hid (drops_any A B c d D.length P.length D y.1 wr.drew rfl (hx.rD.below (Below.refl _ _).drew) (by have := H63.out.2; omega))
              have HBD := Lib.hid (hb.trans ((Below.refl wr.heap.size wr).drew.mono hb.size))
              clear hx hb hb9
              go_wp2_with fail
              go_still_tail 8, (by kernel_rfl)
              change wpList _ _ _ _ _ wr.drew
              go_wp2_with fail
              refine HD.out.mono ?_
              rintro e w2 ⟨r, rfl, hdi, hb2⟩
              have hh := hdi.has
              have HB2 := Lib.hid (HBD.out.trans (hb2.mono HBD.out.size))
              clear hdi hb2 HD HBD x0 x1 hci
              cases hm : hasM D y.1 with
              | true =>
                have HF := Lib.hid (HCL2.out (by rw [HCI.out, hm]; rfl))
                rw [hm] at hh
                clear hm HCL2 HCI
                go_wp2_with fail
                go_ret
                unfold RefPostD
                rw [HF.out]
                exact ⟨rfl, ⟨B, d, H.out.below HB2.out⟩, gb HB2.out _⟩
              | false =>
                have hT := Lib.hid (HN2.out (by rw [HCI.out, hm, hnk.out]; rfl))
                rw [hm] at hh
                clear hm HCL2 HCI hnk
                go_wp2_with fail
                go_roundw
                case rel => exact ⟨k + 1, by omega, by go_num, hT, HB2.out⟩
                case measure => simp [intOf]; omega
        · have hie : i = l.length := by omega
          subst hie
          have HF := Lib.hid (show dropF D l = (0, putAll D l) from by rw [dropF, if_neg (by rw [HMAY.out]; simp), hno.out, if_neg (by simp)])
          have HNO := Lib.hid (show ∀ i (h : i < l.length), hasM (putAll D (l.take i)) l[i].1 = false from fun i h => by
            have h1 := List.any_eq_false.1 hno.out i (List.mem_range.2 h)
            rw [clash_of D l i h] at h1
            rw [hasM_putAll]
            exact Bool.eq_false_iff.2 h1)
          have HBW := Lib.hid hb
          clear hno hb HCL HMAY
          obtain ⟨w2, hw2⟩ : ∃ w2, w2 = wr := ⟨_, rfl⟩
          rw [← hw2] at HBW
          rw [← hw2]
          clear hw2
          go_wp2_with fail
          go_loopw [8] (fun i wr => ∃ (k : Nat) (B' : Option Addr) (d' : Nat), k ≤ l.length ∧ i = .int .i64 k ∧ RefAt wr x P (putAll D (l.take k)) A c B' d' ∧ w.grownBy wr (some x)) (fun i _ => l.length - (intOf i).toNat)
          case atStart => exact ⟨0, B, d, Nat.zero_le _, rfl, H.out.below HBW.out, gb HBW.out _⟩
          case round =>
            obtain ⟨i, B', d', hi, rfl, hx, hgw⟩ := hrel
            have h63 := H63.out.1
            by_cases hlt : i < l.length
            · obtain ⟨ad, hLe, hb1, _, _⟩ := HL.out i hlt
              subst hLe
              have hln := HL.out.keep hgw (fun ad' e => by simpa using NL.out ad' e)
              obtain ⟨ad', hLe, hb1', hd0, hd1⟩ := hln i hlt
              obtain rfl : ad = ad' := Option.some.inj hLe
              have e0 : l.getD i (0, 0) = l[i] := by simp [List.getD_eq_getElem?_getD, hlt]
              rw [e0] at hd0 hd1
              have hi0 : (0 : Int) ≤ (i : Int) := by omega
              have hi1 : (i : Int) < (l.length : Int) := by omega
              have hnew := HNO.out i hlt
              have hsucc := putAll_succ D l i hlt
              have hlen := putAll_len D (l.take i)
              have hlen2 : (l.take i).length ≤ 1000 := by rw [List.length_take]; omega
              have HDL := Lib.hid (show (putAll D (l.take i)).length ≤ 101000 from by have := H63.out.2; omega)
              have HAD := Lib.hid (NL.out ad rfl)
              clear e0 hLe hln hlen hlen2
              generalize l[i] = y at hd0 hd1 hnew hsucc
              rw [put_newI hnew] at hsucc
              have HS := Lib.hid hsucc
              clear hnew hsucc
              generalize putAll D (l.take i) = D' at hx HS HDL
              have HX := Lib.hid hx
              have HGW := Lib.hid hgw
              have HC := Lib.hid (And.intro hb1' (And.intro hd0 hd1))
              clear hx hgw hd0 hd1 hb1 hb1'
              obtain ⟨wo, hwo⟩ : ∃ wo, wo = wr := ⟨_, rfl⟩
              rw [← hwo] at HX HGW HC
              rw [← hwo]
              clear hwo
              have HGX := Lib.hid HX.out.lt
              have hGle := Nat.le_refl wo.heap.size
              obtain ⟨G, hG⟩ : ∃ G, G = wo.heap.size := ⟨_, rfl⟩
              rw [← hG] at HGX HC
              have HG := Lib.hid hG
              clear hG hGle
              have hstart : Drs wo G (.slice none 0 0) [] := World.ownsRow_nil _ _ _ _
              have hbelow : Below G wo wo := Below.refl _ _
              have hGs : G ≤ wo.heap.size := by rw [HG.out]; exact Nat.le_refl _
              go_wp2_with fail
              go_loopw [9, 10, 11] (fun v b m wr => ∃ (k : Nat) (done : Bool) (r : DM), k ≤ D'.length ∧ m = .int .i64 k ∧ b = .bool done ∧ Hid (DropAt y D' k done r) ∧ Hid (done = false → r.length ≤ k) ∧ Drs wr G v r ∧ Below G wo wr ∧ G ≤ wr.heap.size) (fun _ _ m _ => D'.length - (intOf m).toNat)
              case atStart => exact ⟨0, false, [], Nat.zero_le _, rfl, rfl, Lib.hid (DropAt.start y D'), Lib.hid (fun _ => Nat.le_refl _), hstart, hbelow, hGs⟩
              case round =>
                clear hstart hbelow hGs
                obtain ⟨k, done, r, hk, rfl, rfl, hat, hll, hout, hb, hbs⟩ := hrel
                have hxG : x < G := HGX.out
                have x1 := (hb.cell (p := ⟨x, 1, none⟩) hxG).trans HX.out.c1
                have hc0 := (hb.cell (p := ad.add (i * 2)) (by rw [add_block]; exact HC.out.1)).trans HC.out.2.1
                have hc1 := (hb.cell (p := ⟨(ad.add (i * 2)).block, (ad.add (i * 2)).off + 1, none⟩) (by show (ad.add (i * 2)).block < _; rw [add_block]; exact HC.out.1)).trans HC.out.2.2
                have hdl := HDL.out
                have Hby := Lib.hid (show (r.length + 1) * 16 ≤ 140737488355328 ∧ (r.length + 1 + 1) * 16 ≤ 140737488355328 from by have := hat.out.len; omega)
                by_cases hkl : k < D'.length
                · obtain ⟨ad2, hBe, hb2', hz0, hz1⟩ := HX.out.rD k hkl
                  subst hBe
                  have hb2 : ad2.block < G := by rw [HG.out]; exact hb2'
                  have e0 : D'.getD k (0, 0) = D'[k] := by simp [List.getD_eq_getElem?_getD, hkl]
                  rw [e0] at hz0 hz1
                  have hcz0 := (hb.cell (p := ad2.add (k * 2)) (by rw [add_block]; exact hb2)).trans hz0
                  have hcz1 := (hb.cell (p := ⟨(ad2.add (k * 2)).block, (ad2.add (k * 2)).off + 1, none⟩) (by show (ad2.add (k * 2)).block < _; rw [add_block]; exact hb2)).trans hz1
                  have hk0 : (0 : Int) ≤ (k : Int) := by omega
                  have hk1 : (k : Int) < (D'.length : Int) := by omega
                  have hb9 := Lib.hid (fun n => hb.trans ((below_drewN wr n).mono hbs))
                  have hout9 := Lib.hid (fun n => hout.below (below_drewN wr n))
                  clear hb2' hz0 hz1 e0
                  cases done with
                  | true =>
                    have hat2 := Lib.hid (hat.out.plain hkl)
                    have hll2 := Lib.hid (show true = false → (r ++ [D'[k]]).length ≤ k + 1 from fun e => by cases e)
                    clear hat hll hout hb
                    generalize D'[k] = z at hcz0 hcz1 hat2 hll2
                    go_upto_region 24 with fail
                    go_quiet (fail)
                    go_wp2_with (at_builtin; refine wl_append95 _ rfl _ _ rfl G _ _ rfl (hout9.out _) z rfl Hby.out.1 hbs ?_; intro v' w3 h1' hb3)
                    go_roundw
                    case rel => exact ⟨k + 1, true, _, by omega, by go_num, rfl, hat2, hll2, h1', (hb9.out _).trans hb3, Nat.le_trans hbs hb3.size⟩
                    case measure => simp [intOf]; omega
                  | false =>
                    by_cases q : y.1 < D'[k].1
                    · have f : decide (y.1 < D'[k].1) = true := decide_eq_true q
                      have hat2 := Lib.hid (hat.out.here (hll.out rfl) hkl q)
                      have hll2 := Lib.hid (show true = false → (r ++ [y] ++ [D'[k]]).length ≤ k + 1 from fun e => by cases e)
                      clear hat hll hout hb q
                      generalize D'[k] = z at hcz0 hcz1 hat2 hll2 f
                      go_upto_region 24 with fail
                      go_quiet (fail)
                      go_wp2_with (first | (at_builtin; refine wl_append95 _ rfl _ _ rfl G _ _ rfl h1' z rfl (by rw [List.length_append]; exact Hby.out.2) hbs3 ?_; intro v'' w4 h2' hb4) | (at_builtin; refine wl_append95 _ rfl _ _ rfl G _ _ rfl (hout9.out _) y rfl Hby.out.1 hbs ?_; intro v' w3 h1' hb3; have hxG : x < G := HGX.out; have x1' := (hb3.cell (p := ⟨x, 1, none⟩) hxG).trans x1; have hcz0' := (hb3.cell (p := ad2.add (k * 2)) (by rw [add_block]; exact hb2)).trans hcz0; have hcz1' := (hb3.cell (p := ⟨(ad2.add (k * 2)).block, (ad2.add (k * 2)).off + 1, none⟩) (by show (ad2.add (k * 2)).block < _; rw [add_block]; exact hb2)).trans hcz1; have hbs3 := Nat.le_trans hbs hb3.size))
                      go_roundw
                      case rel => exact ⟨k + 1, true, _, by omega, by go_num, rfl, hat2, hll2, h2', ((hb9.out _).trans hb3).trans hb4, Nat.le_trans hbs3 hb4.size⟩
                      case measure => simp [intOf]; omega
                    · have f : decide (y.1 < D'[k].1) = false := decide_eq_false q
                      have hat2 := Lib.hid (hat.out.none hkl q)
                      have hll2 := Lib.hid (show false = false → (r ++ [D'[k]]).length ≤ k + 1 from fun _ => by have := hll.out rfl; simp; omega)
                      clear hat hll hout hb q
                      generalize D'[k] = z at hcz0 hcz1 hat2 hll2 f
                      go_upto_region 24 with fail
                      go_quiet (fail)
                      go_wp2_with (at_builtin; refine wl_append95 _ rfl _ _ rfl G _ _ rfl (hout9.out _) z rfl Hby.out.1 hbs ?_; intro v' w3 h1' hb3)
                      go_roundw
                      case rel => exact ⟨k + 1, false, _, by omega, by go_num, rfl, hat2, hll2, h1', (hb9.out _).trans hb3, Nat.le_trans hbs hb3.size⟩
                      case measure => simp [intOf]; omega
                · have hke : k = D'.length := by omega
                  subst hke
                  have hfin := hat.out.all
                  rw [List.drop_length] at hfin
                  have xf := (hb.frozen (p := ⟨x, 1, none⟩) hxG).trans HX.out.f1
                  have HBG := Lib.hid hb
                  clear hat hll hb
                  cases done with
                  | true =>
                    rw [cond_true, List.append_nil] at hfin
                    subst hfin
                    obtain ⟨A', c', rfl, _⟩ := hout.rd
                    have HO := Lib.hid hout
                    clear hout
                    go_wp2_with fail
                    go_roundw
                    case rel =>
                      obtain ⟨B2, d2, hr2⟩ := (HX.out.below (by rw [← HG.out]; exact HBG.out)).putD HO.out hxG
                      exact ⟨i + 1, B2, d2, by omega, by go_num, by rw [HS.out]; exact hr2, HGW.out.trans (grown_of1 (by rw [← HG.out]; exact HBG.out))⟩
                    case measure => simp [intOf]; omega
                  | false =>
                    rw [cond_false, insM] at hfin
                    have hxr := Lib.hid hfin
                    clear hfin
                    go_wp2_with (at_builtin; refine wl_append95 _ rfl _ _ rfl G _ _ rfl hout y rfl Hby.out.1 hbs ?_; intro v' w3 h1' hb3; rw [hxr.out] at h1'; obtain ⟨A', c', rfl, _⟩ := h1'.rd; have x1' := (hb3.cell (p := ⟨x, 1, none⟩) hxG).trans x1; have xf' := (hb3.frozen (p := ⟨x, 1, none⟩) hxG).trans xf)
                    go_roundw
                    case rel =>
                      have hb4 := HBG.out.trans hb3
                      obtain ⟨B2, d2, hr2⟩ := (HX.out.below (by rw [← HG.out]; exact hb4)).putD h1' hxG
                      exact ⟨i + 1, B2, d2, by omega, by go_num, by rw [HS.out]; exact hr2, HGW.out.trans (grown_of1 (by rw [← HG.out]; exact hb4))⟩
                    case measure => simp [intOf]; omega
            · have hie : i = l.length := by omega
              subst hie
              rw [List.take_length] at hx
              have HX := Lib.hid hx
              clear hx
              go_wp2_with fail
              go_ret
              unfold RefPostD
              rw [HF.out]
              exact ⟨rfl, ⟨B', d', HX.out⟩, hgw⟩

end Go.Proofs.Ytjggeodnoigkkaa

namespace Go.Proofs.Ytjggeodnoigkkaa
open Go.RowKit Go.Maps Go.Shelf Go.Proofs.YtjggeodnoigkkaaM

theorem doneGo_zero {P : PM} {D : DM} {l : List Int} : ∀ (n k : Nat), l.length - k = n → doneGo P D (l.take k) (l.drop k) = 0 → ∀ i (h : i < l.length), k ≤ i → doneErr P D (l.take i) l[i] = 0
  | 0, k, hn, _, i, h, hk => by omega
  | n + 1, k, hn, hd, i, h, hk => by
    rw [doneGo_step P D l k (by omega)] at hd
    by_cases he : doneErr P D (l.take k) l[k] = 0
    · rw [if_pos he] at hd
      by_cases hik : i = k
      · subst hik; exact he
      · exact doneGo_zero n (k + 1) (by omega) hd i h (by omega)
    · rw [if_neg he] at hd
      exact absurd hd he
theorem hasM_delAll2 : ∀ (l : List Int) (D : DM) (s : Int), s ∉ l → hasM D s = true → hasM (delAll D l) s = true
  | [], _, _, _, h => h
  | x :: l, D, s, hn, h => by
    rw [List.mem_cons, not_or] at hn
    exact hasM_delAll2 l (delM D x) s hn.2 (by rw [hasM_del, h]; simp; exact fun e => hn.1 e.symm)
theorem delD_at {P : DM} (hr : Rising P) {k : Nat} (hk : k < P.length) : delM P P[k].1 = P.take k ++ P.drop (k + 1) := by
  have e : P = P.take k ++ P[k] :: P.drop (k + 1) := by rw [← List.drop_eq_getElem_cons hk, List.take_append_drop]
  have hne : ∀ j (h : j < P.length), j ≠ k → P[j].1 ≠ P[k].1 := fun j h hjk e => by
    rcases Nat.lt_or_gt_of_ne hjk with h1 | h1
    · have := List.pairwise_iff_getElem.1 hr j k h hk h1
      rw [e, MKey.irrefl] at this
      cases this
    · have := List.pairwise_iff_getElem.1 hr k j hk h h1
      rw [e, MKey.irrefl] at this
      cases this
  generalize hx : P[k] = x at hne e
  rw [delM]
  conv => lhs; rw [e]
  rw [List.filter_append, List.filter_cons_of_neg (by simp)]
  congr 1
  · refine List.filter_eq_self.2 fun y hy => ?_
    obtain ⟨j, hj, rfl⟩ := List.getElem_of_mem hy
    rw [List.length_take] at hj
    rw [List.getElem_take]
    simpa using hne j (by omega) (by omega)
  · refine List.filter_eq_self.2 fun y hy => ?_
    obtain ⟨j, hj, rfl⟩ := List.getElem_of_mem hy
    rw [List.length_drop] at hj
    rw [List.getElem_drop]
    simpa using hne (k + 1 + j) (by omega) (by omega)
theorem RdI.keep {w w' : World} {A : Option Addr} {l : List Int} {row : Option Nat} (h : RdI w A l) (hg : w.grownBy w' row) (hne : ∀ ad, A = some ad → some ad.block ≠ row) : RdI w' A l := fun k hk => by
  obtain ⟨ad, e, hlt, h0⟩ := h k hk
  have n := hne ad e
  exact ⟨ad, e, Nat.lt_of_lt_of_le hlt hg.size, hg.cell h0 (by rw [add_block]; exact n)⟩
theorem delAll_rise : ∀ (l : List Int) (D : DM), Rising D → Rising (delAll D l)
  | [], _, h => h
  | x :: l, D, h => delAll_rise l (delM D x) (h.del _)
theorem delAll_len : ∀ (l : List Int) (D : DM), (delAll D l).length ≤ D.length
  | [], _ => Nat.le_refl _
  | x :: l, D => Nat.le_trans (delAll_len l (delM D x)) (length_del_le _ _)

set_option maxRecDepth 100000 in
set_option maxHeartbeats 8000000 in
theorem refDone_any (x : Nat) (P : PM) (D : DM) (A : Option Addr) (c : Nat) (B : Option Addr) (d : Nat) (L : Option Addr) (cl : Nat) (l : List Int) (w : World) (h : RefAt w x P D A c B d) (hr : Rising D) (hl : RdI w L l) (nL : ∀ ad, L = some ad → 0 < l.length → ad.block ≠ x) (h63 : l.length ≤ 1000) (p63 : P.length ≤ 100000) (m63 : D.length ≤ 100000) :
    Calls Try.prog 49 #[.pointer (some ⟨x, 0, none⟩), .slice L l.length cl] w (RefPostD x A c P (doneF P D l) w) := by
  have H := Lib.hid h
  have HR := Lib.hid hr
  have HL := Lib.hid hl
  have H63 := Lib.hid (And.intro h63 (And.intro m63 p63))
  have NL := Lib.hid nL
  clear h hl h63 m63 p63 nL hr
  go_enter Try.func49, Try.ntmps49
  go_wp2_with fail
  go_loopw [5] (fun i wr => ∃ k : Nat, k ≤ l.length ∧ i = .int .i64 k ∧ Hid (doneGo P D (l.take k) (l.drop k) = doneGo P D [] l) ∧ Below w.heap.size w wr) (fun i _ => l.length - (intOf i).toNat)
  case atStart => exact ⟨0, Nat.zero_le _, rfl, Lib.hid rfl, Below.refl _ _⟩
  case round =>
    obtain ⟨i, hi, rfl, hgo, hb⟩ := hrel
    have h63 := H63.out.1
    by_cases hlt : i < l.length
    · obtain ⟨ad, hLe, hb1, hc0⟩ := HL.out i hlt
      subst hLe
      have e0 : l.getD i 0 = l[i] := by simp [List.getD_eq_getElem?_getD, hlt]
      rw [e0] at hc0
      have hi0 : (0 : Int) ≤ (i : Int) := by omega
      have hi1 : (i : Int) < (l.length : Int) := by omega
      have HC0 := Lib.hid (fun W (hW : Below w.heap.size w W) => (hW.cell (p := ad.add i) (by rw [add_block]; exact hb1)).trans hc0)
      have hstep := doneGo_step P D l i hlt
      rw [hgo.out] at hstep
      have hbad : ∀ er, er ≠ 0 → doneErr P D (l.take i) l[i] = er → doneF P D l = (er, D) := fun er h0 e => by
        have : doneGo P D [] l = er := by rw [hstep, e, if_neg h0]
        rw [doneF, this, if_neg h0]
      have HBAD := Lib.hid hbad
      have HGO := Lib.hid (show doneErr P D (l.take i) l[i] = 0 → doneGo P D (l.take (i + 1)) (l.drop (i + 1)) = doneGo P D [] l from fun e => by rw [hstep, if_pos e])
      clear e0 hc0 hstep hbad hgo
      generalize l[i] = y at HC0 HBAD HGO
      have hci : wr.drew.cell? (ad.add i) = some (.int .i64 y) := HC0.out wr hb
      have hci' : wr.cell? (ad.add i) = some (.int .i64 y) := hci
      have hx := H.out.below hb
      have x0 := hx.c0
      have x1 := hx.c1
      have HD := Lib.hid (drops_any A B c d D.length P.length D y wr.drew rfl (hx.rD.below (Below.refl _ _).drew) (by have := H63.out.2; omega))
      have HBD := Lib.hid (hb.trans ((Below.refl wr.heap.size wr).drew.mono hb.size))
      clear hx hb
      go_wp2_with fail
      go_still_tail 7, (by kernel_rfl)
      change wpList _ _ _ _ _ wr.drew
      go_wp2_with fail
      refine HD.out.mono ?_
      rintro e w2 ⟨r, rfl, hdi, hb2⟩
      have hh := hdi.has
      have hh2 : decide (r < 0) = !hasM D y := by rw [← hh]; by_cases h0 : r < 0 <;> simp [h0] <;> omega
      have HB2 := Lib.hid (HBD.out.trans (hb2.mono HBD.out.size))
      clear hdi hb2 HD HBD x0 x1 hci hci' hh
      cases hm : hasM D y with
      | false =>
        have HF := Lib.hid (HBAD.out 15 (by decide) (by rw [doneErr, hm]; rfl))
        rw [hm] at hh2
        have hh3 : decide (r < 0) = true := hh2
        clear hm hh2 HBAD HGO
        go_wp2_with fail
        go_ret
        unfold RefPostD
        rw [HF.out]
        exact ⟨rfl, ⟨B, d, H.out.below HB2.out⟩, gb HB2.out _⟩
      | true =>
        rw [hm] at hh2
        have hh3 : decide (r < 0) = false := hh2
        have hci := HC0.out w2 HB2.out
        have hx := H.out.below HB2.out
        have x0 := hx.c0
        have x1 := hx.c1
        have HH := Lib.hid (refHolds_any A B c d P.length D.length P D y w2.drew rfl rfl (hx.rP.below (Below.refl _ _).drew) (hx.rD.below (Below.refl _ _).drew) HR.out (by have := H63.out.2.2; omega) (by have := H63.out.2; omega))
        have HM := Lib.hid hm
        clear hh2 hx hm
        go_wp2_with fail
        go_still_tail 7, (by kernel_rfl)
        change wpList _ _ _ _ _ w2.drew
        go_wp2_with fail
        refine HH.out.mono ?_
        rintro e w3 ⟨v, rfl, hv, hb3⟩
        obtain ⟨A3, k3, rfl, _⟩ := hv.shape
        have HB3 := Lib.hid ((HB2.out.trans ((Below.refl w2.heap.size w2).drew.mono HB2.out.size)).trans (hb3.mono HB2.out.size))
        clear hv hb3 HH x0 x1 hci
        by_cases hl0 : 0 < (holdsF P D y).length
        · have HF := Lib.hid (HBAD.out 37 (by decide) (by rw [doneErr, HM.out, if_neg (by simp), if_pos hl0]))
          have d1 : decide ((0 : Int) < ((holdsF P D y).length : Int)) = true := decide_eq_true (by omega)
          have d2 : decide (0 < (holdsF P D y).length) = true := decide_eq_true hl0
          clear hl0 HBAD HGO
          go_wp2_with fail
          go_ret
          unfold RefPostD
          rw [HF.out]
          exact ⟨rfl, ⟨B, d, H.out.below HB3.out⟩, gb HB3.out _⟩
        · have HE := Lib.hid (show doneErr P D (l.take i) y = if ((l.take i).any fun z => decide (z = y)) = true then 1 else 0 from by rw [doneErr, HM.out, if_neg (by simp), if_neg hl0])
          have d1 : decide ((0 : Int) < ((holdsF P D y).length : Int)) = false := decide_eq_false (by omega)
          have d2 : decide (0 < (holdsF P D y).length) = false := decide_eq_false hl0
          have hb3 := HB3.out
          clear hl0
          go_wp2_with fail
          go_loopw [6] (fun m wr => ∃ k : Nat, k ≤ i ∧ m = .int .i64 k ∧ Hid (((l.take k).any fun z => decide (z = y)) = false) ∧ Below w.heap.size w wr) (fun m _ => i - (intOf m).toNat)
          case atStart => exact ⟨0, Nat.zero_le _, rfl, Lib.hid rfl, hb3⟩
          case round =>
            clear hb3
            obtain ⟨k, hk, rfl, hnk, hb⟩ := hrel
            have hci := HC0.out wr hb
            have hb9 := Lib.hid (fun n => hb.trans ((below_drewN wr n).mono hb.size))
            by_cases hki : k < i
            · have hkl : k < l.length := by omega
              obtain ⟨ad', hLe, _, hck⟩ := (HL.out.below hb) k hkl
              obtain rfl : ad = ad' := Option.some.inj hLe
              have e0 : l.getD k 0 = l[k] := by simp [List.getD_eq_getElem?_getD, hkl]
              rw [e0] at hck
              have hk0 : (0 : Int) ≤ (k : Int) := by omega
              have hk1 : (k : Int) < (l.length : Int) := by omega
              have HS := Lib.hid (any_take_succ (fun z => decide (z = y)) l k hkl)
              have HHIT := Lib.hid (show decide (l[k] = y) = true → ((l.take i).any fun z => decide (z = y)) = true from fun e => by
                rw [List.any_eq_true]
                exact ⟨l[k], by rw [List.mem_take_iff_getElem]; exact ⟨k, by omega, rfl⟩, e⟩)
              clear e0 hLe hb
              generalize l[k] = z at hck HS HHIT
              by_cases q : z = y
              · have f : (z == y) = true := by simpa using q
                have HF := Lib.hid (HBAD.out 1 (by decide) (by rw [HE.out, HHIT.out (decide_eq_true q), if_pos rfl]))
                clear q HS HHIT
                go_wp2_with fail
                go_quiet (fail)
                go_wp2_with fail
                go_ret
                unfold RefPostD
                rw [HF.out]
                exact ⟨rfl, ⟨B, d, H.out.below (hb9.out _)⟩, gb (hb9.out _) _⟩
              · have f : (z == y) = false := by simpa using q
                have hT := Lib.hid (show ((l.take (k + 1)).any fun z => decide (z = y)) = false from by rw [HS.out, hnk.out, decide_eq_false q]; rfl)
                clear q HS HHIT hnk
                go_wp2_with fail
                go_quiet (fail)
                go_wp2_with fail
                go_roundw
                case rel => exact ⟨k + 1, by omega, by go_num, hT, hb9.out _⟩
                case measure => simp [intOf]; omega
            · have hke : k = i := by omega
              subst hke
              have hT := Lib.hid (HGO.out (by rw [HE.out, hnk.out, if_neg (by simp)]))
              clear hb9 hci
              go_wp2_with fail
              go_roundw
              case rel => exact ⟨k + 1, by omega, by go_num, hT, hb⟩
              case measure => simp [intOf]; omega
    · have hie : i = l.length := by omega
      subst hie
      have hz : doneGo P D [] l = 0 := by
        rw [← hgo.out, List.drop_length]
        rfl
      have HF := Lib.hid (show doneF P D l = (0, delAll D l) from by rw [doneF, hz, if_pos rfl])
      have HOK := Lib.hid (show ∀ i (h : i < l.length), hasM (delAll D (l.take i)) l[i] = true from fun i h => by
        have he := doneGo_zero l.length 0 rfl hz i h (Nat.zero_le _)
        rw [doneErr] at he
        split at he
        · cases he
        · rename_i c1
          split at he
          · cases he
          · split at he
            · cases he
            · rename_i c2
              refine hasM_delAll2 _ _ _ (fun hm => c2 ?_) (by simpa using c1)
              rw [List.any_eq_true]
              exact ⟨_, hm, by simp⟩)
      have HBW := Lib.hid hb
      clear hz hgo hb
      obtain ⟨w2, hw2⟩ : ∃ w2, w2 = wr := ⟨_, rfl⟩
      rw [← hw2] at HBW
      rw [← hw2]
      clear hw2
      go_wp2_with fail
      go_loopw [7] (fun i wr => ∃ (k : Nat) (B' : Option Addr) (d' : Nat), k ≤ l.length ∧ i = .int .i64 k ∧ RefAt wr x P (delAll D (l.take k)) A c B' d' ∧ w.grownBy wr (some x)) (fun i _ => l.length - (intOf i).toNat)
      case atStart => exact ⟨0, B, d, Nat.zero_le _, rfl, H.out.below HBW.out, gb HBW.out _⟩
      case round =>
        obtain ⟨i, B', d', hi, rfl, hx, hgw⟩ := hrel
        by_cases hlt : i < l.length
        · obtain ⟨ad, hLe, _, hc0⟩ := (HL.out.keep hgw (fun ad' e => by simpa using NL.out ad' e (by omega))) i hlt
          subst hLe
          have e0 : l.getD i 0 = l[i] := by simp [List.getD_eq_getElem?_getD, hlt]
          rw [e0] at hc0
          have hi0 : (0 : Int) ≤ (i : Int) := by omega
          have hi1 : (i : Int) < (l.length : Int) := by omega
          have hnew := HOK.out i hlt
          have HS := Lib.hid (delAll_succ D l i hlt)
          have hlen := delAll_len (l.take i) D
          have HDL := Lib.hid (show (delAll D (l.take i)).length ≤ 100000 from by have := H63.out.2; omega)
          have HRD := Lib.hid (delAll_rise (l.take i) D HR.out)
          clear e0 hlen
          generalize l[i] = y at hc0 hnew HS
          generalize delAll D (l.take i) = D' at hx hnew HS HDL HRD
          have x0 := hx.c0
          have x1 := hx.c1
          have HX := Lib.hid hx
          have HGW := Lib.hid hgw
          have HD := Lib.hid (drops_any A B' c d' D'.length P.length D' y wr.drew rfl (hx.rD.below (Below.refl _ _).drew) (by have := HDL.out; omega))
          have HNW := Lib.hid hnew
          clear hx hgw hnew
          go_wp2_with fail
          go_still_tail 7, (by kernel_rfl)
          change wpList _ _ _ _ _ wr.drew
          go_wp2_with fail
          refine HD.out.mono ?_
          rintro e w3 ⟨r, rfl, hdi, hb3⟩
          obtain ⟨k, hk, rfl, hky⟩ : ∃ k, ∃ h : k < D'.length, r = (k : Int) ∧ D'[k].1 = y := by
            have h1 := hdi.has
            rw [HNW.out] at h1
            rcases hdi with ⟨rfl, _⟩ | h
            · cases h1
            · exact h
          have HB3 := Lib.hid (show Below wr.heap.size wr w3 from (Below.refl wr.heap.size wr).drew.trans hb3)
          have HX3 := Lib.hid (HX.out.below HB3.out)
          have HDE := Lib.hid (show delM D' y = D'.take k ++ D'.drop (k + 1) from by rw [← hky]; exact delD_at HRD.out hk)
          clear x0 x1 hdi hb3 HD hky hc0
          have x1 := HX3.out.c1
          have xf := HX3.out.f1
          obtain ⟨ad2, hBe, _⟩ := HX3.out.rD k hk
          subst hBe
          have hld' := HX3.out.ld
          have hk0 : (0 : Int) ≤ (k : Int) := by omega
          have hk1 : (k : Int) ≤ (d' : Int) := by omega
          have hown : Drs w3 w3.heap.size (.slice none 0 0) [] := World.ownsRow_nil _ _ _ _
          have HW := Lib.hid (fun j u hj => rdd_cells HX3.out.rD 0 k (by omega) j u hj)
          have HLK := Lib.hid (show ((D'.drop 0).take k).length = k from by rw [List.length_take, List.drop_zero]; omega)
          have HLD := Lib.hid (show ((D'.drop (k + 1)).take (D'.length - (k + 1))).length = D'.length - (k + 1) from by rw [List.length_take, List.length_drop]; omega)
          have h1000 := HDL.out
          have hk2 : ((k : Int) + 1) ≤ (D'.length : Int) := by omega
          have hk3 : (0 : Int) ≤ (k : Int) + 1 := by omega
          have hk4 : ((D'.length : Nat) : Int) ≤ (d' : Int) := by omega
          have HKL := Lib.hid (show (k + 1) + (D'.length - (k + 1)) ≤ D'.length from by omega)
          have HBY := Lib.hid (show (([] ++ (D'.drop 0).take k).length + 0) * 16 ≤ 140737488355328 ∧ (([] ++ (D'.drop 0).take k).length + (D'.length - (k + 1))) * 16 ≤ 140737488355328 from by simp; omega)
          have HL1 := Lib.hid (show (([] : DM) ++ (D'.drop 0).take k) ++ [] = D'.take k from by simp)
          have HL2 := Lib.hid (show (([] : DM) ++ (D'.drop 0).take k) ++ (D'.drop (k + 1)).take (D'.length - (k + 1)) = D'.take k ++ D'.drop (k + 1) from by rw [List.nil_append, List.drop_zero, List.take_of_length_le (l := D'.drop (k + 1)) (by rw [List.length_drop]; omega)])
          by_cases hck : d' = k + 1
          · have HFA := Lib.hid (show delAll D (l.take (i + 1)) = D'.take k from by rw [HS.out, HDE.out, List.drop_eq_nil_of_le (by omega), List.append_nil])
            clear HL2 HDE HS hk
            generalize D'.take k = R at HFA HL1
            subst hck
            go_wp2_with (first | (at_builtin; refine wl_appendD _ rfl _ _ rfl w3.heap.size _ _ rfl h1' ad2 0 _ [] rfl rfl (fun j u h => by simp at h) HBY.out.1 hbs3 ?_; intro v'' w5 h2' hb4; rw [HL1.out] at h2'; obtain ⟨A', c', rfl, _⟩ := h2'.rd; have x1'' := (hb4.cell (p := ⟨x, 1, none⟩) HX3.out.lt).trans x1'; have xf'' := (hb4.frozen (p := ⟨x, 1, none⟩) HX3.out.lt).trans xf') | (at_builtin; refine wl_appendD _ rfl _ _ rfl w3.heap.size _ _ rfl hown ad2 k _ _ HLK.out rfl HW.out (by simp; omega) (Nat.le_refl _) ?_; intro v' w4 h1' hb4'; have x1' := (hb4'.cell (p := ⟨x, 1, none⟩) HX3.out.lt).trans x1; have xf' := (hb4'.frozen (p := ⟨x, 1, none⟩) HX3.out.lt).trans xf; have hbs3 := hb4'.size))
            go_roundw
            case rel =>
              have hb5 := hb4'.trans hb4
              obtain ⟨B2, d2, hr2⟩ := (HX3.out.below hb5).putD h2' HX3.out.lt
              exact ⟨i + 1, B2, d2, by omega, by go_num, by rw [HFA.out]; exact hr2, (HGW.out.trans (gb HB3.out _)).trans (grown_of1 hb5)⟩
            case measure => simp [intOf]; omega
          · have HFA := Lib.hid (show delAll D (l.take (i + 1)) = D'.take k ++ D'.drop (k + 1) from by rw [HS.out, HDE.out])
            clear HL1 HDE HS hk
            generalize D'.take k ++ D'.drop (k + 1) = R at HFA HL2
            go_wp2_with (first | (at_builtin; refine wl_appendD _ rfl _ _ rfl w3.heap.size _ _ rfl h1' (ad2.add ((k + 1) * 2)) (D'.length - (k + 1)) _ _ HLD.out rfl (fun j u h => rdd_cells (HX3.out.below hb4').rD (k + 1) (D'.length - (k + 1)) HKL.out j u h) HBY.out.2 hbs3 ?_; intro v'' w5 h2' hb4; rw [HL2.out] at h2'; obtain ⟨A', c', rfl, _⟩ := h2'.rd; have x1'' := (hb4.cell (p := ⟨x, 1, none⟩) HX3.out.lt).trans x1'; have xf'' := (hb4.frozen (p := ⟨x, 1, none⟩) HX3.out.lt).trans xf') | (at_builtin; refine wl_appendD _ rfl _ _ rfl w3.heap.size _ _ rfl hown ad2 k _ _ HLK.out rfl HW.out (by simp; omega) (Nat.le_refl _) ?_; intro v' w4 h1' hb4'; have x1' := (hb4'.cell (p := ⟨x, 1, none⟩) HX3.out.lt).trans x1; have xf' := (hb4'.frozen (p := ⟨x, 1, none⟩) HX3.out.lt).trans xf; have hbs3 := hb4'.size))
            go_roundw
            case rel =>
              have hb5 := hb4'.trans hb4
              obtain ⟨B2, d2, hr2⟩ := (HX3.out.below hb5).putD h2' HX3.out.lt
              exact ⟨i + 1, B2, d2, by omega, by go_num, by rw [HFA.out]; exact hr2, (HGW.out.trans (gb HB3.out _)).trans (grown_of1 hb5)⟩
            case measure => simp [intOf]; omega
        · have hie : i = l.length := by omega
          subst hie
          rw [List.take_length] at hx
          have HX := Lib.hid hx
          clear hx
          go_wp2_with fail
          go_ret
          unfold RefPostD
          rw [HF.out]
          exact ⟨rfl, ⟨B', d', HX.out⟩, hgw⟩

end Go.Proofs.Ytjggeodnoigkkaa

namespace Go.Proofs.Ytjggeodnoigkkaa
open Go.RowKit Go.Maps Go.Shelf Go.Proofs.YtjggeodnoigkkaaM

/-- One of the two maps' blocks has turned. -/
def TurnedK (bm bd : Nat) (w w' : World) : Prop := ∃ b, (b = bm ∨ b = bd) ∧ w.grownBy w' (some b)
theorem TurnedK.below {bm bd B : Nat} {w w' : World} (h : TurnedK bm bd w w') (h1 : B ≤ bm) (h2 : B ≤ bd) (h3 : B ≤ w.heap.size) : Below B w w' := by
  obtain ⟨b, hb, hg⟩ := h
  exact below_of_grown hg (by rcases hb with rfl | rfl <;> assumption) h3
theorem RefAt.turned {w w' : World} {x p bm bd : Nat} {M P : PM} {D D2 : DM} {A : Option Addr} {c : Nat} {B : Option Addr} {d : Nat} (h : RefAt w x P D2 A c B d) (hp : IsPins w p bm bd M D) (ht : TurnedK bm bd w w') : RefAt w' x P D2 A c B d := by
  obtain ⟨b, rfl | rfl, hg⟩ := ht
  · exact h.keptM hp.m hg
  · exact h.keptM hp.d hg

set_option maxRecDepth 100000 in
set_option maxHeartbeats 2000000 in
theorem does2_any (p bm bd : Nat) (M : PM) (D : DM) (o : OpV) (A4 : Option Addr) (c4 : Nat) (A5 : Option Addr) (c5 : Nat) (w : World) (h : IsPins w p bm bd M D) (l4 : o.drops.length ≤ c4) (l5 : o.nums.length ≤ c5) (r4 : RdD w A4 o.drops) (r5 : RdI w A5 o.nums)
    (n1 : o.name.length ≤ maxLen) (n2 : o.of_.length ≤ maxLen) (wf : ∀ x ∈ o.nums, (Lit.int .i64 x).wf = true) (hM : M.length ≤ 1000) (hD : D.length ≤ 10000) (hd : o.drops.length ≤ 20) (hn : o.nums.length ≤ 20) :
    Calls Try.prog 12 #[.pointer (some ⟨p, 0, none⟩), .agg #[.int .i64 o.ask, .string ⟨o.name.toArray⟩, .string ⟨o.of_.toArray⟩, .int .i64 o.n, .slice A4 o.drops.length c4, .slice A5 o.nums.length c5]] w
      fun e w' => e = .returned (.int .i64 (doesF M D o).1) ∧ IsPins w' p bm bd (doesF M D o).2.1 (doesF M D o).2.2 ∧ TurnedK bm bd w w' := by
  obtain ⟨W, hW⟩ : ∃ W, W = w.alloc (.cells #[.int .i64 o.ask, .string ⟨o.name.toArray⟩, .string ⟨o.of_.toArray⟩, .int .i64 o.n, .slice A4 o.drops.length c4, .slice A5 o.nums.length c5] 32) := ⟨_, rfl⟩
  have hbW : Below w.heap.size w W := by rw [hW]; exact (Below.refl _ _).alloc (Nat.le_refl _) _
  have h1 := h.below hbW
  have r4' := r4.below hbW
  have r5' := r5.below hbW
  have hM' : M.length < maxLen := by show _ < 2 ^ 63 - 1; omega
  rw [hW] at hbW h1 r4' r5'
  clear hW
  by_cases a0 : o.ask = 0
  · have hf := Lib.hid (show doesF M D o = ((pinF M o.name o.n).1, (pinF M o.name o.n).2, D) from by rw [doesF, if_pos a0])
    have b0 : (o.ask == 0) = true := by simp [a0]
    clear a0
    go_enter Try.func12, Try.ntmps12
    go_wp2_with fail
    refine (pin_any p bm bd M D o.name o.n _ h1 n1 hM').mono ?_
    rintro e w2 ⟨rfl, h2, hg⟩
    go_wp2_with fail
    go_ret
    rw [hf.out]
    exact ⟨rfl, h2, ⟨bm, .inl rfl, (gb hbW _).trans hg⟩⟩
  by_cases a1 : o.ask = 1
  · have hf := Lib.hid (show doesF M D o = ((cloneF M o.name o.of_).1, (cloneF M o.name o.of_).2, D) from by rw [doesF, if_neg a0, if_pos a1])
    have b0 : (o.ask == 0) = false := by simp [a0]
    have b1 : (o.ask == 1) = true := by simp [a1]
    clear a0 a1
    go_enter Try.func12, Try.ntmps12
    go_wp2_with fail
    refine (clone_any p bm bd M D o.name o.of_ _ h1 n1 n2 hM').mono ?_
    rintro e w2 ⟨rfl, h2, hg⟩
    go_wp2_with fail
    go_ret
    rw [hf.out]
    exact ⟨rfl, h2, ⟨bm, .inl rfl, (gb hbW _).trans hg⟩⟩
  by_cases a2 : o.ask = 2
  · have hf := Lib.hid (show doesF M D o = ((unpinF M o.name).1, (unpinF M o.name).2, D) from by rw [doesF, if_neg a0, if_neg a1, if_pos a2])
    have b0 : (o.ask == 0) = false := by simp [a0]
    have b1 : (o.ask == 1) = false := by simp [a1]
    have b2 : (o.ask == 2) = true := by simp [a2]
    clear a0 a1 a2
    go_enter Try.func12, Try.ntmps12
    go_wp2_with fail
    refine (unpin_any p bm bd M D o.name _ h1 (by omega) n1).mono ?_
    rintro e w2 ⟨rfl, h2, hg⟩
    go_wp2_with fail
    go_ret
    rw [hf.out]
    exact ⟨rfl, h2, ⟨bm, .inl rfl, (gb hbW _).trans hg⟩⟩
  by_cases a3 : o.ask = 3
  · have hf := Lib.hid (show doesF M D o = ((dropF D o.drops).1, M, (dropF D o.drops).2) from by rw [doesF, if_neg a0, if_neg a1, if_neg a2, if_pos a3])
    have b0 : (o.ask == 0) = false := by simp [a0]
    have b1 : (o.ask == 1) = false := by simp [a1]
    have b2 : (o.ask == 2) = false := by simp [a2]
    have b3 : (o.ask == 3) = true := by simp [a3]
    clear a0 a1 a2 a3
    go_enter Try.func12, Try.ntmps12
    go_wp2_with fail
    refine (drop_any p bm bd M D A4 c4 o.drops _ h1 r4' (by omega) (by omega) l4).mono ?_
    rintro e w2 ⟨rfl, h2, hg⟩
    go_wp2_with fail
    go_ret
    rw [hf.out]
    exact ⟨rfl, h2, ⟨bd, .inr rfl, (gb hbW _).trans hg⟩⟩
  · have hf := Lib.hid (show doesF M D o = ((doneF M D o.nums).1, M, (doneF M D o.nums).2) from by rw [doesF, if_neg a0, if_neg a1, if_neg a2, if_neg a3])
    have b0 : (o.ask == 0) = false := by simp [a0]
    have b1 : (o.ask == 1) = false := by simp [a1]
    have b2 : (o.ask == 2) = false := by simp [a2]
    have b3 : (o.ask == 3) = false := by simp [a3]
    clear a0 a1 a2 a3
    go_enter Try.func12, Try.ntmps12
    go_wp2_with fail
    refine (done_any p bm bd M D A5 c5 o.nums _ h1 r5' (by omega) l5 wf (by omega)).mono ?_
    rintro e w2 ⟨rfl, h2, hg⟩
    go_wp2_with fail
    go_ret
    rw [hf.out]
    exact ⟨rfl, h2, ⟨bd, .inr rfl, (gb hbW _).trans hg⟩⟩

set_option maxRecDepth 100000 in
set_option maxHeartbeats 2000000 in
theorem asked_any (x : Nat) (M : PM) (D : DM) (A : Option Addr) (c : Nat) (B : Option Addr) (d : Nat) (o : OpV) (A4 : Option Addr) (c4 : Nat) (A5 : Option Addr) (c5 : Nat) (w : World) (h : RefAt w x M D A c B d) (hrM : Rising M) (hrD : Rising D) (r4 : RdD w A4 o.drops) (r5 : RdI w A5 o.nums)
    (nx : ∀ ad, A5 = some ad → 0 < o.nums.length → ad.block ≠ x) (n1 : o.name.length ≤ 9223372036854775807) (hM : M.length ≤ 1000) (hD : D.length ≤ 10000) (hd : o.drops.length ≤ 20) (hn : o.nums.length ≤ 20) :
    Calls Try.prog 23 #[.pointer (some ⟨x, 0, none⟩), .agg #[.int .i64 o.ask, .string ⟨o.name.toArray⟩, .string ⟨o.of_.toArray⟩, .int .i64 o.n, .slice A4 o.drops.length c4, .slice A5 o.nums.length c5]] w
      fun e w' => e = .returned (.int .i64 (doesF M D o).1) ∧ (∃ A' c' B' d', RefAt w' x (doesF M D o).2.1 (doesF M D o).2.2 A' c' B' d') ∧ w.grownBy w' (some x) := by
  obtain ⟨W, hW⟩ : ∃ W, W = w.alloc (.cells #[.int .i64 o.ask, .string ⟨o.name.toArray⟩, .string ⟨o.of_.toArray⟩, .int .i64 o.n, .slice A4 o.drops.length c4, .slice A5 o.nums.length c5] 32) := ⟨_, rfl⟩
  have hbW : Below w.heap.size w W := by rw [hW]; exact (Below.refl _ _).alloc (Nat.le_refl _) _
  have h1 := h.below hbW
  have r4' := r4.below hbW
  have r5' := r5.below hbW
  have hxl := h1.lt
  rw [hW] at hbW h1 r4' r5' hxl
  clear hW r4 r5 h
  by_cases a0 : o.ask = 0
  · have hf := Lib.hid (show doesF M D o = ((pinF M o.name o.n).1, (pinF M o.name o.n).2, D) from by rw [doesF, if_pos a0])
    have b0 : (o.ask == 0) = true := by simp [a0]
    clear a0
    go_enter Try.func23, Try.ntmps23
    go_wp2_with fail
    refine (refPin_any x M D A c B d o.name o.n _ h1 hM n1).mono ?_
    rintro e w2 ⟨rfl, ⟨A', c', h2⟩, hg⟩
    go_wp2_with fail
    go_ret
    rw [hf.out]
    exact ⟨rfl, ⟨A', c', B, d, h2⟩, (gb hbW _).trans hg⟩
  by_cases a1 : o.ask = 1
  · have hf := Lib.hid (show doesF M D o = ((cloneF M o.name o.of_).1, (cloneF M o.name o.of_).2, D) from by rw [doesF, if_neg a0, if_pos a1])
    have b0 : (o.ask == 0) = false := by simp [a0]
    have b1 : (o.ask == 1) = true := by simp [a1]
    clear a0 a1
    go_enter Try.func23, Try.ntmps23
    go_wp2_with fail
    refine (refClone_any x M D A c B d o.name o.of_ _ h1 hrM hM n1).mono ?_
    rintro e w2 ⟨rfl, ⟨A', c', h2⟩, hg⟩
    go_wp2_with fail
    go_ret
    rw [hf.out]
    exact ⟨rfl, ⟨A', c', B, d, h2⟩, (gb hbW _).trans hg⟩
  by_cases a2 : o.ask = 2
  · have hf := Lib.hid (show doesF M D o = ((unpinF M o.name).1, (unpinF M o.name).2, D) from by rw [doesF, if_neg a0, if_neg a1, if_pos a2])
    have b0 : (o.ask == 0) = false := by simp [a0]
    have b1 : (o.ask == 1) = false := by simp [a1]
    have b2 : (o.ask == 2) = true := by simp [a2]
    clear a0 a1 a2
    go_enter Try.func23, Try.ntmps23
    go_wp2_with fail
    refine (refUnpin_any x M D A c B d o.name _ h1 hrM hM).mono ?_
    rintro e w2 ⟨rfl, ⟨A', c', h2⟩, hg⟩
    go_wp2_with fail
    go_ret
    rw [hf.out]
    exact ⟨rfl, ⟨A', c', B, d, h2⟩, (gb hbW _).trans hg⟩
  by_cases a3 : o.ask = 3
  · have hf := Lib.hid (show doesF M D o = ((dropF D o.drops).1, M, (dropF D o.drops).2) from by rw [doesF, if_neg a0, if_neg a1, if_neg a2, if_pos a3])
    have b0 : (o.ask == 0) = false := by simp [a0]
    have b1 : (o.ask == 1) = false := by simp [a1]
    have b2 : (o.ask == 2) = false := by simp [a2]
    have b3 : (o.ask == 3) = true := by simp [a3]
    clear a0 a1 a2 a3
    go_enter Try.func23, Try.ntmps23
    go_wp2_with fail
    refine (plain_any A4 c4 o.drops.length o.drops _ rfl r4' (by omega)).mono ?_
    rintro e w3 ⟨B3, d3, rfl, _, hr3, hb3, hbl3⟩
    go_wp2_with fail
    refine (refDrop_any x M D A c B d B3 d3 o.drops _ (h1.below hbl3) hr3 (fun ad e => by have := hb3 ad e; omega) (by omega) (by omega)).mono ?_
    rintro e w2 ⟨rfl, ⟨B', d', h2⟩, hg⟩
    go_wp2_with fail
    go_ret
    rw [hf.out]
    exact ⟨rfl, ⟨A, c, B', d', h2⟩, ((gb hbW _).trans (gb hbl3 _)).trans hg⟩
  · have hf := Lib.hid (show doesF M D o = ((doneF M D o.nums).1, M, (doneF M D o.nums).2) from by rw [doesF, if_neg a0, if_neg a1, if_neg a2, if_neg a3])
    have b0 : (o.ask == 0) = false := by simp [a0]
    have b1 : (o.ask == 1) = false := by simp [a1]
    have b2 : (o.ask == 2) = false := by simp [a2]
    have b3 : (o.ask == 3) = false := by simp [a3]
    clear a0 a1 a2 a3
    go_enter Try.func23, Try.ntmps23
    go_wp2_with fail
    refine (refDone_any x M D A c B d A5 c5 o.nums _ h1 hrD r5' nx (by omega) (by omega) (by omega)).mono ?_
    rintro e w2 ⟨rfl, ⟨B', d', h2⟩, hg⟩
    go_wp2_with fail
    go_ret
    rw [hf.out]
    exact ⟨rfl, ⟨A, c, B', d', h2⟩, (gb hbW _).trans hg⟩

end Go.Proofs.Ytjggeodnoigkkaa
