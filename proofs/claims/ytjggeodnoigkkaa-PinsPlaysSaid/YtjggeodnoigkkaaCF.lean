/-
  Pins out of bytes: the loop that takes drops in (printed by wip/tools/gencf.py).
-/
import Derived.Test.YtjggeodnoigkkaaCD
import Derived.Test.YtjggeodnoigkkaaCE
namespace Go.Proofs.Ytjggeodnoigkkaa
open Go.RowKit Go.Maps Go.Shelf Go.Proofs.YtjggeodnoigkkaaM

structure DropsAt (n : Int) (N f k : Nat) (x : DSt) (R : DSt) : Prop where
  go : dropsGo n f k x = R
  fuel : x.c.1.length < f ∨ x.c.2 = true
  left : k + x.c.1.length ≤ N ∨ (x.c.2 = true ∧ k ≤ N + 1)
  size : x.D.length ≤ k
theorem DropsAt.stop {n : Int} {N f k : Nat} {x R : DSt} (h : DropsAt n N f k x R) (hc : ¬ ((n < 0 ∨ (k : Int) < n) ∧ x.c.2 = false)) : x = R := by
  rw [← h.go]
  cases f with
  | zero => rfl
  | succ f => rw [dropsGo, if_neg hc]
theorem DropsAt.step {n : Int} {N f k : Nat} {x R : DSt} (h : DropsAt n N f k x R) (hc : (n < 0 ∨ (k : Int) < n) ∧ x.c.2 = false) : ∃ f', DropsAt n N f' (k + 1) (dropStep x) R := by
  have hf : x.c.1.length < f := by
    rcases h.fuel with h | h
    · exact h
    · rw [hc.2] at h; cases h
  obtain ⟨g, rfl⟩ : ∃ g, f = g + 1 := ⟨f - 1, by omega⟩
  have hg := h.go
  rw [dropsGo, if_pos hc] at hg
  have hs : (dropStep x).D.length ≤ k + 1 := Nat.le_trans (length_put_le _ _ _) (by have := h.size; omega)
  have h2 := h.left
  rw [hc.2] at h2
  refine ⟨g, hg, ?_, ?_, hs⟩
  · cases hb : (dropStep x).c.2
    · have := (dropStep_ok hb).2
      exact .inl (by omega)
    · exact .inr rfl
  · cases hb : (dropStep x).c.2
    · have := (dropStep_ok hb).2
      simp at h2
      exact .inl (by omega)
    · simp at h2
      exact .inr ⟨rfl, by omega⟩
theorem dropStep_eq (x : DSt) (a b : Int × Cs) (ha : numF x.c = a) (hb : numF a.2 = b) :
    dropStep x = ⟨x.ok && (mayB (a.1, b.1) && decide (x.last < a.1)), a.1, b.2, putM x.D a.1 b.1⟩ := by
  subst ha hb
  rfl
theorem num_wf {n : Int} (h : -1 ≤ n ∧ n < 281474976710656) : (Lit.int .i64 n).wf = true := by
  exact WalkArith.wf_i64 (by omega)
theorem IsPins.kept {w w' : World} {p bm bd b : Nat} {M : PM} {D : DM} (h : IsPins w p bm bd M D) (hg : w.grownBy w' (some b)) (h1 : p ≠ b) (h2 : bm ≠ b) (h3 : bd ≠ b) : IsPins w' p bm bd M D := h.other hg h1 h2 h3
theorem box2 (w : World) (x : Int × Int) (t : TypeId) : (w.alloc (.cells #[.int .i64 x.1, .int .i64 x.2] t)).cell? ⟨w.heap.size, 0, none⟩ = some (.int .i64 x.1) ∧ (w.alloc (.cells #[.int .i64 x.1, .int .i64 x.2] t)).cell? ⟨w.heap.size, 1, none⟩ = some (.int .i64 x.2) := by
  constructor <;> simp

set_option maxRecDepth 100000 in
set_option maxHeartbeats 4000000 in
theorem cutDrops_any (c p bm bd : Nat) (M : PM) (x : Cs) (w : World) (h : IsCut w c x) (hp : IsPins w p bm bd M []) (hs : x.1.length ≤ 1000000) (n1 : p ≠ c) (n2 : bm ≠ c) (n3 : bd ≠ c) :
    Calls Try.prog 58 #[.pointer (some ⟨c, 0, none⟩), .pointer (some ⟨p, 0, none⟩)] w fun e w' => e = .returned (.bool (dropsOk x)) ∧ IsCut w' c (dropsR x).c ∧ IsPins w' p bm bd M (dropsR x).D ∧ Turned c bd w w' := by
  have HT := Lib.hid (number_any c x w h (by omega))
  have hrg := numF_range x
  have hln := numF_len x
  rw [dropsOk, dropsR]
  generalize numF x = nx at HT hrg hln
  obtain ⟨n, y⟩ := nx
  simp only at HT hrg hln ⊢
  obtain ⟨R, hR⟩ : ∃ R, R = dropsGo n (y.1.length + 1) 0 ⟨true, 0, y, []⟩ := ⟨_, rfl⟩
  rw [← hR]
  have hat0 : DropsAt n 1000000 (y.1.length + 1) 0 ⟨true, 0, y, []⟩ R := ⟨hR.symm, .inl (Nat.lt_succ_self _), .inl (by show 0 + y.1.length ≤ _; omega), Nat.le_refl _⟩
  have HAT := Lib.hid hat0
  have NE := Lib.hid (show p ≠ c ∧ bm ≠ c ∧ bd ≠ c from ⟨n1, n2, n3⟩)
  have HP := Lib.hid hp
  clear hat0 hR hs hln n1 n2 n3 h hp
  go_enter Try.func58, Try.ntmps58
  go_wp2_with fail
  refine HT.out.mono ?_
  rintro e w1 ⟨rfl, h1, hg⟩
  have hp1 := HP.out.other hg NE.out.1 NE.out.2.1 NE.out.2.2
  have ht1 : Turned c bd w w1 := Turned.m hg
  clear HT HP hg
  go_wp2_with fail
  go_loopw [6, 7, 8] (fun ok last i wr => ∃ (f k : Nat) (x : DSt), ok = .bool x.ok ∧ last = .int .i64 x.last ∧ i = .int .i64 k ∧ Hid (DropsAt n 1000000 f k x R) ∧ IsCut wr c x.c ∧ IsPins wr p bm bd M x.D ∧ Turned c bd w wr) (fun ok last i wr => 1000003 - (intOf i).toNat)
  case atStart => exact ⟨_, 0, _, rfl, rfl, rfl, HAT, h1, hp1, ht1⟩
  case round =>
    clear h1 hp1 ht1
    obtain ⟨f, k, x, rfl, rfl, rfl, hat, hc, hp, ht⟩ := hrel
    have hk : k ≤ 1000001 := by have := hat.out.left; omega
    have hcc := hc.c1
    by_cases hn : n < 0
    · have d1 : decide (n < 0) = true := decide_eq_true hn
      have d2 : decide (0 ≤ n) = false := decide_eq_false (by omega)
      cases hb : x.c.2 with
      | true =>
        rw [hb] at hcc
        have hRx := hat.out.stop (fun h => by rw [hb] at h; cases h.2)
        subst hRx
        cases hok : x.ok
        all_goals
          have HC := Lib.hid hc
          have HP := Lib.hid hp
          clear hc hp
          go_wp2_with fail
          go_ret
          exact ⟨by first | rfl | (rw [hok]; done) | (rw [hok]; rfl) | (rw [hok, d2]; done) | (rw [hok, d2]; rfl), HC.out, HP.out, ht⟩
      | false =>
        rw [hb] at hcc
        obtain ⟨f', hat'⟩ := hat.out.step ⟨.inl hn, hb⟩
        have HAT' := Lib.hid hat'
        have hll : x.c.1.length ≤ 1000000 := by
          have := hat.out.left
          rw [hb] at this
          simp at this
          omega
        obtain ⟨a, ha⟩ : ∃ a, numF x.c = a := ⟨_, rfl⟩
        obtain ⟨b, hb2⟩ : ∃ b, numF a.2 = b := ⟨_, rfl⟩
        have HST := Lib.hid (dropStep_eq x a b ha hb2)
        have la := numF_len x.c
        rw [ha] at la
        have ra := numF_range x.c
        rw [ha] at ra
        have rb := numF_range a.2
        rw [hb2] at rb
        have C1 := number_any c x.c wr hc (by omega)
        rw [ha] at C1
        have C2 := fun w2 (h2 : IsCut w2 c a.2) => number_any c a.2 w2 h2 (by omega)
        rw [hb2] at C2
        have K1 := Lib.hid C1
        have K2 := Lib.hid C2
        have hMl : x.D.length < maxLen := by
          have := hat.out.size
          show _ < 2 ^ 63 - 1
          omega
        have HKEY := Lib.hid (keyOf_int_mk Try.underlying3 (num_wf ra))
        have HMl := Lib.hid hMl
        have HRB := Lib.hid rb
        have HRA := Lib.hid ra
        have HCD := Lib.hid (show c ≠ bd from fun e => NE.out.2.2 e.symm)
        clear hat hat' hll ha hb2 la ra rb C1 C2 hMl
        go_wp2_with fail
        refine K1.out.mono ?_
        rintro e w2 ⟨rfl, h2, g2⟩
        have hp2 := hp.other g2 NE.out.1 NE.out.2.1 NE.out.2.2
        have ht2 : Turned c bd w w2 := fun B b1 b2 b3 => (ht B b1 b2 b3).trans (below_of_grown g2 b1 ((ht B b1 b2 b3).size' b3))
        clear hcc hc hp ht g2 K1
        go_wp2_with fail
        refine (K2.out w2 h2).mono ?_
        rintro e w3 ⟨rfl, h3, g3⟩
        have hp3 := hp2.other g3 NE.out.1 NE.out.2.1 NE.out.2.2
        have ht3 : Turned c bd w w3 := fun B b1 b2 b3 => (ht2 B b1 b2 b3).trans (below_of_grown g3 b1 ((ht2 B b1 b2 b3).size' b3))
        clear h2 hp2 ht2 g3 K2
        have hb8 : Below w3.heap.size w3 (w3.alloc (.cells #[.int .i64 a.1, .int .i64 b.1] 40)) := (Below.refl _ _).alloc (Nat.le_refl _) _
        have hp4 := hp3.below hb8
        have hc4 := h3.below hb8
        have ht4 : Turned c bd w (w3.alloc (.cells #[.int .i64 a.1, .int .i64 b.1] 40)) := fun B b1 b2 b3 => (ht3 B b1 b2 b3).trans (hb8.mono ((ht3 B b1 b2 b3).size' b3))
        have hbx := box2 w3 (a.1, b.1) 40
        have hpl := hp3.lts.2
        have HGS := Lib.hid (show w3.heap.size < (w3.alloc (.cells #[.int .i64 a.1, .int .i64 b.1] 40)).heap.size from by simp)
        obtain ⟨v0, st, he⟩ := hp4.d.entry_in HMl.out (int_keyed Try.underlying3) Try.underlying74 zero3 HKEY.out
        have HNE := Lib.hid (show some p ≠ some bd ∧ some w3.heap.size ≠ some bd from ⟨by simpa using ne_map hp4.c0 hp4.d, by simp; omega⟩)
        have HE0 := Lib.hid he
        clear he hpl
        obtain ⟨hg0, hg1⟩ := hbx
        cases hok : x.ok with
        | false =>
          have HB := Lib.hid (show (x.ok && (mayB (a.1, b.1) && decide (x.last < a.1))) = false from by rw [hok]; rfl)
          have HE := Lib.hid HE0.out
          have hpw := hp4
          have hcw := hc4
          have htw := ht4
          clear hok HE0 hp4 hc4 ht4
          go_upto_region 7 with fail
          refine take _ _ p bd _ x.D (a.1, b.1) v0 st _ HE.out (hpw.c1) hg0 hg1 HNE.out.1 HNE.out.2 ⟨gb (Below.refl _ _).drew _, rfl⟩ _ _ _ _ _ _ _ _ _ _ _ _ _ _ _ _ _ _ _ _ _ _ _ _ _ _ _ _ _ _ _ _ _ _ _ _ _ _ _ _ _ _ _ _ _ _ _ _ _ _ _ _ _ _ _ _ _ _ _ _ _ ?_
          intro w9 _ _ _ _ _ _ _ _ _ _ _ _ _ _ hj
          obtain ⟨j1, j2⟩ := hj
          dsimp only [cond_true] at j2
          have hp9 := hpw.grown_d j2 j1
          have hc9 := hcw.kept j1 (by simpa using HCD.out)
          have ht9 := htw.trans_m j1
          clear hpw hcw htw hg0 hg1
          dsimp only [Exit.inBlock, Exit.then]
          go_wp2_with fail
          go_roundw
          case rel => exact ⟨f', k + 1, _, by rw [HST.out, HB.out], by rw [HST.out], by go_num, HAT', by rw [HST.out]; exact hc9, by rw [HST.out]; exact hp9, ht9⟩
          case measure => simp [intOf]; omega
        | true =>
          go_wp2_with fail
          refine (may_any a.1 b.1 _).mono ?_
          rintro e w5 ⟨rfl, hb5⟩
          have hpw := hp4.below hb5
          have hcw := hc4.below hb5
          have htw : Turned c bd w w5 := fun B b1 b2 b3 => (ht4 B b1 b2 b3).trans (hb5.mono ((ht4 B b1 b2 b3).size' b3))
          have HE := Lib.hid (show ∀ W : World, W.heap[bd]? = w5.heap[bd]? → ∃ W', (Instr.mapEntry 74 (.map (some bd)) (.int .i64 a.1)).run Try.prog W = .ok (.tuple #[v0, st]) W' ∧ MidIs W' Try.prog 3 intC bd x.D a.1 st ∧ W.mapTurned W' bd from fun W hW => HE0.out W (hW.trans (hb5.block bd hp4.lts.2)))
          replace hg0 := (hb5.cell (p := ⟨w3.heap.size, 0, none⟩) HGS.out).trans hg0
          replace hg1 := (hb5.cell (p := ⟨w3.heap.size, 1, none⟩) HGS.out).trans hg1
          clear HE0 hp4 hc4 ht4 hb5
          cases g1 : mayB (a.1, b.1) with
          | false =>
            have HB := Lib.hid (show (x.ok && (mayB (a.1, b.1) && decide (x.last < a.1))) = false from by rw [g1]; simp)
            clear hok
            go_upto_region 7 with fail
            refine take _ _ p bd _ x.D (a.1, b.1) v0 st _ HE.out (hpw.c1) hg0 hg1 HNE.out.1 HNE.out.2 ⟨gb (Below.refl _ _).drew _, rfl⟩ _ _ _ _ _ _ _ _ _ _ _ _ _ _ _ _ _ _ _ _ _ _ _ _ _ _ _ _ _ _ _ _ _ _ _ _ _ _ _ _ _ _ _ _ _ _ _ _ _ _ _ _ _ _ _ _ _ _ _ _ _ ?_
            intro w9 _ _ _ _ _ _ _ _ _ _ _ _ _ _ hj
            obtain ⟨j1, j2⟩ := hj
            dsimp only [cond_true] at j2
            have hp9 := hpw.grown_d j2 j1
            have hc9 := hcw.kept j1 (by simpa using HCD.out)
            have ht9 := htw.trans_m j1
            clear hpw hcw htw hg0 hg1
            dsimp only [Exit.inBlock, Exit.then]
            go_wp2_with fail
            go_roundw
            case rel => exact ⟨f', k + 1, _, by rw [HST.out, HB.out], by rw [HST.out], by go_num, HAT', by rw [HST.out]; exact hc9, by rw [HST.out]; exact hp9, ht9⟩
            case measure => simp [intOf]; omega
          | true =>
            by_cases q2 : x.last < a.1
            · have f2 : decide (x.last < a.1) = true := decide_eq_true q2
              have HB := Lib.hid (show (x.ok && (mayB (a.1, b.1) && decide (x.last < a.1))) = true from by rw [g1, f2, hok]; rfl)
              clear hok q2
              go_upto_region 7 with fail
              refine take _ _ p bd _ x.D (a.1, b.1) v0 st _ HE.out (hpw.c1) hg0 hg1 HNE.out.1 HNE.out.2 ⟨gb (Below.refl _ _).drew _, rfl⟩ _ _ _ _ _ _ _ _ _ _ _ _ _ _ _ _ _ _ _ _ _ _ _ _ _ _ _ _ _ _ _ _ _ _ _ _ _ _ _ _ _ _ _ _ _ _ _ _ _ _ _ _ _ _ _ _ _ _ _ _ _ ?_
              intro w9 _ _ _ _ _ _ _ _ _ _ _ _ _ _ hj
              obtain ⟨j1, j2⟩ := hj
              dsimp only [cond_true] at j2
              have hp9 := hpw.grown_d j2 j1
              have hc9 := hcw.kept j1 (by simpa using HCD.out)
              have ht9 := htw.trans_m j1
              clear hpw hcw htw hg0 hg1
              dsimp only [Exit.inBlock, Exit.then]
              go_wp2_with fail
              go_roundw
              case rel => exact ⟨f', k + 1, _, by rw [HST.out, HB.out], by rw [HST.out], by go_num, HAT', by rw [HST.out]; exact hc9, by rw [HST.out]; exact hp9, ht9⟩
              case measure => simp [intOf]; omega
            · have f2 : decide (x.last < a.1) = false := decide_eq_false q2
              have HB := Lib.hid (show (x.ok && (mayB (a.1, b.1) && decide (x.last < a.1))) = false from by rw [f2]; simp)
              clear hok q2
              go_upto_region 7 with fail
              refine take _ _ p bd _ x.D (a.1, b.1) v0 st _ HE.out (hpw.c1) hg0 hg1 HNE.out.1 HNE.out.2 ⟨gb (Below.refl _ _).drew _, rfl⟩ _ _ _ _ _ _ _ _ _ _ _ _ _ _ _ _ _ _ _ _ _ _ _ _ _ _ _ _ _ _ _ _ _ _ _ _ _ _ _ _ _ _ _ _ _ _ _ _ _ _ _ _ _ _ _ _ _ _ _ _ _ ?_
              intro w9 _ _ _ _ _ _ _ _ _ _ _ _ _ _ hj
              obtain ⟨j1, j2⟩ := hj
              dsimp only [cond_true] at j2
              have hp9 := hpw.grown_d j2 j1
              have hc9 := hcw.kept j1 (by simpa using HCD.out)
              have ht9 := htw.trans_m j1
              clear hpw hcw htw hg0 hg1
              dsimp only [Exit.inBlock, Exit.then]
              go_wp2_with fail
              go_roundw
              case rel => exact ⟨f', k + 1, _, by rw [HST.out, HB.out], by rw [HST.out], by go_num, HAT', by rw [HST.out]; exact hc9, by rw [HST.out]; exact hp9, ht9⟩
              case measure => simp [intOf]; omega
    · have d1 : decide (n < 0) = false := decide_eq_false hn
      have d2 : decide (0 ≤ n) = true := decide_eq_true (by omega)
      by_cases hkn : (k : Int) < n
      · have d3 : decide ((k : Int) < n) = true := decide_eq_true hkn
        cases hb : x.c.2 with
        | true =>
          rw [hb] at hcc
          have hRx := hat.out.stop (fun h => by rw [hb] at h; cases h.2)
          subst hRx
          cases hok : x.ok
          all_goals
            have HC := Lib.hid hc
            have HP := Lib.hid hp
            clear hc hp
            go_wp2_with fail
            go_ret
            exact ⟨by first | rfl | (rw [hok]; done) | (rw [hok]; rfl) | (rw [hok, d2]; done) | (rw [hok, d2]; rfl), HC.out, HP.out, ht⟩
        | false =>
          rw [hb] at hcc
          obtain ⟨f', hat'⟩ := hat.out.step ⟨.inr hkn, hb⟩
          have HAT' := Lib.hid hat'
          have hll : x.c.1.length ≤ 1000000 := by
            have := hat.out.left
            rw [hb] at this
            simp at this
            omega
          obtain ⟨a, ha⟩ : ∃ a, numF x.c = a := ⟨_, rfl⟩
          obtain ⟨b, hb2⟩ : ∃ b, numF a.2 = b := ⟨_, rfl⟩
          have HST := Lib.hid (dropStep_eq x a b ha hb2)
          have la := numF_len x.c
          rw [ha] at la
          have ra := numF_range x.c
          rw [ha] at ra
          have rb := numF_range a.2
          rw [hb2] at rb
          have C1 := number_any c x.c wr hc (by omega)
          rw [ha] at C1
          have C2 := fun w2 (h2 : IsCut w2 c a.2) => number_any c a.2 w2 h2 (by omega)
          rw [hb2] at C2
          have K1 := Lib.hid C1
          have K2 := Lib.hid C2
          have hMl : x.D.length < maxLen := by
            have := hat.out.size
            show _ < 2 ^ 63 - 1
            omega
          have HKEY := Lib.hid (keyOf_int_mk Try.underlying3 (num_wf ra))
          have HMl := Lib.hid hMl
          have HRB := Lib.hid rb
          have HRA := Lib.hid ra
          have HCD := Lib.hid (show c ≠ bd from fun e => NE.out.2.2 e.symm)
          clear hat hat' hll ha hb2 la ra rb C1 C2 hMl
          go_wp2_with fail
          refine K1.out.mono ?_
          rintro e w2 ⟨rfl, h2, g2⟩
          have hp2 := hp.other g2 NE.out.1 NE.out.2.1 NE.out.2.2
          have ht2 : Turned c bd w w2 := fun B b1 b2 b3 => (ht B b1 b2 b3).trans (below_of_grown g2 b1 ((ht B b1 b2 b3).size' b3))
          clear hcc hc hp ht g2 K1
          go_wp2_with fail
          refine (K2.out w2 h2).mono ?_
          rintro e w3 ⟨rfl, h3, g3⟩
          have hp3 := hp2.other g3 NE.out.1 NE.out.2.1 NE.out.2.2
          have ht3 : Turned c bd w w3 := fun B b1 b2 b3 => (ht2 B b1 b2 b3).trans (below_of_grown g3 b1 ((ht2 B b1 b2 b3).size' b3))
          clear h2 hp2 ht2 g3 K2
          have hb8 : Below w3.heap.size w3 (w3.alloc (.cells #[.int .i64 a.1, .int .i64 b.1] 40)) := (Below.refl _ _).alloc (Nat.le_refl _) _
          have hp4 := hp3.below hb8
          have hc4 := h3.below hb8
          have ht4 : Turned c bd w (w3.alloc (.cells #[.int .i64 a.1, .int .i64 b.1] 40)) := fun B b1 b2 b3 => (ht3 B b1 b2 b3).trans (hb8.mono ((ht3 B b1 b2 b3).size' b3))
          have hbx := box2 w3 (a.1, b.1) 40
          have hpl := hp3.lts.2
          have HGS := Lib.hid (show w3.heap.size < (w3.alloc (.cells #[.int .i64 a.1, .int .i64 b.1] 40)).heap.size from by simp)
          obtain ⟨v0, st, he⟩ := hp4.d.entry_in HMl.out (int_keyed Try.underlying3) Try.underlying74 zero3 HKEY.out
          have HNE := Lib.hid (show some p ≠ some bd ∧ some w3.heap.size ≠ some bd from ⟨by simpa using ne_map hp4.c0 hp4.d, by simp; omega⟩)
          have HE0 := Lib.hid he
          clear he hpl
          obtain ⟨hg0, hg1⟩ := hbx
          cases hok : x.ok with
          | false =>
            have HB := Lib.hid (show (x.ok && (mayB (a.1, b.1) && decide (x.last < a.1))) = false from by rw [hok]; rfl)
            have HE := Lib.hid HE0.out
            have hpw := hp4
            have hcw := hc4
            have htw := ht4
            clear hok HE0 hp4 hc4 ht4
            go_upto_region 7 with fail
            refine take _ _ p bd _ x.D (a.1, b.1) v0 st _ HE.out (hpw.c1) hg0 hg1 HNE.out.1 HNE.out.2 ⟨gb (Below.refl _ _).drew _, rfl⟩ _ _ _ _ _ _ _ _ _ _ _ _ _ _ _ _ _ _ _ _ _ _ _ _ _ _ _ _ _ _ _ _ _ _ _ _ _ _ _ _ _ _ _ _ _ _ _ _ _ _ _ _ _ _ _ _ _ _ _ _ _ ?_
            intro w9 _ _ _ _ _ _ _ _ _ _ _ _ _ _ hj
            obtain ⟨j1, j2⟩ := hj
            dsimp only [cond_true] at j2
            have hp9 := hpw.grown_d j2 j1
            have hc9 := hcw.kept j1 (by simpa using HCD.out)
            have ht9 := htw.trans_m j1
            clear hpw hcw htw hg0 hg1
            dsimp only [Exit.inBlock, Exit.then]
            go_wp2_with fail
            go_roundw
            case rel => exact ⟨f', k + 1, _, by rw [HST.out, HB.out], by rw [HST.out], by go_num, HAT', by rw [HST.out]; exact hc9, by rw [HST.out]; exact hp9, ht9⟩
            case measure => simp [intOf]; omega
          | true =>
            go_wp2_with fail
            refine (may_any a.1 b.1 _).mono ?_
            rintro e w5 ⟨rfl, hb5⟩
            have hpw := hp4.below hb5
            have hcw := hc4.below hb5
            have htw : Turned c bd w w5 := fun B b1 b2 b3 => (ht4 B b1 b2 b3).trans (hb5.mono ((ht4 B b1 b2 b3).size' b3))
            have HE := Lib.hid (show ∀ W : World, W.heap[bd]? = w5.heap[bd]? → ∃ W', (Instr.mapEntry 74 (.map (some bd)) (.int .i64 a.1)).run Try.prog W = .ok (.tuple #[v0, st]) W' ∧ MidIs W' Try.prog 3 intC bd x.D a.1 st ∧ W.mapTurned W' bd from fun W hW => HE0.out W (hW.trans (hb5.block bd hp4.lts.2)))
            replace hg0 := (hb5.cell (p := ⟨w3.heap.size, 0, none⟩) HGS.out).trans hg0
            replace hg1 := (hb5.cell (p := ⟨w3.heap.size, 1, none⟩) HGS.out).trans hg1
            clear HE0 hp4 hc4 ht4 hb5
            cases g1 : mayB (a.1, b.1) with
            | false =>
              have HB := Lib.hid (show (x.ok && (mayB (a.1, b.1) && decide (x.last < a.1))) = false from by rw [g1]; simp)
              clear hok
              go_upto_region 7 with fail
              refine take _ _ p bd _ x.D (a.1, b.1) v0 st _ HE.out (hpw.c1) hg0 hg1 HNE.out.1 HNE.out.2 ⟨gb (Below.refl _ _).drew _, rfl⟩ _ _ _ _ _ _ _ _ _ _ _ _ _ _ _ _ _ _ _ _ _ _ _ _ _ _ _ _ _ _ _ _ _ _ _ _ _ _ _ _ _ _ _ _ _ _ _ _ _ _ _ _ _ _ _ _ _ _ _ _ _ ?_
              intro w9 _ _ _ _ _ _ _ _ _ _ _ _ _ _ hj
              obtain ⟨j1, j2⟩ := hj
              dsimp only [cond_true] at j2
              have hp9 := hpw.grown_d j2 j1
              have hc9 := hcw.kept j1 (by simpa using HCD.out)
              have ht9 := htw.trans_m j1
              clear hpw hcw htw hg0 hg1
              dsimp only [Exit.inBlock, Exit.then]
              go_wp2_with fail
              go_roundw
              case rel => exact ⟨f', k + 1, _, by rw [HST.out, HB.out], by rw [HST.out], by go_num, HAT', by rw [HST.out]; exact hc9, by rw [HST.out]; exact hp9, ht9⟩
              case measure => simp [intOf]; omega
            | true =>
              by_cases q2 : x.last < a.1
              · have f2 : decide (x.last < a.1) = true := decide_eq_true q2
                have HB := Lib.hid (show (x.ok && (mayB (a.1, b.1) && decide (x.last < a.1))) = true from by rw [g1, f2, hok]; rfl)
                clear hok q2
                go_upto_region 7 with fail
                refine take _ _ p bd _ x.D (a.1, b.1) v0 st _ HE.out (hpw.c1) hg0 hg1 HNE.out.1 HNE.out.2 ⟨gb (Below.refl _ _).drew _, rfl⟩ _ _ _ _ _ _ _ _ _ _ _ _ _ _ _ _ _ _ _ _ _ _ _ _ _ _ _ _ _ _ _ _ _ _ _ _ _ _ _ _ _ _ _ _ _ _ _ _ _ _ _ _ _ _ _ _ _ _ _ _ _ ?_
                intro w9 _ _ _ _ _ _ _ _ _ _ _ _ _ _ hj
                obtain ⟨j1, j2⟩ := hj
                dsimp only [cond_true] at j2
                have hp9 := hpw.grown_d j2 j1
                have hc9 := hcw.kept j1 (by simpa using HCD.out)
                have ht9 := htw.trans_m j1
                clear hpw hcw htw hg0 hg1
                dsimp only [Exit.inBlock, Exit.then]
                go_wp2_with fail
                go_roundw
                case rel => exact ⟨f', k + 1, _, by rw [HST.out, HB.out], by rw [HST.out], by go_num, HAT', by rw [HST.out]; exact hc9, by rw [HST.out]; exact hp9, ht9⟩
                case measure => simp [intOf]; omega
              · have f2 : decide (x.last < a.1) = false := decide_eq_false q2
                have HB := Lib.hid (show (x.ok && (mayB (a.1, b.1) && decide (x.last < a.1))) = false from by rw [f2]; simp)
                clear hok q2
                go_upto_region 7 with fail
                refine take _ _ p bd _ x.D (a.1, b.1) v0 st _ HE.out (hpw.c1) hg0 hg1 HNE.out.1 HNE.out.2 ⟨gb (Below.refl _ _).drew _, rfl⟩ _ _ _ _ _ _ _ _ _ _ _ _ _ _ _ _ _ _ _ _ _ _ _ _ _ _ _ _ _ _ _ _ _ _ _ _ _ _ _ _ _ _ _ _ _ _ _ _ _ _ _ _ _ _ _ _ _ _ _ _ _ ?_
                intro w9 _ _ _ _ _ _ _ _ _ _ _ _ _ _ hj
                obtain ⟨j1, j2⟩ := hj
                dsimp only [cond_true] at j2
                have hp9 := hpw.grown_d j2 j1
                have hc9 := hcw.kept j1 (by simpa using HCD.out)
                have ht9 := htw.trans_m j1
                clear hpw hcw htw hg0 hg1
                dsimp only [Exit.inBlock, Exit.then]
                go_wp2_with fail
                go_roundw
                case rel => exact ⟨f', k + 1, _, by rw [HST.out, HB.out], by rw [HST.out], by go_num, HAT', by rw [HST.out]; exact hc9, by rw [HST.out]; exact hp9, ht9⟩
                case measure => simp [intOf]; omega
      · have d3 : decide ((k : Int) < n) = false := decide_eq_false hkn
        have hRx := hat.out.stop (fun h => h.1.elim hn hkn)
        subst hRx
        cases hok : x.ok
        all_goals
          have HC := Lib.hid hc
          have HP := Lib.hid hp
          clear hc hp
          go_wp2_with fail
          go_ret
          exact ⟨by first | rfl | (rw [hok]; done) | (rw [hok]; rfl) | (rw [hok, d2]; done) | (rw [hok, d2]; rfl), HC.out, HP.out, ht⟩

end Go.Proofs.Ytjggeodnoigkkaa
