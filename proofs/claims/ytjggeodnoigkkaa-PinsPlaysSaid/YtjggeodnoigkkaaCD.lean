/-
  Pins out of bytes: the loop that takes pins in.
-/
import Derived.Test.YtjggeodnoigkkaaCC
import Derived.Test.YtjggeodnoigkkaaMem2
import Derived.Test.YtjggeodnoigkkaaOC
namespace Go.Proofs.Ytjggeodnoigkkaa
open Go.RowKit Go.Maps Go.Shelf Go.Proofs.YtjggeodnoigkkaaM

theorem _root_.Go.RowKit.Below.size' {B : Nat} {w w' : World} (h : Below B w w') (hB : B ≤ w.heap.size) : B ≤ w'.heap.size := Nat.le_trans hB h.size
theorem put_len (M : PM) (k : Bs) (v : Int × Bs) : (putM M k v).length ≤ M.length + 1 := length_put_le _ _ _

theorem bl_bb : ∀ x y : Bs, Op.bytesLess x y = bytesBefore x y
  | [], [] => rfl
  | [], _ :: _ => rfl
  | _ :: _, [] => rfl
  | a :: x, b :: y => by rw [Op.bytesLess, bytesBefore, bl_bb x y]
theorem gt_iff (a l : Bs) : bytesBefore l a = (!(Op.bytesLess a l) && !decide (a = l)) := by
  rw [bl_bb]
  cases h1 : bytesBefore a l with
  | true =>
    cases h2 : bytesBefore l a with
    | false => rfl
    | true =>
      have := bb_trans _ _ _ h1 h2
      rw [bb_irrefl] at this
      cases this
  | false =>
    by_cases e : a = l
    · subst e
      rw [bb_irrefl]
      simp
    · rcases bb_total a l e with h | h
      · rw [h1] at h; cases h
      · rw [h]; simp [e]
theorem Turned.trans_m {c bm : Nat} {w w1 w2 : World} (h : Turned c bm w w1) (hg : w1.grownBy w2 (some bm)) : Turned c bm w w2 := fun B b1 b2 b3 => (h B b1 b2 b3).trans (below_of_grown hg b2 ((h B b1 b2 b3).size' b3))

/-- What the loop has, at its head. -/
structure PinsAt (n : Int) (N f k : Nat) (x : PSt) (R : PSt) : Prop where
  go : pinsGo n f k x = R
  fuel : x.c.1.length < f ∨ x.c.2 = true
  left : k + x.c.1.length ≤ N ∨ (x.c.2 = true ∧ k ≤ N + 1)
  size : x.M.length ≤ k
  last : x.last.length ≤ 255
theorem PinsAt.stop {n : Int} {N f k : Nat} {x R : PSt} (h : PinsAt n N f k x R) (hc : ¬ ((n < 0 ∨ (k : Int) < n) ∧ x.c.2 = false)) : x = R := by
  rw [← h.go]
  cases f with
  | zero => rfl
  | succ f => rw [pinsGo, if_neg hc]
theorem PinsAt.step {n : Int} {N f k : Nat} {x R : PSt} (h : PinsAt n N f k x R) (hc : (n < 0 ∨ (k : Int) < n) ∧ x.c.2 = false) : ∃ f', PinsAt n N f' (k + 1) (pinStep x) R := by
  have hf : x.c.1.length < f := by
    rcases h.fuel with h | h
    · exact h
    · rw [hc.2] at h; cases h
  obtain ⟨g, rfl⟩ : ∃ g, f = g + 1 := ⟨f - 1, by omega⟩
  have hg := h.go
  rw [pinsGo, if_pos hc] at hg
  have hs : (pinStep x).M.length ≤ k + 1 := Nat.le_trans (put_len _ _ _) (by have := h.size; omega)
  have hl : (pinStep x).last.length ≤ 255 := shortF_short _
  have h2 := h.left
  rw [hc.2] at h2
  refine ⟨g, hg, ?_, ?_, hs, hl⟩
  · cases hb : (pinStep x).c.2
    · have := (pinStep_ok hb).2
      exact .inl (by omega)
    · exact .inr rfl
  · cases hb : (pinStep x).c.2
    · have := (pinStep_ok hb).2
      simp at h2
      exact .inl (by omega)
    · simp at h2
      exact .inr ⟨rfl, by omega⟩

theorem pinStep_eq (x : PSt) (a b : Bs × Cs) (m : Int × Cs) (ha : shortF x.c = a) (hb : shortF a.2 = b) (hm : numF b.2 = m) :
    pinStep x = ⟨x.ok && (rightB a.1 && (decide (b.1.length ≤ 64) && (bytesBefore x.last a.1 && (decide (0 ≤ m.1) && decide (m.1 < 1099511627776))))), a.1, m.2, putM x.M a.1 (m.1, b.1)⟩ := by
  subst ha hb hm
  rfl

set_option maxRecDepth 100000 in
set_option maxHeartbeats 4000000 in
theorem cutPins_any (c p bm bd : Nat) (D : DM) (x : Cs) (w : World) (h : IsCut w c x) (hp : IsPins w p bm bd [] D) (hs : x.1.length ≤ 1000000) (n1 : p ≠ c) (n2 : bm ≠ c) (n3 : bd ≠ c) :
    Calls Try.prog 57 #[.pointer (some ⟨c, 0, none⟩), .pointer (some ⟨p, 0, none⟩)] w fun e w' => e = .returned (.bool (pinsOk x)) ∧ IsCut w' c (pinsR x).c ∧ IsPins w' p bm bd (pinsR x).M D ∧ Turned c bm w w' := by
  have HT := Lib.hid (number_any c x w h (by omega))
  have hrg := numF_range x
  have hln := numF_len x
  rw [pinsOk, pinsR]
  have HN := Lib.hid (show numF x = numF x from rfl)
  generalize numF x = nx at HT hrg hln
  obtain ⟨n, y⟩ := nx
  simp only at HT hrg hln ⊢
  obtain ⟨R, hR⟩ : ∃ R, R = pinsGo n (y.1.length + 1) 0 ⟨true, [], y, []⟩ := ⟨_, rfl⟩
  rw [← hR]
  have hat0 : PinsAt n 1000000 (y.1.length + 1) 0 ⟨true, [], y, []⟩ R := ⟨hR.symm, .inl (Nat.lt_succ_self _), .inl (by show 0 + y.1.length ≤ _; omega), Nat.le_refl _, Nat.zero_le _⟩
  have HAT := Lib.hid hat0
  have NE := Lib.hid (show p ≠ c ∧ bm ≠ c ∧ bd ≠ c from ⟨n1, n2, n3⟩)
  have HP := Lib.hid hp
  clear hat0 hR hs hln n1 n2 n3 h hp HN
  go_enter Try.func57, Try.ntmps57
  go_wp2_with fail
  refine HT.out.mono ?_
  rintro e w1 ⟨rfl, h1, hg⟩
  have hp1 := HP.out.other hg NE.out.1 NE.out.2.1 NE.out.2.2
  have ht1 : Turned c bm w w1 := Turned.m hg
  clear HT HP hg
  go_wp2_with fail
  go_loopw [6, 7, 8] (fun ok last i wr => ∃ (f k : Nat) (x : PSt), ok = .bool x.ok ∧ last = .string ⟨x.last.toArray⟩ ∧ i = .int .i64 k ∧ Hid (PinsAt n 1000000 f k x R) ∧ IsCut wr c x.c ∧ IsPins wr p bm bd x.M D ∧ Turned c bm w wr) (fun ok last i wr => 1000003 - (intOf i).toNat)
  case atStart => exact ⟨_, 0, _, rfl, rfl, rfl, HAT, h1, hp1, ht1⟩
  case round =>
    clear h1 hp1 ht1
    obtain ⟨f, k, x, rfl, rfl, rfl, hat, hc, hp, ht⟩ := hrel
    have hk : k ≤ 1000001 := by have := hat.out.left; omega
    have hcc := hc.c1
    by_cases hn : n < 0
    · have d1 : decide (n < 0) = true := decide_eq_true hn
      have d2 : decide (0 ≤ n) = false := decide_eq_false (by omega)
      cases hb : x.c.2 with
      | true =>
        rw [hb] at hcc
        have hRx := hat.out.stop (fun h => by rw [hb] at h; cases h.2)
        subst hRx
        cases hok : x.ok
        all_goals
          have HC := Lib.hid hc
          have HP := Lib.hid hp
          clear hc hp
          go_wp2_with fail
          go_ret
          exact ⟨by first | rfl | (rw [hok]; done) | (rw [hok]; rfl) | (rw [hok, d2]; done) | (rw [hok, d2]; rfl), HC.out, HP.out, ht⟩
      | false =>
        rw [hb] at hcc
        obtain ⟨f', hat'⟩ := hat.out.step ⟨.inl hn, hb⟩
        have HAT' := Lib.hid hat'
        have hll : x.c.1.length ≤ 1000000 := by
          have := hat.out.left
          rw [hb] at this
          simp at this
          omega
        obtain ⟨a, ha⟩ : ∃ a, shortF x.c = a := ⟨_, rfl⟩
        obtain ⟨b, hb2⟩ : ∃ b, shortF a.2 = b := ⟨_, rfl⟩
        obtain ⟨m, hm2⟩ : ∃ m, numF b.2 = m := ⟨_, rfl⟩
        have HST := Lib.hid (pinStep_eq x a b m ha hb2 hm2)
        have la := shortF_len x.c
        have lb := shortF_len a.2
        rw [ha] at la
        rw [hb2] at lb
        have sa := shortF_short x.c
        have sb := shortF_short a.2
        rw [ha] at sa
        rw [hb2] at sb
        have rm := numF_range b.2
        rw [hm2] at rm
        have C1 := cutShort_any c x.c wr hc (by omega)
        rw [ha] at C1
        have C2 := fun w2 (h2 : IsCut w2 c a.2) => cutShort_any c a.2 w2 h2 (by omega)
        rw [hb2] at C2
        have C3 := fun w2 (h2 : IsCut w2 c b.2) => number_any c b.2 w2 h2 (by omega)
        rw [hm2] at C3
        have K1 := Lib.hid C1
        have K2 := Lib.hid C2
        have K3 := Lib.hid C3
        have hMl : x.M.length < maxLen := by
          have := hat.out.size
          show _ < 2 ^ 63 - 1
          omega
        have hsl : a.1.length ≤ maxLen := Nat.le_trans sa (by decide)
        have HH := Lib.hid (And.intro hMl hsl)
        have HSB := Lib.hid sb
        have HRM := Lib.hid rm
        have SA := Lib.hid (show a.1.length ≤ 9223372036854775807 from Nat.le_trans sa (by decide))
        clear hat hat' hll ha hb2 hm2 la lb sa sb C1 C2 C3 hMl hsl rm
        go_wp2_with fail
        refine K1.out.mono ?_
        rintro e w2 ⟨rfl, h2, g2⟩
        have hp2 := hp.other g2 NE.out.1 NE.out.2.1 NE.out.2.2
        have ht2 : Turned c bm w w2 := fun B b1 b2 b3 => (ht B b1 b2 b3).trans (below_of_grown g2 b1 ((ht B b1 b2 b3).size' b3))
        clear hcc hc hp ht g2 K1
        go_wp2_with fail
        refine (K2.out w2 h2).mono ?_
        rintro e w3 ⟨rfl, h3, g3⟩
        have hp3 := hp2.other g3 NE.out.1 NE.out.2.1 NE.out.2.2
        have ht3 : Turned c bm w w3 := fun B b1 b2 b3 => (ht2 B b1 b2 b3).trans (below_of_grown g3 b1 ((ht2 B b1 b2 b3).size' b3))
        clear h2 hp2 ht2 g3 K2
        go_wp2_with fail
        refine (K3.out w3 h3).mono ?_
        rintro e w4 ⟨rfl, h4, g4⟩
        have hp4 := hp3.other g4 NE.out.1 NE.out.2.1 NE.out.2.2
        have ht4 : Turned c bm w w4 := fun B b1 b2 b3 => (ht3 B b1 b2 b3).trans (below_of_grown g4 b1 ((ht3 B b1 b2 b3).size' b3))
        clear h3 hp3 ht3 g4 K3
        have H4 := Lib.hid h4
        have HP4 := Lib.hid hp4
        have HT4 := Lib.hid ht4
        have pc0 := hp4.c0
        have hpm := hp4.m
        have HKEY := Lib.hid (show keyOf Try.prog 9 (.string ⟨a.1.toArray⟩) = some (.string a.1) from WideMaps.keyOf_string_mk Try.underlying9 (s := ⟨a.1.toArray⟩) HH.out.2)
        clear h4 hp4 ht4
        cases hok : x.ok with
        | false =>
          have HB : (x.ok && (rightB a.1 && (decide (b.1.length ≤ 64) && (bytesBefore x.last a.1 && (decide (0 ≤ m.1) && decide (m.1 < 1099511627776)))))) = false := by rw [hok]; rfl
          replace HB := Lib.hid HB
          go_wp2_with (first | (refine wl_entry _ rfl _ _ 69 rfl 9 84 (string_keyed Try.underlying9) Try.underlying69 pinC zero84 bm x.M rfl hpm HH.out.1 a.1 _ rfl HKEY.out ?_; intro v0 stp w6 hmid ht6) | (refine wl_entryStore _ rfl _ _ _ 69 rfl 9 pinC bm x.M rfl a.1 _ rfl hmid (m.1, b.1) _ rfl rfl ?_; intro w7 hm7 ht7))
          go_roundw
          case rel => exact ⟨f', k + 1, _, by rw [HST.out, HB.out], by rw [HST.out], by go_num, HAT', by rw [HST.out]; exact H4.out.kept (ht6.grown.trans ht7.grown) (by simpa using Ne.symm NE.out.2.1), by rw [HST.out]; exact HP4.out.grown_m hm7 (ht6.grown.trans ht7.grown), HT4.out.trans_m (ht6.grown.trans ht7.grown)⟩
          case measure => simp [intOf]; omega
        | true =>
          go_wp2_with fail
          refine (right_any a.1 w4 SA.out).mono ?_
          rintro e w5 ⟨rfl, rfl⟩
          cases g1 : rightB a.1 with
          | false =>
            have HB := Lib.hid (show (x.ok && (rightB a.1 && (decide (b.1.length ≤ 64) && (bytesBefore x.last a.1 && (decide (0 ≤ m.1) && decide (m.1 < 1099511627776)))))) = false from by rw [g1]; simp)
            clear hok
            go_wp2_with (first | (refine wl_entry _ rfl _ _ 69 rfl 9 84 (string_keyed Try.underlying9) Try.underlying69 pinC zero84 bm x.M rfl hpm HH.out.1 a.1 _ rfl HKEY.out ?_; intro v0 stp w6 hmid ht6) | (refine wl_entryStore _ rfl _ _ _ 69 rfl 9 pinC bm x.M rfl a.1 _ rfl hmid (m.1, b.1) _ rfl rfl ?_; intro w7 hm7 ht7))
            go_roundw
            case rel => exact ⟨f', k + 1, _, by rw [HST.out, HB.out], by rw [HST.out], by go_num, HAT', by rw [HST.out]; exact H4.out.kept (ht6.grown.trans ht7.grown) (by simpa using Ne.symm NE.out.2.1), by rw [HST.out]; exact HP4.out.grown_m hm7 (ht6.grown.trans ht7.grown), HT4.out.trans_m (ht6.grown.trans ht7.grown)⟩
            case measure => simp [intOf]; omega
          | true =>
            by_cases q2 : b.1.length ≤ 64
            · have f2 : decide ((b.1.length : Int) ≤ 64) = true := decide_eq_true (by omega)
              have f2' : decide (b.1.length ≤ 64) = true := decide_eq_true q2
              clear q2
              cases e1 : Op.bytesLess a.1 x.last with
              | true =>
                have HB := Lib.hid (show (x.ok && (rightB a.1 && (decide (b.1.length ≤ 64) && (bytesBefore x.last a.1 && (decide (0 ≤ m.1) && decide (m.1 < 1099511627776)))))) = false from by rw [gt_iff, e1]; simp)
                clear hok
                go_wp2_with (first | (refine wl_entry _ rfl _ _ 69 rfl 9 84 (string_keyed Try.underlying9) Try.underlying69 pinC zero84 bm x.M rfl hpm HH.out.1 a.1 _ rfl HKEY.out ?_; intro v0 stp w6 hmid ht6) | (refine wl_entryStore _ rfl _ _ _ 69 rfl 9 pinC bm x.M rfl a.1 _ rfl hmid (m.1, b.1) _ rfl rfl ?_; intro w7 hm7 ht7))
                go_roundw
                case rel => exact ⟨f', k + 1, _, by rw [HST.out, HB.out], by rw [HST.out], by go_num, HAT', by rw [HST.out]; exact H4.out.kept (ht6.grown.trans ht7.grown) (by simpa using Ne.symm NE.out.2.1), by rw [HST.out]; exact HP4.out.grown_m hm7 (ht6.grown.trans ht7.grown), HT4.out.trans_m (ht6.grown.trans ht7.grown)⟩
                case measure => simp [intOf]; omega
              | false =>
                by_cases q3 : a.1 = x.last
                · have HB := Lib.hid (show (x.ok && (rightB a.1 && (decide (b.1.length ≤ 64) && (bytesBefore x.last a.1 && (decide (0 ≤ m.1) && decide (m.1 < 1099511627776)))))) = false from by rw [gt_iff, e1, decide_eq_true q3]; simp)
                  have f3 := eq_true q3
                  have f3' : (a.1 == x.last) = true := by simpa using q3
                  clear q3 hok
                  go_wp2_with (first | (refine wl_entry _ rfl _ _ 69 rfl 9 84 (string_keyed Try.underlying9) Try.underlying69 pinC zero84 bm x.M rfl hpm HH.out.1 a.1 _ rfl HKEY.out ?_; intro v0 stp w6 hmid ht6) | (refine wl_entryStore _ rfl _ _ _ 69 rfl 9 pinC bm x.M rfl a.1 _ rfl hmid (m.1, b.1) _ rfl rfl ?_; intro w7 hm7 ht7))
                  go_roundw
                  case rel => exact ⟨f', k + 1, _, by rw [HST.out, HB.out], by rw [HST.out], by go_num, HAT', by rw [HST.out]; exact H4.out.kept (ht6.grown.trans ht7.grown) (by simpa using Ne.symm NE.out.2.1), by rw [HST.out]; exact HP4.out.grown_m hm7 (ht6.grown.trans ht7.grown), HT4.out.trans_m (ht6.grown.trans ht7.grown)⟩
                  case measure => simp [intOf]; omega
                · have Q3 := Lib.hid q3
                  have f3 := eq_false q3
                  have f3' : (a.1 == x.last) = false := by simpa using q3
                  clear q3
                  by_cases q4 : 0 ≤ m.1
                  · by_cases q5 : m.1 < 1099511627776
                    · have f4 : decide (0 ≤ m.1) = true := decide_eq_true q4
                      have f5 : decide (m.1 < 1099511627776) = true := decide_eq_true q5
                      have HB := Lib.hid (show (x.ok && (rightB a.1 && (decide (b.1.length ≤ 64) && (bytesBefore x.last a.1 && (decide (0 ≤ m.1) && decide (m.1 < 1099511627776)))))) = true from by rw [gt_iff, e1, hok, g1, f2', f4, f5, decide_eq_false Q3.out]; rfl)
                      clear hok
                      go_wp2_with (first | (refine wl_entry _ rfl _ _ 69 rfl 9 84 (string_keyed Try.underlying9) Try.underlying69 pinC zero84 bm x.M rfl hpm HH.out.1 a.1 _ rfl HKEY.out ?_; intro v0 stp w6 hmid ht6) | (refine wl_entryStore _ rfl _ _ _ 69 rfl 9 pinC bm x.M rfl a.1 _ rfl hmid (m.1, b.1) _ rfl rfl ?_; intro w7 hm7 ht7))
                      go_roundw
                      case rel => exact ⟨f', k + 1, _, by rw [HST.out, HB.out], by rw [HST.out], by go_num, HAT', by rw [HST.out]; exact H4.out.kept (ht6.grown.trans ht7.grown) (by simpa using Ne.symm NE.out.2.1), by rw [HST.out]; exact HP4.out.grown_m hm7 (ht6.grown.trans ht7.grown), HT4.out.trans_m (ht6.grown.trans ht7.grown)⟩
                      case measure => simp [intOf]; omega
                    · have f4 : decide (0 ≤ m.1) = true := decide_eq_true q4
                      have f5 : decide (m.1 < 1099511627776) = false := decide_eq_false q5
                      have HB := Lib.hid (show (x.ok && (rightB a.1 && (decide (b.1.length ≤ 64) && (bytesBefore x.last a.1 && (decide (0 ≤ m.1) && decide (m.1 < 1099511627776)))))) = false from by rw [f5]; simp)
                      clear hok
                      go_wp2_with (first | (refine wl_entry _ rfl _ _ 69 rfl 9 84 (string_keyed Try.underlying9) Try.underlying69 pinC zero84 bm x.M rfl hpm HH.out.1 a.1 _ rfl HKEY.out ?_; intro v0 stp w6 hmid ht6) | (refine wl_entryStore _ rfl _ _ _ 69 rfl 9 pinC bm x.M rfl a.1 _ rfl hmid (m.1, b.1) _ rfl rfl ?_; intro w7 hm7 ht7))
                      go_roundw
                      case rel => exact ⟨f', k + 1, _, by rw [HST.out, HB.out], by rw [HST.out], by go_num, HAT', by rw [HST.out]; exact H4.out.kept (ht6.grown.trans ht7.grown) (by simpa using Ne.symm NE.out.2.1), by rw [HST.out]; exact HP4.out.grown_m hm7 (ht6.grown.trans ht7.grown), HT4.out.trans_m (ht6.grown.trans ht7.grown)⟩
                      case measure => simp [intOf]; omega
                  · have f4 : decide (0 ≤ m.1) = false := decide_eq_false q4
                    have HB := Lib.hid (show (x.ok && (rightB a.1 && (decide (b.1.length ≤ 64) && (bytesBefore x.last a.1 && (decide (0 ≤ m.1) && decide (m.1 < 1099511627776)))))) = false from by rw [f4]; simp)
                    clear hok
                    go_wp2_with (first | (refine wl_entry _ rfl _ _ 69 rfl 9 84 (string_keyed Try.underlying9) Try.underlying69 pinC zero84 bm x.M rfl hpm HH.out.1 a.1 _ rfl HKEY.out ?_; intro v0 stp w6 hmid ht6) | (refine wl_entryStore _ rfl _ _ _ 69 rfl 9 pinC bm x.M rfl a.1 _ rfl hmid (m.1, b.1) _ rfl rfl ?_; intro w7 hm7 ht7))
                    go_roundw
                    case rel => exact ⟨f', k + 1, _, by rw [HST.out, HB.out], by rw [HST.out], by go_num, HAT', by rw [HST.out]; exact H4.out.kept (ht6.grown.trans ht7.grown) (by simpa using Ne.symm NE.out.2.1), by rw [HST.out]; exact HP4.out.grown_m hm7 (ht6.grown.trans ht7.grown), HT4.out.trans_m (ht6.grown.trans ht7.grown)⟩
                    case measure => simp [intOf]; omega
            · have f2 : decide ((b.1.length : Int) ≤ 64) = false := decide_eq_false (by omega)
              have f2' : decide (b.1.length ≤ 64) = false := decide_eq_false q2
              clear q2
              have HB := Lib.hid (show (x.ok && (rightB a.1 && (decide (b.1.length ≤ 64) && (bytesBefore x.last a.1 && (decide (0 ≤ m.1) && decide (m.1 < 1099511627776)))))) = false from by rw [f2']; simp)
              clear hok
              go_wp2_with (first | (refine wl_entry _ rfl _ _ 69 rfl 9 84 (string_keyed Try.underlying9) Try.underlying69 pinC zero84 bm x.M rfl hpm HH.out.1 a.1 _ rfl HKEY.out ?_; intro v0 stp w6 hmid ht6) | (refine wl_entryStore _ rfl _ _ _ 69 rfl 9 pinC bm x.M rfl a.1 _ rfl hmid (m.1, b.1) _ rfl rfl ?_; intro w7 hm7 ht7))
              go_roundw
              case rel => exact ⟨f', k + 1, _, by rw [HST.out, HB.out], by rw [HST.out], by go_num, HAT', by rw [HST.out]; exact H4.out.kept (ht6.grown.trans ht7.grown) (by simpa using Ne.symm NE.out.2.1), by rw [HST.out]; exact HP4.out.grown_m hm7 (ht6.grown.trans ht7.grown), HT4.out.trans_m (ht6.grown.trans ht7.grown)⟩
              case measure => simp [intOf]; omega
    · have d1 : decide (n < 0) = false := decide_eq_false hn
      have d2 : decide (0 ≤ n) = true := decide_eq_true (by omega)
      by_cases hkn : (k : Int) < n
      · have d3 : decide ((k : Int) < n) = true := decide_eq_true hkn
        cases hb : x.c.2 with
        | true =>
          rw [hb] at hcc
          have hRx := hat.out.stop (fun h => by rw [hb] at h; cases h.2)
          subst hRx
          cases hok : x.ok
          all_goals
            have HC := Lib.hid hc
            have HP := Lib.hid hp
            clear hc hp
            go_wp2_with fail
            go_ret
            exact ⟨by first | rfl | (rw [hok]; done) | (rw [hok]; rfl) | (rw [hok, d2]; done) | (rw [hok, d2]; rfl), HC.out, HP.out, ht⟩
        | false =>
          rw [hb] at hcc
          obtain ⟨f', hat'⟩ := hat.out.step ⟨.inr hkn, hb⟩
          have HAT' := Lib.hid hat'
          have hll : x.c.1.length ≤ 1000000 := by
            have := hat.out.left
            rw [hb] at this
            simp at this
            omega
          obtain ⟨a, ha⟩ : ∃ a, shortF x.c = a := ⟨_, rfl⟩
          obtain ⟨b, hb2⟩ : ∃ b, shortF a.2 = b := ⟨_, rfl⟩
          obtain ⟨m, hm2⟩ : ∃ m, numF b.2 = m := ⟨_, rfl⟩
          have HST := Lib.hid (pinStep_eq x a b m ha hb2 hm2)
          have la := shortF_len x.c
          have lb := shortF_len a.2
          rw [ha] at la
          rw [hb2] at lb
          have sa := shortF_short x.c
          have sb := shortF_short a.2
          rw [ha] at sa
          rw [hb2] at sb
          have rm := numF_range b.2
          rw [hm2] at rm
          have C1 := cutShort_any c x.c wr hc (by omega)
          rw [ha] at C1
          have C2 := fun w2 (h2 : IsCut w2 c a.2) => cutShort_any c a.2 w2 h2 (by omega)
          rw [hb2] at C2
          have C3 := fun w2 (h2 : IsCut w2 c b.2) => number_any c b.2 w2 h2 (by omega)
          rw [hm2] at C3
          have K1 := Lib.hid C1
          have K2 := Lib.hid C2
          have K3 := Lib.hid C3
          have hMl : x.M.length < maxLen := by
            have := hat.out.size
            show _ < 2 ^ 63 - 1
            omega
          have hsl : a.1.length ≤ maxLen := Nat.le_trans sa (by decide)
          have HH := Lib.hid (And.intro hMl hsl)
          have HSB := Lib.hid sb
          have HRM := Lib.hid rm
          have SA := Lib.hid (show a.1.length ≤ 9223372036854775807 from Nat.le_trans sa (by decide))
          clear hat hat' hll ha hb2 hm2 la lb sa sb C1 C2 C3 hMl hsl rm
          go_wp2_with fail
          refine K1.out.mono ?_
          rintro e w2 ⟨rfl, h2, g2⟩
          have hp2 := hp.other g2 NE.out.1 NE.out.2.1 NE.out.2.2
          have ht2 : Turned c bm w w2 := fun B b1 b2 b3 => (ht B b1 b2 b3).trans (below_of_grown g2 b1 ((ht B b1 b2 b3).size' b3))
          clear hcc hc hp ht g2 K1
          go_wp2_with fail
          refine (K2.out w2 h2).mono ?_
          rintro e w3 ⟨rfl, h3, g3⟩
          have hp3 := hp2.other g3 NE.out.1 NE.out.2.1 NE.out.2.2
          have ht3 : Turned c bm w w3 := fun B b1 b2 b3 => (ht2 B b1 b2 b3).trans (below_of_grown g3 b1 ((ht2 B b1 b2 b3).size' b3))
          clear h2 hp2 ht2 g3 K2
          go_wp2_with fail
          refine (K3.out w3 h3).mono ?_
          rintro e w4 ⟨rfl, h4, g4⟩
          have hp4 := hp3.other g4 NE.out.1 NE.out.2.1 NE.out.2.2
          have ht4 : Turned c bm w w4 := fun B b1 b2 b3 => (ht3 B b1 b2 b3).trans (below_of_grown g4 b1 ((ht3 B b1 b2 b3).size' b3))
          clear h3 hp3 ht3 g4 K3
          have H4 := Lib.hid h4
          have HP4 := Lib.hid hp4
          have HT4 := Lib.hid ht4
          have pc0 := hp4.c0
          have hpm := hp4.m
          have HKEY := Lib.hid (show keyOf Try.prog 9 (.string ⟨a.1.toArray⟩) = some (.string a.1) from WideMaps.keyOf_string_mk Try.underlying9 (s := ⟨a.1.toArray⟩) HH.out.2)
          clear h4 hp4 ht4
          cases hok : x.ok with
          | false =>
            have HB : (x.ok && (rightB a.1 && (decide (b.1.length ≤ 64) && (bytesBefore x.last a.1 && (decide (0 ≤ m.1) && decide (m.1 < 1099511627776)))))) = false := by rw [hok]; rfl
            replace HB := Lib.hid HB
            go_wp2_with (first | (refine wl_entry _ rfl _ _ 69 rfl 9 84 (string_keyed Try.underlying9) Try.underlying69 pinC zero84 bm x.M rfl hpm HH.out.1 a.1 _ rfl HKEY.out ?_; intro v0 stp w6 hmid ht6) | (refine wl_entryStore _ rfl _ _ _ 69 rfl 9 pinC bm x.M rfl a.1 _ rfl hmid (m.1, b.1) _ rfl rfl ?_; intro w7 hm7 ht7))
            go_roundw
            case rel => exact ⟨f', k + 1, _, by rw [HST.out, HB.out], by rw [HST.out], by go_num, HAT', by rw [HST.out]; exact H4.out.kept (ht6.grown.trans ht7.grown) (by simpa using Ne.symm NE.out.2.1), by rw [HST.out]; exact HP4.out.grown_m hm7 (ht6.grown.trans ht7.grown), HT4.out.trans_m (ht6.grown.trans ht7.grown)⟩
            case measure => simp [intOf]; omega
          | true =>
            go_wp2_with fail
            refine (right_any a.1 w4 SA.out).mono ?_
            rintro e w5 ⟨rfl, rfl⟩
            cases g1 : rightB a.1 with
            | false =>
              have HB := Lib.hid (show (x.ok && (rightB a.1 && (decide (b.1.length ≤ 64) && (bytesBefore x.last a.1 && (decide (0 ≤ m.1) && decide (m.1 < 1099511627776)))))) = false from by rw [g1]; simp)
              clear hok
              go_wp2_with (first | (refine wl_entry _ rfl _ _ 69 rfl 9 84 (string_keyed Try.underlying9) Try.underlying69 pinC zero84 bm x.M rfl hpm HH.out.1 a.1 _ rfl HKEY.out ?_; intro v0 stp w6 hmid ht6) | (refine wl_entryStore _ rfl _ _ _ 69 rfl 9 pinC bm x.M rfl a.1 _ rfl hmid (m.1, b.1) _ rfl rfl ?_; intro w7 hm7 ht7))
              go_roundw
              case rel => exact ⟨f', k + 1, _, by rw [HST.out, HB.out], by rw [HST.out], by go_num, HAT', by rw [HST.out]; exact H4.out.kept (ht6.grown.trans ht7.grown) (by simpa using Ne.symm NE.out.2.1), by rw [HST.out]; exact HP4.out.grown_m hm7 (ht6.grown.trans ht7.grown), HT4.out.trans_m (ht6.grown.trans ht7.grown)⟩
              case measure => simp [intOf]; omega
            | true =>
              by_cases q2 : b.1.length ≤ 64
              · have f2 : decide ((b.1.length : Int) ≤ 64) = true := decide_eq_true (by omega)
                have f2' : decide (b.1.length ≤ 64) = true := decide_eq_true q2
                clear q2
                cases e1 : Op.bytesLess a.1 x.last with
                | true =>
                  have HB := Lib.hid (show (x.ok && (rightB a.1 && (decide (b.1.length ≤ 64) && (bytesBefore x.last a.1 && (decide (0 ≤ m.1) && decide (m.1 < 1099511627776)))))) = false from by rw [gt_iff, e1]; simp)
                  clear hok
                  go_wp2_with (first | (refine wl_entry _ rfl _ _ 69 rfl 9 84 (string_keyed Try.underlying9) Try.underlying69 pinC zero84 bm x.M rfl hpm HH.out.1 a.1 _ rfl HKEY.out ?_; intro v0 stp w6 hmid ht6) | (refine wl_entryStore _ rfl _ _ _ 69 rfl 9 pinC bm x.M rfl a.1 _ rfl hmid (m.1, b.1) _ rfl rfl ?_; intro w7 hm7 ht7))
                  go_roundw
                  case rel => exact ⟨f', k + 1, _, by rw [HST.out, HB.out], by rw [HST.out], by go_num, HAT', by rw [HST.out]; exact H4.out.kept (ht6.grown.trans ht7.grown) (by simpa using Ne.symm NE.out.2.1), by rw [HST.out]; exact HP4.out.grown_m hm7 (ht6.grown.trans ht7.grown), HT4.out.trans_m (ht6.grown.trans ht7.grown)⟩
                  case measure => simp [intOf]; omega
                | false =>
                  by_cases q3 : a.1 = x.last
                  · have HB := Lib.hid (show (x.ok && (rightB a.1 && (decide (b.1.length ≤ 64) && (bytesBefore x.last a.1 && (decide (0 ≤ m.1) && decide (m.1 < 1099511627776)))))) = false from by rw [gt_iff, e1, decide_eq_true q3]; simp)
                    have f3 := eq_true q3
                    have f3' : (a.1 == x.last) = true := by simpa using q3
                    clear q3 hok
                    go_wp2_with (first | (refine wl_entry _ rfl _ _ 69 rfl 9 84 (string_keyed Try.underlying9) Try.underlying69 pinC zero84 bm x.M rfl hpm HH.out.1 a.1 _ rfl HKEY.out ?_; intro v0 stp w6 hmid ht6) | (refine wl_entryStore _ rfl _ _ _ 69 rfl 9 pinC bm x.M rfl a.1 _ rfl hmid (m.1, b.1) _ rfl rfl ?_; intro w7 hm7 ht7))
                    go_roundw
                    case rel => exact ⟨f', k + 1, _, by rw [HST.out, HB.out], by rw [HST.out], by go_num, HAT', by rw [HST.out]; exact H4.out.kept (ht6.grown.trans ht7.grown) (by simpa using Ne.symm NE.out.2.1), by rw [HST.out]; exact HP4.out.grown_m hm7 (ht6.grown.trans ht7.grown), HT4.out.trans_m (ht6.grown.trans ht7.grown)⟩
                    case measure => simp [intOf]; omega
                  · have Q3 := Lib.hid q3
                    have f3 := eq_false q3
                    have f3' : (a.1 == x.last) = false := by simpa using q3
                    clear q3
                    by_cases q4 : 0 ≤ m.1
                    · by_cases q5 : m.1 < 1099511627776
                      · have f4 : decide (0 ≤ m.1) = true := decide_eq_true q4
                        have f5 : decide (m.1 < 1099511627776) = true := decide_eq_true q5
                        have HB := Lib.hid (show (x.ok && (rightB a.1 && (decide (b.1.length ≤ 64) && (bytesBefore x.last a.1 && (decide (0 ≤ m.1) && decide (m.1 < 1099511627776)))))) = true from by rw [gt_iff, e1, hok, g1, f2', f4, f5, decide_eq_false Q3.out]; rfl)
                        clear hok
                        go_wp2_with (first | (refine wl_entry _ rfl _ _ 69 rfl 9 84 (string_keyed Try.underlying9) Try.underlying69 pinC zero84 bm x.M rfl hpm HH.out.1 a.1 _ rfl HKEY.out ?_; intro v0 stp w6 hmid ht6) | (refine wl_entryStore _ rfl _ _ _ 69 rfl 9 pinC bm x.M rfl a.1 _ rfl hmid (m.1, b.1) _ rfl rfl ?_; intro w7 hm7 ht7))
                        go_roundw
                        case rel => exact ⟨f', k + 1, _, by rw [HST.out, HB.out], by rw [HST.out], by go_num, HAT', by rw [HST.out]; exact H4.out.kept (ht6.grown.trans ht7.grown) (by simpa using Ne.symm NE.out.2.1), by rw [HST.out]; exact HP4.out.grown_m hm7 (ht6.grown.trans ht7.grown), HT4.out.trans_m (ht6.grown.trans ht7.grown)⟩
                        case measure => simp [intOf]; omega
                      · have f4 : decide (0 ≤ m.1) = true := decide_eq_true q4
                        have f5 : decide (m.1 < 1099511627776) = false := decide_eq_false q5
                        have HB := Lib.hid (show (x.ok && (rightB a.1 && (decide (b.1.length ≤ 64) && (bytesBefore x.last a.1 && (decide (0 ≤ m.1) && decide (m.1 < 1099511627776)))))) = false from by rw [f5]; simp)
                        clear hok
                        go_wp2_with (first | (refine wl_entry _ rfl _ _ 69 rfl 9 84 (string_keyed Try.underlying9) Try.underlying69 pinC zero84 bm x.M rfl hpm HH.out.1 a.1 _ rfl HKEY.out ?_; intro v0 stp w6 hmid ht6) | (refine wl_entryStore _ rfl _ _ _ 69 rfl 9 pinC bm x.M rfl a.1 _ rfl hmid (m.1, b.1) _ rfl rfl ?_; intro w7 hm7 ht7))
                        go_roundw
                        case rel => exact ⟨f', k + 1, _, by rw [HST.out, HB.out], by rw [HST.out], by go_num, HAT', by rw [HST.out]; exact H4.out.kept (ht6.grown.trans ht7.grown) (by simpa using Ne.symm NE.out.2.1), by rw [HST.out]; exact HP4.out.grown_m hm7 (ht6.grown.trans ht7.grown), HT4.out.trans_m (ht6.grown.trans ht7.grown)⟩
                        case measure => simp [intOf]; omega
                    · have f4 : decide (0 ≤ m.1) = false := decide_eq_false q4
                      have HB := Lib.hid (show (x.ok && (rightB a.1 && (decide (b.1.length ≤ 64) && (bytesBefore x.last a.1 && (decide (0 ≤ m.1) && decide (m.1 < 1099511627776)))))) = false from by rw [f4]; simp)
                      clear hok
                      go_wp2_with (first | (refine wl_entry _ rfl _ _ 69 rfl 9 84 (string_keyed Try.underlying9) Try.underlying69 pinC zero84 bm x.M rfl hpm HH.out.1 a.1 _ rfl HKEY.out ?_; intro v0 stp w6 hmid ht6) | (refine wl_entryStore _ rfl _ _ _ 69 rfl 9 pinC bm x.M rfl a.1 _ rfl hmid (m.1, b.1) _ rfl rfl ?_; intro w7 hm7 ht7))
                      go_roundw
                      case rel => exact ⟨f', k + 1, _, by rw [HST.out, HB.out], by rw [HST.out], by go_num, HAT', by rw [HST.out]; exact H4.out.kept (ht6.grown.trans ht7.grown) (by simpa using Ne.symm NE.out.2.1), by rw [HST.out]; exact HP4.out.grown_m hm7 (ht6.grown.trans ht7.grown), HT4.out.trans_m (ht6.grown.trans ht7.grown)⟩
                      case measure => simp [intOf]; omega
              · have f2 : decide ((b.1.length : Int) ≤ 64) = false := decide_eq_false (by omega)
                have f2' : decide (b.1.length ≤ 64) = false := decide_eq_false q2
                clear q2
                have HB := Lib.hid (show (x.ok && (rightB a.1 && (decide (b.1.length ≤ 64) && (bytesBefore x.last a.1 && (decide (0 ≤ m.1) && decide (m.1 < 1099511627776)))))) = false from by rw [f2']; simp)
                clear hok
                go_wp2_with (first | (refine wl_entry _ rfl _ _ 69 rfl 9 84 (string_keyed Try.underlying9) Try.underlying69 pinC zero84 bm x.M rfl hpm HH.out.1 a.1 _ rfl HKEY.out ?_; intro v0 stp w6 hmid ht6) | (refine wl_entryStore _ rfl _ _ _ 69 rfl 9 pinC bm x.M rfl a.1 _ rfl hmid (m.1, b.1) _ rfl rfl ?_; intro w7 hm7 ht7))
                go_roundw
                case rel => exact ⟨f', k + 1, _, by rw [HST.out, HB.out], by rw [HST.out], by go_num, HAT', by rw [HST.out]; exact H4.out.kept (ht6.grown.trans ht7.grown) (by simpa using Ne.symm NE.out.2.1), by rw [HST.out]; exact HP4.out.grown_m hm7 (ht6.grown.trans ht7.grown), HT4.out.trans_m (ht6.grown.trans ht7.grown)⟩
                case measure => simp [intOf]; omega
      · have d3 : decide ((k : Int) < n) = false := decide_eq_false hkn
        have hRx := hat.out.stop (fun h => h.1.elim hn hkn)
        subst hRx
        cases hok : x.ok
        all_goals
          have HC := Lib.hid hc
          have HP := Lib.hid hp
          clear hc hp
          go_wp2_with fail
          go_ret
          exact ⟨by first | rfl | (rw [hok]; done) | (rw [hok]; rfl) | (rw [hok, d2]; done) | (rw [hok, d2]; rfl), HC.out, HP.out, ht⟩

end Go.Proofs.Ytjggeodnoigkkaa
