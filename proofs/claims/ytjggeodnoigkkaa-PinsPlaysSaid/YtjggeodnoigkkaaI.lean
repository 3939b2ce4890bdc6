/-
  The laws' own small functions: ints, awake.
-/
import Derived.Test.YtjggeodnoigkkaaH
namespace Go.Proofs.Ytjggeodnoigkkaa
open Go.RowKit Go.Maps Go.Shelf Go.Proofs.YtjggeodnoigkkaaM

theorem below_of_grown {B b : Nat} {w w' : World} (h : w.grownBy w' (some b)) (hB : B ≤ b) (hs : B ≤ w.heap.size) : Below B w w' :=
  ⟨h.os, h.tape, h.output, h.size, fun k hk => h.block k (Nat.lt_of_lt_of_le hk hs) (by intro e; injection e; omega)⟩

set_option maxRecDepth 100000 in
set_option maxHeartbeats 1000000 in
theorem ints_any (A B : Option Addr) (n m c d : Nat) (l k : List Int) (w : World) (hn : l.length = n) (hm : k.length = m) (hl : RdI w A l) (hk : RdI w B k) (h63 : n ≤ 9223372036854775807) :
    Calls Try.prog 31 #[.slice A n c, .slice B m d] w fun e w' => e = .returned (.bool (decide (l = k))) ∧ Below w.heap.size w w' := by
  subst hn
  subst hm
  by_cases hlen : l.length = k.length
  · have HL := Lib.hid hl
    have HK := Lib.hid hk
    have H63 := Lib.hid h63
    have Hlen := Lib.hid hlen
    have hle : ((l.length : Int) != (k.length : Int)) = false := by simp [hlen]
    clear hl hk h63 hlen
    go_enter Try.func31, Try.ntmps31
    go_wp2_with fail
    go_loopw [5] (fun i wr => ∃ j : Nat, j ≤ l.length ∧ i = .int .i64 j ∧ Hid (l.take j = k.take j) ∧ Below w.heap.size w wr) (fun i _ => l.length - (intOf i).toNat)
    case atStart => exact ⟨0, Nat.zero_le _, rfl, Lib.hid rfl, Below.refl _ _⟩
    case round =>
      obtain ⟨j, hj, rfl, heq, hb⟩ := hrel
      have h63 := H63.out
      by_cases hlt : j < l.length
      · obtain ⟨ad, rfl, hb0, hc0⟩ := (HL.out.below hb) j hlt
        have hlt2 : j < k.length := by rw [← Hlen.out]; exact hlt
        obtain ⟨ad2, rfl, hb1, hc1⟩ := (HK.out.below hb) j hlt2
        obtain ⟨x, hx⟩ : ∃ x, x = l[j] := ⟨_, rfl⟩
        obtain ⟨y, hy⟩ : ∃ y, y = k[j] := ⟨_, rfl⟩
        have e : l.getD j 0 = x := by simp [hx, List.getD_eq_getElem?_getD, hlt]
        have e2 : k.getD j 0 = y := by simp [hy, List.getD_eq_getElem?_getD, hlt2]
        rw [e] at hc0
        rw [e2] at hc1
        have hi1 : (j : Int) < (l.length : Int) := by omega
        have hi2 : (j : Int) < (k.length : Int) := by omega
        have hi0 : (0 : Int) ≤ (j : Int) := by omega
        have HX := Lib.hid hx
        have HY := Lib.hid hy
        clear hx hy e e2
        by_cases hxy : x = y
        · have hne : (x != y) = false := by simp [hxy]
          have hE := Lib.hid (show l.take (j + 1) = k.take (j + 1) from by rw [List.take_succ_eq_append_getElem hlt, List.take_succ_eq_append_getElem hlt2, heq.out, ← HX.out, ← HY.out, hxy])
          clear hxy
          go_wp2_with fail
          go_quiet (fail)
          go_wp2_with fail
          go_roundw
          case rel => exact ⟨j + 1, by omega, by go_num, hE, hb.trans (by exact ⟨rfl, rfl, rfl, Nat.le_refl _, fun _ _ => rfl⟩)⟩
          case measure => simp [intOf]; omega
        · have hne : (x != y) = true := by simp [hxy]
          have hE := Lib.hid (show decide (l = k) = false from by
            refine decide_eq_false fun e => hxy ?_
            subst e
            rw [HX.out, HY.out])
          clear hxy
          go_wp2_with fail
          go_quiet (fail)
          go_wp2_with fail
          go_ret
          rw [hE.out]
          exact ⟨rfl, hb.trans ⟨rfl, rfl, rfl, Nat.le_refl _, fun _ _ => rfl⟩⟩
      · have hje : j = l.length := by omega
        have hE := Lib.hid (show decide (l = k) = true from by
          refine decide_eq_true ?_
          have := heq.out
          rw [hje, List.take_length, Hlen.out, List.take_length] at this
          exact this)
        clear hje
        go_wp2_with fail
        go_ret
        rw [hE.out]
        exact ⟨rfl, hb⟩
  · have hE := Lib.hid (show decide (l = k) = false from decide_eq_false fun e => hlen (by rw [e]))
    have hle : ((l.length : Int) != (k.length : Int)) = true := by simp; omega
    go_enter Try.func31, Try.ntmps31
    go_wp2_with fail
    go_ret
    rw [hE.out]
    exact ⟨rfl, Below.refl _ _⟩

end Go.Proofs.Ytjggeodnoigkkaa
