/-
  The laws' own small function: texts.
-/
import Derived.Test.YtjggeodnoigkkaaJ
namespace Go.Proofs.Ytjggeodnoigkkaa
open Go.RowKit Go.Maps Go.Shelf Go.Proofs.YtjggeodnoigkkaaM

def RdS (w : World) (A : Option Addr) (l : List Bs) : Prop := ∀ k, k < l.length → ∃ ad, A = some ad ∧ ad.block < w.heap.size ∧ w.cell? (ad.add k) = some (.string ⟨(l.getD k []).toArray⟩)
theorem RdS.below {w w' : World} {A : Option Addr} {l : List Bs} (h : RdS w A l) (hb : Below w.heap.size w w') : RdS w' A l := fun k hk => by
  obtain ⟨ad, e, hlt, h0⟩ := h k hk
  exact ⟨ad, e, Nat.lt_of_lt_of_le hlt hb.size, (hb.cell (p := ad.add k) (by rw [add_block]; exact hlt)).trans h0⟩
theorem Strs.rd {w : World} {base : Nat} {v : Value} {l : List Bs} (h : Strs w base v l) : ∃ A cap, v = .slice A l.length cap ∧ RdS w A l := by
  obtain ⟨A, cap, e, hc⟩ := h.shape
  refine ⟨A, cap, e, fun k hk => ?_⟩
  obtain ⟨g, e1, h1, h2⟩ := hc k hk
  refine ⟨_, e1, h1, ?_⟩
  have : (⟨g, 0, none⟩ : Addr).add k = ⟨g, k, none⟩ := by unfold Addr.add; split <;> simp_all
  rw [this]
  exact h2

set_option maxRecDepth 100000 in
set_option maxHeartbeats 1000000 in
theorem texts_any (A B : Option Addr) (n m c d : Nat) (l k : List Bs) (w : World) (hn : l.length = n) (hm : k.length = m) (hl : RdS w A l) (hk : RdS w B k) (h63 : n ≤ 9223372036854775807) :
    Calls Try.prog 30 #[.slice A n c, .slice B m d] w fun e w' => e = .returned (.bool (decide (l = k))) ∧ Below w.heap.size w w' := by
  subst hn
  subst hm
  by_cases hlen : l.length = k.length
  · have HL := Lib.hid hl
    have HK := Lib.hid hk
    have H63 := Lib.hid h63
    have Hlen := Lib.hid hlen
    have hle : ((l.length : Int) != (k.length : Int)) = false := by simp [hlen]
    clear hl hk h63 hlen
    go_enter Try.func30, Try.ntmps30
    go_wp2_with fail
    go_loopw [5] (fun i wr => ∃ j : Nat, j ≤ l.length ∧ i = .int .i64 j ∧ Hid (l.take j = k.take j) ∧ Below w.heap.size w wr) (fun i _ => l.length - (intOf i).toNat)
    case atStart => exact ⟨0, Nat.zero_le _, rfl, Lib.hid rfl, Below.refl _ _⟩
    case round =>
      obtain ⟨j, hj, rfl, heq, hb⟩ := hrel
      have h63 := H63.out
      by_cases hlt : j < l.length
      · obtain ⟨ad, rfl, hb0, hc0⟩ := (HL.out.below hb) j hlt
        have hlt2 : j < k.length := by rw [← Hlen.out]; exact hlt
        obtain ⟨ad2, rfl, hb1, hc1⟩ := (HK.out.below hb) j hlt2
        obtain ⟨x, hx⟩ : ∃ x, x = l[j] := ⟨_, rfl⟩
        obtain ⟨y, hy⟩ : ∃ y, y = k[j] := ⟨_, rfl⟩
        have e : l.getD j [] = x := by simp [hx, List.getD_eq_getElem?_getD, hlt]
        have e2 : k.getD j [] = y := by simp [hy, List.getD_eq_getElem?_getD, hlt2]
        rw [e] at hc0
        rw [e2] at hc1
        have hi1 : (j : Int) < (l.length : Int) := by omega
        have hi2 : (j : Int) < (k.length : Int) := by omega
        have hi0 : (0 : Int) ≤ (j : Int) := by omega
        have HX := Lib.hid hx
        have HY := Lib.hid hy
        clear hx hy e e2
        obtain ⟨zx, hzx⟩ : ∃ z : ByteArray, z = ⟨x.toArray⟩ := ⟨_, rfl⟩
        obtain ⟨zy, hzy⟩ : ∃ z : ByteArray, z = ⟨y.toArray⟩ := ⟨_, rfl⟩
        have hzz : (zx.toList == zy.toList) = (x == y) := by rw [hzx, hzy, Lib.toList_data, Lib.toList_data]
        rw [← hzx] at hc0
        rw [← hzy] at hc1
        clear hzx hzy
        by_cases hxy : x = y
        · have hne : (zx.toList == zy.toList) = true := by rw [hzz]; simp [hxy]
          have hE := Lib.hid (show l.take (j + 1) = k.take (j + 1) from by rw [List.take_succ_eq_append_getElem hlt, List.take_succ_eq_append_getElem hlt2, heq.out, ← HX.out, ← HY.out, hxy])
          clear hxy hzz
          go_wp2_with fail
          go_quiet (fail)
          go_wp2_with fail
          go_roundw
          case rel => exact ⟨j + 1, by omega, by go_num, hE, hb.trans (by exact ⟨rfl, rfl, rfl, Nat.le_refl _, fun _ _ => rfl⟩)⟩
          case measure => simp [intOf]; omega
        · have hne : (zx.toList == zy.toList) = false := by rw [hzz]; simp [hxy]
          have hE := Lib.hid (show decide (l = k) = false from by
            refine decide_eq_false fun e => hxy ?_
            subst e
            rw [HX.out, HY.out])
          clear hxy hzz
          go_wp2_with fail
          go_quiet (fail)
          go_wp2_with fail
          go_ret
          rw [hE.out]
          exact ⟨rfl, hb.trans ⟨rfl, rfl, rfl, Nat.le_refl _, fun _ _ => rfl⟩⟩
      · have hje : j = l.length := by omega
        have hE := Lib.hid (show decide (l = k) = true from by
          refine decide_eq_true ?_
          have := heq.out
          rw [hje, List.take_length, Hlen.out, List.take_length] at this
          exact this)
        clear hje
        go_wp2_with fail
        go_ret
        rw [hE.out]
        exact ⟨rfl, hb⟩
  · have hE := Lib.hid (show decide (l = k) = false from decide_eq_false fun e => hlen (by rw [e]))
    have hle : ((l.length : Int) != (k.length : Int)) = true := by simp; omega
    go_enter Try.func30, Try.ntmps30
    go_wp2_with fail
    go_ret
    rw [hE.out]
    exact ⟨rfl, Below.refl _ _⟩

end Go.Proofs.Ytjggeodnoigkkaa
