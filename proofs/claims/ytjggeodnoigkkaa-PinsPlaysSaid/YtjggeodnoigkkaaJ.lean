/-
  The laws' awake.
-/
import Derived.Test.YtjggeodnoigkkaaI
namespace Go.Proofs.Ytjggeodnoigkkaa
open Go.RowKit Go.Maps Go.Shelf Go.Proofs.YtjggeodnoigkkaaM

theorem aw_pin : pinF [] [97] 5 = (0, [([97], (5, []))]) := by decide +kernel
theorem aw_drop : dropF [] [(3, 9), (4, 5)] = (0, [(3, 9), (4, 5)]) := by decide +kernel
theorem aw_holds : holdsF [([97], (5, []))] [(3, 9), (4, 5)] 3 = [[97]] := by decide +kernel
theorem aw_free1 : freeF [([97], (5, []))] [(3, 9), (4, 5)] 9 = [4] := by decide +kernel
theorem aw_unpin : unpinF [([97], (5, []))] [97] = (0, []) := by decide +kernel
theorem aw_free2 : freeF [] [(3, 9), (4, 5)] 9 = [3, 4] := by decide +kernel
theorem aw_free3 : freeF [] [(3, 9), (4, 5)] 8 = [4] := by decide +kernel

theorem Ints.rd {w : World} {base : Nat} {v : Value} {l : List Int} (h : Ints w base v l) : ∃ A cap, v = .slice A l.length cap ∧ RdI w A l := by
  obtain ⟨A, cap, e, hc⟩ := h.shape
  refine ⟨A, cap, e, fun k hk => ?_⟩
  obtain ⟨g, e1, h1, h2⟩ := hc k hk
  refine ⟨_, e1, h1, ?_⟩
  have : (⟨g, 0, none⟩ : Addr).add k = ⟨g, k, none⟩ := by unfold Addr.add; split <;> simp_all
  rw [this]
  exact h2

theorem rd_lit1 (w : World) (x : Int) (t : TypeId) : RdI (w.alloc (.cells #[.int .i64 x] t)) (some ⟨w.heap.size, 0, none⟩) [x] := fun k hk => by
  obtain rfl : k = 0 := by simp at hk; omega
  exact ⟨_, rfl, by simp, by simp [Addr.add]⟩
theorem rd_lit2 (w : World) (x y : Int) (t : TypeId) : RdI (w.alloc (.cells #[.int .i64 x, .int .i64 y] t)) (some ⟨w.heap.size, 0, none⟩) [x, y] := fun k hk => by
  match k, hk with
  | 0, _ => exact ⟨_, rfl, by simp, by simp [Addr.add]⟩
  | 1, _ => exact ⟨_, rfl, by simp, by simp [Addr.add]⟩
theorem rd_drops2 (w : World) (x y : Int × Int) (t : TypeId) : RdD (w.alloc (.cells #[.int .i64 x.1, .int .i64 x.2, .int .i64 y.1, .int .i64 y.2] t)) (some ⟨w.heap.size, 0, none⟩) [x, y] := fun k hk => by
  match k, hk with
  | 0, _ => exact ⟨_, rfl, by simp, by simp [Addr.add], by simp [Addr.add]⟩
  | 1, _ => exact ⟨_, rfl, by simp, by simp [Addr.add], by simp [Addr.add]⟩

theorem RdI.keptM {w w' : World} {A : Option Addr} {l : List Int} (h : RdI w A l) {b : Nat} {M : PM} (hd : PMap w b M) (hg : w.grownBy w' (some b)) : RdI w' A l := fun k hk => by
  obtain ⟨ad, e, hlt, h0⟩ := h k hk
  have n0 := ne_map' h0 hd
  exact ⟨ad, e, Nat.lt_of_lt_of_le hlt hg.size, hg.cell h0 (by simpa using n0)⟩

set_option maxRecDepth 100000 in
set_option maxHeartbeats 2000000 in
theorem awake_any (w : World) : Calls Try.prog 11 #[] w fun e w' => e = .returned (.bool true) ∧ Below w.heap.size w w' := by
  go_enter Try.func11, Try.ntmps11
  go_wp2_with fail
  refine (new_any _).mono ?_
  rintro e w1 ⟨p, bm, bd, rfl, h1, hb1, hp, hm, hd⟩
  go_wp2_with fail
  refine (pin_any p bm bd [] [] [97] 5 _ h1 (by decide) (by decide)).mono ?_
  rintro e w2 ⟨rfl, h2, hg2⟩
  rw [aw_pin] at h2 ⊢
  have hb2 := hb1.trans (below_of_grown hg2 hm hb1.size)
  clear hg2 h1 hb1
  go_wp2_with fail
  have hbx : Below w2.heap.size w2 (w2.alloc (.cells #[.int .i64 3, .int .i64 9, .int .i64 4, .int .i64 5] 40)) := (Below.refl _ _).alloc (Nat.le_refl _) _
  refine (drop_any p bm bd _ [] _ 2 [(3, 9), (4, 5)] _ (h2.below hbx) (rd_drops2 w2 (3, 9) (4, 5) 40) (by decide) (by decide) (by decide)).mono ?_
  rintro e w3 ⟨rfl, h3, hg3⟩
  rw [aw_drop] at h3 ⊢
  have hbx' := hb2.trans (hbx.mono hb2.size)
  have hb3 := hbx'.trans (below_of_grown hg3 hd hbx'.size)
  clear hg3 h2 hb2 hbx hbx'
  go_wp2_with fail
  refine (holds_any p bm bd _ _ 3 _ h3 (by decide) (by decide)).mono ?_
  rintro e w4 ⟨v4, rfl, hs4, hb⟩
  rw [aw_holds] at hs4
  have h4 := h3.below hb
  have hb4 := hb3.trans (hb.mono hb3.size)
  clear hb hb3 h3
  go_wp2_with fail
  refine (free_any p bm bd _ _ 9 _ h4 (by decide) (by decide)).mono ?_
  rintro e w5 ⟨v5, rfl, hs5, hb⟩
  rw [aw_free1] at hs5
  have h5 := h4.below hb
  have hs4' := hs4.below hb
  have hb5 := hb4.trans (hb.mono hb4.size)
  clear hb hb4 h4 hs4
  go_wp2_with fail
  refine (unpin_any p bm bd _ _ [97] _ h5 (by decide) (by decide)).mono ?_
  rintro e w6 ⟨rfl, h6, hg6⟩
  rw [aw_unpin] at h6 ⊢
  have hb6 := hb5.trans (below_of_grown hg6 hm hb5.size)
  obtain ⟨A4, cap4, rfl, hc4⟩ := hs4'.shape
  obtain ⟨g4, rfl, hg4, hc4⟩ := hc4 0 (by decide)
  obtain ⟨A5, cap5, rfl, hr5⟩ := hs5.rd
  have hne4 := ne_map' hc4 h5.m
  have hc4' : w6.cell? ⟨g4, 0, none⟩ = some (.string ⟨[97].toArray⟩) := hg6.cell hc4 (by simpa using hne4)
  have hr5' := hr5.keptM h5.m hg6
  have HR5 := Lib.hid (hr5'.below ((Below.refl _ _).alloc (Nat.le_refl _) (.cells #[.int .i64 4] 3)))
  clear hr5 hr5' hs4' hs5 hg6 h5 hb5 hc4 hne4
  go_wp2_with fail
  refine (ints_any A5 _ 1 1 cap5 1 [4] [4] _ rfl rfl HR5.out (rd_lit1 w6 4 3) (by decide)).mono ?_
  rintro e w7 ⟨rfl, hb⟩
  have hbx : Below w6.heap.size w6 w7 := ((Below.refl _ _).alloc (Nat.le_refl _) _).trans (hb.mono (by simp))
  have h7 := h6.below hbx
  have hb7 := hb6.trans (hbx.mono hb6.size)
  clear hb hbx hb6 h6 HR5
  go_wp2_with fail
  refine (free_any p bm bd _ _ 9 _ h7 (by decide) (by decide)).mono ?_
  rintro e w8 ⟨v8, rfl, hs8, hb⟩
  rw [aw_free2] at hs8
  obtain ⟨A8, cap8, rfl, hr8⟩ := hs8.rd
  have h8 := h7.below hb
  have hb8 := hb7.trans (hb.mono hb7.size)
  have HR8 := Lib.hid (hr8.below ((Below.refl _ _).alloc (Nat.le_refl _) (.cells #[.int .i64 3, .int .i64 4] 3)))
  clear hs8 hr8 hb hb7 h7
  go_wp2_with fail
  refine (ints_any A8 _ 2 2 cap8 2 [3, 4] [3, 4] _ rfl rfl HR8.out (rd_lit2 w8 3 4 3) (by decide)).mono ?_
  rintro e w9 ⟨rfl, hb⟩
  have hbx : Below w8.heap.size w8 w9 := ((Below.refl _ _).alloc (Nat.le_refl _) _).trans (hb.mono (by simp))
  have h9 := h8.below hbx
  have hb9 := hb8.trans (hbx.mono hb8.size)
  clear hb hbx hb8 h8 HR8
  go_wp2_with fail
  refine (free_any p bm bd _ _ 8 _ h9 (by decide) (by decide)).mono ?_
  rintro e w10 ⟨v10, rfl, hs10, hb⟩
  rw [aw_free3] at hs10
  obtain ⟨A10, cap10, rfl, hr10⟩ := hs10.rd
  have hb10 := hb9.trans (hb.mono hb9.size)
  have HR10 := Lib.hid (hr10.below ((Below.refl _ _).alloc (Nat.le_refl _) (.cells #[.int .i64 4] 3)))
  clear hs10 hr10 hb hb9 h9
  go_wp2_with fail
  refine (ints_any A10 _ 1 1 cap10 1 [4] [4] _ rfl rfl HR10.out (rd_lit1 w10 4 3) (by decide)).mono ?_
  rintro e w11 ⟨rfl, hb⟩
  have hbx : Below w10.heap.size w10 w11 := ((Below.refl _ _).alloc (Nat.le_refl _) _).trans (hb.mono (by simp))
  have hb11 := hb10.trans (hbx.mono hb10.size)
  clear hb hbx hb10 HR10
  go_wp2_with fail
  go_ret
  exact ⟨rfl, hb11⟩

end Go.Proofs.Ytjggeodnoigkkaa
