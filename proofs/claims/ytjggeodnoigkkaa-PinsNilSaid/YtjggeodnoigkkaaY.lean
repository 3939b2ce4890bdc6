/-
  PinsNil: the walk.
-/
import Derived.Test.YtjggeodnoigkkaaX
namespace Go.Proofs.Ytjggeodnoigkkaa
open Go.RowKit Go.Maps Go.Shelf Go.Proofs.YtjggeodnoigkkaaM

set_option maxRecDepth 100000 in
set_option maxHeartbeats 1000000 in
theorem encode_nil (w : World) : Calls Try.prog 21 #[.pointer none] w fun e w' => e = .returned (.string (strOfNums (List.replicate 16 0))) ∧ Below w.heap.size w w' := by
  obtain ⟨z1, hz1⟩ : ∃ z : ByteArray, z = ⟨(eightB 0).toArray⟩ := ⟨_, rfl⟩
  have HZ := Lib.hid (show z1 ++ z1 = strOfNums (List.replicate 16 0) from by rw [hz1, cat_bs]; decide +kernel)
  have hs : z1.size = 8 := by rw [hz1]; rfl
  have h8 : ∀ W, Calls Try.prog 42 #[.int .i64 0] W fun e w' => e = .returned (.string z1) ∧ Below W.heap.size W w' := by
    rw [hz1]
    exact fun W => eight_any 0 W
  have H8 := Lib.hid h8
  clear h8 hz1
  go_enter Try.func21, Try.ntmps21
  go_wp2_with fail
  refine (new_any _).mono ?_
  rintro e w1 ⟨p, bm, bd, rfl, h1, hb1, _, _, _⟩
  go_wp2_with fail
  refine (names_any _ _ _ _ _ _ h1 (by decide)).mono ?_
  rintro e w2 ⟨v, rfl, hs2, hb2⟩
  obtain ⟨A, cap, rfl, _⟩ := hs2.shape
  clear hs2
  have h2 := h1.below hb2
  dsimp only [List.map_nil, List.length_nil]
  go_wp2_with fail
  refine (H8.out _).mono ?_
  rintro e w3 ⟨rfl, hb3⟩
  have h3 := h2.below hb3
  have hb := hb1.trans ((hb2.trans (hb3.mono hb2.size)).mono hb1.size)
  clear hb1 hb2 hb3 h1 h2
  go_wp2_with fail
  go_loopw [4, 21] (fun v i wr => v = .string z1 ∧ i = .int .i64 0 ∧ wr = w3) (fun _ _ _ => 0)
  case atStart => exact ⟨rfl, rfl, rfl⟩
  case round =>
    obtain ⟨rfl, rfl, rfl⟩ := hrel
    go_wp2_with fail
    refine (pending_any _ _ _ _ _ _ h3 (by decide)).mono ?_
    rintro e w4 ⟨v, rfl, hs4, hb4⟩
    obtain ⟨A, cap, rfl, _⟩ := hs4.shape
    clear hs4
    dsimp only [List.length_nil]
    go_wp2_with fail
    refine (H8.out _).mono ?_
    rintro e w5 ⟨rfl, hb5⟩
    have hb' := hb.trans ((hb4.trans (hb5.mono hb4.size)).mono hb.size)
    clear hb hb4 hb5 h3
    go_wp2_with fail
    go_loopw [4, 55] (fun v i wr => v = .string (z1 ++ z1) ∧ i = .int .i64 0 ∧ wr = w5) (fun _ _ _ => 0)
    case atStart => exact ⟨rfl, rfl, rfl⟩
    case round =>
      obtain ⟨rfl, rfl, rfl⟩ := hrel
      go_wp2_with fail
      go_ret
      rw [← HZ.out]
      exact ⟨rfl, hb'⟩

set_option maxRecDepth 100000 in
set_option maxHeartbeats 1000000 in
theorem nil_walk (o : OpV) (A4 : Option Addr) (c4 : Nat) (A5 : Option Addr) (c5 : Nat) (n : Int) (w : World) (l4 : o.drops.length ≤ c4) (l5 : o.nums.length ≤ c5) (r4 : RdD w A4 o.drops) (r5 : RdI w A5 o.nums)
    (n1 : o.name.length ≤ maxLen) (n2 : o.of_.length ≤ maxLen) (wf : ∀ x ∈ o.nums, (Lit.int .i64 x).wf = true) :
    Calls Try.prog 6 #[.agg #[.int .i64 o.ask, .string ⟨o.name.toArray⟩, .string ⟨o.of_.toArray⟩, .int .i64 o.n, .slice A4 o.drops.length c4, .slice A5 o.nums.length c5], .int .i64 n] w
      fun e w' => e = .returned (.bool true) ∧ Below w.heap.size w w' := by
  obtain ⟨W, hW⟩ : ∃ W, W = (w.alloc (.cells #[.int .i64 o.ask, .string ⟨o.name.toArray⟩, .string ⟨o.of_.toArray⟩, .int .i64 o.n, .slice A4 o.drops.length c4, .slice A5 o.nums.length c5] 32)).alloc (.cells #[.int .i64 o.ask, .string ⟨o.name.toArray⟩, .string ⟨o.of_.toArray⟩, .int .i64 o.n, .slice A4 o.drops.length c4, .slice A5 o.nums.length c5] 32) := ⟨_, rfl⟩
  have hbW : Below w.heap.size w W := by rw [hW]; exact ((Below.refl _ _).alloc (Nat.le_refl _) _).alloc (by simp) _
  have hA : OpAt W ⟨w.heap.size, 0, none⟩ o A4 c4 A5 c5 := by
    refine ⟨?_, ?_, ?_, ?_, ?_, ?_, l4, l5, r4.below hbW, r5.below hbW, n1, n2, wf⟩ <;> (rw [hW]; go_simp)
  have hB : RdOps W (some ⟨w.heap.size + 1, 0, none⟩) [o] := by
    intro k hk
    have : k = 0 := by simpa using hk
    subst this
    refine ⟨_, A4, c4, A5, c5, rfl, ?_⟩
    refine ⟨?_, ?_, ?_, ?_, ?_, ?_, l4, l5, r4.below hbW, r5.below hbW, n1, n2, wf⟩ <;> (rw [hW]; go_simp)
  have HF := Lib.hid (few_any (some ⟨w.heap.size + 1, 0, none⟩) 1 [o] W hB (show 1 ≤ maxLen by decide))
  clear hB
  rw [hW] at HF
  have HW := Lib.hid hW
  clear hW l4 l5 r4 r5 n1 n2 wf
  go_enter Try.func6, Try.ntmps6
  go_wp2_with fail
  refine HF.out.mono ?_
  rw [← HW.out]
  rintro e w1 ⟨rfl, hb1⟩
  have hb2 := hbW.trans (hb1.mono hbW.size)
  have hA1 := hA.below hb1
  clear hbW hb1 hA
  cases hf : fewB [o]
  · go_wp2_with fail
    refine (awake_any _).mono ?_
    rintro e w3 ⟨rfl, hb4⟩
    go_wp2_with fail
    go_ret
    exact ⟨rfl, hb2.trans (hb4.mono hb2.size)⟩
  · clear hf
    have HA := Lib.hid hA1
    have x1 := hA1.x1
    clear hA1
    go_wp2_with fail
    refine (at_nil _ _).mono ?_
    rintro e w3 ⟨rfl, hb3⟩
    have HA3 := Lib.hid (HA.out.below hb3)
    clear x1
    go_upto_region 5 with fail
    refine nil5 _ w.heap.size o A4 c4 A5 c5 n (strOfNums (List.replicate 16 0)) _ HA3.out rfl encode_nil _ _ _ _ _ _ _ _ _ _ _ _ _ _ _ _ _ _ _ _ _ _ _ _ _ _ _ _ _ _ _ _ _ _ _ _ _ _ _ _ _ _ _ _ _ _ _ _ _ _ _ _ _ _ _ _ _ _ _ _ _ _ _ _ _ _ _ _ _ _ _ ?_
    intro w9 _ _ _ _ _ _ _ _ _ _ _ _ _ _ _ _ _ _ _ _ _ _ _ _ _ _ _ _ _ _ _ _ _ _ _ _ _ _ _ _ _ _ _ _ _ _ _ _ _ _ _ _ _ _ _ _ hb9
    dsimp only [Exit.inBlock, Exit.then]
    go_wp2_with fail
    go_ret
    exact ⟨rfl, hb2.trans ((hb3.trans (hb9.mono hb3.size)).mono hb2.size)⟩

end Go.Proofs.Ytjggeodnoigkkaa
