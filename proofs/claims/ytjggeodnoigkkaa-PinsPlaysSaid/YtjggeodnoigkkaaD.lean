/-
  Package pins: Clones, Holds, Unpin.
-/
import Derived.Test.YtjggeodnoigkkaaC
import Derived.RegionTactic
import Derived.ChangeAlike
namespace Go.Proofs.Ytjggeodnoigkkaa
open Go.RowKit Go.Maps Go.Shelf Go.Proofs.YtjggeodnoigkkaaM

theorem eg55 : ∀ args W, (callFunc 55 args).run Try.prog W = .ok (.enter 55 args) W := enters_of Try.func55 (by kernel_rfl) rfl
theorem eg56 : ∀ args W, (callFunc 56 args).run Try.prog W = .ok (.enter 56 args) W := enters_of Try.func56 (by kernel_rfl) rfl

def clonesF (M : PM) (name : Bs) : List Bs := (M.filter fun x => clonesQ name x.2).map (·.1)
def holdsF (M : PM) (D : DM) (seq : Int) : List Bs := match getM D seq with | none => [] | some by_ => (M.filter fun x => holdsQ seq by_ x.2).map (·.1)

set_option maxRecDepth 100000 in
set_option maxHeartbeats 400000 in
theorem clones_any (p bm bd : Nat) (M : PM) (D : DM) (name : Bs) (w : World) (h : IsPins w p bm bd M D) (hsz : M.length * 16 ≤ 140737488355328) :
    Calls Try.prog 26 #[.pointer (some ⟨p, 0, none⟩), .string ⟨name.toArray⟩] w fun e w' => ∃ v, e = .returned v ∧ Strs w' w.heap.size v (clonesF M name) ∧ Below w.heap.size w w' := by
  have hb0 : Below w.heap.size w (w.alloc (.cells #[.string ⟨name.toArray⟩] 9)) := (Below.refl _ _).alloc (Nat.le_refl _) _
  have h1 := h.below hb0
  have hc := among_any p bm bd M D 55 #[.pointer (some ⟨w.heap.size, 0, none⟩)] (clonesQ name) (w.alloc (.cells #[.string ⟨name.toArray⟩] 9)) h1 hsz
    (fun x W hW => clones1 x.1 x.2 name w.heap.size W ((hW.cell (by simp)).trans (by simp))) eg55
  simp only [World.size_alloc] at hc
  have HC := Lib.hid hc
  clear hc hsz
  go_enter Try.func26, Try.ntmps26
  go_wp2_with fail
  refine HC.out.mono ?_
  rintro e w2 ⟨v, rfl, hs, hb⟩
  go_wp2_with fail
  go_ret
  exact ⟨v, rfl, ⟨ownsRow_base_a hs.1 (by omega), hs.2⟩, hb0.trans (hb.mono (by omega))⟩

set_option maxRecDepth 100000 in
set_option maxHeartbeats 400000 in
theorem holds_any (p bm bd : Nat) (M : PM) (D : DM) (seq : Int) (w : World) (h : IsPins w p bm bd M D) (hsz : M.length * 16 ≤ 140737488355328) (hx : (Lit.int .i64 seq).wf = true) :
    Calls Try.prog 27 #[.pointer (some ⟨p, 0, none⟩), .int .i64 seq] w fun e w' => ∃ v, e = .returned v ∧ Strs w' w.heap.size v (holdsF M D seq) ∧ Below w.heap.size w w' := by
  obtain ⟨W, hW⟩ : ∃ W, W = w.alloc (.cells #[.int .i64 seq] 3) := ⟨_, rfl⟩
  have hb0 : Below w.heap.size w W := by rw [hW]; exact (Below.refl _ _).alloc (Nat.le_refl _) _
  have h1 := h.below hb0
  have c1 := h1.c1
  have cs : W.cell? ⟨w.heap.size, 0, none⟩ = some (.int .i64 seq) := by rw [hW]; simp
  have hW' := Lib.hid hW
  have hsz1 : w.heap.size < W.heap.size := by rw [hW]; simp
  clear hW
  have h1' : IsPins W.drew p bm bd M D := h1.below (Below.refl _ _).drew
  cases hg : getM D seq with
  | none =>
    have hh : hasM D seq = false := by rw [hasM_get, hg]; rfl
    have hf := Lib.hid (show holdsF M D seq = [] from by rw [holdsF, hg])
    clear hg
    go_enter Try.func27, Try.ntmps27
    go_wp2_with fail
    rw [← hW'.out]
    go_still_tail 9, (by kernel_rfl)
    change wpList _ _ _ _ _ W.drew
    go_wp2_with (go_at_call 36; refine (has_i _ _ _ _ h1'.d hx).mono ?_; rintro e w1 ⟨rfl, hb⟩)
    go_ret
    rw [hf.out]
    exact ⟨_, rfl, ⟨World.ownsRow_nil _ _ _ _, by simp⟩, hb0.drew.trans (hb.mono (by simp; omega))⟩
  | some by_ =>
    have hh : hasM D seq = true := by rw [hasM_get, hg]; rfl
    have hf := Lib.hid (show holdsF M D seq = (M.filter fun x => holdsQ seq by_ x.2).map (·.1) from by rw [holdsF, hg])
    have HG := Lib.hid hg
    clear hg
    go_enter Try.func27, Try.ntmps27
    go_wp2_with fail
    rw [← hW'.out]
    go_still_tail 9, (by kernel_rfl)
    change wpList _ _ _ _ _ W.drew
    go_wp2_with (go_at_call 36; refine (has_i _ _ _ _ h1'.d hx).mono ?_; rintro e w1 ⟨rfl, hb⟩)
    have h2 : IsPins w1 p bm bd M D := h1'.below hb
    have c2 := h2.c1
    have hs1 := hb.size
    have cs2 : w1.cell? ⟨w.heap.size, 0, none⟩ = some (.int .i64 seq) := (hb.cell (by simpa using hsz1)).trans cs
    have hsz2 : w.heap.size < w1.heap.size := by simp at hs1; omega
    have hlk : (Instr.lookup 74 (.map (some bd)) (.int .i64 seq) false).run Try.prog w1.drew = .ok (.int .i64 by_) w1.drew :=
      (h2.below (Below.refl _ _).drew).d.at_mem (seq, by_) (mem_of_get HG.out)
    have hp1 := h2.lt
    have hlk2 : (Instr.lookup 74 (.map (some bd)) (.int .i64 seq) false).run Try.prog (w1.alloc (.cells #[.int .i64 0] 3)).drew = .ok (.int .i64 by_) (w1.alloc (.cells #[.int .i64 0] 3)).drew :=
      (h2.below ((Below.refl _ _).alloc (Nat.le_refl _) _).drew).d.at_mem (seq, by_) (mem_of_get HG.out)
    have hb3 : Below w1.heap.size w1 (w1.alloc (.cells #[.int .i64 by_] 3)).drew := ((Below.refl _ _).alloc (Nat.le_refl _) _).drew
    have h3 := h2.below hb3
    have HC := Lib.hid (among_any p bm bd M D 56 #[.pointer (some ⟨w.heap.size, 0, none⟩), .pointer (some ⟨w1.heap.size, 0, none⟩)] (holdsQ seq by_) (w1.alloc (.cells #[.int .i64 by_] 3)).drew h3 hsz
      (fun x X hX => holds1 x.1 x.2 seq by_ w.heap.size w1.heap.size X ((hX.cell (by simp; omega)).trans ((hb3.cell (by simpa using hsz2)).trans cs2)) ((hX.cell (by simp)).trans (by simp))) eg56)
    have HB := Lib.hid (show Below w.heap.size w (w1.alloc (.cells #[.int .i64 by_] 3)).drew from (hb0.drew.trans (hb.mono (by simp; omega))).trans (hb3.mono (by omega)))
    clear hb3 h3
    go_wp2_with fail
    go_region
    all_goals
      go_wp2_with fail
      refine HC.out.mono ?_
      rintro e w4 ⟨v, rfl, hs, hb4⟩
      go_wp2_with fail
      go_ret
      rw [hf.out]
      have hle : w.heap.size ≤ (w1.alloc (.cells #[.int .i64 by_] 3)).drew.heap.size := HB.out.size
      exact ⟨v, rfl, ⟨ownsRow_base_a hs.1 hle, hs.2⟩, HB.out.trans (hb4.mono hle)⟩

def unpinF (M : PM) (name : Bs) : Int × PM := if hasM M name = false then (15, M) else if (clonesF M name).length > 0 then (37, M) else (0, delM M name)

set_option maxRecDepth 100000 in
set_option maxHeartbeats 400000 in
theorem unpin_any (p bm bd : Nat) (M : PM) (D : DM) (s : Bs) (w : World) (h : IsPins w p bm bd M D) (hsz : M.length * 16 ≤ 140737488355328) (hs : s.length ≤ maxLen) :
    Calls Try.prog 22 #[.pointer (some ⟨p, 0, none⟩), .string ⟨s.toArray⟩] w fun e w' => e = .returned (.int .i64 (unpinF M s).1) ∧ IsPins w' p bm bd (unpinF M s).2 D ∧ w.grownBy w' (some bm) := by
  have hkey : keyOf Try.prog 9 (.string ⟨s.toArray⟩) = some (.string s) := WideMaps.keyOf_string_mk Try.underlying9 (s := ⟨s.toArray⟩) hs
  have c0 := h.c0
  cases hh : hasM M s
  · have hf := Lib.hid (show unpinF M s = (15, M) from by rw [unpinF, if_pos hh])
    go_enter Try.func22, Try.ntmps22
    go_wp2_with (go_at_call 35; refine (has_s _ _ _ _ h.m hs).mono ?_; rintro e w1 ⟨rfl, hb⟩)
    go_ret
    rw [hf.out]
    exact ⟨rfl, h.below hb, gb hb _⟩
  · by_cases hc : (clonesF M s).length > 0
    · have hf := Lib.hid (show unpinF M s = (37, M) from by rw [unpinF, if_neg (by simp [hh]), if_pos hc])
      go_enter Try.func22, Try.ntmps22
      go_wp2_with fail
      refine (has_s _ _ _ _ h.m hs).mono ?_
      rintro e w1 ⟨rfl, hb⟩
      have h1 := h.below hb
      go_wp2_with fail
      refine (clones_any _ _ _ _ _ s _ h1 hsz).mono ?_
      rintro e w2 ⟨v, rfl, hv, hb2⟩
      obtain ⟨A, cap, rfl, _⟩ := hv.shape
      go_wp2_with fail
      go_ret
      rw [hf.out]
      exact ⟨rfl, h1.below hb2, gb (hb.trans (hb2.mono hb.size)) _⟩
    · have hf := Lib.hid (show unpinF M s = (0, delM M s) from by rw [unpinF, if_neg (by simp [hh]), if_neg hc])
      go_enter Try.func22, Try.ntmps22
      go_wp2_with fail
      refine (has_s _ _ _ _ h.m hs).mono ?_
      rintro e w1 ⟨rfl, hb⟩
      have h1 := h.below hb
      go_wp2_with fail
      refine (clones_any _ _ _ _ _ s _ h1 hsz).mono ?_
      rintro e w2 ⟨v, rfl, hv, hb2⟩
      have h2 := h1.below hb2
      have c2 := h2.c0
      obtain ⟨A, cap, rfl, _⟩ := hv.shape
      go_wp2_with (at_delete; refine wl_delete _ rfl _ _ 69 9 rfl 84 (string_keyed Try.underlying9) Try.underlying69 pinC bm M rfl h2.m s _ rfl hkey ?_; intro w3 hm3 ht3)
      go_ret
      rw [hf.out]
      exact ⟨rfl, h2.grown_m hm3 ht3.grown, (gb (hb.trans (hb2.mono hb.size)) _).trans ht3.grown⟩

end Go.Proofs.Ytjggeodnoigkkaa
