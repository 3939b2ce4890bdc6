/-
  Package pins: Names, At, Clone; the closures; among.
-/
import Derived.Test.YtjggeodnoigkkaaIter
import Derived.StillTailTactics
namespace Go.Proofs.Ytjggeodnoigkkaa
open Go.RowKit Go.Maps Go.Proofs.YtjggeodnoigkkaaM

/-- What the sizes of the maps are at most, for all that is asked here. -/
def Small (M : PM) (D : DM) : Prop := M.length * 16 ≤ 140737488355328 ∧ D.length * 8 ≤ 140737488355328
/-- Names are no longer than a string may be; drops' numbers are numbers. -/
def Wf (M : PM) (D : DM) : Prop := (∀ x ∈ M, x.1.length ≤ maxLen) ∧ ∀ x ∈ D, (Lit.int .i64 x.1).wf = true

theorem field84_0 (a : Int) (s : ByteArray) (w : World) : (Instr.field 84 (.agg #[.int .i64 a, .string s]) 0).run Try.prog w = .ok (.int .i64 a) w := by kernel_rfl
theorem field84_1 (a : Int) (s : ByteArray) (w : World) : (Instr.field 84 (.agg #[.int .i64 a, .string s]) 1).run Try.prog w = .ok (.string s) w := by kernel_rfl
attribute [local go_sem] field84_0 field84_1

set_option maxHeartbeats 400000 in
theorem names_any (p bm bd : Nat) (M : PM) (D : DM) (w : World) (h : IsPins w p bm bd M D) (hsz : M.length * 16 ≤ 140737488355328) :
    Calls Try.prog 15 #[.pointer (some ⟨p, 0, none⟩)] w fun e w' => ∃ v, e = .returned v ∧ Strs w' w.heap.size v (M.map (·.1)) ∧ Below w.heap.size w w' := by
  have c0 := h.c0
  go_enter Try.func15, Try.ntmps15
  go_wp2_with (go_at_call 34; refine (keys_s _ _ _ h.m hsz).mono ?_; rintro e w1 ⟨v, rfl, hs, hb⟩)
  go_ret
  exact ⟨v, rfl, hs, hb⟩

def atF (M : PM) (s : Bs) : Int × Int := match getM M s with | some x => (x.1, 0) | none => (0, 15)

set_option maxRecDepth 100000 in
set_option maxHeartbeats 400000 in
theorem at_any (p bm bd : Nat) (M : PM) (D : DM) (s : Bs) (w : World) (h : IsPins w p bm bd M D) (hs : s.length ≤ maxLen) :
    Calls Try.prog 16 #[.pointer (some ⟨p, 0, none⟩), .string ⟨s.toArray⟩] w fun e w' => e = .returned (.tuple #[.int .i64 (atF M s).1, .int .i64 (atF M s).2]) ∧ Below w.heap.size w w' := by
  have hkey : keyOf Try.prog 9 (.string ⟨s.toArray⟩) = some (.string s) := WideMaps.keyOf_string_mk Try.underlying9 (s := ⟨s.toArray⟩) hs
  have c0 := h.c0
  cases hg : getM M s with
  | none =>
    have hh : hasM M s = false := by rw [hasM_get, hg]; rfl
    have hf := Lib.hid (show atF M s = (0, 15) from by rw [atF, hg])
    clear hg
    go_enter Try.func16, Try.ntmps16
    go_wp2_with (go_at_call 35; refine (has_s _ _ _ _ h.m hs).mono ?_; rintro e w1 ⟨rfl, hb⟩; have c0' := (h.below hb).c0)
    go_ret2
    rw [hf.out]
    exact ⟨rfl, hb⟩
  | some x =>
    have hh : hasM M s = true := by rw [hasM_get, hg]; rfl
    have hf := Lib.hid (show atF M s = (x.1, 0) from by rw [atF, hg])
    have hG := Lib.hid hg
    clear hg
    go_enter Try.func16, Try.ntmps16
    go_wp2_with (first | (go_at_call 35; refine (has_s _ _ _ _ h.m hs).mono ?_; rintro e w1 ⟨rfl, hb⟩; have h' := h.below hb; have c0' := h'.c0) | (at_lookup; refine wl_lookup _ rfl _ _ 69 rfl 9 84 (string_keyed Try.underlying9) Try.underlying69 pinC (0, []) (zero84 _) bm M rfl h'.m s _ rfl hkey ?_; rw [hG.out]; show wpList _ _ _ _ (Act.put _ _ (.agg #[.int .i64 x.1, .string ⟨x.2.toArray⟩])) _))
    go_ret2
    rw [hf.out]
    exact ⟨rfl, hb⟩

def cloneF (M : PM) (name of_ : Bs) : Int × PM :=
  if rightB name = false then (1, M) else match getM M of_ with
    | none => (15, M)
    | some x => if hasM M name = true then (16, M) else (0, putM M name (x.1, of_))

set_option maxRecDepth 100000 in
set_option maxHeartbeats 400000 in
theorem clone_any (p bm bd : Nat) (M : PM) (D : DM) (s t : Bs) (w : World) (h : IsPins w p bm bd M D) (hs : s.length ≤ maxLen) (ht : t.length ≤ maxLen) (hM : M.length < maxLen) :
    Calls Try.prog 32 #[.pointer (some ⟨p, 0, none⟩), .string ⟨s.toArray⟩, .string ⟨t.toArray⟩] w fun e w' => e = .returned (.int .i64 (cloneF M s t).1) ∧ IsPins w' p bm bd (cloneF M s t).2 D ∧ w.grownBy w' (some bm) := by
  have hs2 : s.length ≤ 9223372036854775807 := hs
  have hkey : keyOf Try.prog 9 (.string ⟨s.toArray⟩) = some (.string s) := WideMaps.keyOf_string_mk Try.underlying9 (s := ⟨s.toArray⟩) hs
  have hkey2 : keyOf Try.prog 9 (.string ⟨t.toArray⟩) = some (.string t) := WideMaps.keyOf_string_mk Try.underlying9 (s := ⟨t.toArray⟩) ht
  have c0 := h.c0
  cases hr : rightB s
  · have hf := Lib.hid (show cloneF M s t = (1, M) from by rw [cloneF, if_pos hr])
    go_enter Try.func32, Try.ntmps32
    go_wp2_with (go_at_call 38; refine (right_any _ _ hs2).mono ?_; rintro e w' ⟨rfl, rfl⟩)
    go_ret
    rw [hf.out]
    exact ⟨rfl, h, gb_refl _ _⟩
  cases hg : getM M t with
  | none =>
    have hh : hasM M t = false := by rw [hasM_get, hg]; rfl
    have hf := Lib.hid (show cloneF M s t = (15, M) from by rw [cloneF, if_neg (by simp [hr]), hg])
    clear hg
    go_enter Try.func32, Try.ntmps32
    go_wp2_with (first | (go_at_call 38; refine (right_any _ _ hs2).mono ?_; rintro e w' ⟨rfl, rfl⟩) | (go_at_call 35; refine (has_s _ _ _ _ h.m ht).mono ?_; rintro e w1 ⟨rfl, hb⟩; have c0' := (h.below hb).c0))
    go_ret
    rw [hf.out]
    exact ⟨rfl, h.below hb, gb hb _⟩
  | some x =>
    have hh : hasM M t = true := by rw [hasM_get, hg]; rfl
    cases hn : hasM M s
    · have hf := Lib.hid (show cloneF M s t = (0, putM M s (x.1, t)) from by rw [cloneF, if_neg (by simp [hr]), hg]; simp [hn])
      have hG := Lib.hid hg
      clear hg
      go_enter Try.func32, Try.ntmps32
      go_wp2_with fail
      refine (right_any _ _ hs2).mono ?_; rintro e w' ⟨rfl, rfl⟩
      go_wp2_with fail
      refine (has_s _ _ _ _ h.m ht).mono ?_; rintro e w1 ⟨rfl, hb⟩
      have h1 := h.below hb
      have c1 := h1.c0
      go_wp2_with fail
      refine (has_s _ _ _ _ h1.m hs).mono ?_; rintro e w2 ⟨rfl, hb2⟩
      have h2 := h1.below hb2
      have c2 := h2.c0
      have h3 : IsPins w2.drew p bm bd M D := h2.below (Below.refl _ _).drew
      have hl : (Instr.lookup 69 (.map (some bm)) (.string ⟨t.toArray⟩) false).run Try.prog w2.drew = .ok (.agg #[.int .i64 x.1, .string ⟨x.2.toArray⟩]) w2.drew := by
        have := h3.m.look (string_keyed Try.underlying9) Try.underlying69 (zero84 _) (key := t) hkey2
        rw [hG.out] at this
        exact this
      go_wp2_with fail
      go_still_tail 18, (by kernel_rfl)
      change wpList _ _ _ _ _ w2.drew
      go_wp2_with (at_mapUpdate; refine wl_update _ rfl _ _ _ 69 rfl 9 84 (string_keyed Try.underlying9) Try.underlying69 pinC bm M rfl h3.m hM s _ rfl hkey (x.1, t) _ rfl rfl ?_; intro w4 hm4 ht4)
      go_ret
      rw [hf.out]
      exact ⟨rfl, h3.grown_m hm4 ht4.grown, (gb ((hb.trans (hb2.mono hb.size)).drew) _).trans ht4.grown⟩
    · have hf := Lib.hid (show cloneF M s t = (16, M) from by rw [cloneF, if_neg (by simp [hr]), hg]; simp [hn])
      clear hg
      go_enter Try.func32, Try.ntmps32
      go_wp2_with fail
      refine (right_any _ _ hs2).mono ?_; rintro e w' ⟨rfl, rfl⟩
      go_wp2_with fail
      refine (has_s _ _ _ _ h.m ht).mono ?_; rintro e w1 ⟨rfl, hb⟩
      have h1 := h.below hb
      have c1 := h1.c0
      go_wp2_with fail
      refine (has_s _ _ _ _ h1.m hs).mono ?_; rintro e w2 ⟨rfl, hb2⟩
      go_wp2_with fail
      go_ret
      rw [hf.out]
      exact ⟨rfl, h1.below hb2, gb (hb.trans (hb2.mono hb.size)) _⟩

end Go.Proofs.Ytjggeodnoigkkaa
