/-
  Package pins: the small functions, each by a contract.
-/
import Derived.Test.YtjggeodnoigkkaaProg
import Derived.Test.YtjggeodnoigkkaaMem
import Derived.WalkKit
import Derived.WalkLawsBesides
import Derived.Outline
import Derived.Deep.QuietTactic
import Derived.BigQuiet
import Derived.Lib.Hide
import Derived.Carry
import Derived.OwnWalk
import Derived.Maps.AppendAt
import Derived.StringKeys
namespace Go.Proofs.Ytjggeodnoigkkaa
open Go.RowKit Go.Maps Go.Proofs.YtjggeodnoigkkaaM

def pinC : Codec (Int × Bs) where
  enc x := .agg #[.int .i64 x.1, .string ⟨x.2.toArray⟩]
  ev x := .agg [.lit (.int .i64 x.1), .lit (.string x.2)]
  enc_inj a b h := by
    obtain ⟨a1, a2⟩ := a
    obtain ⟨b1, b2⟩ := b
    simpa using h
  ev_inj a b h := by
    obtain ⟨a1, a2⟩ := a
    obtain ⟨b1, b2⟩ := b
    simpa using h
def intC : Codec Int where
  enc x := .int .i64 x
  ev x := .lit (.int .i64 x)
  enc_inj a b h := by simpa using h
  ev_inj a b h := by simpa using h

abbrev PM := List (Bs × (Int × Bs))
abbrev DM := List (Int × Int)

theorem zero84 (w : World) : (zeroValue 84).run Try.prog w = .ok (pinC.enc (0, [])) w := by kernel_rfl
theorem zero3 (w : World) : (zeroValue 3).run Try.prog w = .ok (intC.enc 0) w := by kernel_rfl

/-- The map of pins. -/
abbrev PMap (w : World) (b : Nat) (m : PM) : Prop := mapIs w Try.prog 9 pinC b m
/-- The map of drops. -/
abbrev DMap (w : World) (b : Nat) (m : DM) : Prop := mapIs w Try.prog 3 intC b m

set_option maxHeartbeats 400000 in
theorem has_s (b : Nat) (m : PM) (s : Bs) (w : World) (h : PMap w b m) (hs : s.length ≤ maxLen) :
    Calls Try.prog 35 #[.agg #[.map (some b)], .string ⟨s.toArray⟩] w fun e w' => e = .returned (.bool (hasM m s)) ∧ Below w.heap.size w w' := by
  have hkey : keyOf Try.prog 9 (.string ⟨s.toArray⟩) = some (.string s) := WideMaps.keyOf_string_mk Try.underlying9 (s := ⟨s.toArray⟩) hs
  go_enter Try.func35, Try.ntmps35
  go_wp2_with (at_lookup; refine wl_lookup_ok _ rfl _ _ 69 rfl 9 84 (string_keyed Try.underlying9) Try.underlying69 pinC (0, []) (zero84 _) b m rfl (h.alloc _) s _ rfl hkey ?_; show wpList _ _ _ _ (Act.put _ _ (.tuple #[.agg #[.int .i64 _, .string _], .bool _])) _)
  go_ret
  exact ⟨rfl, ((Below.refl _ _).alloc (Nat.le_refl _) _).alloc (by simp) _⟩

set_option maxHeartbeats 400000 in
theorem has_i (b : Nat) (m : DM) (x : Int) (w : World) (h : DMap w b m) (hx : (Lit.int .i64 x).wf = true) :
    Calls Try.prog 36 #[.agg #[.map (some b)], .int .i64 x] w fun e w' => e = .returned (.bool (hasM m x)) ∧ Below w.heap.size w w' := by
  have hkey := keyOf_int_mk Try.underlying3 hx
  go_enter Try.func36, Try.ntmps36
  go_wp2_with (at_lookup; refine wl_lookup_ok _ rfl _ _ 74 rfl 3 3 (int_keyed Try.underlying3) Try.underlying74 intC 0 (zero3 _) b m rfl (h.alloc _) x _ rfl hkey ?_; show wpList _ _ _ _ (Act.put _ _ (.tuple #[.int .i64 _, .bool _])) _)
  go_ret
  exact ⟨rfl, (Below.refl _ _).alloc (Nat.le_refl _) _⟩

def rightB (s : Bs) : Bool := !s.isEmpty && decide (s.length ≤ 64)

set_option maxHeartbeats 400000 in
theorem right_any (s : Bs) (w : World) (hs : s.length ≤ 9223372036854775807) :
    Calls Try.prog 38 #[.string ⟨s.toArray⟩] w fun e w' => e = .returned (.bool (rightB s)) ∧ w = w' := by
  have hs2 : (⟨s.toArray⟩ : ByteArray).size ≤ 9223372036854775807 := hs
  go_enter Try.func38, Try.ntmps38
  go_wp2
  · go_ret
    exact ⟨by simp [rightB, *], rfl⟩
  · go_ret
    have e : decide ((s.length : Int) ≤ 64) = decide (s.length ≤ 64) := by rw [decide_eq_decide]; omega
    exact ⟨by simp only [rightB, ← e]; rfl, rfl⟩

def mayB (x : Int × Int) : Bool := decide (1 ≤ x.1) && (decide (x.1 < x.2) && decide (x.2 < 1099511627776))

set_option maxHeartbeats 400000 in
theorem may_any (a b : Int) (w : World) :
    Calls Try.prog 39 #[.agg #[.int .i64 a, .int .i64 b]] w fun e w' => e = .returned (.bool (mayB (a, b))) ∧ Below w.heap.size w w' := by
  go_enter Try.func39, Try.ntmps39
  go_wp2
  all_goals (go_ret; exact ⟨by simp [mayB, *]; try omega, (Below.refl _ _).alloc (Nat.le_refl _) _⟩)

theorem gb {w w1 : World} (h : Below w.heap.size w w1) (row : Option Nat) : w.grownBy w1 row := ⟨h.os, h.tape, h.output, h.size, fun i hi _ => h.block i hi⟩
theorem gb_refl (w : World) (row : Option Nat) : w.grownBy w row := gb (Below.refl _ _) row
theorem ne_map {w : World} {p o b : Nat} {v : Value} {K V : Type} [DecidableEq K] [MKey K] {P : Program} {kt : TypeId} {C : Codec V} {m : List (K × V)} (c : w.cell? ⟨p, o, none⟩ = some v) (h : mapIs w P kt C b m) : p ≠ b := by
  rintro rfl
  obtain ⟨es, clock, hb, _⟩ := h.2
  simp [World.cell?, hb] at c

/-- THE PINS AT BLOCK p. -/
structure IsPins (w : World) (p bm bd : Nat) (M : PM) (D : DM) : Prop where
  c0 : w.cell? ⟨p, 0, none⟩ = some (.map (some bm))
  c1 : w.cell? ⟨p, 1, none⟩ = some (.map (some bd))
  m : PMap w bm M
  d : DMap w bd D
  ne : bm ≠ bd

theorem IsPins.lt {w : World} {p bm bd : Nat} {M : PM} {D : DM} (h : IsPins w p bm bd M D) : p < w.heap.size := World.block_lt_of_cell? _ _ h.c0
theorem IsPins.grown {w w' : World} {p bm bd : Nat} {M : PM} {D : DM} (h : IsPins w p bm bd M D) (hg : w.grownBy w' none) : IsPins w' p bm bd M D :=
  ⟨hg.cell h.c0 (by simp), hg.cell h.c1 (by simp), h.m.kept hg (by simp), h.d.kept hg (by simp), h.ne⟩
theorem IsPins.below {w w' : World} {p bm bd : Nat} {M : PM} {D : DM} (h : IsPins w p bm bd M D) (hb : Below w.heap.size w w') : IsPins w' p bm bd M D := h.grown (gb hb none)
theorem IsPins.grown_m {w w' : World} {p bm bd : Nat} {M M' : PM} {D : DM} (h : IsPins w p bm bd M D) (hm : PMap w' bm M') (hg : w.grownBy w' (some bm)) : IsPins w' p bm bd M' D := by
  have n0 := ne_map h.c0 h.m
  have n1 := h.ne.symm
  exact ⟨hg.cell h.c0 (by simpa using n0), hg.cell h.c1 (by simpa using n0), hm, h.d.kept hg (by simpa using n1), h.ne⟩
theorem IsPins.grown_d {w w' : World} {p bm bd : Nat} {M : PM} {D D' : DM} (h : IsPins w p bm bd M D) (hd : DMap w' bd D') (hg : w.grownBy w' (some bd)) : IsPins w' p bm bd M D' := by
  have n0 := ne_map h.c0 h.d
  have n1 := h.ne
  exact ⟨hg.cell h.c0 (by simpa using n0), hg.cell h.c1 (by simpa using n0), h.m.kept hg (by simpa using n1), hd, h.ne⟩

set_option maxHeartbeats 400000 in
theorem new_any (w : World) : Calls Try.prog 9 #[] w fun e w' => ∃ p bm bd, e = .returned (.pointer (some ⟨p, 0, none⟩)) ∧ IsPins w' p bm bd [] [] ∧ Below w.heap.size w w' ∧ w.heap.size ≤ p ∧ w.heap.size ≤ bm ∧ w.heap.size ≤ bd := by
  have hmm := @run_makeMap Try.prog
  go_enter Try.func9, Try.ntmps9
  go_wp2
  go_ret
  refine ⟨w.heap.size + 2, w.heap.size, w.heap.size + 1, rfl, ⟨by go_simp, by go_simp, ((mapIs_made w _ _ _).alloc _).alloc _, ?_, by omega⟩, (((Below.refl _ _).alloc (Nat.le_refl _) _).alloc (by simp) _).alloc (by simp; omega) _, by omega, by omega, by omega⟩
  have := mapIs_made (K := Int) (w.alloc (.map #[] 0)) Try.prog 3 intC
  simp only [World.size_alloc] at this
  exact this.alloc _

def pinF (M : PM) (name : Bs) (x : Int) : Int × PM :=
  if rightB name = false ∨ x < 0 ∨ 1099511627776 ≤ x then (1, M) else if hasM M name = true then (16, M) else (0, putM M name (x, []))

set_option maxRecDepth 100000 in
set_option maxHeartbeats 400000 in
theorem pin_any (p bm bd : Nat) (M : PM) (D : DM) (s : Bs) (x : Int) (w : World) (h : IsPins w p bm bd M D) (hs : s.length ≤ maxLen) (hM : M.length < maxLen) :
    Calls Try.prog 18 #[.pointer (some ⟨p, 0, none⟩), .string ⟨s.toArray⟩, .int .i64 x] w fun e w' => e = .returned (.int .i64 (pinF M s x).1) ∧ IsPins w' p bm bd (pinF M s x).2 D ∧ w.grownBy w' (some bm) := by
  have hs2 : s.length ≤ 9223372036854775807 := hs
  have hkey : keyOf Try.prog 9 (.string ⟨s.toArray⟩) = some (.string s) := WideMaps.keyOf_string_mk Try.underlying9 (s := ⟨s.toArray⟩) hs
  have c0 := h.c0
  cases hr : rightB s
  · have hf := Lib.hid (show pinF M s x = (1, M) from by rw [pinF, if_pos (.inl hr)])
    go_enter Try.func18, Try.ntmps18
    go_wp2_with (go_at_call 38; refine (right_any _ _ hs2).mono ?_; rintro e w' ⟨rfl, rfl⟩)
    go_ret
    rw [hf.out]
    exact ⟨rfl, h, gb_refl _ _⟩
  by_cases h0 : x < 0
  · have hf := Lib.hid (show pinF M s x = (1, M) from by rw [pinF, if_pos (.inr (.inl h0))])
    go_enter Try.func18, Try.ntmps18
    go_wp2_with (go_at_call 38; refine (right_any _ _ hs2).mono ?_; rintro e w' ⟨rfl, rfl⟩)
    go_ret
    rw [hf.out]
    exact ⟨rfl, h, gb_refl _ _⟩
  by_cases h1 : 1099511627776 ≤ x
  · have hf := Lib.hid (show pinF M s x = (1, M) from by rw [pinF, if_pos (.inr (.inr h1))])
    go_enter Try.func18, Try.ntmps18
    go_wp2_with (go_at_call 38; refine (right_any _ _ hs2).mono ?_; rintro e w' ⟨rfl, rfl⟩)
    go_ret
    rw [hf.out]
    exact ⟨rfl, h, gb_refl _ _⟩
  cases hh : hasM M s
  · have hf := Lib.hid (show pinF M s x = (0, putM M s (x, [])) from by rw [pinF, if_neg (by simp [hr]; omega), if_neg (by simp [hh])])
    go_enter Try.func18, Try.ntmps18
    go_wp2_with (first | (go_at_call 38; refine (right_any _ _ hs2).mono ?_; rintro e w' ⟨rfl, rfl⟩) | (go_at_call 35; refine (has_s _ _ _ _ h.m hs).mono ?_; rintro e w1 ⟨rfl, hb⟩; have h' := h.below hb; have c0' := h'.c0) | (at_mapUpdate; refine wl_update _ rfl _ _ _ 69 rfl 9 84 (string_keyed Try.underlying9) Try.underlying69 pinC bm M rfl h'.m hM s _ rfl hkey (x, []) _ rfl rfl ?_; intro w2 hm2 ht2))
    go_ret
    rw [hf.out]
    exact ⟨rfl, h'.grown_m hm2 ht2.grown, (gb hb _).trans ht2.grown⟩
  · have hf := Lib.hid (show pinF M s x = (16, M) from by rw [pinF, if_neg (by simp [hr]; omega), if_pos hh])
    go_enter Try.func18, Try.ntmps18
    go_wp2_with (first | (go_at_call 38; refine (right_any _ _ hs2).mono ?_; rintro e w' ⟨rfl, rfl⟩) | (go_at_call 35; refine (has_s _ _ _ _ h.m hs).mono ?_; rintro e w1 ⟨rfl, hb⟩; have h' := h.below hb; have c0' := h'.c0))
    go_ret
    rw [hf.out]
    exact ⟨rfl, h', gb hb _⟩
