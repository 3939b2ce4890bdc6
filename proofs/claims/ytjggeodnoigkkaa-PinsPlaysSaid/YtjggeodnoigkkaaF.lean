/-
  Package pins: Drop.
-/
import Derived.Test.YtjggeodnoigkkaaE
namespace Go.Proofs.Ytjggeodnoigkkaa
open Go.RowKit Go.Maps Go.Shelf Go.Proofs.YtjggeodnoigkkaaM

theorem add_block (a : Addr) (n : Nat) : (a.add n).block = a.block := by
  unfold Addr.add
  split <;> rfl

/-- A slice of drops that is read. -/
def RdD (w : World) (A : Option Addr) (l : DM) : Prop := ∀ k, k < l.length → ∃ ad, A = some ad ∧ ad.block < w.heap.size ∧
  w.cell? (ad.add (k * 2)) = some (.int .i64 (l.getD k (0, 0)).1) ∧ w.cell? ⟨(ad.add (k * 2)).block, (ad.add (k * 2)).off + 1, none⟩ = some (.int .i64 (l.getD k (0, 0)).2)
/-- A slice of numbers that is read. -/
def RdI (w : World) (A : Option Addr) (l : List Int) : Prop := ∀ k, k < l.length → ∃ ad, A = some ad ∧ ad.block < w.heap.size ∧ w.cell? (ad.add k) = some (.int .i64 (l.getD k 0))

theorem RdD.below {w w' : World} {A : Option Addr} {l : DM} (h : RdD w A l) (hb : Below w.heap.size w w') : RdD w' A l := fun k hk => by
  obtain ⟨ad, e, hlt, h0, h1⟩ := h k hk
  exact ⟨ad, e, Nat.lt_of_lt_of_le hlt hb.size, (hb.cell (by rw [add_block]; exact hlt)).trans h0, (hb.cell (by show (ad.add (k * 2)).block < _; rw [add_block]; exact hlt)).trans h1⟩
theorem RdI.below {w w' : World} {A : Option Addr} {l : List Int} (h : RdI w A l) (hb : Below w.heap.size w w') : RdI w' A l := fun k hk => by
  obtain ⟨ad, e, hlt, h0⟩ := h k hk
  exact ⟨ad, e, Nat.lt_of_lt_of_le hlt hb.size, (hb.cell (by rw [add_block]; exact hlt)).trans h0⟩
theorem RdD.take {w : World} {A : Option Addr} {l : DM} (h : RdD w A l) (n : Nat) : RdD w A (l.take n) := fun k hk => by
  rw [List.length_take] at hk
  obtain ⟨ad, e, hlt, h0, h1⟩ := h k (by omega)
  have hg : (l.take n).getD k (0, 0) = l.getD k (0, 0) := by
    simp only [List.getD_eq_getElem?_getD, List.getElem?_take]
    rw [if_pos (by omega)]
  exact ⟨ad, e, hlt, by rw [hg]; exact h0, by rw [hg]; exact h1⟩
theorem RdI.take {w : World} {A : Option Addr} {l : List Int} (h : RdI w A l) (n : Nat) : RdI w A (l.take n) := fun k hk => by
  rw [List.length_take] at hk
  obtain ⟨ad, e, hlt, h0⟩ := h k (by omega)
  have hg : (l.take n).getD k 0 = l.getD k 0 := by
    simp only [List.getD_eq_getElem?_getD, List.getElem?_take]
    rw [if_pos (by omega)]
  exact ⟨ad, e, hlt, by rw [hg]; exact h0⟩

theorem ne_map' {w : World} {a : Addr} {b : Nat} {v : Value} {K V : Type} [DecidableEq K] [MKey K] {P : Program} {kt : TypeId} {C : Codec V} {m : List (K × V)} (c : w.cell? a = some v) (h : mapIs w P kt C b m) : a.block ≠ b := by
  rintro rfl
  obtain ⟨es, clock, hb, _⟩ := h.2
  simp [World.cell?, hb] at c
theorem RdD.kept {w w' : World} {A : Option Addr} {l : DM} (h : RdD w A l) {bd : Nat} {D : DM} (hd : DMap w bd D) (hg : w.grownBy w' (some bd)) : RdD w' A l := fun k hk => by
  obtain ⟨ad, e, hlt, h0, h1⟩ := h k hk
  have n0 := ne_map' h0 hd
  have n1 := ne_map' h1 hd
  exact ⟨ad, e, Nat.lt_of_lt_of_le hlt hg.size, hg.cell h0 (by simpa using n0), hg.cell h1 (by simpa using n1)⟩
theorem RdI.kept {w w' : World} {A : Option Addr} {l : List Int} (h : RdI w A l) {bd : Nat} {D : DM} (hd : DMap w bd D) (hg : w.grownBy w' (some bd)) : RdI w' A l := fun k hk => by
  obtain ⟨ad, e, hlt, h0⟩ := h k hk
  have n0 := ne_map' h0 hd
  exact ⟨ad, e, Nat.lt_of_lt_of_le hlt hg.size, hg.cell h0 (by simpa using n0)⟩

theorem any_take_succ {α : Type} (q : α → Bool) (l : List α) (k : Nat) (h : k < l.length) : (l.take (k + 1)).any q = ((l.take k).any q || q l[k]) := by
  rw [List.take_succ_eq_append_getElem h, List.any_append]
  simp

set_option maxHeartbeats 400000 in
theorem drop1 (x y : Int × Int) (c : Nat) (w : World) (hc : w.cell? ⟨c, 0, none⟩ = some (.int .i64 x.1)) :
    Calls Try.prog 41 #[.agg #[.int .i64 y.1, .int .i64 y.2], .pointer (some ⟨c, 0, none⟩)] w fun e w' => e = .returned (.bool (decide (y.1 = x.1))) ∧ Below w.heap.size w w' := by
  have hlt : c < w.heap.size := World.block_lt_of_cell? _ _ hc
  go_enter Try.func41, Try.ntmps41
  go_wp2
  go_ret
  exact ⟨by simp [Bool.beq_eq_decide_eq], (Below.refl _ _).alloc (Nat.le_refl _) _⟩

theorem eg41 : ∀ args W, (callFunc 41 args).run Try.prog W = .ok (.enter 41 args) W := enters_of Try.func41 (by kernel_rfl) rfl

set_option maxRecDepth 100000 in
set_option maxHeartbeats 1000000 in
theorem indexFunc_any (A : Option Addr) (cap : Nat) (l : DM) (f : Nat) (lb : Array Value) (q : Int × Int → Bool) (w : World) (hl : RdD w A l) (hlen : l.length ≤ 9223372036854775807)
    (hf : ∀ (x : Int × Int) (W : World), Below w.heap.size w W → Calls Try.prog f (#[.agg #[.int .i64 x.1, .int .i64 x.2]] ++ lb) W fun e w' => e = .returned (.bool (q x)) ∧ Below W.heap.size W w')
    (eg : ∀ args W, (callFunc f args).run Try.prog W = .ok (.enter f args) W) :
    Calls Try.prog 68 #[.slice A l.length cap, .func (.func f) #[] lb] w fun e w' => (∃ r : Int, e = .returned (.int .i64 r) ∧ decide (0 ≤ r) = l.any q) ∧ Below w.heap.size w w' := by
  have H := Lib.hid hf
  have HL := Lib.hid hl
  have H63 := Lib.hid hlen
  clear hf hl hlen
  go_enter Try.func68, Try.ntmps68
  go_wp2_with fail
  go_loopw [5, 8] (fun _ i wr => ∃ k : Nat, k ≤ l.length ∧ i = .int .i64 k ∧ Hid ((l.take k).any q = false) ∧ Below w.heap.size w wr) (fun _ i _ => l.length - (intOf i).toNat)
  case atStart => exact ⟨0, Nat.zero_le _, rfl, Lib.hid rfl, Below.refl _ _⟩
  case round =>
    obtain ⟨k, hk, rfl, hno, hbk⟩ := hrel
    have h63 := H63.out
    by_cases hlt : k < l.length
    · obtain ⟨ad, rfl, hb0, hc0, hc1⟩ := (HL.out.below hbk) k hlt
      obtain ⟨y, hy⟩ : ∃ y, y = l[k] := ⟨_, rfl⟩
      have e : l.getD k (0, 0) = y := by simp [hy, List.getD_eq_getElem?_getD, hlt]
      rw [e] at hc0 hc1
      have HY := Lib.hid hy
      have HA := Lib.hid (any_take_succ q l k hlt)
      clear hy e
      go_wp2_with fail
      refine (H.out y wr hbk).mono ?_
      rintro e w2 ⟨rfl, hb2⟩
      have hb3 := hbk.trans (hb2.mono hbk.size)
      cases hq : q y
      · go_wp2_with fail
        go_roundw
        case rel => exact ⟨k + 1, by omega, by go_num, Lib.hid (by rw [HA.out, hno.out, ← HY.out, hq]; rfl), hb3⟩
        case measure => simp [intOf]; omega
      · go_wp2_with fail
        go_ret
        refine ⟨⟨k, rfl, ?_⟩, hb3⟩
        have e1 : l.any q = true := List.any_eq_true.2 ⟨y, by rw [HY.out]; exact List.getElem_mem _, hq⟩
        rw [e1]
        simp
    · have hke : k = l.length := by omega
      have Hke := Lib.hid hke
      clear hke
      go_wp2_with fail
      go_ret
      refine ⟨⟨-1, rfl, ?_⟩, hbk⟩
      have := hno.out
      rw [Hke.out, List.take_length] at this
      rw [this]
      rfl

set_option maxHeartbeats 400000 in
theorem containsFunc_any (A : Option Addr) (cap : Nat) (l : DM) (f : Nat) (lb : Array Value) (q : Int × Int → Bool) (w : World) (hl : RdD w A l) (hlen : l.length ≤ 9223372036854775807)
    (hf : ∀ (x : Int × Int) (W : World), Below w.heap.size w W → Calls Try.prog f (#[.agg #[.int .i64 x.1, .int .i64 x.2]] ++ lb) W fun e w' => e = .returned (.bool (q x)) ∧ Below W.heap.size W w')
    (eg : ∀ args W, (callFunc f args).run Try.prog W = .ok (.enter f args) W) :
    Calls Try.prog 40 #[.slice A l.length cap, .func (.func f) #[] lb] w fun e w' => e = .returned (.bool (l.any q)) ∧ Below w.heap.size w w' := by
  have HC := Lib.hid (indexFunc_any A cap l f lb q w hl hlen hf eg)
  clear hf hl
  go_enter Try.func40, Try.ntmps40
  go_wp2_with fail
  refine HC.out.mono ?_
  rintro e w1 ⟨⟨r, rfl, hr⟩, hb⟩
  have Hr := Lib.hid hr
  clear hr
  go_wp2_with fail
  go_ret
  exact ⟨by rw [← Hr.out]; rfl, hb⟩

theorem containsFunc_n (A : Option Addr) (n cap : Nat) (l : DM) (hn : l.length = n) (f : Nat) (lb : Array Value) (q : Int × Int → Bool) (w : World) (hl : RdD w A l) (hlen : n ≤ 9223372036854775807)
    (hf : ∀ (x : Int × Int) (W : World), Below w.heap.size w W → Calls Try.prog f (#[.agg #[.int .i64 x.1, .int .i64 x.2]] ++ lb) W fun e w' => e = .returned (.bool (q x)) ∧ Below W.heap.size W w')
    (eg : ∀ args W, (callFunc f args).run Try.prog W = .ok (.enter f args) W) :
    Calls Try.prog 40 #[.slice A n cap, .func (.func f) #[] lb] w fun e w' => e = .returned (.bool (l.any q)) ∧ Below w.heap.size w w' := by
  subst hn
  exact containsFunc_any A cap l f lb q w hl hlen hf eg

end Go.Proofs.Ytjggeodnoigkkaa
