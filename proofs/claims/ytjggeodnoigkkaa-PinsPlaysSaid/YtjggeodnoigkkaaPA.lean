/-
  The document's answer for pins: how it lies in memory, what it only reads (merged by wip/tools/merge.py).
-/
import Derived.Test.YtjggeodnoigkkaaCI
import Derived.Test.YtjggeodnoigkkaaCJ
import Derived.Test.YtjggeodnoigkkaaN
namespace Go.Proofs.Ytjggeodnoigkkaa
open Go.RowKit Go.Maps Go.Shelf Go.Proofs.YtjggeodnoigkkaaM

abbrev P0 : Bs × (Int × Bs) := ([], (0, []))
def pcells (x : Bs × (Int × Bs)) : List Value := [.string ⟨x.1.toArray⟩, .int .i64 x.2.1, .string ⟨x.2.2.toArray⟩]
/-- A slice of pins. -/
def RdP (w : World) (A : Option Addr) (l : PM) : Prop := ∀ k, k < l.length → ∃ ad, A = some ad ∧ ad.block < w.heap.size ∧
  w.cell? (ad.add (k * 3)) = some (.string ⟨(l.getD k P0).1.toArray⟩) ∧ w.cell? ⟨(ad.add (k * 3)).block, (ad.add (k * 3)).off + 1, none⟩ = some (.int .i64 (l.getD k P0).2.1) ∧
  w.cell? ⟨(ad.add (k * 3)).block, (ad.add (k * 3)).off + 2, none⟩ = some (.string ⟨(l.getD k P0).2.2.toArray⟩)
theorem RdP.kept {w w' : World} {A : Option Addr} {l : PM} {row : Option Nat} (h : RdP w A l) (hg : w.grownBy w' row) (hne : ∀ ad, A = some ad → some ad.block ≠ row) : RdP w' A l := fun k hk => by
  obtain ⟨ad, e, hlt, h0, h1, h2⟩ := h k hk
  have n := hne ad e
  exact ⟨ad, e, Nat.lt_of_lt_of_le hlt hg.size, hg.cell h0 (by rw [add_block]; exact n), hg.cell h1 (by show some (ad.add (k * 3)).block ≠ row; rw [add_block]; exact n), hg.cell h2 (by show some (ad.add (k * 3)).block ≠ row; rw [add_block]; exact n)⟩
theorem RdP.below {w w' : World} {A : Option Addr} {l : PM} (h : RdP w A l) (hb : Below w.heap.size w w') : RdP w' A l := h.kept (gb hb none) fun _ _ => by simp
theorem RdD.keep {w w' : World} {A : Option Addr} {l : DM} {row : Option Nat} (h : RdD w A l) (hg : w.grownBy w' row) (hne : ∀ ad, A = some ad → some ad.block ≠ row) : RdD w' A l := fun k hk => by
  obtain ⟨ad, e, hlt, h0, h1⟩ := h k hk
  have n := hne ad e
  exact ⟨ad, e, Nat.lt_of_lt_of_le hlt hg.size, hg.cell h0 (by rw [add_block]; exact n), hg.cell h1 (by show some (ad.add (k * 2)).block ≠ row; rw [add_block]; exact n)⟩

/-- Where a name stands. -/
def PlaceIs (P : PM) (s : Bs) (r : Int) : Prop := (r = -1 ∧ ∀ j (h : j < P.length), P[j].1 ≠ s) ∨ ∃ k, ∃ h : k < P.length, r = (k : Int) ∧ P[k].1 = s
def DropIs (D : DM) (s : Int) (r : Int) : Prop := (r = -1 ∧ ∀ j (h : j < D.length), D[j].1 ≠ s) ∨ ∃ k, ∃ h : k < D.length, r = (k : Int) ∧ D[k].1 = s
theorem hasM_at {V K : Type} [DecidableEq K] {m : List (K × V)} {k : Nat} (h : k < m.length) : hasM m m[k].1 = true := by
  rw [hasM, List.any_eq_true]
  exact ⟨m[k], List.getElem_mem _, by simp⟩
theorem hasM_no {V K : Type} [DecidableEq K] {m : List (K × V)} {s : K} (h : ∀ j (h : j < m.length), m[j].1 ≠ s) : hasM m s = false := by
  rw [hasM, List.any_eq_false]
  intro x hx e
  obtain ⟨j, hj, rfl⟩ := List.getElem_of_mem hx
  exact h j hj (by simpa using e)
theorem PlaceIs.has {P : PM} {s : Bs} {r : Int} (h : PlaceIs P s r) : decide (0 ≤ r) = hasM P s := by
  rcases h with ⟨rfl, h⟩ | ⟨k, hk, rfl, rfl⟩
  · rw [hasM_no h]; rfl
  · rw [hasM_at hk]; simp
theorem DropIs.has {P : DM} {s : Int} {r : Int} (h : DropIs P s r) : decide (0 ≤ r) = hasM P s := by
  rcases h with ⟨rfl, h⟩ | ⟨k, hk, rfl, rfl⟩
  · rw [hasM_no h]; rfl
  · rw [hasM_at hk]; simp

set_option maxRecDepth 100000 in
set_option maxHeartbeats 1000000 in
theorem place_any (A B : Option Addr) (c d n m : Nat) (P : PM) (s : Bs) (w : World) (hn : P.length = n) (hP : RdP w A P) (h63 : n ≤ 9223372036854775807) :
    Calls Try.prog 25 #[.agg #[.slice A n c, .slice B m d], .string ⟨s.toArray⟩] w fun e w' => ∃ r, e = .returned (.int .i64 r) ∧ PlaceIs P s r ∧ Below w.heap.size w w' := by
  subst hn
  have HP := Lib.hid hP
  have H63 := Lib.hid h63
  clear hP h63
  have hb0 : Below w.heap.size w (w.alloc (.cells #[.slice A P.length c, .slice B m d] 52)) := (Below.refl _ _).alloc (Nat.le_refl _) _
  go_enter Try.func25, Try.ntmps25
  go_wp2_with fail
  go_loop [5] (fun i => ∃ k : Nat, k ≤ P.length ∧ i = .int .i64 k ∧ Hid (∀ j (h : j < P.length), j < k → P[j].1 ≠ s)) (fun i => P.length - (intOf i).toNat)
  case atStart => exact ⟨0, Nat.zero_le _, rfl, Lib.hid fun _ _ h => absurd h (Nat.not_lt_zero _)⟩
  case round =>
    obtain ⟨k, hk, rfl, hno⟩ := hrel
    have h63 := H63.out
    by_cases hlt : k < P.length
    · obtain ⟨ad, rfl, hb1, hc0, _, _⟩ := (HP.out.below hb0) k hlt
      have e0 : P.getD k P0 = P[k] := by simp [List.getD_eq_getElem?_getD, hlt]
      rw [e0] at hc0
      have hk0 : (0 : Int) ≤ (k : Int) := by omega
      have hk1 : (k : Int) < (P.length : Int) := by omega
      by_cases hs : P[k].1 = s
      · have HF := Lib.hid (show PlaceIs P s (k : Int) from .inr ⟨k, hlt, rfl, hs⟩)
        have f1 := eq_true hs
        have f2 : (P[k].1 == s) = true := by simpa using hs
        clear hs e0
        generalize P[k].1 = x at hc0 f1 f2
        go_wp2_with fail
        go_ret
        exact ⟨_, rfl, HF.out, hb0⟩
      · have HF := Lib.hid (show ∀ j (h : j < P.length), j < k + 1 → P[j].1 ≠ s from fun j h hj => by
          by_cases e : j = k
          · subst e; exact hs
          · exact hno.out j h (by omega))
        have f1 := eq_false hs
        have f2 : (P[k].1 == s) = false := by simpa using hs
        clear hs e0 hno
        generalize P[k].1 = x at hc0 f1 f2
        go_wp2_with fail
        go_round
        case rel => exact ⟨k + 1, by omega, by go_num, HF⟩
        case measure => simp [intOf]; omega
    · have hke : k = P.length := by omega
      subst hke
      go_wp2_with fail
      go_ret
      exact ⟨_, rfl, .inl ⟨rfl, fun j h => hno.out j h h⟩, hb0⟩

set_option maxRecDepth 100000 in
set_option maxHeartbeats 1000000 in
theorem drops_any (A B : Option Addr) (c d n m : Nat) (P : DM) (s : Int) (w : World) (hn : P.length = n) (hP : RdD w B P) (h63 : n ≤ 9223372036854775807) :
    Calls Try.prog 70 #[.agg #[.slice A m c, .slice B n d], .int .i64 s] w fun e w' => ∃ r, e = .returned (.int .i64 r) ∧ DropIs P s r ∧ Below w.heap.size w w' := by
  subst hn
  have HP := Lib.hid hP
  have H63 := Lib.hid h63
  clear hP h63
  have hb0 : Below w.heap.size w (w.alloc (.cells #[.slice A m c, .slice B P.length d] 52)) := (Below.refl _ _).alloc (Nat.le_refl _) _
  go_enter Try.func70, Try.ntmps70
  go_wp2_with fail
  go_loop [5] (fun i => ∃ k : Nat, k ≤ P.length ∧ i = .int .i64 k ∧ Hid (∀ j (h : j < P.length), j < k → P[j].1 ≠ s)) (fun i => P.length - (intOf i).toNat)
  case atStart => exact ⟨0, Nat.zero_le _, rfl, Lib.hid fun _ _ h => absurd h (Nat.not_lt_zero _)⟩
  case round =>
    obtain ⟨k, hk, rfl, hno⟩ := hrel
    have h63 := H63.out
    by_cases hlt : k < P.length
    · obtain ⟨ad, rfl, hb1, hc0, _⟩ := (HP.out.below hb0) k hlt
      have e0 : P.getD k (0, 0) = P[k] := by simp [List.getD_eq_getElem?_getD, hlt]
      rw [e0] at hc0
      have hk0 : (0 : Int) ≤ (k : Int) := by omega
      have hk1 : (k : Int) < (P.length : Int) := by omega
      by_cases hs : P[k].1 = s
      · have HF := Lib.hid (show DropIs P s (k : Int) from .inr ⟨k, hlt, rfl, hs⟩)
        have f2 : (P[k].1 == s) = true := by simpa using hs
        clear hs e0
        generalize P[k].1 = x at hc0 f2
        go_wp2_with fail
        go_ret
        exact ⟨_, rfl, HF.out, hb0⟩
      · have HF := Lib.hid (show ∀ j (h : j < P.length), j < k + 1 → P[j].1 ≠ s from fun j h hj => by
          by_cases e : j = k
          · subst e; exact hs
          · exact hno.out j h (by omega))
        have f2 : (P[k].1 == s) = false := by simpa using hs
        clear hs e0 hno
        generalize P[k].1 = x at hc0 f2
        go_wp2_with fail
        go_round
        case rel => exact ⟨k + 1, by omega, by go_num, HF⟩
        case measure => simp [intOf]; omega
    · have hke : k = P.length := by omega
      subst hke
      go_wp2_with fail
      go_ret
      exact ⟨_, rfl, .inl ⟨rfl, fun j h => hno.out j h h⟩, hb0⟩

end Go.Proofs.Ytjggeodnoigkkaa

namespace Go.Proofs.Ytjggeodnoigkkaa
open Go.RowKit Go.Maps Go.Shelf Go.Proofs.YtjggeodnoigkkaaM

set_option maxRecDepth 100000 in
set_option maxHeartbeats 1000000 in
theorem refClones_any (A B : Option Addr) (c d n m : Nat) (P : PM) (name : Bs) (w : World) (hn : P.length = n) (hP : RdP w A P) (h63 : n * 16 ≤ 140737488355328) :
    Calls Try.prog 52 #[.agg #[.slice A n c, .slice B m d], .string ⟨name.toArray⟩] w fun e w' => ∃ v, e = .returned v ∧ Strs w' w.heap.size v (clonesF P name) ∧ Below w.heap.size w w' := by
  subst hn
  have HP := Lib.hid hP
  have H63 := Lib.hid h63
  clear hP h63
  obtain ⟨W, hW⟩ : ∃ W, W = w.alloc (.cells #[.slice A P.length c, .slice B m d] 52) := ⟨_, rfl⟩
  have hb0 : Below w.heap.size w W := by rw [hW]; exact (Below.refl _ _).alloc (Nat.le_refl _) _
  have hx0 : W.cell? ⟨w.heap.size, 0, none⟩ = some (.slice A P.length c) := by rw [hW]; simp
  have hxl : w.heap.size < W.heap.size := by rw [hW]; simp
  go_enter Try.func52, Try.ntmps52
  go_wp2_with fail
  rw [← hW]
  have HX := Lib.hid (And.intro hx0 hxl)
  have HB0 := Lib.hid hb0
  clear hW hx0 hxl hb0
  go_loopw [5, 6] (fun v i wr => ∃ k : Nat, k ≤ P.length ∧ i = .int .i64 k ∧ Strs wr W.heap.size v (((P.take k).filter fun x => clonesQ name x.2).map (·.1)) ∧ Below W.heap.size W wr) (fun _ i _ => P.length - (intOf i).toNat)
  case atStart => exact ⟨0, Nat.zero_le _, rfl, ⟨World.ownsRow_nil _ _ _ _, by simp⟩, Below.refl _ _⟩
  case round =>
    obtain ⟨k, hk, rfl, hout, hb⟩ := hrel
    have h63 : P.length ≤ 9223372036854775807 := by have := H63.out; omega
    have hx0 := (hb.cell (p := ⟨w.heap.size, 0, none⟩) HX.out.2).trans HX.out.1
    by_cases hlt : k < P.length
    · obtain ⟨ad, rfl, hb1, hc0, _, hc2⟩ := ((HP.out.below HB0.out).below hb) k hlt
      have e0 : P.getD k P0 = P[k] := by simp [List.getD_eq_getElem?_getD, hlt]
      rw [e0] at hc0 hc2
      have hk0 : (0 : Int) ≤ (k : Int) := by omega
      have hk1 : (k : Int) < (P.length : Int) := by omega
      have hbs : W.heap.size ≤ wr.heap.size := hb.size
      have hfl := filter_len (·.1) (fun x => clonesQ name x.2) P k
      have Hby := Lib.hid (show ((((P.take k).filter fun x => clonesQ name x.2).map (·.1)).length + 1) * 16 ≤ 140737488355328 from by have := H63.out; omega)
      have HT := Lib.hid (fun hq => take_keep (·.1) (fun x => clonesQ name x.2) P k hlt hq)
      have HD := Lib.hid (fun hq => take_drop (·.1) (fun x => clonesQ name x.2) P k hlt hq)
      clear hfl e0
      generalize P[k] = x at hc0 hc2 HT HD
      cases hq : clonesQ name x.2 with
      | true =>
        have hT := Lib.hid (HT.out hq)
        simp only [clonesQ, Bool.and_eq_true, decide_eq_true_eq] at hq
        obtain ⟨q1, q2⟩ := hq
        have f1 := eq_true q1
        have f2 : (x.2.2 == name) = true := by simpa using q1
        have f3 : name.isEmpty = false := by simpa using q2
        have f4 : (name == []) = false := by cases name <;> simp_all
        have f5 := eq_false (show ¬ name = [] from by intro e; rw [e] at f3; cases f3)
        clear HT HD q1 q2
        go_wp2_with (at_builtin; refine wl_append_s _ rfl _ _ rfl W.heap.size _ _ rfl hout x.1 rfl Hby.out hbs ?_; intro v' w3 h1' hb3)
        go_roundw
        case rel => exact ⟨k + 1, by omega, by go_num, by rw [hT.out]; exact h1', hb.trans hb3⟩
        case measure => simp [intOf]; omega
      | false =>
        have hT := Lib.hid (HD.out hq)
        have hq' : ¬ x.2.2 = name ∨ name.isEmpty = true := by
          simp only [clonesQ, Bool.and_eq_false_iff, decide_eq_false_iff_not] at hq
          simpa using hq
        clear HT HD hq
        by_cases q1 : x.2.2 = name
        · have f3 : name.isEmpty = true := hq'.resolve_left (fun h => h q1)
          have f1 := eq_true q1
          have f2 : (x.2.2 == name) = true := by simpa using q1
          have f4 : (name == []) = true := by cases name <;> simp_all
          have f5 := eq_true (show name = [] from by cases name <;> simp_all)
          clear q1 hq'
          go_wp2_with fail
          go_roundw
          case rel => exact ⟨k + 1, by omega, by go_num, by rw [hT.out]; exact hout, hb⟩
          case measure => simp [intOf]; omega
        · have f1 := eq_false q1
          have f2 : (x.2.2 == name) = false := by simpa using q1
          clear q1 hq'
          go_wp2_with fail
          go_roundw
          case rel => exact ⟨k + 1, by omega, by go_num, by rw [hT.out]; exact hout, hb⟩
          case measure => simp [intOf]; omega
    · have hke : k = P.length := by omega
      have Hke := Lib.hid hke
      clear hke
      go_wp2_with fail
      go_ret
      rw [Hke.out, List.take_length] at hout
      exact ⟨_, rfl, ⟨ownsRow_base_a hout.1 HB0.out.size, hout.2⟩, HB0.out.trans (hb.mono HB0.out.size)⟩

theorem below_drewN (w : World) (n : Nat) : Below w.heap.size w (w.drewN n) := ⟨rfl, rfl, rfl, Nat.le_refl _, fun _ _ => rfl⟩
theorem holdsF_at {P : PM} {D : DM} (hr : Rising D) {k : Nat} (hk : k < D.length) : holdsF P D D[k].1 = (P.filter fun x => holdsQ D[k].1 D[k].2 x.2).map (·.1) := by
  rw [holdsF, hr.get_of_mem (List.getElem_mem hk)]
theorem holdsF_no {P : PM} {D : DM} {s : Int} (h : ∀ j (h : j < D.length), D[j].1 ≠ s) : holdsF P D s = [] := by
  have h1 := hasM_no h
  rw [hasM_get] at h1
  rw [holdsF]
  cases hg : getM D s with
  | none => rfl
  | some v => rw [hg] at h1; cases h1

set_option maxRecDepth 100000 in
set_option maxHeartbeats 2000000 in
theorem refHolds_any (A B : Option Addr) (c d n m : Nat) (P : PM) (D : DM) (seq : Int) (w : World) (hn : P.length = n) (hm : D.length = m) (hP : RdP w A P) (hD : RdD w B D) (hr : Rising D) (h63 : n * 16 ≤ 140737488355328) (m63 : m ≤ 9223372036854775807) :
    Calls Try.prog 53 #[.agg #[.slice A n c, .slice B m d], .int .i64 seq] w fun e w' => ∃ v, e = .returned v ∧ Strs w' w.heap.size v (holdsF P D seq) ∧ Below w.heap.size w w' := by
  subst hn
  subst hm
  have HP := Lib.hid hP
  have HD := Lib.hid hD
  have H63 := Lib.hid h63
  have M63 := Lib.hid m63
  have HR := Lib.hid hr
  clear hP hD h63 m63 hr
  obtain ⟨W, hW⟩ : ∃ W, W = w.alloc (.cells #[.slice A P.length c, .slice B D.length d] 52) := ⟨_, rfl⟩
  have hb0 : Below w.heap.size w W := by rw [hW]; exact (Below.refl _ _).alloc (Nat.le_refl _) _
  have hx0 : W.cell? ⟨w.heap.size, 0, none⟩ = some (.slice A P.length c) := by rw [hW]; simp
  have hx1 : W.cell? ⟨w.heap.size, 1, none⟩ = some (.slice B D.length d) := by rw [hW]; simp
  have hxl : w.heap.size < W.heap.size := by rw [hW]; simp
  have HC := Lib.hid (drops_any A B c d D.length P.length D seq W rfl (HD.out.below hb0) M63.out)
  go_enter Try.func53, Try.ntmps53
  go_wp2_with fail
  rw [← hW]
  clear hW
  refine HC.out.mono ?_
  rintro e w1 ⟨r, rfl, hdi, hb1⟩
  have HDI := Lib.hid hdi
  have HX := Lib.hid (show w1.cell? ⟨w.heap.size, 0, none⟩ = some (.slice A P.length c) ∧ w1.cell? ⟨w.heap.size, 1, none⟩ = some (.slice B D.length d) ∧ w.heap.size < w1.heap.size from
    ⟨(hb1.cell (p := ⟨w.heap.size, 0, none⟩) hxl).trans hx0, (hb1.cell (p := ⟨w.heap.size, 1, none⟩) hxl).trans hx1, Nat.lt_of_lt_of_le hxl hb1.size⟩)
  have HB0 := Lib.hid (hb0.trans (hb1.mono hb0.size))
  clear hx0 hx1 hxl hb0 hb1 HC hdi
  go_wp2_with fail
  by_cases hr0 : 0 ≤ r
  · obtain ⟨kd, hkd, rfl, hks⟩ : ∃ k, ∃ h : k < D.length, r = (k : Int) ∧ D[k].1 = seq := by
      rcases HDI.out with ⟨e, _⟩ | h
      · omega
      · exact h
    have HF := Lib.hid (holdsF_at (P := P) HR.out hkd)
    rw [hks] at HF
    obtain ⟨by_, hby⟩ : ∃ b, b = D[kd].2 := ⟨_, rfl⟩
    have HD2 := Lib.hid (show ∀ W, Below w1.heap.size w1 W → ∃ ad, B = some ad ∧ W.cell? ⟨(ad.add (kd * 2)).block, (ad.add (kd * 2)).off + 1, none⟩ = some (.int .i64 by_) from fun W hW => by
      obtain ⟨ad, e, _, _, h1⟩ := ((HD.out.below HB0.out).below hW) kd hkd
      refine ⟨ad, e, ?_⟩
      rw [h1, hby]
      simp [List.getD_eq_getElem?_getD, hkd])
    rw [← hby] at HF
    have hkd0 : (0 : Int) ≤ (kd : Int) := by omega
    have hkd1 : (kd : Int) < (D.length : Int) := by omega
    clear hby hks hr0
    go_loopw [5, 7] (fun v i wr => ∃ k : Nat, k ≤ P.length ∧ i = .int .i64 k ∧ Strs wr w1.heap.size v (((P.take k).filter fun x => holdsQ seq by_ x.2).map (·.1)) ∧ Below w1.heap.size w1 wr) (fun _ i _ => P.length - (intOf i).toNat)
    case atStart => exact ⟨0, Nat.zero_le _, rfl, ⟨World.ownsRow_nil _ _ _ _, by simp⟩, Below.refl _ _⟩
    case round =>
      obtain ⟨k, hk, rfl, hout, hb⟩ := hrel
      have h63 : P.length ≤ 9223372036854775807 := by have := H63.out; omega
      have hx0 := (hb.cell (p := ⟨w.heap.size, 0, none⟩) HX.out.2.2).trans HX.out.1
      have hx1 := (hb.cell (p := ⟨w.heap.size, 1, none⟩) HX.out.2.2).trans HX.out.2.1
      by_cases hlt : k < P.length
      · obtain ⟨ad, rfl, hb1, hc0, hc1, _⟩ := ((HP.out.below HB0.out).below hb) k hlt
        obtain ⟨ad2, rfl, hd1⟩ := HD2.out wr hb
        have e0 : P.getD k P0 = P[k] := by simp [List.getD_eq_getElem?_getD, hlt]
        rw [e0] at hc0 hc1
        have hk0 : (0 : Int) ≤ (k : Int) := by omega
        have hk1 : (k : Int) < (P.length : Int) := by omega
        have hbs : w1.heap.size ≤ wr.heap.size := hb.size
        have hfl := filter_len (·.1) (fun x => holdsQ seq by_ x.2) P k
        have Hby := Lib.hid (show ((((P.take k).filter fun x => holdsQ seq by_ x.2).map (·.1)).length + 1) * 16 ≤ 140737488355328 from by have := H63.out; omega)
        have HT := Lib.hid (fun hq => take_keep (·.1) (fun x => holdsQ seq by_ x.2) P k hlt hq)
        have HN := Lib.hid (fun hq => take_drop (·.1) (fun x => holdsQ seq by_ x.2) P k hlt hq)
        have hout9 := Lib.hid (fun n => hout.below (below_drewN wr n))
        have hb9 := Lib.hid (fun n => hb.trans ((below_drewN wr n).mono hbs))
        clear hfl e0 hout hb
        generalize P[k] = x at hc0 hc1 HT HN
        by_cases q1 : seq ≤ x.2.1
        · have f1 : decide (seq ≤ x.2.1) = true := decide_eq_true q1
          by_cases q2 : x.2.1 < by_
          · have f2 : decide (x.2.1 < by_) = true := decide_eq_true q2
            have hT := Lib.hid (HT.out (by simp [holdsQ, q1, q2]))
            clear HT HN q1 q2
            go_upto_region 6 with fail
            go_quiet (fail)
            go_wp2_with (at_builtin; refine wl_append_s _ rfl _ _ rfl w1.heap.size _ _ rfl (hout9.out _) x.1 rfl Hby.out hbs ?_; intro v' w3 h1' hb3)
            go_roundw
            case rel => exact ⟨k + 1, by omega, by go_num, by rw [hT.out]; exact h1', (hb9.out _).trans hb3⟩
            case measure => simp [intOf]; omega
          · have f2 : decide (x.2.1 < by_) = false := decide_eq_false q2
            have hT := Lib.hid (HN.out (by simp [holdsQ, q2]))
            clear HT HN q1 q2
            go_upto_region 6 with fail
            go_quiet (fail)
            go_wp2_with fail
            go_roundw
            case rel => exact ⟨k + 1, by omega, by go_num, by rw [hT.out]; exact hout9.out _, hb9.out _⟩
            case measure => simp [intOf]; omega
        · have f1 : decide (seq ≤ x.2.1) = false := decide_eq_false q1
          have hT := Lib.hid (HN.out (by simp [holdsQ, q1]))
          clear HT HN q1
          go_upto_region 6 with fail
          go_quiet (fail)
          go_wp2_with fail
          go_roundw
          case rel => exact ⟨k + 1, by omega, by go_num, by rw [hT.out]; exact hout9.out _, hb9.out _⟩
          case measure => simp [intOf]; omega
      · have hke : k = P.length := by omega
        have Hke := Lib.hid hke
        clear hke
        go_wp2_with fail
        go_ret
        rw [Hke.out, List.take_length, ← HF.out] at hout
        exact ⟨_, rfl, ⟨ownsRow_base_a hout.1 HB0.out.size, hout.2⟩, HB0.out.trans (hb.mono HB0.out.size)⟩
  · obtain ⟨rfl, hno⟩ : r = -1 ∧ ∀ j (h : j < D.length), D[j].1 ≠ seq := by
      rcases HDI.out with h | ⟨k, h, e, _⟩
      · exact h
      · omega
    have HF := Lib.hid (holdsF_no (P := P) hno)
    clear hno hr0 HDI
    have hx0 := HX.out.1
    have hx1 := HX.out.2.1
    go_loop [5, 7] (fun v i => v = .slice none 0 0 ∧ i = .int .i64 0) (fun _ _ => 0)
    case atStart => exact ⟨rfl, rfl⟩
    case round =>
      obtain ⟨rfl, rfl⟩ := hrel
      by_cases hp0 : 0 < P.length
      · have f1 : decide ((0 : Int) < (P.length : Int)) = true := decide_eq_true (by omega)
        have f2 : decide (0 < P.length) = true := decide_eq_true hp0
        go_wp2_with fail
        go_ret
        rw [HF.out]
        exact ⟨_, rfl, ⟨World.ownsRow_nil _ _ _ _, by simp⟩, HB0.out⟩
      · have f1 : decide ((0 : Int) < (P.length : Int)) = false := decide_eq_false (by omega)
        have f2 : decide (0 < P.length) = false := decide_eq_false hp0
        go_wp2_with fail
        go_ret
        rw [HF.out]
        exact ⟨_, rfl, ⟨World.ownsRow_nil _ _ _ _, by simp⟩, HB0.out⟩

end Go.Proofs.Ytjggeodnoigkkaa

namespace Go.Proofs.Ytjggeodnoigkkaa
open Go.RowKit Go.Maps Go.Shelf Go.Proofs.YtjggeodnoigkkaaM

noncomputable def codefrT : Code := ((Try.f50.body.bind (theRegion 5)).getD .skip)

def RfrT (g : Nat) (A : Option Addr) (b : Addr) (c d n m i : Nat) (x : Int × Int) (dur : Int) (P : PM) (D : DM) (j : Nat) (v : Value) (_w : World) : Prop :=
  if j = 16 then ∃ A' cap', v = .slice A' (holdsF P D x.1).length cap' else v = [.pointer (some ⟨g, 1, none⟩), .slice (some b) m d, .int .i64 (i : Int), .pointer (some (b.add (i * 2))), .pointer (some ⟨(b.add (i * 2)).block, (b.add (i * 2)).off + 1, none⟩), .int .i64 x.2, .int .i64 dur, .bool true, .bool true, .agg #[.slice A n c, .slice (some b) m d], .pointer (some ⟨g, 1, none⟩), .slice (some b) m d, .int .i64 (i : Int), .pointer (some (b.add (i * 2))), .pointer (some (b.add (i * 2))), .int .i64 x.1, undef, .int .i64 (((holdsF P D x.1).length : Nat) : Int), .bool ((((holdsF P D x.1).length : Nat) : Int) == 0), .bool ((((holdsF P D x.1).length : Nat) : Int) == 0)].getD j undef
theorem RfrT_le (g : Nat) (A : Option Addr) (b : Addr) (c d n m i : Nat) (x : Int × Int) (dur : Int) (P : PM) (D : DM) : ∀ j v w w', Below w.heap.size w w' → RfrT g A b c d n m i x dur P D j v w → RfrT g A b c d n m i x dur P D j v w' := by
  intro j v w w' hb h
  unfold RfrT at h ⊢
  by_cases hj16 : j = 16
  · subst hj16
    simp only [reduceIte] at h ⊢
    exact h
  rw [if_neg hj16] at h ⊢
  exact h

set_option maxRecDepth 1000000 in
set_option maxHeartbeats 4000000 in
theorem frT (Q : Exit → Act → World → Prop) (g : Nat) (A : Option Addr) (b : Addr) (c d n m i : Nat) (x : Int × Int) (dur : Int) (P : PM) (D : DM) (w : World)
    (HN : P.length = n ∧ D.length = m ∧ Rising D ∧ n * 16 ≤ 140737488355328 ∧ m ≤ 9223372036854775807)
    (HP : RdP w A P ∧ RdD w (some b) D)
    (hgl : g < w.heap.size)
    (hx0 : w.cell? ⟨g, 0, none⟩ = some (.slice A n c))
    (hx1 : w.cell? ⟨g, 1, none⟩ = some (.slice (some b) m d))
    (hbl : b.block < w.heap.size)
    (hc0 : w.cell? (b.add (i * 2)) = some (.int .i64 x.1))
    (hc1 : w.cell? ⟨(b.add (i * 2)).block, (b.add (i * 2)).off + 1, none⟩ = some (.int .i64 x.2))
    (hi0 : (0 : Int) ≤ (i : Int))
    (hi1 : (i : Int) < (m : Int))
    (f1 : decide (x.2 ≤ dur) = true)
    (t0 t3 t4 t5 t7 t8 t9 t10 t11 t12 t13 t14 t15 t16 t17 t18 t19 t20 t21 t22 t23 t24 t25 t26 t27 t28 t29 t30 t31 t32 t33 t34 t35 t36 t37 t38 t39 t40 t41 t42 t43 : Value) (hK : ∀ (w' : World) (s14 s15 s16 s17 s18 s19 s20 s21 s22 s23 s24 s25 s26 s27 s28 s29 s30 s31 s32 : Value), Below w.heap.size w w' → Q .normal ⟨#[t0, .int .i64 dur, .pointer (some ⟨g, 0, none⟩), t3, t4, t5, .int .i64 (i : Int), t7, t8, t9, t10, t11, t12, t13, s14, s15, s16, s17, s18, s19, s20, s21, s22, s23, s24, s25, s26, s27, s28, s29, s30, s31, s32, .bool ((((holdsF P D x.1).length : Nat) : Int) == 0), t34, t35, t36, t37, t38, t39, t40, t41, t42, t43], []⟩ w') :
    Code.wp Try.prog codefrT Q ⟨#[t0, .int .i64 dur, .pointer (some ⟨g, 0, none⟩), t3, t4, t5, .int .i64 (i : Int), t7, t8, t9, t10, t11, t12, t13, t14, t15, t16, t17, t18, t19, t20, t21, t22, t23, t24, t25, t26, t27, t28, t29, t30, t31, t32, t33, t34, t35, t36, t37, t38, t39, t40, t41, t42, t43], []⟩ w := by
  replace HN := Lib.hid HN
  replace HP := Lib.hid HP
  have HK := Lib.hid hK
  clear hK
  conv => arg 2; whnf
  refine wp_flow (P := Try.prog) (by kernel_rfl) (by kernel_rfl) (fun W => Below w.heap.size w W) (RfrT g A b c d n m i x dur P D) (fun W W' => Below W.heap.size W W') (Below.refl _ _).drew (RfrT_le g A b c d n m i x dur P D) ?_ ?_
  · refine ⟨?_, ?_, ?_, ?_, ?_, ?_, ?_, ?_, ?_, ?_, ?_, ?_, ?_, ?_, ?_, ?_, ?_, ?_, ?_, ?_, trivial⟩
    · intro a w1 hJ hA hD K hK
      refine duty_plain rfl ?_
      have h2 : a.tmps[2]?.getD undef = .pointer (some ⟨g, 0, none⟩) := eval_get (hA.at_ 2 (by kernel_rfl))
      refine wp_value (v := .pointer (some ⟨g, 1, none⟩)) (w' := w1) ?_ (hK _ _ hJ (Below.refl _ _) rfl)
      clear hK hD hA hJ
      go_simp
    · intro a w1 hJ hA hD K hK
      refine duty_plain rfl ?_
      have h14 : a.tmps[14]?.getD undef = .pointer (some ⟨g, 1, none⟩) := eval_get (given_at hD 0 rfl rfl rfl)
      have hc := (hJ.cell (p := ⟨g, 1, none⟩) hgl).trans hx1
      refine wp_value (v := .slice (some b) m d) (w' := w1) ?_ (hK _ _ hJ (Below.refl _ _) rfl)
      clear hK hD hA hJ
      go_simp
    · intro a w1 hJ hA hD K hK
      refine duty_plain rfl ?_
      have h6 : a.tmps[6]?.getD undef = .int .i64 (i : Int) := eval_get (hA.at_ 6 (by kernel_rfl))
      refine wp_value (v := .int .i64 (i : Int)) (w' := w1) ?_ (hK _ _ hJ (Below.refl _ _) rfl)
      clear hK hD hA hJ
      go_simp
    · intro a w1 hJ hA hD K hK
      refine duty_plain rfl ?_
      have h15 : a.tmps[15]?.getD undef = .slice (some b) m d := eval_get (given_at hD 1 rfl rfl rfl)
      have h16 : a.tmps[16]?.getD undef = .int .i64 (i : Int) := eval_get (given_at hD 2 rfl rfl rfl)
      refine wp_value (v := .pointer (some (b.add (i * 2)))) (w' := w1) ?_ (hK _ _ hJ (Below.refl _ _) rfl)
      clear hK hD hA hJ
      go_simp
    · intro a w1 hJ hA hD K hK
      refine duty_plain rfl ?_
      have h17 : a.tmps[17]?.getD undef = .pointer (some (b.add (i * 2))) := eval_get (given_at hD 3 rfl rfl rfl)
      refine wp_value (v := .pointer (some ⟨(b.add (i * 2)).block, (b.add (i * 2)).off + 1, none⟩)) (w' := w1) ?_ (hK _ _ hJ (Below.refl _ _) rfl)
      clear hK hD hA hJ
      go_simp
    · intro a w1 hJ hA hD K hK
      refine duty_plain rfl ?_
      have h18 : a.tmps[18]?.getD undef = .pointer (some ⟨(b.add (i * 2)).block, (b.add (i * 2)).off + 1, none⟩) := eval_get (given_at hD 4 rfl rfl rfl)
      have hc := (hJ.cell (p := ⟨(b.add (i * 2)).block, (b.add (i * 2)).off + 1, none⟩) (by show (b.add (i * 2)).block < _; rw [add_block]; exact hbl)).trans hc1
      refine wp_value (v := .int .i64 x.2) (w' := w1) ?_ (hK _ _ hJ (Below.refl _ _) rfl)
      clear hK hD hA hJ
      go_simp
    · intro a w1 hJ hA hD K hK
      refine duty_plain rfl ?_
      have h1 : a.tmps[1]?.getD undef = .int .i64 dur := eval_get (hA.at_ 1 (by kernel_rfl))
      refine wp_value (v := .int .i64 dur) (w' := w1) ?_ (hK _ _ hJ (Below.refl _ _) rfl)
      clear hK hD hA hJ
      go_simp
    · intro a w1 hJ hA hD K hK
      refine duty_plain rfl ?_
      have h19 : a.tmps[19]?.getD undef = .int .i64 x.2 := eval_get (given_at hD 5 rfl rfl rfl)
      have h20 : a.tmps[20]?.getD undef = .int .i64 dur := eval_get (given_at hD 6 rfl rfl rfl)
      refine wp_value (v := .bool true) (w' := w1) ?_ (hK _ _ hJ (Below.refl _ _) rfl)
      clear hK hD hA hJ
      go_simp
    · intro a w1 hJ hA hD K hK
      refine duty_plain rfl ?_
      have h21 : a.tmps[21]?.getD undef = .bool true := eval_get (given_at hD 7 rfl rfl rfl)
      refine wp_value (v := .bool true) (w' := w1) ?_ (hK _ _ hJ (Below.refl _ _) rfl)
      clear hK hD hA hJ
      go_simp
    · intro a w1 hJ hA hD K hK
      refine duty_yes rfl rfl rfl (hA.lt 22 (by kernel_rfl)) (given_at hD 8 rfl rfl rfl) ?_
      have h2 : a.tmps[2]?.getD undef = .pointer (some ⟨g, 0, none⟩) := eval_get (hA.at_ 2 (by kernel_rfl))
      have hc := (hJ.cell (p := ⟨g, 0, none⟩) hgl).trans hx0
      have hc' := (hJ.cell (p := ⟨g, 1, none⟩) hgl).trans hx1
      refine wp_value (v := .agg #[.slice A n c, .slice (some b) m d]) (w' := w1) ?_ (hK _ _ hJ (Below.refl _ _) rfl)
      clear hK hD hA hJ
      go_simp
    · intro a w1 hJ hA hD K hK
      refine duty_yes rfl rfl rfl (hA.lt 22 (by kernel_rfl)) (given_at hD 8 rfl rfl rfl) ?_
      have h2 : a.tmps[2]?.getD undef = .pointer (some ⟨g, 0, none⟩) := eval_get (hA.at_ 2 (by kernel_rfl))
      refine wp_value (v := .pointer (some ⟨g, 1, none⟩)) (w' := w1) ?_ (hK _ _ hJ (Below.refl _ _) rfl)
      clear hK hD hA hJ
      go_simp
    · intro a w1 hJ hA hD K hK
      refine duty_yes rfl rfl rfl (hA.lt 22 (by kernel_rfl)) (given_at hD 8 rfl rfl rfl) ?_
      have h24 : a.tmps[24]?.getD undef = .pointer (some ⟨g, 1, none⟩) := eval_get (given_at hD 10 rfl rfl rfl)
      have hc := (hJ.cell (p := ⟨g, 1, none⟩) hgl).trans hx1
      refine wp_value (v := .slice (some b) m d) (w' := w1) ?_ (hK _ _ hJ (Below.refl _ _) rfl)
      clear hK hD hA hJ
      go_simp
    · intro a w1 hJ hA hD K hK
      refine duty_yes rfl rfl rfl (hA.lt 22 (by kernel_rfl)) (given_at hD 8 rfl rfl rfl) ?_
      have h6 : a.tmps[6]?.getD undef = .int .i64 (i : Int) := eval_get (hA.at_ 6 (by kernel_rfl))
      refine wp_value (v := .int .i64 (i : Int)) (w' := w1) ?_ (hK _ _ hJ (Below.refl _ _) rfl)
      clear hK hD hA hJ
      go_simp
    · intro a w1 hJ hA hD K hK
      refine duty_yes rfl rfl rfl (hA.lt 22 (by kernel_rfl)) (given_at hD 8 rfl rfl rfl) ?_
      have h25 : a.tmps[25]?.getD undef = .slice (some b) m d := eval_get (given_at hD 11 rfl rfl rfl)
      have h26 : a.tmps[26]?.getD undef = .int .i64 (i : Int) := eval_get (given_at hD 12 rfl rfl rfl)
      refine wp_value (v := .pointer (some (b.add (i * 2)))) (w' := w1) ?_ (hK _ _ hJ (Below.refl _ _) rfl)
      clear hK hD hA hJ
      go_simp
    · intro a w1 hJ hA hD K hK
      refine duty_yes rfl rfl rfl (hA.lt 22 (by kernel_rfl)) (given_at hD 8 rfl rfl rfl) ?_
      have h27 : a.tmps[27]?.getD undef = .pointer (some (b.add (i * 2))) := eval_get (given_at hD 13 rfl rfl rfl)
      refine wp_value (v := .pointer (some (b.add (i * 2)))) (w' := w1) ?_ (hK _ _ hJ (Below.refl _ _) rfl)
      clear hK hD hA hJ
      go_simp
    · intro a w1 hJ hA hD K hK
      refine duty_yes rfl rfl rfl (hA.lt 22 (by kernel_rfl)) (given_at hD 8 rfl rfl rfl) ?_
      have h28 : a.tmps[28]?.getD undef = .pointer (some (b.add (i * 2))) := eval_get (given_at hD 14 rfl rfl rfl)
      have hc := (hJ.cell (p := b.add (i * 2)) (by rw [add_block]; exact hbl)).trans hc0
      refine wp_value (v := .int .i64 x.1) (w' := w1) ?_ (hK _ _ hJ (Below.refl _ _) rfl)
      clear hK hD hA hJ
      go_simp
    · intro a w1 hJ hA hD K hK
      refine duty_yes rfl rfl rfl (hA.lt 22 (by kernel_rfl)) (given_at hD 8 rfl rfl rfl) ?_
      have h23 : a.tmps[23]?.getD undef = .agg #[.slice A n c, .slice (some b) m d] := eval_get (given_at hD 9 rfl rfl rfl)
      have h29 : a.tmps[29]?.getD undef = .int .i64 x.1 := eval_get (given_at hD 15 rfl rfl rfl)
      refine wp_enter (f := 53) (args := #[.agg #[.slice A n c, .slice (some b) m d], .int .i64 x.1]) (w' := w1) ?_ (Calls.mono (refHolds_any A (some b) c d n m P D x.1 w1 HN.out.1 HN.out.2.1 (HP.out.1.below hJ) (HP.out.2.below hJ) HN.out.2.2.1 HN.out.2.2.2.1 HN.out.2.2.2.2) ?_)
      · clear hK hD hA hJ
        go_simp
      · rintro e w2 ⟨v, rfl, hv, hb2⟩
        obtain ⟨A', cap', rfl, _⟩ := hv.shape
        exact ⟨_, rfl, hK _ _ (hJ.trans (hb2.mono hJ.size)) hb2 ⟨A', cap', rfl⟩⟩
    · intro a w1 hJ hA hD K hK
      refine duty_yes rfl rfl rfl (hA.lt 22 (by kernel_rfl)) (given_at hD 8 rfl rfl rfl) ?_
      have hv : ∃ A' cap', a.eval (.tmp 30) = .slice A' (holdsF P D x.1).length cap' := given_at hD 16 rfl rfl rfl
      obtain ⟨A', cap', hv⟩ := hv
      have h30 := eval_get hv
      refine wp_value (v := .int .i64 (((holdsF P D x.1).length : Nat) : Int)) (w' := w1) ?_ (hK _ _ hJ (Below.refl _ _) rfl)
      clear hK hD hA hJ
      go_simp
    · intro a w1 hJ hA hD K hK
      refine duty_yes rfl rfl rfl (hA.lt 22 (by kernel_rfl)) (given_at hD 8 rfl rfl rfl) ?_
      have h31 : a.tmps[31]?.getD undef = .int .i64 (((holdsF P D x.1).length : Nat) : Int) := eval_get (given_at hD 17 rfl rfl rfl)
      refine wp_value (v := .bool ((((holdsF P D x.1).length : Nat) : Int) == 0)) (w' := w1) ?_ (hK _ _ hJ (Below.refl _ _) rfl)
      clear hK hD hA hJ
      go_simp
    · intro a w1 hJ hA hD K hK
      refine duty_plain rfl ?_
      have h22 : a.tmps[22]?.getD undef = .bool true := eval_get (given_at hD 8 rfl rfl rfl)
      have h32 : a.tmps[32]?.getD undef = .bool ((((holdsF P D x.1).length : Nat) : Int) == 0) := eval_get (given_at hD 18 rfl rfl rfl)
      refine wp_value (v := .bool ((((holdsF P D x.1).length : Nat) : Int) == 0)) (w' := w1) ?_ (hK _ _ hJ (Below.refl _ _) rfl)
      clear hK hD hA hJ
      go_simp
  · intro a w' hJ hA hG
    have hv33 : a.tmps[33]?.getD undef = .bool ((((holdsF P D x.1).length : Nat) : Int) == 0) := eval_get (hG 19 _ _ rfl rfl)
    have ha : a = ⟨#[t0, .int .i64 dur, .pointer (some ⟨g, 0, none⟩), t3, t4, t5, .int .i64 (i : Int), t7, t8, t9, t10, t11, t12, t13, a.tmps[14]?.getD undef, a.tmps[15]?.getD undef, a.tmps[16]?.getD undef, a.tmps[17]?.getD undef, a.tmps[18]?.getD undef, a.tmps[19]?.getD undef, a.tmps[20]?.getD undef, a.tmps[21]?.getD undef, a.tmps[22]?.getD undef, a.tmps[23]?.getD undef, a.tmps[24]?.getD undef, a.tmps[25]?.getD undef, a.tmps[26]?.getD undef, a.tmps[27]?.getD undef, a.tmps[28]?.getD undef, a.tmps[29]?.getD undef, a.tmps[30]?.getD undef, a.tmps[31]?.getD undef, a.tmps[32]?.getD undef, .bool ((((holdsF P D x.1).length : Nat) : Int) == 0), t34, t35, t36, t37, t38, t39, t40, t41, t42, t43], []⟩ := act_of ⟨eval_get (hA.at_ 0 (by kernel_rfl)), eval_get (hA.at_ 1 (by kernel_rfl)), eval_get (hA.at_ 2 (by kernel_rfl)), eval_get (hA.at_ 3 (by kernel_rfl)), eval_get (hA.at_ 4 (by kernel_rfl)), eval_get (hA.at_ 5 (by kernel_rfl)), eval_get (hA.at_ 6 (by kernel_rfl)), eval_get (hA.at_ 7 (by kernel_rfl)), eval_get (hA.at_ 8 (by kernel_rfl)), eval_get (hA.at_ 9 (by kernel_rfl)), eval_get (hA.at_ 10 (by kernel_rfl)), eval_get (hA.at_ 11 (by kernel_rfl)), eval_get (hA.at_ 12 (by kernel_rfl)), eval_get (hA.at_ 13 (by kernel_rfl)), rfl, rfl, rfl, rfl, rfl, rfl, rfl, rfl, rfl, rfl, rfl, rfl, rfl, rfl, rfl, rfl, rfl, rfl, rfl, hv33, eval_get (hA.at_ 34 (by kernel_rfl)), eval_get (hA.at_ 35 (by kernel_rfl)), eval_get (hA.at_ 36 (by kernel_rfl)), eval_get (hA.at_ 37 (by kernel_rfl)), eval_get (hA.at_ 38 (by kernel_rfl)), eval_get (hA.at_ 39 (by kernel_rfl)), eval_get (hA.at_ 40 (by kernel_rfl)), eval_get (hA.at_ 41 (by kernel_rfl)), eval_get (hA.at_ 42 (by kernel_rfl)), eval_get (hA.at_ 43 (by kernel_rfl)), trivial⟩ hA.size hA.defers
    rw [ha]
    exact HK.out w' _ _ _ _ _ _ _ _ _ _ _ _ _ _ _ _ _ _ _ hJ


set_option maxRecDepth 100000 in
set_option maxHeartbeats 2000000 in
theorem refFree_any (A B : Option Addr) (c d n m : Nat) (P : PM) (D : DM) (dur : Int) (w : World) (hn : P.length = n) (hm : D.length = m) (hP : RdP w A P) (hD : RdD w B D) (hr : Rising D) (h63 : n * 16 ≤ 140737488355328) (m63 : m * 16 ≤ 140737488355328) :
    Calls Try.prog 50 #[.agg #[.slice A n c, .slice B m d], .int .i64 dur] w fun e w' => ∃ v, e = .returned v ∧ Ints w' w.heap.size v (freeF P D dur) ∧ Below w.heap.size w w' := by
  subst hn
  subst hm
  have HP := Lib.hid (And.intro hP hD)
  have H63 := Lib.hid (And.intro h63 m63)
  have HR := Lib.hid hr
  clear hP hD h63 m63 hr
  obtain ⟨W, hW⟩ : ∃ W, W = w.alloc (.cells #[.slice A P.length c, .slice B D.length d] 52) := ⟨_, rfl⟩
  have hb0 : Below w.heap.size w W := by rw [hW]; exact (Below.refl _ _).alloc (Nat.le_refl _) _
  have hx0 : W.cell? ⟨w.heap.size, 0, none⟩ = some (.slice A P.length c) := by rw [hW]; simp
  have hx1 : W.cell? ⟨w.heap.size, 1, none⟩ = some (.slice B D.length d) := by rw [hW]; simp
  have hxl : w.heap.size < W.heap.size := by rw [hW]; simp
  have HX := Lib.hid (And.intro hx0 (And.intro hx1 hxl))
  have HB0 := Lib.hid hb0
  go_enter Try.func50, Try.ntmps50
  go_wp2_with fail
  rw [← hW]
  clear hW hx0 hx1 hxl hb0
  go_loopw [5, 6] (fun v i wr => ∃ k : Nat, k ≤ D.length ∧ i = .int .i64 k ∧ Ints wr W.heap.size v (((D.take k).filter (freeQ P D dur)).map (·.1)) ∧ Below W.heap.size W wr) (fun _ i _ => D.length - (intOf i).toNat)
  case atStart => exact ⟨0, Nat.zero_le _, rfl, ⟨World.ownsRow_nil _ _ _ _, by simp⟩, Below.refl _ _⟩
  case round =>
    obtain ⟨k, hk, rfl, hout, hb⟩ := hrel
    have h63 : D.length ≤ 9223372036854775807 := by have := H63.out; omega
    have hx0 := (hb.cell (p := ⟨w.heap.size, 0, none⟩) HX.out.2.2).trans HX.out.1
    have hx1 := (hb.cell (p := ⟨w.heap.size, 1, none⟩) HX.out.2.2).trans HX.out.2.1
    by_cases hlt : k < D.length
    · have hrd := (HP.out.2.below HB0.out).below hb
      have HPW := Lib.hid ((HP.out.1.below HB0.out).below hb)
      obtain ⟨ad, rfl, hb1, hc0, hc1⟩ := hrd k hlt
      have HDW := Lib.hid hrd
      have e0 : D.getD k (0, 0) = D[k] := by simp [List.getD_eq_getElem?_getD, hlt]
      rw [e0] at hc0 hc1
      have hk0 : (0 : Int) ≤ (k : Int) := by omega
      have hk1 : (k : Int) < (D.length : Int) := by omega
      have hbs : W.heap.size ≤ wr.heap.size := hb.size
      have hfl := filter_len (·.1) (freeQ P D dur) D k
      have Hby := Lib.hid (show ((((D.take k).filter (freeQ P D dur)).map (·.1)).length + 1) * 8 ≤ 140737488355328 from by have := H63.out; omega)
      have HT := Lib.hid (fun hq => take_keep (·.1) (freeQ P D dur) D k hlt hq)
      have HN := Lib.hid (fun hq => take_drop (·.1) (freeQ P D dur) D k hlt hq)
      have HGL := Lib.hid (show w.heap.size < wr.heap.size from Nat.lt_of_lt_of_le HX.out.2.2 hb.size)
      clear hfl e0 hrd
      generalize D[k] = x at hc0 hc1 HT HN
      by_cases q1 : x.2 ≤ dur
      · have f1 : decide (x.2 ≤ dur) = true := decide_eq_true q1
        go_upto_region 5 with fail
        refine frT _ w.heap.size A ad c d P.length D.length k x dur P D _ ⟨rfl, rfl, HR.out, H63.out.1, h63⟩ ⟨HPW.out, HDW.out⟩ HGL.out hx0 hx1 hb1 hc0 hc1 hk0 hk1 f1 _ _ _ _ _ _ _ _ _ _ _ _ _ _ _ _ _ _ _ _ _ _ _ _ _ _ _ _ _ _ _ _ _ _ _ _ _ _ _ _ _ ?_
        intro w9 _ _ _ _ _ _ _ _ _ _ _ _ _ _ _ _ _ _ _ hj
        dsimp only [Exit.inBlock, Exit.then]
        have hx1' := (hj.cell (p := ⟨w.heap.size, 1, none⟩) HGL.out).trans hx1
        have hc0' := (hj.cell (p := ad.add (k * 2)) (by rw [add_block]; exact hb1)).trans hc0
        have hout9 := Lib.hid (hout.below hj)
        have hb9 := Lib.hid (hb.trans (hj.mono hbs))
        have hbs9 : W.heap.size ≤ w9.heap.size := Nat.le_trans hbs hj.size
        clear hx0 hx1 hc0 hc1 hout hb hj hbs
        cases hh : holdsF P D x.1 with
        | nil =>
          have hT := Lib.hid (HT.out (by simp [freeQ, q1, hh]))
          clear HT HN q1 f1 hh
          rw [show ((((([] : List Bs).length : Nat) : Int)) == 0) = true from rfl]
          go_wp2_with (at_builtin; refine wl_append_i _ rfl _ _ rfl W.heap.size _ _ rfl hout9.out x.1 rfl Hby.out hbs9 ?_; intro v' w3 h1' hb3)
          go_roundw
          case rel => exact ⟨k + 1, by omega, by go_num, by rw [hT.out]; exact h1', hb9.out.trans hb3⟩
          case measure => simp [intOf]; omega
        | cons h0 ht =>
          have hT := Lib.hid (HN.out (by simp [freeQ, hh]))
          clear HT HN q1 f1 hh
          rw [show (((((h0 :: ht).length : Nat) : Int)) == 0) = false from by simp; omega]
          go_wp2_with fail
          go_roundw
          case rel => exact ⟨k + 1, by omega, by go_num, by rw [hT.out]; exact hout9.out, hb9.out⟩
          case measure => simp [intOf]; omega
      · have f1 : decide (x.2 ≤ dur) = false := decide_eq_false q1
        have hT := Lib.hid (HN.out (by simp [freeQ, q1]))
        have hout9 := Lib.hid (fun n => hout.below (below_drewN wr n))
        have hb9 := Lib.hid (fun n => hb.trans ((below_drewN wr n).mono hbs))
        clear HT HN q1 hout hb
        go_upto_region 5 with fail
        go_quiet (fail)
        go_wp2_with fail
        go_roundw
        case rel => exact ⟨k + 1, by omega, by go_num, by rw [hT.out]; exact hout9.out _, hb9.out _⟩
        case measure => simp [intOf]; omega
    · have hke : k = D.length := by omega
      have Hke := Lib.hid hke
      clear hke
      go_wp2_with fail
      go_ret
      rw [Hke.out, List.take_length] at hout
      exact ⟨_, rfl, ⟨ownsRow_base_a hout.1 HB0.out.size, hout.2⟩, HB0.out.trans (hb.mono HB0.out.size)⟩

end Go.Proofs.Ytjggeodnoigkkaa

namespace Go.Proofs.Ytjggeodnoigkkaa
open Go.RowKit Go.Maps Go.Shelf Go.Proofs.YtjggeodnoigkkaaM

set_option maxRecDepth 100000 in
theorem refShort_any (s : Bs) (w : World) (hs : s.length ≤ 4294967296) : Calls Try.prog 72 #[.string ⟨s.toArray⟩] w fun e w' => e = .returned (.string ⟨(shortB s).toArray⟩) ∧ Below w.heap.size w w' := by
  obtain ⟨W, hW⟩ : ∃ W, W = w.alloc (.cells #[.int .u8 ((s.length : Int) % 256)] 5) := ⟨_, rfl⟩
  have hcv := run_convert_bytes_arg (P := Try.prog) W 59 5 Try.underlying59 Try.underlying5 w.heap.size 0 1 1 [(s.length : Int) % 256] rfl (fun i hi => by
    have : i = 0 := by omega
    subst this
    rw [hW]
    simp) 9 Try.underlying9
  obtain ⟨z, hz⟩ : ∃ z : ByteArray, z = strOfNums [(s.length : Int) % 256] := ⟨_, rfl⟩
  rw [← hz] at hcv
  have hz1 : z.size = 1 := by rw [hz]; rfl
  have H := Lib.hid (show z ++ ⟨s.toArray⟩ = ⟨(shortB s).toArray⟩ from by
    rw [hz]
    exact cat_bs [_] s)
  rw [hW] at hcv
  clear hz hW
  go_enter Try.func72, Try.ntmps72
  go_wp2_with fail
  go_ret
  exact ⟨by rw [← H.out]; rfl, (Below.refl _ _).alloc (Nat.le_refl _) _⟩


theorem eight_take (n : Int) (k : Nat) (hk : k < 8) : (eightB n).take (k + 1) = (eightB n).take k ++ [UInt8.ofNat (byteI n k).toNat] := by
  have hl : k < (eightB n).length := by rw [eightB_len]; exact hk
  rw [List.take_succ_eq_append_getElem hl]
  congr 1
  simp [eightB]
theorem byteI_succ (n : Int) (k : Nat) : n / 2 ^ (8 * k) / 256 = n / 2 ^ (8 * (k + 1)) := by
  rw [Int.ediv_ediv_of_nonneg (by exact_mod_cast Nat.zero_le _)]
  congr 1
  rw [show 8 * (k + 1) = 8 * k + 8 from by omega, Int.pow_add]
  rfl

set_option maxRecDepth 100000 in
set_option maxHeartbeats 1000000 in
theorem refEight_any (n : Int) (w : World) (h0 : 0 ≤ n) (h1 : n ≤ 9223372036854775807) : Calls Try.prog 71 #[.int .i64 n] w fun e w' => e = .returned (.string ⟨(eightB n).toArray⟩) ∧ Below w.heap.size w w' := by
  go_enter Try.func71, Try.ntmps71
  go_wp2_with fail
  go_loopw [0, 3, 4] (fun v o i wr => ∃ (k : Nat) (m : Int) (z : ByteArray), k ≤ 8 ∧ i = .int .i64 k ∧ v = .int .i64 m ∧ 0 ≤ m ∧ m ≤ 9223372036854775807 ∧ Hid (m = n / 2 ^ (8 * k)) ∧ o = .string z ∧ Hid (z = ⟨((eightB n).take k).toArray⟩) ∧ z.size ≤ 8 ∧ Below w.heap.size w wr) (fun _ _ i _ => 8 - (intOf i).toNat)
  case atStart => exact ⟨0, n, _, by decide, rfl, rfl, h0, h1, Lib.hid (by simp), rfl, Lib.hid rfl, by decide, Below.refl _ _⟩
  case round =>
    clear h0 h1
    obtain ⟨k, m, z, hk, rfl, rfl, hm0, hm1, hm, rfl, hz, hzs, hb⟩ := hrel
    by_cases hlt : k < 8
    · have d1 : decide ((k : Int) < 8) = true := decide_eq_true (by omega)
      obtain ⟨W, hW⟩ : ∃ W, W = wr.alloc (.cells #[.int .u8 (m % 256)] 5) := ⟨_, rfl⟩
      have hcv := run_convert_bytes_arg (P := Try.prog) W 59 5 Try.underlying59 Try.underlying5 wr.heap.size 0 1 1 [m % 256] rfl (fun i hi => by
        have : i = 0 := by omega
        subst this
        rw [hW]
        simp) 9 Try.underlying9
      obtain ⟨zb, hzb⟩ : ∃ z : ByteArray, z = strOfNums [m % 256] := ⟨_, rfl⟩
      rw [← hzb] at hcv
      have hz1 : zb.size = 1 := by rw [hzb]; rfl
      have HZ := Lib.hid (show z ++ zb = ⟨((eightB n).take (k + 1)).toArray⟩ from by
        rw [hz.out, hzb, eight_take n k hlt, ← cat_bs]
        congr 1
        rw [byteI, ← hm.out]
        rfl)
      have HZS := Lib.hid (show (z ++ zb).size ≤ 8 from by
        rw [HZ.out]
        show ((eightB n).take (k + 1)).length ≤ 8
        rw [List.length_take]
        omega)
      have HM := Lib.hid (show m / 256 = n / 2 ^ (8 * (k + 1)) from by rw [hm.out, byteI_succ])
      have hm2 : 0 ≤ m / 256 := by omega
      have hm3 : m / 256 ≤ 9223372036854775807 := by omega
      rw [hW] at hcv
      clear hW hzb
      go_wp2_with fail
      go_roundw
      case rel => exact ⟨k + 1, m / 256, z ++ zb, by omega, by go_num, rfl, hm2, hm3, HM, rfl, HZ, HZS.out, hb.alloc (Nat.le_trans (Nat.le_refl _) hb.size) _⟩
      case measure => simp [intOf]; omega
    · have hk8 : k = 8 := by omega
      have d1 : decide ((k : Int) < 8) = false := decide_eq_false (by omega)
      have HZ := Lib.hid (show z = ⟨(eightB n).toArray⟩ from by rw [hz.out, List.take_of_length_le (by rw [eightB_len]; omega)])
      clear hz
      go_wp2_with fail
      go_ret
      rw [← HZ.out]
      exact ⟨rfl, hb⟩

end Go.Proofs.Ytjggeodnoigkkaa

namespace Go.Proofs.Ytjggeodnoigkkaa
open Go.RowKit Go.Maps Go.Shelf Go.Proofs.YtjggeodnoigkkaaM

noncomputable def coderen5 : Code := ((Try.f51.body.bind (theRegion 5)).getD .skip)

def Rren5 (g : Nat) (b : Addr) (c n i : Nat) (out nv fv n1 n2 n3 : ByteArray) (x : Int) (j : Nat) (v : Value) (_w : World) : Prop :=
  v = [.string out, .pointer (some ⟨g, 0, none⟩), .slice (some b) n c, .int .i64 (i : Int), .pointer (some (b.add (i * 3))), .pointer (some (b.add (i * 3))), .string nv, .string n1, .string (out ++ n1), .pointer (some ⟨g, 0, none⟩), .slice (some b) n c, .int .i64 (i : Int), .pointer (some (b.add (i * 3))), .pointer (some ⟨(b.add (i * 3)).block, (b.add (i * 3)).off + 2, none⟩), .string fv, .string n2, .string (out ++ n1 ++ n2), .pointer (some ⟨g, 0, none⟩), .slice (some b) n c, .int .i64 (i : Int), .pointer (some (b.add (i * 3))), .pointer (some ⟨(b.add (i * 3)).block, (b.add (i * 3)).off + 1, none⟩), .int .i64 x, .string n3, .string (out ++ n1 ++ n2 ++ n3), .string (out ++ n1 ++ n2 ++ n3)].getD j undef
theorem Rren5_le (g : Nat) (b : Addr) (c n i : Nat) (out nv fv n1 n2 n3 : ByteArray) (x : Int) : ∀ j v w w', Below w.heap.size w w' → Rren5 g b c n i out nv fv n1 n2 n3 x j v w → Rren5 g b c n i out nv fv n1 n2 n3 x j v w' := by
  intro j v w w' hb h
  exact h

set_option maxRecDepth 1000000 in
set_option maxHeartbeats 4000000 in
theorem ren5 (Q : Exit → Act → World → Prop) (g : Nat) (b : Addr) (c n i : Nat) (out nv fv n1 n2 n3 : ByteArray) (x : Int) (w : World)
    (hgl : g < w.heap.size)
    (hx0 : w.cell? ⟨g, 0, none⟩ = some (.slice (some b) n c))
    (hbl : b.block < w.heap.size)
    (hc0 : w.cell? (b.add (i * 3)) = some (.string nv))
    (hc1 : w.cell? ⟨(b.add (i * 3)).block, (b.add (i * 3)).off + 1, none⟩ = some (.int .i64 x))
    (hc2 : w.cell? ⟨(b.add (i * 3)).block, (b.add (i * 3)).off + 2, none⟩ = some (.string fv))
    (hi0 : (0 : Int) ≤ (i : Int))
    (hi1 : (i : Int) < (n : Int))
    (H1 : ∀ W, Calls Try.prog 72 #[.string nv] W fun e w' => e = .returned (.string n1) ∧ Below W.heap.size W w')
    (H2 : ∀ W, Calls Try.prog 72 #[.string fv] W fun e w' => e = .returned (.string n2) ∧ Below W.heap.size W w')
    (H3 : ∀ W, Calls Try.prog 71 #[.int .i64 x] W fun e w' => e = .returned (.string n3) ∧ Below W.heap.size W w')
    (hs1 : out.size + n1.size ≤ 9223372036854775807)
    (hs2 : out.size + n1.size + n2.size ≤ 9223372036854775807)
    (hs3 : out.size + n1.size + n2.size + n3.size ≤ 9223372036854775807)
    (t0 t2 t5 t6 t7 t8 t9 t10 t11 t12 t13 t14 t15 t16 t17 t18 t19 t20 t21 t22 t23 t24 t25 t26 t27 t28 t29 t30 t31 t32 t33 t34 t35 t36 t37 t38 t39 t40 t41 t42 t43 t44 t45 t46 t47 t48 t49 t50 t51 t52 t53 t54 t55 t56 t57 t58 t59 t60 t61 t62 t63 t64 t65 t66 t67 t68 t69 t70 t71 t72 : Value) (hK : ∀ (w' : World) (s17 s18 s19 s20 s21 s22 s23 s24 s25 s26 s27 s28 s29 s30 s31 s32 s33 s34 s35 s36 s37 s38 s39 s40 s41 : Value), Below w.heap.size w w' → Q .normal ⟨#[t0, .pointer (some ⟨g, 0, none⟩), t2, .string (out ++ n1 ++ n2 ++ n3), .int .i64 (i : Int), t5, t6, t7, t8, t9, t10, t11, t12, t13, t14, t15, t16, s17, s18, s19, s20, s21, s22, s23, s24, s25, s26, s27, s28, s29, s30, s31, s32, s33, s34, s35, s36, s37, s38, s39, s40, s41, t42, t43, t44, t45, t46, t47, t48, t49, t50, t51, t52, t53, t54, t55, t56, t57, t58, t59, t60, t61, t62, t63, t64, t65, t66, t67, t68, t69, t70, t71, t72], []⟩ w') :
    Code.wp Try.prog coderen5 Q ⟨#[t0, .pointer (some ⟨g, 0, none⟩), t2, .string out, .int .i64 (i : Int), t5, t6, t7, t8, t9, t10, t11, t12, t13, t14, t15, t16, t17, t18, t19, t20, t21, t22, t23, t24, t25, t26, t27, t28, t29, t30, t31, t32, t33, t34, t35, t36, t37, t38, t39, t40, t41, t42, t43, t44, t45, t46, t47, t48, t49, t50, t51, t52, t53, t54, t55, t56, t57, t58, t59, t60, t61, t62, t63, t64, t65, t66, t67, t68, t69, t70, t71, t72], []⟩ w := by
  replace H1 := Lib.hid H1
  replace H2 := Lib.hid H2
  replace H3 := Lib.hid H3
  have HK := Lib.hid hK
  clear hK
  conv => arg 2; whnf
  refine wp_flow2 (P := Try.prog) (by kernel_rfl) (by kernel_rfl) (fun W => Below w.heap.size w W) (Rren5 g b c n i out nv fv n1 n2 n3 x) (fun W W' => Below W.heap.size W W') (Below.refl _ _).drew (Rren5_le g b c n i out nv fv n1 n2 n3 x) ?_ ?_
  · refine ⟨?_, ?_, ?_, ?_, ?_, ?_, ?_, ?_, ?_, ?_, ?_, ?_, ?_, ?_, ?_, ?_, ?_, ?_, ?_, ?_, ?_, ?_, ?_, ?_, ?_, ?_, trivial⟩
    · intro a w1 hJ hA hU hD K hK
      refine duty_plain rfl ?_
      have h3 : a.tmps[3]?.getD undef = .string out := eval_get (hU.at_ 25 rfl rfl rfl)
      refine wp_value (v := .string out) (w' := w1) ?_ (hK _ _ hJ (Below.refl _ _) rfl)
      clear hK hD hA hJ hU
      go_simp
    · intro a w1 hJ hA hU hD K hK
      refine duty_plain rfl ?_
      have h1 : a.tmps[1]?.getD undef = .pointer (some ⟨g, 0, none⟩) := eval_get (hA.at_ 1 (by kernel_rfl))
      refine wp_value (v := .pointer (some ⟨g, 0, none⟩)) (w' := w1) ?_ (hK _ _ hJ (Below.refl _ _) rfl)
      clear hK hD hA hJ hU
      go_simp
    · intro a w1 hJ hA hU hD K hK
      refine duty_plain rfl ?_
      have h18 : a.tmps[18]?.getD undef = .pointer (some ⟨g, 0, none⟩) := eval_get (given_at hD 1 rfl rfl rfl)
      have hc := (hJ.cell (p := ⟨g, 0, none⟩) hgl).trans hx0
      refine wp_value (v := .slice (some b) n c) (w' := w1) ?_ (hK _ _ hJ (Below.refl _ _) rfl)
      clear hK hD hA hJ hU
      go_simp
    · intro a w1 hJ hA hU hD K hK
      refine duty_plain rfl ?_
      have h4 : a.tmps[4]?.getD undef = .int .i64 (i : Int) := eval_get (hA.at_ 4 (by kernel_rfl))
      refine wp_value (v := .int .i64 (i : Int)) (w' := w1) ?_ (hK _ _ hJ (Below.refl _ _) rfl)
      clear hK hD hA hJ hU
      go_simp
    · intro a w1 hJ hA hU hD K hK
      refine duty_plain rfl ?_
      have h19 : a.tmps[19]?.getD undef = .slice (some b) n c := eval_get (given_at hD 2 rfl rfl rfl)
      have h20 : a.tmps[20]?.getD undef = .int .i64 (i : Int) := eval_get (given_at hD 3 rfl rfl rfl)
      refine wp_value (v := .pointer (some (b.add (i * 3)))) (w' := w1) ?_ (hK _ _ hJ (Below.refl _ _) rfl)
      clear hK hD hA hJ hU
      go_simp
    · intro a w1 hJ hA hU hD K hK
      refine duty_plain rfl ?_
      have h21 : a.tmps[21]?.getD undef = .pointer (some (b.add (i * 3))) := eval_get (given_at hD 4 rfl rfl rfl)
      refine wp_value (v := .pointer (some (b.add (i * 3)))) (w' := w1) ?_ (hK _ _ hJ (Below.refl _ _) rfl)
      clear hK hD hA hJ hU
      go_simp
    · intro a w1 hJ hA hU hD K hK
      refine duty_plain rfl ?_
      have h22 : a.tmps[22]?.getD undef = .pointer (some (b.add (i * 3))) := eval_get (given_at hD 5 rfl rfl rfl)
      have hc := (hJ.cell (p := b.add (i * 3)) (by rw [add_block]; exact hbl)).trans hc0
      refine wp_value (v := .string nv) (w' := w1) ?_ (hK _ _ hJ (Below.refl _ _) rfl)
      clear hK hD hA hJ hU
      go_simp
    · intro a w1 hJ hA hU hD K hK
      refine duty_plain rfl ?_
      have h23 : a.tmps[23]?.getD undef = .string nv := eval_get (given_at hD 6 rfl rfl rfl)
      refine wp_enter (f := 72) (args := #[.string nv]) (w' := w1) ?_ (Calls.mono (H1.out w1) ?_)
      · clear hK hD hA hJ
        go_simp
      · rintro e w2 ⟨rfl, hb2⟩
        exact ⟨_, rfl, hK _ _ (hJ.trans (hb2.mono hJ.size)) hb2 rfl⟩
    · intro a w1 hJ hA hU hD K hK
      refine duty_plain rfl ?_
      have h17 : a.tmps[17]?.getD undef = .string out := eval_get (given_at hD 0 rfl rfl rfl)
      have h24 : a.tmps[24]?.getD undef = .string n1 := eval_get (given_at hD 7 rfl rfl rfl)
      refine wp_value (v := .string (out ++ n1)) (w' := w1) ?_ (hK _ _ hJ (Below.refl _ _) rfl)
      clear hK hD hA hJ hU
      go_simp
    · intro a w1 hJ hA hU hD K hK
      refine duty_plain rfl ?_
      have h1 : a.tmps[1]?.getD undef = .pointer (some ⟨g, 0, none⟩) := eval_get (hA.at_ 1 (by kernel_rfl))
      refine wp_value (v := .pointer (some ⟨g, 0, none⟩)) (w' := w1) ?_ (hK _ _ hJ (Below.refl _ _) rfl)
      clear hK hD hA hJ hU
      go_simp
    · intro a w1 hJ hA hU hD K hK
      refine duty_plain rfl ?_
      have h26 : a.tmps[26]?.getD undef = .pointer (some ⟨g, 0, none⟩) := eval_get (given_at hD 9 rfl rfl rfl)
      have hc := (hJ.cell (p := ⟨g, 0, none⟩) hgl).trans hx0
      refine wp_value (v := .slice (some b) n c) (w' := w1) ?_ (hK _ _ hJ (Below.refl _ _) rfl)
      clear hK hD hA hJ hU
      go_simp
    · intro a w1 hJ hA hU hD K hK
      refine duty_plain rfl ?_
      have h4 : a.tmps[4]?.getD undef = .int .i64 (i : Int) := eval_get (hA.at_ 4 (by kernel_rfl))
      refine wp_value (v := .int .i64 (i : Int)) (w' := w1) ?_ (hK _ _ hJ (Below.refl _ _) rfl)
      clear hK hD hA hJ hU
      go_simp
    · intro a w1 hJ hA hU hD K hK
      refine duty_plain rfl ?_
      have h27 : a.tmps[27]?.getD undef = .slice (some b) n c := eval_get (given_at hD 10 rfl rfl rfl)
      have h28 : a.tmps[28]?.getD undef = .int .i64 (i : Int) := eval_get (given_at hD 11 rfl rfl rfl)
      refine wp_value (v := .pointer (some (b.add (i * 3)))) (w' := w1) ?_ (hK _ _ hJ (Below.refl _ _) rfl)
      clear hK hD hA hJ hU
      go_simp
    · intro a w1 hJ hA hU hD K hK
      refine duty_plain rfl ?_
      have h29 : a.tmps[29]?.getD undef = .pointer (some (b.add (i * 3))) := eval_get (given_at hD 12 rfl rfl rfl)
      refine wp_value (v := .pointer (some ⟨(b.add (i * 3)).block, (b.add (i * 3)).off + 2, none⟩)) (w' := w1) ?_ (hK _ _ hJ (Below.refl _ _) rfl)
      clear hK hD hA hJ hU
      go_simp
    · intro a w1 hJ hA hU hD K hK
      refine duty_plain rfl ?_
      have h30 : a.tmps[30]?.getD undef = .pointer (some ⟨(b.add (i * 3)).block, (b.add (i * 3)).off + 2, none⟩) := eval_get (given_at hD 13 rfl rfl rfl)
      have hc := (hJ.cell (p := ⟨(b.add (i * 3)).block, (b.add (i * 3)).off + 2, none⟩) (by show (b.add (i * 3)).block < _; rw [add_block]; exact hbl)).trans hc2
      refine wp_value (v := .string fv) (w' := w1) ?_ (hK _ _ hJ (Below.refl _ _) rfl)
      clear hK hD hA hJ hU
      go_simp
    · intro a w1 hJ hA hU hD K hK
      refine duty_plain rfl ?_
      have h31 : a.tmps[31]?.getD undef = .string fv := eval_get (given_at hD 14 rfl rfl rfl)
      refine wp_enter (f := 72) (args := #[.string fv]) (w' := w1) ?_ (Calls.mono (H2.out w1) ?_)
      · clear hK hD hA hJ
        go_simp
      · rintro e w2 ⟨rfl, hb2⟩
        exact ⟨_, rfl, hK _ _ (hJ.trans (hb2.mono hJ.size)) hb2 rfl⟩
    · intro a w1 hJ hA hU hD K hK
      refine duty_plain rfl ?_
      have h25 : a.tmps[25]?.getD undef = .string (out ++ n1) := eval_get (given_at hD 8 rfl rfl rfl)
      have h32 : a.tmps[32]?.getD undef = .string n2 := eval_get (given_at hD 15 rfl rfl rfl)
      refine wp_value (v := .string (out ++ n1 ++ n2)) (w' := w1) ?_ (hK _ _ hJ (Below.refl _ _) rfl)
      clear hK hD hA hJ hU
      go_simp
    · intro a w1 hJ hA hU hD K hK
      refine duty_plain rfl ?_
      have h1 : a.tmps[1]?.getD undef = .pointer (some ⟨g, 0, none⟩) := eval_get (hA.at_ 1 (by kernel_rfl))
      refine wp_value (v := .pointer (some ⟨g, 0, none⟩)) (w' := w1) ?_ (hK _ _ hJ (Below.refl _ _) rfl)
      clear hK hD hA hJ hU
      go_simp
    · intro a w1 hJ hA hU hD K hK
      refine duty_plain rfl ?_
      have h34 : a.tmps[34]?.getD undef = .pointer (some ⟨g, 0, none⟩) := eval_get (given_at hD 17 rfl rfl rfl)
      have hc := (hJ.cell (p := ⟨g, 0, none⟩) hgl).trans hx0
      refine wp_value (v := .slice (some b) n c) (w' := w1) ?_ (hK _ _ hJ (Below.refl _ _) rfl)
      clear hK hD hA hJ hU
      go_simp
    · intro a w1 hJ hA hU hD K hK
      refine duty_plain rfl ?_
      have h4 : a.tmps[4]?.getD undef = .int .i64 (i : Int) := eval_get (hA.at_ 4 (by kernel_rfl))
      refine wp_value (v := .int .i64 (i : Int)) (w' := w1) ?_ (hK _ _ hJ (Below.refl _ _) rfl)
      clear hK hD hA hJ hU
      go_simp
    · intro a w1 hJ hA hU hD K hK
      refine duty_plain rfl ?_
      have h35 : a.tmps[35]?.getD undef = .slice (some b) n c := eval_get (given_at hD 18 rfl rfl rfl)
      have h36 : a.tmps[36]?.getD undef = .int .i64 (i : Int) := eval_get (given_at hD 19 rfl rfl rfl)
      refine wp_value (v := .pointer (some (b.add (i * 3)))) (w' := w1) ?_ (hK _ _ hJ (Below.refl _ _) rfl)
      clear hK hD hA hJ hU
      go_simp
    · intro a w1 hJ hA hU hD K hK
      refine duty_plain rfl ?_
      have h37 : a.tmps[37]?.getD undef = .pointer (some (b.add (i * 3))) := eval_get (given_at hD 20 rfl rfl rfl)
      refine wp_value (v := .pointer (some ⟨(b.add (i * 3)).block, (b.add (i * 3)).off + 1, none⟩)) (w' := w1) ?_ (hK _ _ hJ (Below.refl _ _) rfl)
      clear hK hD hA hJ hU
      go_simp
    · intro a w1 hJ hA hU hD K hK
      refine duty_plain rfl ?_
      have h38 : a.tmps[38]?.getD undef = .pointer (some ⟨(b.add (i * 3)).block, (b.add (i * 3)).off + 1, none⟩) := eval_get (given_at hD 21 rfl rfl rfl)
      have hc := (hJ.cell (p := ⟨(b.add (i * 3)).block, (b.add (i * 3)).off + 1, none⟩) (by show (b.add (i * 3)).block < _; rw [add_block]; exact hbl)).trans hc1
      refine wp_value (v := .int .i64 x) (w' := w1) ?_ (hK _ _ hJ (Below.refl _ _) rfl)
      clear hK hD hA hJ hU
      go_simp
    · intro a w1 hJ hA hU hD K hK
      refine duty_plain rfl ?_
      have h39 : a.tmps[39]?.getD undef = .int .i64 x := eval_get (given_at hD 22 rfl rfl rfl)
      refine wp_enter (f := 71) (args := #[.int .i64 x]) (w' := w1) ?_ (Calls.mono (H3.out w1) ?_)
      · clear hK hD hA hJ
        go_simp
      · rintro e w2 ⟨rfl, hb2⟩
        exact ⟨_, rfl, hK _ _ (hJ.trans (hb2.mono hJ.size)) hb2 rfl⟩
    · intro a w1 hJ hA hU hD K hK
      refine duty_plain rfl ?_
      have h33 : a.tmps[33]?.getD undef = .string (out ++ n1 ++ n2) := eval_get (given_at hD 16 rfl rfl rfl)
      have h40 : a.tmps[40]?.getD undef = .string n3 := eval_get (given_at hD 23 rfl rfl rfl)
      refine wp_value (v := .string (out ++ n1 ++ n2 ++ n3)) (w' := w1) ?_ (hK _ _ hJ (Below.refl _ _) rfl)
      clear hK hD hA hJ hU
      go_simp
    · intro a w1 hJ hA hU hD K hK
      refine duty_plain rfl ?_
      have h41 : a.tmps[41]?.getD undef = .string (out ++ n1 ++ n2 ++ n3) := eval_get (given_at hD 24 rfl rfl rfl)
      refine wp_value (v := .string (out ++ n1 ++ n2 ++ n3)) (w' := w1) ?_ (hK _ _ hJ (Below.refl _ _) rfl)
      clear hK hD hA hJ hU
      go_simp
  · intro a w' hJ hA hG
    have hv3 : a.tmps[3]?.getD undef = .string (out ++ n1 ++ n2 ++ n3) := eval_get (hG 25 _ _ rfl rfl)
    have ha : a = ⟨#[t0, .pointer (some ⟨g, 0, none⟩), t2, .string (out ++ n1 ++ n2 ++ n3), .int .i64 (i : Int), t5, t6, t7, t8, t9, t10, t11, t12, t13, t14, t15, t16, a.tmps[17]?.getD undef, a.tmps[18]?.getD undef, a.tmps[19]?.getD undef, a.tmps[20]?.getD undef, a.tmps[21]?.getD undef, a.tmps[22]?.getD undef, a.tmps[23]?.getD undef, a.tmps[24]?.getD undef, a.tmps[25]?.getD undef, a.tmps[26]?.getD undef, a.tmps[27]?.getD undef, a.tmps[28]?.getD undef, a.tmps[29]?.getD undef, a.tmps[30]?.getD undef, a.tmps[31]?.getD undef, a.tmps[32]?.getD undef, a.tmps[33]?.getD undef, a.tmps[34]?.getD undef, a.tmps[35]?.getD undef, a.tmps[36]?.getD undef, a.tmps[37]?.getD undef, a.tmps[38]?.getD undef, a.tmps[39]?.getD undef, a.tmps[40]?.getD undef, a.tmps[41]?.getD undef, t42, t43, t44, t45, t46, t47, t48, t49, t50, t51, t52, t53, t54, t55, t56, t57, t58, t59, t60, t61, t62, t63, t64, t65, t66, t67, t68, t69, t70, t71, t72], []⟩ := act_of ⟨eval_get (hA.at_ 0 (by kernel_rfl)), eval_get (hA.at_ 1 (by kernel_rfl)), eval_get (hA.at_ 2 (by kernel_rfl)), hv3, eval_get (hA.at_ 4 (by kernel_rfl)), eval_get (hA.at_ 5 (by kernel_rfl)), eval_get (hA.at_ 6 (by kernel_rfl)), eval_get (hA.at_ 7 (by kernel_rfl)), eval_get (hA.at_ 8 (by kernel_rfl)), eval_get (hA.at_ 9 (by kernel_rfl)), eval_get (hA.at_ 10 (by kernel_rfl)), eval_get (hA.at_ 11 (by kernel_rfl)), eval_get (hA.at_ 12 (by kernel_rfl)), eval_get (hA.at_ 13 (by kernel_rfl)), eval_get (hA.at_ 14 (by kernel_rfl)), eval_get (hA.at_ 15 (by kernel_rfl)), eval_get (hA.at_ 16 (by kernel_rfl)), rfl, rfl, rfl, rfl, rfl, rfl, rfl, rfl, rfl, rfl, rfl, rfl, rfl, rfl, rfl, rfl, rfl, rfl, rfl, rfl, rfl, rfl, rfl, rfl, rfl, eval_get (hA.at_ 42 (by kernel_rfl)), eval_get (hA.at_ 43 (by kernel_rfl)), eval_get (hA.at_ 44 (by kernel_rfl)), eval_get (hA.at_ 45 (by kernel_rfl)), eval_get (hA.at_ 46 (by kernel_rfl)), eval_get (hA.at_ 47 (by kernel_rfl)), eval_get (hA.at_ 48 (by kernel_rfl)), eval_get (hA.at_ 49 (by kernel_rfl)), eval_get (hA.at_ 50 (by kernel_rfl)), eval_get (hA.at_ 51 (by kernel_rfl)), eval_get (hA.at_ 52 (by kernel_rfl)), eval_get (hA.at_ 53 (by kernel_rfl)), eval_get (hA.at_ 54 (by kernel_rfl)), eval_get (hA.at_ 55 (by kernel_rfl)), eval_get (hA.at_ 56 (by kernel_rfl)), eval_get (hA.at_ 57 (by kernel_rfl)), eval_get (hA.at_ 58 (by kernel_rfl)), eval_get (hA.at_ 59 (by kernel_rfl)), eval_get (hA.at_ 60 (by kernel_rfl)), eval_get (hA.at_ 61 (by kernel_rfl)), eval_get (hA.at_ 62 (by kernel_rfl)), eval_get (hA.at_ 63 (by kernel_rfl)), eval_get (hA.at_ 64 (by kernel_rfl)), eval_get (hA.at_ 65 (by kernel_rfl)), eval_get (hA.at_ 66 (by kernel_rfl)), eval_get (hA.at_ 67 (by kernel_rfl)), eval_get (hA.at_ 68 (by kernel_rfl)), eval_get (hA.at_ 69 (by kernel_rfl)), eval_get (hA.at_ 70 (by kernel_rfl)), eval_get (hA.at_ 71 (by kernel_rfl)), eval_get (hA.at_ 72 (by kernel_rfl)), trivial⟩ hA.size hA.defers
    rw [ha]
    exact HK.out w' _ _ _ _ _ _ _ _ _ _ _ _ _ _ _ _ _ _ _ _ _ _ _ _ _ hJ


noncomputable def coderen10 : Code := ((Try.f51.body.bind (theRegion 10)).getD .skip)

def Rren10 (g : Nat) (b : Addr) (d m i : Nat) (out n1 n2 : ByteArray) (x y : Int) (j : Nat) (v : Value) (_w : World) : Prop :=
  v = [.string out, .pointer (some ⟨g, 1, none⟩), .slice (some b) m d, .int .i64 (i : Int), .pointer (some (b.add (i * 2))), .pointer (some (b.add (i * 2))), .int .i64 x, .string n1, .string (out ++ n1), .pointer (some ⟨g, 1, none⟩), .slice (some b) m d, .int .i64 (i : Int), .pointer (some (b.add (i * 2))), .pointer (some ⟨(b.add (i * 2)).block, (b.add (i * 2)).off + 1, none⟩), .int .i64 y, .string n2, .string (out ++ n1 ++ n2), .string (out ++ n1 ++ n2)].getD j undef
theorem Rren10_le (g : Nat) (b : Addr) (d m i : Nat) (out n1 n2 : ByteArray) (x y : Int) : ∀ j v w w', Below w.heap.size w w' → Rren10 g b d m i out n1 n2 x y j v w → Rren10 g b d m i out n1 n2 x y j v w' := by
  intro j v w w' hb h
  exact h

set_option maxRecDepth 1000000 in
set_option maxHeartbeats 4000000 in
theorem ren10 (Q : Exit → Act → World → Prop) (g : Nat) (b : Addr) (d m i : Nat) (out n1 n2 : ByteArray) (x y : Int) (w : World)
    (hgl : g < w.heap.size)
    (hx1 : w.cell? ⟨g, 1, none⟩ = some (.slice (some b) m d))
    (hbl : b.block < w.heap.size)
    (hc0 : w.cell? (b.add (i * 2)) = some (.int .i64 x))
    (hc1 : w.cell? ⟨(b.add (i * 2)).block, (b.add (i * 2)).off + 1, none⟩ = some (.int .i64 y))
    (hi0 : (0 : Int) ≤ (i : Int))
    (hi1 : (i : Int) < (m : Int))
    (H1 : ∀ W, Calls Try.prog 71 #[.int .i64 x] W fun e w' => e = .returned (.string n1) ∧ Below W.heap.size W w')
    (H2 : ∀ W, Calls Try.prog 71 #[.int .i64 y] W fun e w' => e = .returned (.string n2) ∧ Below W.heap.size W w')
    (hs1 : out.size + n1.size ≤ 9223372036854775807)
    (hs2 : out.size + n1.size + n2.size ≤ 9223372036854775807)
    (t0 t2 t4 t6 t7 t8 t9 t10 t11 t12 t13 t14 t15 t16 t17 t18 t19 t20 t21 t22 t23 t24 t25 t26 t27 t28 t29 t30 t31 t32 t33 t34 t35 t36 t37 t38 t39 t40 t41 t42 t43 t44 t45 t46 t47 t48 t49 t50 t51 t52 t53 t54 t55 t56 t57 t58 t59 t60 t61 t62 t63 t64 t65 t66 t67 t68 t69 t70 t71 t72 : Value) (hK : ∀ (w' : World) (s55 s56 s57 s58 s59 s60 s61 s62 s63 s64 s65 s66 s67 s68 s69 s70 s71 : Value), Below w.heap.size w w' → Q .normal ⟨#[t0, .pointer (some ⟨g, 0, none⟩), t2, .string (out ++ n1 ++ n2), t4, .int .i64 (i : Int), t6, t7, t8, t9, t10, t11, t12, t13, t14, t15, t16, t17, t18, t19, t20, t21, t22, t23, t24, t25, t26, t27, t28, t29, t30, t31, t32, t33, t34, t35, t36, t37, t38, t39, t40, t41, t42, t43, t44, t45, t46, t47, t48, t49, t50, t51, t52, t53, t54, s55, s56, s57, s58, s59, s60, s61, s62, s63, s64, s65, s66, s67, s68, s69, s70, s71, t72], []⟩ w') :
    Code.wp Try.prog coderen10 Q ⟨#[t0, .pointer (some ⟨g, 0, none⟩), t2, .string out, t4, .int .i64 (i : Int), t6, t7, t8, t9, t10, t11, t12, t13, t14, t15, t16, t17, t18, t19, t20, t21, t22, t23, t24, t25, t26, t27, t28, t29, t30, t31, t32, t33, t34, t35, t36, t37, t38, t39, t40, t41, t42, t43, t44, t45, t46, t47, t48, t49, t50, t51, t52, t53, t54, t55, t56, t57, t58, t59, t60, t61, t62, t63, t64, t65, t66, t67, t68, t69, t70, t71, t72], []⟩ w := by
  replace H1 := Lib.hid H1
  replace H2 := Lib.hid H2
  have HK := Lib.hid hK
  clear hK
  conv => arg 2; whnf
  refine wp_flow2 (P := Try.prog) (by kernel_rfl) (by kernel_rfl) (fun W => Below w.heap.size w W) (Rren10 g b d m i out n1 n2 x y) (fun W W' => Below W.heap.size W W') (Below.refl _ _).drew (Rren10_le g b d m i out n1 n2 x y) ?_ ?_
  · refine ⟨?_, ?_, ?_, ?_, ?_, ?_, ?_, ?_, ?_, ?_, ?_, ?_, ?_, ?_, ?_, ?_, ?_, ?_, trivial⟩
    · intro a w1 hJ hA hU hD K hK
      refine duty_plain rfl ?_
      have h3 : a.tmps[3]?.getD undef = .string out := eval_get (hU.at_ 17 rfl rfl rfl)
      refine wp_value (v := .string out) (w' := w1) ?_ (hK _ _ hJ (Below.refl _ _) rfl)
      clear hK hD hA hJ hU
      go_simp
    · intro a w1 hJ hA hU hD K hK
      refine duty_plain rfl ?_
      have h1 : a.tmps[1]?.getD undef = .pointer (some ⟨g, 0, none⟩) := eval_get (hA.at_ 1 (by kernel_rfl))
      refine wp_value (v := .pointer (some ⟨g, 1, none⟩)) (w' := w1) ?_ (hK _ _ hJ (Below.refl _ _) rfl)
      clear hK hD hA hJ hU
      go_simp
    · intro a w1 hJ hA hU hD K hK
      refine duty_plain rfl ?_
      have h56 : a.tmps[56]?.getD undef = .pointer (some ⟨g, 1, none⟩) := eval_get (given_at hD 1 rfl rfl rfl)
      have hc := (hJ.cell (p := ⟨g, 1, none⟩) hgl).trans hx1
      refine wp_value (v := .slice (some b) m d) (w' := w1) ?_ (hK _ _ hJ (Below.refl _ _) rfl)
      clear hK hD hA hJ hU
      go_simp
    · intro a w1 hJ hA hU hD K hK
      refine duty_plain rfl ?_
      have h5 : a.tmps[5]?.getD undef = .int .i64 (i : Int) := eval_get (hA.at_ 5 (by kernel_rfl))
      refine wp_value (v := .int .i64 (i : Int)) (w' := w1) ?_ (hK _ _ hJ (Below.refl _ _) rfl)
      clear hK hD hA hJ hU
      go_simp
    · intro a w1 hJ hA hU hD K hK
      refine duty_plain rfl ?_
      have h57 : a.tmps[57]?.getD undef = .slice (some b) m d := eval_get (given_at hD 2 rfl rfl rfl)
      have h58 : a.tmps[58]?.getD undef = .int .i64 (i : Int) := eval_get (given_at hD 3 rfl rfl rfl)
      refine wp_value (v := .pointer (some (b.add (i * 2)))) (w' := w1) ?_ (hK _ _ hJ (Below.refl _ _) rfl)
      clear hK hD hA hJ hU
      go_simp
    · intro a w1 hJ hA hU hD K hK
      refine duty_plain rfl ?_
      have h59 : a.tmps[59]?.getD undef = .pointer (some (b.add (i * 2))) := eval_get (given_at hD 4 rfl rfl rfl)
      refine wp_value (v := .pointer (some (b.add (i * 2)))) (w' := w1) ?_ (hK _ _ hJ (Below.refl _ _) rfl)
      clear hK hD hA hJ hU
      go_simp
    · intro a w1 hJ hA hU hD K hK
      refine duty_plain rfl ?_
      have h60 : a.tmps[60]?.getD undef = .pointer (some (b.add (i * 2))) := eval_get (given_at hD 5 rfl rfl rfl)
      have hc := (hJ.cell (p := b.add (i * 2)) (by rw [add_block]; exact hbl)).trans hc0
      refine wp_value (v := .int .i64 x) (w' := w1) ?_ (hK _ _ hJ (Below.refl _ _) rfl)
      clear hK hD hA hJ hU
      go_simp
    · intro a w1 hJ hA hU hD K hK
      refine duty_plain rfl ?_
      have h61 : a.tmps[61]?.getD undef = .int .i64 x := eval_get (given_at hD 6 rfl rfl rfl)
      refine wp_enter (f := 71) (args := #[.int .i64 x]) (w' := w1) ?_ (Calls.mono (H1.out w1) ?_)
      · clear hK hD hA hJ
        go_simp
      · rintro e w2 ⟨rfl, hb2⟩
        exact ⟨_, rfl, hK _ _ (hJ.trans (hb2.mono hJ.size)) hb2 rfl⟩
    · intro a w1 hJ hA hU hD K hK
      refine duty_plain rfl ?_
      have h55 : a.tmps[55]?.getD undef = .string out := eval_get (given_at hD 0 rfl rfl rfl)
      have h62 : a.tmps[62]?.getD undef = .string n1 := eval_get (given_at hD 7 rfl rfl rfl)
      refine wp_value (v := .string (out ++ n1)) (w' := w1) ?_ (hK _ _ hJ (Below.refl _ _) rfl)
      clear hK hD hA hJ hU
      go_simp
    · intro a w1 hJ hA hU hD K hK
      refine duty_plain rfl ?_
      have h1 : a.tmps[1]?.getD undef = .pointer (some ⟨g, 0, none⟩) := eval_get (hA.at_ 1 (by kernel_rfl))
      refine wp_value (v := .pointer (some ⟨g, 1, none⟩)) (w' := w1) ?_ (hK _ _ hJ (Below.refl _ _) rfl)
      clear hK hD hA hJ hU
      go_simp
    · intro a w1 hJ hA hU hD K hK
      refine duty_plain rfl ?_
      have h64 : a.tmps[64]?.getD undef = .pointer (some ⟨g, 1, none⟩) := eval_get (given_at hD 9 rfl rfl rfl)
      have hc := (hJ.cell (p := ⟨g, 1, none⟩) hgl).trans hx1
      refine wp_value (v := .slice (some b) m d) (w' := w1) ?_ (hK _ _ hJ (Below.refl _ _) rfl)
      clear hK hD hA hJ hU
      go_simp
    · intro a w1 hJ hA hU hD K hK
      refine duty_plain rfl ?_
      have h5 : a.tmps[5]?.getD undef = .int .i64 (i : Int) := eval_get (hA.at_ 5 (by kernel_rfl))
      refine wp_value (v := .int .i64 (i : Int)) (w' := w1) ?_ (hK _ _ hJ (Below.refl _ _) rfl)
      clear hK hD hA hJ hU
      go_simp
    · intro a w1 hJ hA hU hD K hK
      refine duty_plain rfl ?_
      have h65 : a.tmps[65]?.getD undef = .slice (some b) m d := eval_get (given_at hD 10 rfl rfl rfl)
      have h66 : a.tmps[66]?.getD undef = .int .i64 (i : Int) := eval_get (given_at hD 11 rfl rfl rfl)
      refine wp_value (v := .pointer (some (b.add (i * 2)))) (w' := w1) ?_ (hK _ _ hJ (Below.refl _ _) rfl)
      clear hK hD hA hJ hU
      go_simp
    · intro a w1 hJ hA hU hD K hK
      refine duty_plain rfl ?_
      have h67 : a.tmps[67]?.getD undef = .pointer (some (b.add (i * 2))) := eval_get (given_at hD 12 rfl rfl rfl)
      refine wp_value (v := .pointer (some ⟨(b.add (i * 2)).block, (b.add (i * 2)).off + 1, none⟩)) (w' := w1) ?_ (hK _ _ hJ (Below.refl _ _) rfl)
      clear hK hD hA hJ hU
      go_simp
    · intro a w1 hJ hA hU hD K hK
      refine duty_plain rfl ?_
      have h68 : a.tmps[68]?.getD undef = .pointer (some ⟨(b.add (i * 2)).block, (b.add (i * 2)).off + 1, none⟩) := eval_get (given_at hD 13 rfl rfl rfl)
      have hc := (hJ.cell (p := ⟨(b.add (i * 2)).block, (b.add (i * 2)).off + 1, none⟩) (by show (b.add (i * 2)).block < _; rw [add_block]; exact hbl)).trans hc1
      refine wp_value (v := .int .i64 y) (w' := w1) ?_ (hK _ _ hJ (Below.refl _ _) rfl)
      clear hK hD hA hJ hU
      go_simp
    · intro a w1 hJ hA hU hD K hK
      refine duty_plain rfl ?_
      have h69 : a.tmps[69]?.getD undef = .int .i64 y := eval_get (given_at hD 14 rfl rfl rfl)
      refine wp_enter (f := 71) (args := #[.int .i64 y]) (w' := w1) ?_ (Calls.mono (H2.out w1) ?_)
      · clear hK hD hA hJ
        go_simp
      · rintro e w2 ⟨rfl, hb2⟩
        exact ⟨_, rfl, hK _ _ (hJ.trans (hb2.mono hJ.size)) hb2 rfl⟩
    · intro a w1 hJ hA hU hD K hK
      refine duty_plain rfl ?_
      have h63 : a.tmps[63]?.getD undef = .string (out ++ n1) := eval_get (given_at hD 8 rfl rfl rfl)
      have h70 : a.tmps[70]?.getD undef = .string n2 := eval_get (given_at hD 15 rfl rfl rfl)
      refine wp_value (v := .string (out ++ n1 ++ n2)) (w' := w1) ?_ (hK _ _ hJ (Below.refl _ _) rfl)
      clear hK hD hA hJ hU
      go_simp
    · intro a w1 hJ hA hU hD K hK
      refine duty_plain rfl ?_
      have h71 : a.tmps[71]?.getD undef = .string (out ++ n1 ++ n2) := eval_get (given_at hD 16 rfl rfl rfl)
      refine wp_value (v := .string (out ++ n1 ++ n2)) (w' := w1) ?_ (hK _ _ hJ (Below.refl _ _) rfl)
      clear hK hD hA hJ hU
      go_simp
  · intro a w' hJ hA hG
    have hv3 : a.tmps[3]?.getD undef = .string (out ++ n1 ++ n2) := eval_get (hG 17 _ _ rfl rfl)
    have ha : a = ⟨#[t0, .pointer (some ⟨g, 0, none⟩), t2, .string (out ++ n1 ++ n2), t4, .int .i64 (i : Int), t6, t7, t8, t9, t10, t11, t12, t13, t14, t15, t16, t17, t18, t19, t20, t21, t22, t23, t24, t25, t26, t27, t28, t29, t30, t31, t32, t33, t34, t35, t36, t37, t38, t39, t40, t41, t42, t43, t44, t45, t46, t47, t48, t49, t50, t51, t52, t53, t54, a.tmps[55]?.getD undef, a.tmps[56]?.getD undef, a.tmps[57]?.getD undef, a.tmps[58]?.getD undef, a.tmps[59]?.getD undef, a.tmps[60]?.getD undef, a.tmps[61]?.getD undef, a.tmps[62]?.getD undef, a.tmps[63]?.getD undef, a.tmps[64]?.getD undef, a.tmps[65]?.getD undef, a.tmps[66]?.getD undef, a.tmps[67]?.getD undef, a.tmps[68]?.getD undef, a.tmps[69]?.getD undef, a.tmps[70]?.getD undef, a.tmps[71]?.getD undef, t72], []⟩ := act_of ⟨eval_get (hA.at_ 0 (by kernel_rfl)), eval_get (hA.at_ 1 (by kernel_rfl)), eval_get (hA.at_ 2 (by kernel_rfl)), hv3, eval_get (hA.at_ 4 (by kernel_rfl)), eval_get (hA.at_ 5 (by kernel_rfl)), eval_get (hA.at_ 6 (by kernel_rfl)), eval_get (hA.at_ 7 (by kernel_rfl)), eval_get (hA.at_ 8 (by kernel_rfl)), eval_get (hA.at_ 9 (by kernel_rfl)), eval_get (hA.at_ 10 (by kernel_rfl)), eval_get (hA.at_ 11 (by kernel_rfl)), eval_get (hA.at_ 12 (by kernel_rfl)), eval_get (hA.at_ 13 (by kernel_rfl)), eval_get (hA.at_ 14 (by kernel_rfl)), eval_get (hA.at_ 15 (by kernel_rfl)), eval_get (hA.at_ 16 (by kernel_rfl)), eval_get (hA.at_ 17 (by kernel_rfl)), eval_get (hA.at_ 18 (by kernel_rfl)), eval_get (hA.at_ 19 (by kernel_rfl)), eval_get (hA.at_ 20 (by kernel_rfl)), eval_get (hA.at_ 21 (by kernel_rfl)), eval_get (hA.at_ 22 (by kernel_rfl)), eval_get (hA.at_ 23 (by kernel_rfl)), eval_get (hA.at_ 24 (by kernel_rfl)), eval_get (hA.at_ 25 (by kernel_rfl)), eval_get (hA.at_ 26 (by kernel_rfl)), eval_get (hA.at_ 27 (by kernel_rfl)), eval_get (hA.at_ 28 (by kernel_rfl)), eval_get (hA.at_ 29 (by kernel_rfl)), eval_get (hA.at_ 30 (by kernel_rfl)), eval_get (hA.at_ 31 (by kernel_rfl)), eval_get (hA.at_ 32 (by kernel_rfl)), eval_get (hA.at_ 33 (by kernel_rfl)), eval_get (hA.at_ 34 (by kernel_rfl)), eval_get (hA.at_ 35 (by kernel_rfl)), eval_get (hA.at_ 36 (by kernel_rfl)), eval_get (hA.at_ 37 (by kernel_rfl)), eval_get (hA.at_ 38 (by kernel_rfl)), eval_get (hA.at_ 39 (by kernel_rfl)), eval_get (hA.at_ 40 (by kernel_rfl)), eval_get (hA.at_ 41 (by kernel_rfl)), eval_get (hA.at_ 42 (by kernel_rfl)), eval_get (hA.at_ 43 (by kernel_rfl)), eval_get (hA.at_ 44 (by kernel_rfl)), eval_get (hA.at_ 45 (by kernel_rfl)), eval_get (hA.at_ 46 (by kernel_rfl)), eval_get (hA.at_ 47 (by kernel_rfl)), eval_get (hA.at_ 48 (by kernel_rfl)), eval_get (hA.at_ 49 (by kernel_rfl)), eval_get (hA.at_ 50 (by kernel_rfl)), eval_get (hA.at_ 51 (by kernel_rfl)), eval_get (hA.at_ 52 (by kernel_rfl)), eval_get (hA.at_ 53 (by kernel_rfl)), eval_get (hA.at_ 54 (by kernel_rfl)), rfl, rfl, rfl, rfl, rfl, rfl, rfl, rfl, rfl, rfl, rfl, rfl, rfl, rfl, rfl, rfl, rfl, eval_get (hA.at_ 72 (by kernel_rfl)), trivial⟩ hA.size hA.defers
    rw [ha]
    exact HK.out w' _ _ _ _ _ _ _ _ _ _ _ _ _ _ _ _ _ hJ


theorem append_cat (a b c d : Bs) : (⟨a.toArray⟩ : ByteArray) ++ (⟨b.toArray⟩ : ByteArray) ++ (⟨c.toArray⟩ : ByteArray) ++ (⟨d.toArray⟩ : ByteArray) = ⟨(a ++ (b ++ c ++ d)).toArray⟩ := by
  rw [cat_bs, cat_bs, cat_bs]
  simp [List.append_assoc]
theorem append_cat3 (a b c : Bs) : (⟨a.toArray⟩ : ByteArray) ++ (⟨b.toArray⟩ : ByteArray) ++ (⟨c.toArray⟩ : ByteArray) = ⟨(a ++ (b ++ c)).toArray⟩ := by
  rw [cat_bs, cat_bs]
  simp [List.append_assoc]
theorem size_bs (a : Bs) : (⟨a.toArray⟩ : ByteArray).size = a.length := rfl

set_option maxRecDepth 100000 in
set_option maxHeartbeats 2000000 in
theorem refEncode_any (A B : Option Addr) (c d n m : Nat) (P : PM) (D : DM) (w : World) (hn : P.length = n) (hm : D.length = m) (hP : RdP w A P) (hD : RdD w B D) (hlen : (encB P D).length ≤ 1000000000) (h63 : n ≤ 1000000) (m63 : m ≤ 1000000)
    (hPx : ∀ x ∈ P, 0 ≤ x.2.1 ∧ x.2.1 ≤ 9223372036854775807) (hDx : ∀ x ∈ D, 0 ≤ x.1 ∧ x.1 ≤ 9223372036854775807 ∧ 0 ≤ x.2 ∧ x.2 ≤ 9223372036854775807) :
    Calls Try.prog 51 #[.agg #[.slice A n c, .slice B m d]] w fun e w' => e = .returned (.string ⟨(encB P D).toArray⟩) ∧ Below w.heap.size w w' := by
  subst hn
  subst hm
  have HP := Lib.hid (And.intro hP hD)
  have H63 := Lib.hid (And.intro h63 m63)
  have HL := Lib.hid hlen
  have HPX := Lib.hid (And.intro hPx hDx)
  have hm63 : P.length ≤ 1000000 := h63
  clear hP hD h63 m63 hlen hPx hDx
  obtain ⟨W, hW⟩ : ∃ W, W = w.alloc (.cells #[.slice A P.length c, .slice B D.length d] 52) := ⟨_, rfl⟩
  have hb0 : Below w.heap.size w W := by rw [hW]; exact (Below.refl _ _).alloc (Nat.le_refl _) _
  have hx0 : W.cell? ⟨w.heap.size, 0, none⟩ = some (.slice A P.length c) := by rw [hW]; simp
  have hx1 : W.cell? ⟨w.heap.size, 1, none⟩ = some (.slice B D.length d) := by rw [hW]; simp
  have hxl : w.heap.size < W.heap.size := by rw [hW]; simp
  go_enter Try.func51, Try.ntmps51
  go_wp2_with fail
  rw [← hW]
  clear hW
  refine (refEight_any _ _ (by omega) (by omega)).mono ?_
  rintro e w1 ⟨rfl, hb1⟩
  have HX := Lib.hid (show w1.cell? ⟨w.heap.size, 0, none⟩ = some (.slice A P.length c) ∧ w1.cell? ⟨w.heap.size, 1, none⟩ = some (.slice B D.length d) ∧ w.heap.size < w1.heap.size from
    ⟨(hb1.cell (p := ⟨w.heap.size, 0, none⟩) hxl).trans hx0, (hb1.cell (p := ⟨w.heap.size, 1, none⟩) hxl).trans hx1, Nat.lt_of_lt_of_le hxl hb1.size⟩)
  have HB0 := Lib.hid (hb0.trans (hb1.mono hb0.size))
  clear hx0 hx1 hxl hb0 hb1
  go_wp2_with fail
  go_loopw [3, 4] (fun v i wr => ∃ k : Nat, k ≤ P.length ∧ i = .int .i64 k ∧ v = .string ⟨(eightB P.length ++ (P.take k).flatMap pinX).toArray⟩ ∧ Below w1.heap.size w1 wr) (fun _ i _ => P.length - (intOf i).toNat)
  case atStart => exact ⟨0, Nat.zero_le _, rfl, by simp, Below.refl _ _⟩
  case round =>
    obtain ⟨k, hk, rfl, rfl, hb⟩ := hrel
    have hx0 := (hb.cell (p := ⟨w.heap.size, 0, none⟩) HX.out.2.2).trans HX.out.1
    have hgl := Nat.lt_of_lt_of_le HX.out.2.2 hb.size
    by_cases hlt : k < P.length
    · obtain ⟨ad, rfl, hb1, hc0, hc1, hc2⟩ := ((HP.out.1.below HB0.out).below hb) k hlt
      have e0 : P.getD k P0 = P[k] := by simp [List.getD_eq_getElem?_getD, hlt]
      rw [e0] at hc0 hc1 hc2
      have hpx := HPX.out.1 P[k] (List.getElem_mem _)
      have HY := Lib.hid (flat_succ pinX P k hlt)
      have hk0 : (0 : Int) ≤ (k : Int) := by omega
      have hk1 : (k : Int) < (P.length : Int) := by omega
      clear e0
      generalize P[k] = y at hc0 hc1 hc2 hpx HY
      have HN := Lib.hid (show (eightB P.length).length + ((P.take k).flatMap pinX).length + (pinX y).length ≤ 1000000000 from by
        have h1 := HL.out
        have h2 := flat_take pinX P (k + 1)
        rw [HY.out, List.length_append] at h2
        simp only [encB, List.length_append] at h1
        omega)
      have hn1 : (shortB y.1).length = y.1.length + 1 := rfl
      have hn2 : (shortB y.2.2).length = y.2.2.length + 1 := rfl
      have hn3 : (pinX y).length = (shortB y.1).length + (shortB y.2.2).length + (eightB y.2.1).length := by simp only [pinX, List.length_append]
      have hn4 := HN.out
      have HQ := Lib.hid (show eightB P.length ++ (P.take k).flatMap pinX ++ (shortB y.1 ++ shortB y.2.2 ++ eightB y.2.1) = eightB P.length ++ (P.take (k + 1)).flatMap pinX from by rw [HY.out, List.append_assoc]; rfl)
      go_upto_region 5 with fail
      refine ren5 _ w.heap.size ad c P.length k ⟨(eightB P.length ++ (P.take k).flatMap pinX).toArray⟩ ⟨y.1.toArray⟩ ⟨y.2.2.toArray⟩ ⟨(shortB y.1).toArray⟩ ⟨(shortB y.2.2).toArray⟩ ⟨(eightB y.2.1).toArray⟩ y.2.1 _ hgl hx0 hb1 hc0 hc1 hc2 hk0 hk1 (fun W => refShort_any y.1 W (by omega)) (fun W => refShort_any y.2.2 W (by omega)) (fun W => refEight_any y.2.1 W hpx.1 hpx.2) ?_ ?_ ?_ _ _ _ _ _ _ _ _ _ _ _ _ _ _ _ _ _ _ _ _ _ _ _ _ _ _ _ _ _ _ _ _ _ _ _ _ _ _ _ _ _ _ _ _ _ _ _ _ _ _ _ _ _ _ _ _ _ _ _ _ _ _ _ _ _ _ _ _ _ _ ?_
      · rw [size_bs, size_bs, List.length_append]; omega
      · rw [size_bs, size_bs, size_bs, List.length_append]; omega
      · rw [size_bs, size_bs, size_bs, size_bs, List.length_append]; omega
      · rw [append_cat, HQ.out]
        intro w9 _ _ _ _ _ _ _ _ _ _ _ _ _ _ _ _ _ _ _ _ _ _ _ _ _ hb9
        clear hn1 hn2 hn3 hn4 hpx hc0 hc1 hc2
        dsimp only [Exit.inBlock, Exit.then]
        go_wp2_with fail
        go_roundw
        case rel => exact ⟨k + 1, by omega, by go_num, rfl, hb.trans (hb9.mono hb.size)⟩
        case measure => simp [intOf]; omega
    · have hke : k = P.length := by omega
      subst hke
      rw [List.take_length]
      have hx1 := (hb.cell (p := ⟨w.heap.size, 1, none⟩) HX.out.2.2).trans HX.out.2.1
      have hd1 := H63.out.2
      have HBK := Lib.hid (HB0.out.trans (hb.mono HB0.out.size))
      have HPW := Lib.hid ((HP.out.2.below HB0.out).below hb)
      clear hb
      go_wp2_with fail
      refine (refEight_any _ _ (by omega) (by omega)).mono ?_
      rintro e w2 ⟨rfl, hb2⟩
      have HX2 := Lib.hid (show w2.cell? ⟨w.heap.size, 1, none⟩ = some (.slice B D.length d) ∧ w.heap.size < w2.heap.size from ⟨(hb2.cell (p := ⟨w.heap.size, 1, none⟩) hgl).trans hx1, Nat.lt_of_lt_of_le hgl hb2.size⟩)
      have HB2 := Lib.hid (HBK.out.trans (hb2.mono HBK.out.size))
      have HPW2 := Lib.hid (HPW.out.below hb2)
      clear hx0 hx1 hgl hb2
      have HPL := Lib.hid (show (eightB P.length ++ P.flatMap pinX).length + (eightB D.length).length + (D.flatMap dropX).length ≤ 1000000000 from by
        have h1 := HL.out
        simp only [encB, List.length_append] at h1 ⊢
        omega)
      obtain ⟨z1, hz1⟩ : ∃ z : ByteArray, z = ⟨(eightB P.length ++ P.flatMap pinX).toArray⟩ := ⟨_, rfl⟩
      obtain ⟨z2, hz2⟩ : ∃ z : ByteArray, z = ⟨(eightB D.length).toArray⟩ := ⟨_, rfl⟩
      rw [← hz1, ← hz2]
      have hsz : z1.size + z2.size ≤ 9223372036854775807 := by
        rw [hz1, hz2, size_bs, size_bs]
        have := HPL.out
        omega
      have HZ := Lib.hid (show z1 ++ z2 = ⟨(eightB P.length ++ P.flatMap pinX ++ eightB D.length).toArray⟩ from by rw [hz1, hz2, cat_bs])
      clear hz1 hz2
      go_wp2_with fail
      clear hsz
      go_loopw [3, 5] (fun v i wr => ∃ k : Nat, k ≤ D.length ∧ i = .int .i64 k ∧ v = .string ⟨(eightB P.length ++ P.flatMap pinX ++ eightB D.length ++ (D.take k).flatMap dropX).toArray⟩ ∧ Below w2.heap.size w2 wr) (fun _ i _ => D.length - (intOf i).toNat)
      case atStart => exact ⟨0, Nat.zero_le _, rfl, by rw [HZ.out]; simp, Below.refl _ _⟩
      case round =>
        obtain ⟨k, hk, rfl, rfl, hb⟩ := hrel
        have hx1 := (hb.cell (p := ⟨w.heap.size, 1, none⟩) HX2.out.2).trans HX2.out.1
        have hgl := Nat.lt_of_lt_of_le HX2.out.2 hb.size
        by_cases hlt : k < D.length
        · obtain ⟨ad, rfl, hb1, hc0, hc1⟩ := (HPW2.out.below hb) k hlt
          have e0 : D.getD k (0, 0) = D[k] := by simp [List.getD_eq_getElem?_getD, hlt]
          rw [e0] at hc0 hc1
          have hdx := HPX.out.2 D[k] (List.getElem_mem _)
          have HY := Lib.hid (flat_succ dropX D k hlt)
          have hk0 : (0 : Int) ≤ (k : Int) := by omega
          have hk1 : (k : Int) < (D.length : Int) := by omega
          clear e0
          generalize D[k] = y at hc0 hc1 hdx HY
          have hn := HPL.out
          have hn2 := flat_take dropX D (k + 1)
          rw [HY.out, List.length_append] at hn2
          have hn3 : (dropX y).length = (eightB y.1).length + (eightB y.2).length := by simp only [dropX, List.length_append]
          have HQ := Lib.hid (show eightB P.length ++ P.flatMap pinX ++ eightB D.length ++ (D.take k).flatMap dropX ++ (eightB y.1 ++ eightB y.2) = eightB P.length ++ P.flatMap pinX ++ eightB D.length ++ (D.take (k + 1)).flatMap dropX from by rw [HY.out, ← List.append_assoc _ _ (dropX y)]; rfl)
          go_upto_region 10 with fail
          refine ren10 _ w.heap.size ad d D.length k ⟨(eightB P.length ++ P.flatMap pinX ++ eightB D.length ++ (D.take k).flatMap dropX).toArray⟩ ⟨(eightB y.1).toArray⟩ ⟨(eightB y.2).toArray⟩ y.1 y.2 _ hgl hx1 hb1 hc0 hc1 hk0 hk1 (fun W => refEight_any y.1 W hdx.1 hdx.2.1) (fun W => refEight_any y.2 W hdx.2.2.1 hdx.2.2.2) ?_ ?_ _ _ _ _ _ _ _ _ _ _ _ _ _ _ _ _ _ _ _ _ _ _ _ _ _ _ _ _ _ _ _ _ _ _ _ _ _ _ _ _ _ _ _ _ _ _ _ _ _ _ _ _ _ _ _ _ _ _ _ _ _ _ _ _ _ _ _ _ _ _ ?_
          · rw [size_bs, size_bs, List.length_append, List.length_append]; omega
          · rw [size_bs, size_bs, size_bs, List.length_append, List.length_append]; omega
          · rw [append_cat3, HQ.out]
            intro w9 _ _ _ _ _ _ _ _ _ _ _ _ _ _ _ _ _ hb9
            clear hn hn2 hn3 hdx hc0 hc1
            dsimp only [Exit.inBlock, Exit.then]
            go_wp2_with fail
            go_roundw
            case rel => exact ⟨k + 1, by omega, by go_num, rfl, hb.trans (hb9.mono hb.size)⟩
            case measure => simp [intOf]; omega
        · have hke : k = D.length := by omega
          subst hke
          rw [List.take_length]
          go_wp2_with fail
          go_ret
          refine ⟨?_, HB2.out.trans (hb.mono HB2.out.size)⟩
          simp only [encB, List.append_assoc]
          rfl

end Go.Proofs.Ytjggeodnoigkkaa
