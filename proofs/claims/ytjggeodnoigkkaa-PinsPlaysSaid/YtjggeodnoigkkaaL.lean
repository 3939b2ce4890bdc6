/-
  Few; does.
-/
import Derived.Test.YtjggeodnoigkkaaK
namespace Go.Proofs.Ytjggeodnoigkkaa
open Go.RowKit Go.Maps Go.Shelf Go.Proofs.YtjggeodnoigkkaaM

/-- An Op at an address. -/
structure OpAt (w : World) (ad : Addr) (o : OpV) (A4 : Option Addr) (c4 : Nat) (A5 : Option Addr) (c5 : Nat) : Prop where
  x0 : w.cell? ad = some (.int .i64 o.ask)
  x1 : w.cell? ⟨ad.block, ad.off + 1, none⟩ = some (.string ⟨o.name.toArray⟩)
  x2 : w.cell? ⟨ad.block, ad.off + 2, none⟩ = some (.string ⟨o.of_.toArray⟩)
  x3 : w.cell? ⟨ad.block, ad.off + 3, none⟩ = some (.int .i64 o.n)
  x4 : w.cell? ⟨ad.block, ad.off + 4, none⟩ = some (.slice A4 o.drops.length c4)
  x5 : w.cell? ⟨ad.block, ad.off + 5, none⟩ = some (.slice A5 o.nums.length c5)
  l4 : o.drops.length ≤ c4
  l5 : o.nums.length ≤ c5
  r4 : RdD w A4 o.drops
  r5 : RdI w A5 o.nums
  n1 : o.name.length ≤ maxLen
  n2 : o.of_.length ≤ maxLen
  wf : ∀ x ∈ o.nums, (Lit.int .i64 x).wf = true

theorem OpAt.below {w w' : World} {ad : Addr} {o : OpV} {A4 : Option Addr} {c4 : Nat} {A5 : Option Addr} {c5 : Nat} (h : OpAt w ad o A4 c4 A5 c5) (hb : Below w.heap.size w w') : OpAt w' ad o A4 c4 A5 c5 := by
  have hlt := World.block_lt_of_cell? _ _ h.x0
  exact ⟨(hb.cell hlt).trans h.x0, (hb.cell (p := ⟨ad.block, ad.off + 1, none⟩) hlt).trans h.x1, (hb.cell (p := ⟨ad.block, ad.off + 2, none⟩) hlt).trans h.x2, (hb.cell (p := ⟨ad.block, ad.off + 3, none⟩) hlt).trans h.x3, (hb.cell (p := ⟨ad.block, ad.off + 4, none⟩) hlt).trans h.x4, (hb.cell (p := ⟨ad.block, ad.off + 5, none⟩) hlt).trans h.x5, h.l4, h.l5, h.r4.below hb, h.r5.below hb, h.n1, h.n2, h.wf⟩

/-- A slice of Ops that is read. -/
def RdOps (w : World) (A : Option Addr) (L : List OpV) : Prop := ∀ k (h : k < L.length), ∃ ad A4 c4 A5 c5, A = some ad ∧ OpAt w (ad.add (k * 6)) L[k] A4 c4 A5 c5
theorem RdOps.below {w w' : World} {A : Option Addr} {L : List OpV} (h : RdOps w A L) (hb : Below w.heap.size w w') : RdOps w' A L := fun k hk => by
  obtain ⟨ad, A4, c4, A5, c5, e, hx⟩ := h k hk
  exact ⟨ad, A4, c4, A5, c5, e, hx.below hb⟩

theorem ops_of {w : World} {L : List OpV} {cs : List Value} (h : KSl 6 KOp w L cs) : ∃ A cap, cs = [.slice A L.length cap] ∧ L.length ≤ maxLen ∧ RdOps w A L := by
  obtain ⟨A, cap, rfl, h1, h1', h2⟩ := h
  refine ⟨A, cap, rfl, Nat.le_trans h1 h1', fun k hk => ?_⟩
  obtain ⟨ad, c, rfl, ⟨A4, c4, A5, c5, rfl, n1, n2, l4, l5, r4, r5, wf⟩, _, hx⟩ := h2 k hk
  have a0 := hx 0 (by decide)
  have a1 := hx 1 (by decide)
  have a2 := hx 2 (by decide)
  have a3 := hx 3 (by decide)
  have a4 := hx 4 (by decide)
  have a5 := hx 5 (by decide)
  rw [add_spot ad (k * 6)] at a1 a2 a3 a4 a5
  exact ⟨ad, A4, c4, A5, c5, rfl, a0, a1, a2, a3, a4, a5, l4, l5, r4, r5, n1, n2, wf⟩

def fewO (o : OpV) : Bool := decide (o.drops.length ≤ 20) && (decide (o.nums.length ≤ 20) && (decide (o.name.length ≤ 100) && decide (o.of_.length ≤ 100)))
def fewB (L : List OpV) : Bool := decide (L.length ≤ 60) && L.all fewO

set_option maxRecDepth 100000 in
set_option maxHeartbeats 2000000 in
theorem few_any (A : Option Addr) (cap : Nat) (L : List OpV) (w : World) (hL : RdOps w A L) (h63 : L.length ≤ maxLen) :
    Calls Try.prog 10 #[.slice A L.length cap] w fun e w' => e = .returned (.bool (fewB L)) ∧ Below w.heap.size w w' := by
  by_cases hlen : 60 < L.length
  · have hf := Lib.hid (show fewB L = false from by rw [fewB, decide_eq_false (by omega)]; rfl)
    have hb0 : decide (60 < (L.length : Int)) = true := decide_eq_true (by omega)
    have hb1 : decide (60 < L.length) = true := decide_eq_true hlen
    clear h63 hlen
    go_enter Try.func10, Try.ntmps10
    go_wp2_with fail
    go_ret
    rw [hf.out]
    exact ⟨rfl, Below.refl _ _⟩
  · have hb0 : decide (60 < (L.length : Int)) = false := decide_eq_false (by omega)
    have hb1 : decide (60 < L.length) = false := decide_eq_false hlen
    have HL := Lib.hid hL
    have H63 := Lib.hid (show L.length ≤ 9223372036854775807 from h63)
    have Hlen := Lib.hid hlen
    clear hL h63 hlen
    go_enter Try.func10, Try.ntmps10
    go_wp2_with fail
    go_loopw [3] (fun i wr => ∃ j : Nat, j ≤ L.length ∧ i = .int .i64 j ∧ Hid ((L.take j).all fewO = true) ∧ Below w.heap.size w wr) (fun i _ => L.length - (intOf i).toNat)
    case atStart => exact ⟨0, Nat.zero_le _, rfl, Lib.hid rfl, Below.refl _ _⟩
    case round =>
      obtain ⟨j, hj, rfl, heq, hb⟩ := hrel
      have h63 := H63.out
      by_cases hlt : j < L.length
      · obtain ⟨ad, A4, c4, A5, c5, rfl, hx⟩ := (HL.out.below hb) j hlt
        have HA := Lib.hid (all_take_succ fewO L j hlt)
        have HM := Lib.hid (show L[j] ∈ L from List.getElem_mem _)
        generalize L[j] = o at hx HA HM
        obtain ⟨x0, x1, x2, x3, x4, x5, l4, l5, r4, r5, n1, n2, wf⟩ := hx
        have HN := Lib.hid (show o.drops.length ≤ maxLen → True from fun _ => trivial)
        clear l4 l5 r4 r5 n1 n2 wf x0 x3 HN
        have hi0 : (0 : Int) ≤ (j : Int) := by omega
        have hi1 : (j : Int) < (L.length : Int) := by omega
        have hbad : fewO o = false → fewB L = false := fun h => by
          rw [fewB, List.all_eq_false.2 ⟨o, HM.out, by simp [h]⟩]
          simp
        have HB := Lib.hid hbad
        clear hbad
        by_cases k1 : 20 < o.drops.length
        · have e1 : decide (20 < (o.drops.length : Int)) = true := decide_eq_true (by omega)
          have e2 : decide (20 < o.drops.length) = true := decide_eq_true k1
          have hf := Lib.hid (HB.out (by rw [fewO, decide_eq_false (by omega)]; rfl))
          clear k1
          go_wp2_with fail
          go_ret
          rw [hf.out]
          exact ⟨rfl, hb⟩
        by_cases k2 : 20 < o.nums.length
        · have e1 : decide (20 < (o.drops.length : Int)) = false := decide_eq_false (by omega)
          have e2 : decide (20 < o.drops.length) = false := decide_eq_false k1
          have e3 : decide (20 < (o.nums.length : Int)) = true := decide_eq_true (by omega)
          have e4 : decide (20 < o.nums.length) = true := decide_eq_true k2
          have hf := Lib.hid (HB.out (by rw [fewO, decide_eq_false (p := o.nums.length ≤ 20) (by omega)]; simp))
          clear k1 k2
          go_wp2_with fail
          go_ret
          rw [hf.out]
          exact ⟨rfl, hb⟩
        by_cases k3 : 100 < o.name.length
        · have e1 : decide (20 < (o.drops.length : Int)) = false := decide_eq_false (by omega)
          have e2 : decide (20 < o.drops.length) = false := decide_eq_false k1
          have e3 : decide (20 < (o.nums.length : Int)) = false := decide_eq_false (by omega)
          have e4 : decide (20 < o.nums.length) = false := decide_eq_false k2
          have e5 : decide (100 < (o.name.length : Int)) = true := decide_eq_true (by omega)
          have e6 : decide (100 < o.name.length) = true := decide_eq_true k3
          have hf := Lib.hid (HB.out (by rw [fewO, decide_eq_false (p := o.name.length ≤ 100) (by omega)]; simp))
          clear k1 k2 k3
          go_wp2_with fail
          go_ret
          rw [hf.out]
          exact ⟨rfl, hb⟩
        have e1 : decide (20 < (o.drops.length : Int)) = false := decide_eq_false (by omega)
        have e2 : decide (20 < o.drops.length) = false := decide_eq_false k1
        have e3 : decide (20 < (o.nums.length : Int)) = false := decide_eq_false (by omega)
        have e4 : decide (20 < o.nums.length) = false := decide_eq_false k2
        have e5 : decide (100 < (o.name.length : Int)) = false := decide_eq_false (by omega)
        have e6 : decide (100 < o.name.length) = false := decide_eq_false k3
        by_cases k4 : 100 < o.of_.length
        · have e7 : decide (100 < (o.of_.length : Int)) = true := decide_eq_true (by omega)
          have e8 : decide (100 < o.of_.length) = true := decide_eq_true k4
          have hf := Lib.hid (HB.out (by rw [fewO, decide_eq_false (p := o.of_.length ≤ 100) (by omega)]; simp))
          clear k1 k2 k3 k4
          go_wp2_with fail
          go_ret
          rw [hf.out]
          exact ⟨rfl, hb⟩
        · have e7 : decide (100 < (o.of_.length : Int)) = false := decide_eq_false (by omega)
          have e8 : decide (100 < o.of_.length) = false := decide_eq_false k4
          have hf := Lib.hid (show fewO o = true from by simp only [fewO, Bool.and_eq_true, decide_eq_true_eq]; omega)
          clear k1 k2 k3 k4
          go_wp2_with fail
          go_roundw
          case rel => exact ⟨j + 1, by omega, by go_num, Lib.hid (by rw [HA.out, heq.out, hf.out]; rfl), hb⟩
          case measure => simp [intOf]; omega
      · have hje : j = L.length := by omega
        have hf := Lib.hid (show fewB L = true from by
          have := heq.out
          rw [hje, List.take_length] at this
          rw [fewB, this, decide_eq_true (by have := Hlen.out; omega)]
          rfl)
        clear hje
        go_wp2_with fail
        go_ret
        rw [hf.out]
        exact ⟨rfl, hb⟩

/-- What a call makes of pins and drops, and what it answers. -/
def doesF (M : PM) (D : DM) (o : OpV) : Int × PM × DM :=
  if o.ask = 0 then ((pinF M o.name o.n).1, (pinF M o.name o.n).2, D)
  else if o.ask = 1 then ((cloneF M o.name o.of_).1, (cloneF M o.name o.of_).2, D)
  else if o.ask = 2 then ((unpinF M o.name).1, (unpinF M o.name).2, D)
  else if o.ask = 3 then ((dropF D o.drops).1, M, (dropF D o.drops).2)
  else ((doneF M D o.nums).1, M, (doneF M D o.nums).2)

/-- Only the two maps' blocks may have turned. -/
def Turned (bm bd : Nat) (w w' : World) : Prop := ∀ B, B ≤ bm → B ≤ bd → B ≤ w.heap.size → Below B w w'

theorem Turned.m {bm bd : Nat} {w w' : World} (h : w.grownBy w' (some bm)) : Turned bm bd w w' := fun _ h1 _ h3 => below_of_grown h h1 h3
theorem Turned.d {bm bd : Nat} {w w' : World} (h : w.grownBy w' (some bd)) : Turned bm bd w w' := fun _ _ h2 h3 => below_of_grown h h2 h3
theorem Turned.after {bm bd : Nat} {w w1 w' : World} (hb : Below w.heap.size w w1) (h : Turned bm bd w1 w') : Turned bm bd w w' := fun B h1 h2 h3 => (hb.mono h3).trans (h B h1 h2 (Nat.le_trans h3 hb.size))

set_option maxRecDepth 100000 in
set_option maxHeartbeats 2000000 in
theorem does_any (p bm bd : Nat) (M : PM) (D : DM) (o : OpV) (A4 : Option Addr) (c4 : Nat) (A5 : Option Addr) (c5 : Nat) (w : World) (h : IsPins w p bm bd M D) (l4 : o.drops.length ≤ c4) (l5 : o.nums.length ≤ c5) (r4 : RdD w A4 o.drops) (r5 : RdI w A5 o.nums)
    (n1 : o.name.length ≤ maxLen) (n2 : o.of_.length ≤ maxLen) (wf : ∀ x ∈ o.nums, (Lit.int .i64 x).wf = true) (hM : M.length ≤ 1000) (hD : D.length ≤ 10000) (hd : o.drops.length ≤ 20) (hn : o.nums.length ≤ 20) :
    Calls Try.prog 12 #[.pointer (some ⟨p, 0, none⟩), .agg #[.int .i64 o.ask, .string ⟨o.name.toArray⟩, .string ⟨o.of_.toArray⟩, .int .i64 o.n, .slice A4 o.drops.length c4, .slice A5 o.nums.length c5]] w
      fun e w' => e = .returned (.int .i64 (doesF M D o).1) ∧ IsPins w' p bm bd (doesF M D o).2.1 (doesF M D o).2.2 ∧ Turned bm bd w w' := by
  obtain ⟨W, hW⟩ : ∃ W, W = w.alloc (.cells #[.int .i64 o.ask, .string ⟨o.name.toArray⟩, .string ⟨o.of_.toArray⟩, .int .i64 o.n, .slice A4 o.drops.length c4, .slice A5 o.nums.length c5] 32) := ⟨_, rfl⟩
  have hbW : Below w.heap.size w W := by rw [hW]; exact (Below.refl _ _).alloc (Nat.le_refl _) _
  have h1 := h.below hbW
  have r4' := r4.below hbW
  have r5' := r5.below hbW
  have hM' : M.length < maxLen := by show _ < 2 ^ 63 - 1; omega
  rw [hW] at hbW h1 r4' r5'
  clear hW
  by_cases a0 : o.ask = 0
  · have hf := Lib.hid (show doesF M D o = ((pinF M o.name o.n).1, (pinF M o.name o.n).2, D) from by rw [doesF, if_pos a0])
    have b0 : (o.ask == 0) = true := by simp [a0]
    clear a0
    go_enter Try.func12, Try.ntmps12
    go_wp2_with fail
    refine (pin_any p bm bd M D o.name o.n _ h1 n1 hM').mono ?_
    rintro e w2 ⟨rfl, h2, hg⟩
    go_wp2_with fail
    go_ret
    rw [hf.out]
    exact ⟨rfl, h2, Turned.after hbW (Turned.m hg)⟩
  by_cases a1 : o.ask = 1
  · have hf := Lib.hid (show doesF M D o = ((cloneF M o.name o.of_).1, (cloneF M o.name o.of_).2, D) from by rw [doesF, if_neg a0, if_pos a1])
    have b0 : (o.ask == 0) = false := by simp [a0]
    have b1 : (o.ask == 1) = true := by simp [a1]
    clear a0 a1
    go_enter Try.func12, Try.ntmps12
    go_wp2_with fail
    refine (clone_any p bm bd M D o.name o.of_ _ h1 n1 n2 hM').mono ?_
    rintro e w2 ⟨rfl, h2, hg⟩
    go_wp2_with fail
    go_ret
    rw [hf.out]
    exact ⟨rfl, h2, Turned.after hbW (Turned.m hg)⟩
  by_cases a2 : o.ask = 2
  · have hf := Lib.hid (show doesF M D o = ((unpinF M o.name).1, (unpinF M o.name).2, D) from by rw [doesF, if_neg a0, if_neg a1, if_pos a2])
    have b0 : (o.ask == 0) = false := by simp [a0]
    have b1 : (o.ask == 1) = false := by simp [a1]
    have b2 : (o.ask == 2) = true := by simp [a2]
    clear a0 a1 a2
    go_enter Try.func12, Try.ntmps12
    go_wp2_with fail
    refine (unpin_any p bm bd M D o.name _ h1 (by omega) n1).mono ?_
    rintro e w2 ⟨rfl, h2, hg⟩
    go_wp2_with fail
    go_ret
    rw [hf.out]
    exact ⟨rfl, h2, Turned.after hbW (Turned.m hg)⟩
  by_cases a3 : o.ask = 3
  · have hf := Lib.hid (show doesF M D o = ((dropF D o.drops).1, M, (dropF D o.drops).2) from by rw [doesF, if_neg a0, if_neg a1, if_neg a2, if_pos a3])
    have b0 : (o.ask == 0) = false := by simp [a0]
    have b1 : (o.ask == 1) = false := by simp [a1]
    have b2 : (o.ask == 2) = false := by simp [a2]
    have b3 : (o.ask == 3) = true := by simp [a3]
    clear a0 a1 a2 a3
    go_enter Try.func12, Try.ntmps12
    go_wp2_with fail
    refine (drop_any p bm bd M D A4 c4 o.drops _ h1 r4' (by omega) (by omega) l4).mono ?_
    rintro e w2 ⟨rfl, h2, hg⟩
    go_wp2_with fail
    go_ret
    rw [hf.out]
    exact ⟨rfl, h2, Turned.after hbW (Turned.d hg)⟩
  · have hf := Lib.hid (show doesF M D o = ((doneF M D o.nums).1, M, (doneF M D o.nums).2) from by rw [doesF, if_neg a0, if_neg a1, if_neg a2, if_neg a3])
    have b0 : (o.ask == 0) = false := by simp [a0]
    have b1 : (o.ask == 1) = false := by simp [a1]
    have b2 : (o.ask == 2) = false := by simp [a2]
    have b3 : (o.ask == 3) = false := by simp [a3]
    clear a0 a1 a2 a3
    go_enter Try.func12, Try.ntmps12
    go_wp2_with fail
    refine (done_any p bm bd M D A5 c5 o.nums _ h1 r5' (by omega) l5 wf (by omega)).mono ?_
    rintro e w2 ⟨rfl, h2, hg⟩
    go_wp2_with fail
    go_ret
    rw [hf.out]
    exact ⟨rfl, h2, Turned.after hbW (Turned.d hg)⟩

end Go.Proofs.Ytjggeodnoigkkaa
