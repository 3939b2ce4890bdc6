/-
  Pins out of bytes: rooted: what the walk over each clone's pins answers.
-/
import Derived.Test.YtjggeodnoigkkaaCG
import Derived.Test.YtjggeodnoigkkaaOC
namespace Go.Proofs.Ytjggeodnoigkkaa
open Go.RowKit Go.Maps Go.Shelf Go.Proofs.YtjggeodnoigkkaaM

theorem chain_nil (M : PM) (f : Nat) (a : Int) : chainGo M f (a, []) = true := by
  unfold chainGo
  rw [if_pos rfl]
theorem chain_zero (M : PM) (a : Int) (b : UInt8) (s : Bs) : chainGo M 0 (a, b :: s) = false := by
  unfold chainGo
  rw [if_neg (by simp)]
theorem chain_none (M : PM) (f : Nat) (a : Int) (b : UInt8) (s : Bs) (h : getM M (b :: s) = none) : chainGo M f (a, b :: s) = false := by
  unfold chainGo
  rw [if_neg (by simp)]
  cases f <;> simp only [h]
theorem chain_some (M : PM) (f : Nat) (a : Int) (b : UInt8) (s : Bs) (up : Int × Bs) (h : getM M (b :: s) = some up) : chainGo M (f + 1) (a, b :: s) = (decide (up.1 = a) && chainGo M f up) := by
  conv => lhs; unfold chainGo
  rw [if_neg (by simp)]
  simp only [h]
theorem chain_other (M : PM) (f : Nat) (a : Int) (b : UInt8) (s : Bs) (up : Int × Bs) (h : getM M (b :: s) = some up) (hne : ¬ up.1 = a) : chainGo M f (a, b :: s) = false := by
  cases f with
  | zero => exact chain_zero _ _ _ _
  | succ f => rw [chain_some M f a b s up h, decide_eq_false hne]; rfl
theorem roots_not {M : PM} {k : Nat} (h : k < M.length) (hf : chainGo M M.length M[k].2 = false) : rootedB M = false := by
  rw [rootedB, List.all_eq_false]
  exact ⟨M[k], List.getElem_mem _, by simp [hf]⟩

/-- A pin at block g. -/
structure PinAt (w : World) (g : Nat) (x : Int × Bs) : Prop where
  c0 : w.cell? ⟨g, 0, none⟩ = some (.int .i64 x.1)
  c1 : w.cell? ⟨g, 1, none⟩ = some (.string ⟨x.2.toArray⟩)
  f0 : w.frozen? ⟨g, 0, none⟩ = false
  f1 : w.frozen? ⟨g, 1, none⟩ = false
theorem PinAt.lt {w : World} {g : Nat} {x : Int × Bs} (h : PinAt w g x) : g < w.heap.size := World.block_lt_of_cell? _ _ h.c0
theorem PinAt.below {w w' : World} {g : Nat} {x : Int × Bs} (h : PinAt w g x) (hb : Below w.heap.size w w') : PinAt w' g x :=
  have hb' := hb.block g h.lt
  ⟨(hb.cell (p := ⟨g, 0, none⟩) h.lt).trans h.c0, (hb.cell (p := ⟨g, 1, none⟩) h.lt).trans h.c1, (frozen_same hb').trans h.f0, (frozen_same hb').trans h.f1⟩
theorem PinAt.made (w : World) (x : Int × Bs) (t : TypeId) : PinAt (w.alloc (.cells #[.int .i64 x.1, .string ⟨x.2.toArray⟩] t)) w.heap.size x :=
  ⟨by simp, by simp, by rw [frozen?_alloc_cells]; simp [World.frozen?], by rw [frozen?_alloc_cells]; simp [World.frozen?]⟩
theorem PinAt.put {w : World} {g : Nat} {x : Int × Bs} (h : PinAt w g x) (y : Int × Bs) : PinAt ((w.setCell ⟨g, 0, none⟩ (.int .i64 y.1)).setCell ⟨g, 1, none⟩ (.string ⟨y.2.toArray⟩)) g y :=
  ⟨(put2 h.c0 h.c1 _ _).1, (put2 h.c0 h.c1 _ _).2, (World.frozen?_setCell _ _ _ _).trans ((World.frozen?_setCell _ _ _ _).trans h.f0), (World.frozen?_setCell _ _ _ _).trans ((World.frozen?_setCell _ _ _ _).trans h.f1)⟩

set_option maxRecDepth 100000 in
set_option maxHeartbeats 4000000 in
theorem rooted_any (p bm bd : Nat) (M : PM) (D : DM) (w : World) (h : IsPins w p bm bd M D) (hM : M.length ≤ 1000000) (hO : ∀ x ∈ M, x.2.2.length ≤ 255) :
    Calls Try.prog 59 #[.pointer (some ⟨p, 0, none⟩)] w fun e w' => e = .returned (.bool (rootedB M)) ∧ Below w.heap.size w w' := by
  go_enter Try.func59, Try.ntmps59
  go_wp2_with fail
  refine (names_any p bm bd M D w h (by omega)).mono ?_
  rintro e w1 ⟨v, rfl, hstr, hb1⟩
  obtain ⟨A, cap, rfl, hcell⟩ := hstr.shape
  have h1 := h.below hb1
  have hcell2 := Lib.hid (show ∀ k (hk : k < M.length), ∃ g, A = some ⟨g, 0, none⟩ ∧ g < w1.heap.size ∧ w1.cell? ⟨g, k, none⟩ = some (.string ⟨M[k].1.toArray⟩) from fun k hk => by
    obtain ⟨g, e, h1, h2⟩ := hcell k (by simpa using hk)
    refine ⟨g, e, h1, h2.trans ?_⟩
    simp [List.getD_eq_getElem?_getD, hk])
  clear hcell hstr h
  have hml : (M.map (·.1)).length = M.length := List.length_map _
  rw [hml]
  clear hml
  have HM := Lib.hid hM
  have HO := Lib.hid hO
  clear hO
  go_wp2_with fail
  go_loopw [12] (fun i wr => ∃ k : Nat, k ≤ M.length ∧ i = .int .i64 k ∧ Hid (∀ j (hj : j < M.length), j < k → chainGo M M.length M[j].2 = true) ∧ Below w1.heap.size w1 wr) (fun i _ => M.length - (intOf i).toNat)
  case atStart => exact ⟨0, Nat.zero_le _, rfl, Lib.hid (fun _ _ h => absurd h (Nat.not_lt_zero _)), Below.refl _ _⟩
  case round =>
    obtain ⟨k, hk, rfl, hall, hbk⟩ := hrel
    obtain ⟨wo, hwo⟩ : ∃ wo, wo = wr := ⟨_, rfl⟩
    by_cases hlt : k < M.length
    · obtain ⟨g, rfl, hg1, hcx⟩ := hcell2.out k hlt
      have hcx' := (hbk.cell (p := ⟨g, k, none⟩) hg1).trans hcx
      have hp := h1.below hbk
      have hlk := hp.m.at_mem M[k] (List.getElem_mem _)
      have c0 := hp.c0
      have hyo := Lib.hid (HO.out M[k] (List.getElem_mem _))
      clear hcx
      have HR := Lib.hid (show ∀ b, chainGo M M.length M[k].2 = b → (b = false → rootedB M = false) ∧ (b = true → ∀ j (hj : j < M.length), j < k + 1 → chainGo M M.length M[j].2 = true) from fun b hb => ⟨fun e => roots_not hlt (hb.trans e), fun e j hj hjk => by
        by_cases hjk' : j = k
        · subst hjk'
          exact hb.trans e
        · exact hall.out j hj (by omega)⟩)
      generalize M[k] = y at hcx' hlk HR hyo
      obtain ⟨nmk, y⟩ := y
      simp only at hcx' hlk HR hyo
      have hpa := PinAt.made wr y 84
      have hb8 : Below wr.heap.size wr (wr.alloc (.cells #[.int .i64 y.1, .string ⟨y.2.toArray⟩] 84)) := (Below.refl _ _).alloc (Nat.le_refl _) _
      go_wp2_with fail
      have HL := Lib.hid (show p < wr.heap.size ∧ bm < wr.heap.size ∧ bd < wr.heap.size ∧ w1.heap.size ≤ wr.heap.size from ⟨hp.lt, hp.lts.1, hp.lts.2, hbk.size⟩)
      have HP := Lib.hid hp
      clear hwo hp c0 hlk hcx'
      generalize wr.alloc (.cells #[.int .i64 y.1, .string ⟨y.2.toArray⟩] 84) = W8 at hpa hb8 ⊢
      obtain ⟨G, hG⟩ : ∃ G, G = wr.heap.size := ⟨_, rfl⟩
      rw [← hG] at hpa hb8 HL
      rw [← hG]
      clear hG
      obtain ⟨wo, hwo⟩ : ∃ wo, wo = wr := ⟨_, rfl⟩
      rw [← hwo] at HP hbk hb8
      clear hwo
      go_loopw [6] (fun v6 wx => ∃ (s : Nat) (x : Int × Bs), s ≤ M.length ∧ v6 = .int .i64 s ∧ PinAt wx G x ∧ Hid (x.2.length ≤ 255) ∧ Hid (chainGo M (M.length - s) x = chainGo M M.length y) ∧ Below G wo wx) (fun v6 _ => M.length + 1 - (intOf v6).toNat)
      case atStart => exact ⟨0, y, Nat.zero_le _, rfl, hpa, hyo, Lib.hid rfl, hb8⟩
      case round =>
        clear hpa hb8
        obtain ⟨s, ⟨a, t⟩, hs, rfl, hpa, hlen, hch, hb⟩ := hrel
        have pc1 := hpa.c1
        simp only at pc1 hlen
        cases t with
        | nil =>
          rw [chain_nil] at hch
          go_wp2_with fail
          go_roundw
          case rel => exact ⟨k + 1, by omega, by go_num, Lib.hid ((HR.out true hch.out.symm).2 rfl), hbk.trans (hb.mono HL.out.2.2.2)⟩
          case measure => simp [intOf]; omega
        | cons b r =>
          have hp7 := HP.out.belowB hb HL.out.1 HL.out.2.1 HL.out.2.2.1
          have hkey : keyOf Try.prog 9 (.string ⟨(b :: r).toArray⟩) = some (.string (b :: r)) := WideMaps.keyOf_string_mk Try.underlying9 (s := ⟨(b :: r).toArray⟩) (Nat.le_trans hlen.out (by decide))
          go_upto_region 6 with fail
          refine look _ wr p bm bd G M D (b :: r) _ hp7 hkey hpa.lt hpa.c1 ⟨(Below.refl _ _).drew, rfl⟩ _ _ _ _ _ _ _ _ _ _ _ _ _ _ _ _ _ _ _ _ _ _ _ _ _ _ _ _ _ _ _ _ _ _ _ _ _ _ _ _ _ _ _ _ _ _ _ _ _ _ _ _ _ _ _ _ _ _ _ _ _ ?_
          intro w9 _ _ _ _ _ _ _ _ _ _ _ _ hj
          obtain ⟨j1, j2, j3⟩ := hj
          have j2' : w9.cell? ⟨wr.heap.size, 0, none⟩ = some (.int .i64 (atP M (b :: r)).1) := j2
          have j3' : w9.cell? ⟨wr.heap.size, 1, none⟩ = some (.string ⟨(atP M (b :: r)).2.toArray⟩) := j3
          have hpa9 := hpa.below j1
          have hp9 := hp7.below j1
          have HW := Lib.hid (show Below G wo w9 from hb.trans (j1.mono (Nat.le_of_lt hpa.lt)))
          clear j1 j2 j3 hpa hp7 pc1 hkey hb
          have hm7 := hp9.m
          have hln := hm7.2.len Try.underlying69 3
          rw [size_toD] at hln
          clear hm7
          have c07 := hp9.c0
          have pc0 := hpa9.c0
          have pc1 := hpa9.c1
          have HPA := Lib.hid hpa9
          clear hpa9 hp9
          generalize wr.heap.size = G2 at *
          dsimp only [Exit.inBlock, Exit.then]
          have hh := hasM_get M (b :: r)
          cases hg : getM M (b :: r) with
          | none =>
            rw [hg] at hh
            have hat : atP M (b :: r) = (0, []) := by rw [atP, hg]; rfl
            rw [hat] at j2' j3'
            have HF := Lib.hid (hch.out.symm.trans (chain_none M _ a b r hg))
            rw [show hasM M (b :: r) = false from hh]
            clear hh hat hg hch
            go_wp2_with fail
            go_ret
            rw [(HR.out false HF.out).1 rfl]
            exact ⟨rfl, hb1.trans ((hbk.trans (HW.out.mono HL.out.2.2.2)).mono hb1.size)⟩
          | some up =>
            rw [hg] at hh
            have hat : atP M (b :: r) = up := by rw [atP, hg]; rfl
            rw [hat] at j2' j3'
            rw [show hasM M (b :: r) = true from hh]
            have HU := Lib.hid (HO.out _ (mem_of_get hg))
            by_cases hne : up.1 = a
            · by_cases hsl : s = M.length
              · have HF := Lib.hid (hch.out.symm.trans (by rw [hsl, Nat.sub_self, chain_zero]))
                have e1 : (up.1 == a) = true := by simpa using hne
                have e2 : (up.1 != a) = false := by simpa using hne
                have e3 : decide ((M.length : Int) < (s : Int) + 1) = true := decide_eq_true (by omega)
                have e4 : decide (M.length < s + 1) = true := decide_eq_true (by omega)
                clear hh hat hg hch hne hsl
                go_wp2_with fail
                go_ret
                rw [(HR.out false HF.out).1 rfl]
                exact ⟨rfl, hb1.trans ((hbk.trans (HW.out.mono HL.out.2.2.2)).mono hb1.size)⟩
              · have hch' := Lib.hid (show chainGo M (M.length - (s + 1)) up = chainGo M M.length y from by
                  have h1 := hch.out
                  rw [show M.length - s = (M.length - (s + 1)) + 1 from by omega, chain_some M _ a b r up hg, decide_eq_true hne, Bool.true_and] at h1
                  exact h1)
                have e1 : (up.1 == a) = true := by simpa using hne
                have e2 : (up.1 != a) = false := by simpa using hne
                have e3 : decide ((M.length : Int) < (s : Int) + 1) = false := decide_eq_false (by omega)
                have e4 : decide (M.length < s + 1) = false := decide_eq_false (by omega)
                clear hh hat hg hch hne
                have pf0 := HPA.out.f0
                have pf1 := HPA.out.f1
                go_wp2_with fail
                go_roundw
                case rel => exact ⟨s + 1, up, by omega, by go_num, HPA.out.put up, HU, hch', (HW.out.setCell (Nat.le_refl _) _).setCell (Nat.le_refl _) _⟩
                case measure => simp [intOf]; omega
            · have HF := Lib.hid (hch.out.symm.trans (chain_other M _ a b r up hg hne))
              have e1 : (up.1 == a) = false := by simpa using hne
              have e2 : (up.1 != a) = true := by simpa using hne
              clear hh hat hg hch hne
              go_wp2_with fail
              go_ret
              rw [(HR.out false HF.out).1 rfl]
              exact ⟨rfl, hb1.trans ((hbk.trans (HW.out.mono HL.out.2.2.2)).mono hb1.size)⟩
    · have hke : k = M.length := by omega
      subst hke
      have HT := Lib.hid (show rootedB M = true from by
        rw [rootedB, List.all_eq_true]
        intro x hx
        obtain ⟨j, hj, rfl⟩ := List.getElem_of_mem hx
        exact hall.out j hj hj)
      go_wp2_with fail
      go_ret
      rw [HT.out]
      exact ⟨rfl, hb1.trans (hbk.mono hb1.size)⟩

end Go.Proofs.Ytjggeodnoigkkaa
