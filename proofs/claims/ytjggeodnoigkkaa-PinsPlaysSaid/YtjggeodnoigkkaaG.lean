/-
  Package pins: Drop.
-/
import Derived.Test.YtjggeodnoigkkaaF
import Derived.Deep.RegionWith
namespace Go.Proofs.Ytjggeodnoigkkaa
open Go.RowKit Go.Maps Go.Shelf Go.Proofs.YtjggeodnoigkkaaM

def clashAt (D : DM) (l : DM) (i : Nat) : Bool := hasM D (l.getD i (0, 0)).1 || (l.take i).any fun y => decide (y.1 = (l.getD i (0, 0)).1)
def putAll (D : DM) (l : DM) : DM := l.foldl (fun m x => putM m x.1 x.2) D
def dropF (D : DM) (l : DM) : Int × DM :=
  if l.all mayB = false then (1, D) else if (List.range l.length).any (clashAt D l) = true then (16, D) else (0, putAll D l)

theorem may_wf {x : Int × Int} (h : mayB x = true) : (Lit.int .i64 x.1).wf = true := by
  simp only [mayB, Bool.and_eq_true, decide_eq_true_eq] at h
  exact WalkArith.wf_i64 (by omega)

theorem all_take_succ {α : Type} (q : α → Bool) (l : List α) (k : Nat) (h : k < l.length) : (l.take (k + 1)).all q = ((l.take k).all q && q l[k]) := by
  rw [List.take_succ_eq_append_getElem h, List.all_append]
  simp
theorem putAll_succ (D l : DM) (k : Nat) (h : k < l.length) : putAll D (l.take (k + 1)) = putM (putAll D (l.take k)) l[k].1 l[k].2 := by
  unfold putAll
  rw [List.take_succ_eq_append_getElem h, List.foldl_append]
  rfl
theorem putAll_len (D : DM) : ∀ l : DM, (putAll D l).length ≤ D.length + l.length
  | [] => Nat.le_refl _
  | x :: l => by
    have h1 := putAll_len (putM D x.1 x.2) l
    have h2 := length_put_le D x.1 x.2
    show (putAll (putM D x.1 x.2) l).length ≤ _
    rw [List.length_cons]
    omega

set_option maxRecDepth 100000 in
set_option maxHeartbeats 2000000 in
theorem drop_any (p bm bd : Nat) (M : PM) (D : DM) (A : Option Addr) (cap : Nat) (l : DM) (w : World) (h : IsPins w p bm bd M D) (hl : RdD w A l) (hlen : l.length ≤ 8796093022208) (hD : D.length ≤ 8796093022208) (hcap : l.length ≤ cap) :
    Calls Try.prog 20 #[.pointer (some ⟨p, 0, none⟩), .slice A l.length cap] w fun e w' => e = .returned (.int .i64 (dropF D l).1) ∧ IsPins w' p bm bd M (dropF D l).2 ∧ w.grownBy w' (some bd) := by
  have HL := Lib.hid hl
  have H63 := Lib.hid (show l.length ≤ 9223372036854775807 from by omega)
  have Hlen := Lib.hid hlen
  have HD := Lib.hid hD
  have Hcap := Lib.hid hcap
  clear hl hlen hD hcap
  go_enter Try.func20, Try.ntmps20
  go_wp2_with fail
  go_loopw [6, 15] (fun _ i wr => ∃ k : Nat, k ≤ l.length ∧ i = .int .i64 k ∧ Hid ((l.take k).all mayB = true) ∧ Below w.heap.size w wr) (fun _ i _ => l.length - (intOf i).toNat)
  case atStart => exact ⟨0, Nat.zero_le _, rfl, Lib.hid rfl, Below.refl _ _⟩
  case round =>
    obtain ⟨k, hk, rfl, hno, hbk⟩ := hrel
    have h63 := H63.out
    by_cases hlt : k < l.length
    · obtain ⟨ad, rfl, hb0, hc0, hc1⟩ := (HL.out.below hbk) k hlt
      obtain ⟨y, hy⟩ : ∃ y, y = l[k] := ⟨_, rfl⟩
      have e : l.getD k (0, 0) = y := by simp [hy, List.getD_eq_getElem?_getD, hlt]
      rw [e] at hc0 hc1
      have HY := Lib.hid hy
      have HA := Lib.hid (all_take_succ mayB l k hlt)
      clear hy e
      have hb1 : Below wr.heap.size wr (wr.alloc (.cells #[.int .i64 y.1, .int .i64 y.2] 40)) := (Below.refl _ _).alloc (Nat.le_refl _) _
      go_wp2_with fail
      refine (may_any y.1 y.2 _).mono ?_
      rintro e w2 ⟨rfl, hb2⟩
      have hb3 := hbk.trans ((hb1.trans (hb2.mono (by simp))).mono hbk.size)
      clear hb1 hb2
      cases hq : mayB (y.1, y.2)
      · have hf := Lib.hid (show dropF D l = (1, D) from by
          rw [dropF, if_pos]
          rw [List.all_eq_false]
          exact ⟨y, by rw [HY.out]; exact List.getElem_mem _, by simpa using hq⟩)
        go_wp2_with fail
        go_ret
        rw [hf.out]
        exact ⟨rfl, h.below hb3, gb hb3 _⟩
      · go_wp2_with fail
        go_roundw
        case rel => exact ⟨k + 1, by omega, by go_num, Lib.hid (by rw [HA.out, hno.out, ← HY.out]; exact hq), hb3⟩
        case measure => simp [intOf]; omega
    · have hke : k = l.length := by omega
      have hall := hno.out
      rw [hke, List.take_length] at hall
      have Hall := Lib.hid hall
      have h1 := h.below hbk
      have HL1 := Lib.hid (HL.out.below hbk)
      clear hke hall hno HL
      go_wp2_with fail
      obtain ⟨w1, rfl⟩ : ∃ x : World, x = wr := ⟨_, rfl⟩
      have Hb1 := Lib.hid hbk
      clear hbk
      go_loopw [7, 8, 25] (fun _ _ i wq => ∃ k : Nat, k ≤ l.length ∧ i = .int .i64 k ∧ Hid ((List.range k).any (clashAt D l) = false) ∧ Below w1.heap.size w1 wq) (fun _ _ i _ => l.length - (intOf i).toNat)
      case atStart => exact ⟨0, Nat.zero_le _, rfl, Lib.hid rfl, Below.refl _ _⟩
      case round =>
        obtain ⟨j, hj, rfl, hnc, hbj⟩ := hrel
        by_cases hlj : j < l.length
        · obtain ⟨ad, rfl, hb0, hc0, hc1⟩ := (HL1.out.below hbj) j hlj
          obtain ⟨y, hy⟩ : ∃ y, y = l[j] := ⟨_, rfl⟩
          have e : l.getD j (0, 0) = y := by simp [hy, List.getD_eq_getElem?_getD, hlj]
          rw [e] at hc0 hc1
          have hwf := may_wf (List.all_eq_true.1 Hall.out y (by rw [hy]; exact List.getElem_mem _))
          have HY := Lib.hid hy
          have HE := Lib.hid e
          clear hy e
          obtain ⟨W, hW⟩ : ∃ W, W = wr.alloc (.cells #[.int .i64 y.1, .int .i64 y.2] 40) := ⟨_, rfl⟩
          have hbW : Below wr.heap.size wr W := by rw [hW]; exact (Below.refl _ _).alloc (Nat.le_refl _) _
          have hsW : wr.heap.size < W.heap.size := by rw [hW]; simp
          have hcW : W.cell? ⟨wr.heap.size, 0, none⟩ = some (.int .i64 y.1) := by rw [hW]; simp
          have hx := (h1.below hbj).below hbW
          have hcp := hx.c1
          have hbj1 := hbj.trans (hbW.mono hbj.size)
          have HW := Lib.hid hW
          clear hW
          have h63 := H63.out
          have hjlt := Lib.hid hj
          have hjc : j ≤ cap := Nat.le_trans hj Hcap.out
          have HC40 := Lib.hid (show ∀ w2, Below W.drew.heap.size W.drew w2 → Calls Try.prog 40 #[.slice (some ad) j cap, .func (.func 41) #[] #[.pointer (some ⟨wr.heap.size, 0, none⟩)]] w2
              fun e w' => e = .returned (.bool ((l.take j).any fun z => decide (z.1 = y.1))) ∧ Below w2.heap.size w2 w' from fun w2 hb2 => by
            have hbx : Below W.heap.size W w2 := (Below.refl _ _).drew.trans hb2
            refine containsFunc_n (some ad) j cap (l.take j) (by rw [List.length_take]; omega) 41 _ _ w2 (((HL1.out.below hbj1).below hbx).take j) (by omega) (fun x X hX => ?_) eg41
            exact drop1 y x wr.heap.size X ((hX.cell (Nat.lt_of_lt_of_le hsW hbx.size)).trans ((hbx.cell hsW).trans hcW)))
          have HS := Lib.hid (show ∀ k, (List.range (k + 1)).any (clashAt D l) = ((List.range k).any (clashAt D l) || clashAt D l k) from fun k => by rw [List.range_succ, List.any_append]; simp)
          cases hh : hasM D y.1
          · cases hd : (l.take j).any fun z => decide (z.1 = y.1)
            · have Hd := Lib.hid hd
              have hcl := Lib.hid (show clashAt D l j = false from by simp only [clashAt, HE.out, hh, Bool.false_or]; exact Hd.out)
              clear hd
              go_wp2_with fail
              rw [← HW.out]
              go_region_with (first | (go_at_call 36; refine (has_i bd D y.1 _ ?_ hwf).mono ?_; exact (hx.below (Below.refl _ _).drew).d; rintro e w2 ⟨rfl, hb2⟩) | (go_at_call 40; refine (HC40.out _ (by assumption)).mono ?_; rintro e w3 ⟨rfl, hb3⟩))
              all_goals
                have hb4 : Below w1.heap.size w1 w3 := (hbj1.drew.trans (hb2.mono hbj1.size)).trans (hb3.mono (Nat.le_trans hbj1.size hb2.size))
                rw [Hd.out]
                go_wp2_with fail
                go_roundw
                case rel => exact ⟨j + 1, by omega, by go_num, Lib.hid (by rw [HS.out, hnc.out, hcl.out]; rfl), hb4⟩
                case measure => simp [intOf]; omega
            · have hf := Lib.hid (show dropF D l = (16, D) from by
                rw [dropF, if_neg (by rw [Hall.out]; simp), if_pos]
                exact List.any_eq_true.2 ⟨j, by simpa using hlj, by simp only [clashAt, HE.out, hh, Bool.false_or]; exact hd⟩)
              have Hd := Lib.hid hd
              clear hd
              go_wp2_with fail
              rw [← HW.out]
              go_region_with (first | (go_at_call 36; refine (has_i bd D y.1 _ ?_ hwf).mono ?_; exact (hx.below (Below.refl _ _).drew).d; rintro e w2 ⟨rfl, hb2⟩) | (go_at_call 40; refine (HC40.out _ (by assumption)).mono ?_; rintro e w3 ⟨rfl, hb3⟩))
              all_goals
                have hb4 : Below w.heap.size w w3 := Hb1.out.trans (((hbj1.drew.trans (hb2.mono hbj1.size)).trans (hb3.mono (Nat.le_trans hbj1.size hb2.size))).mono Hb1.out.size)
                rw [Hd.out]
                go_wp2_with fail
                go_ret
                rw [hf.out]
                exact ⟨rfl, h.below hb4, gb hb4 _⟩
          · have hf := Lib.hid (show dropF D l = (16, D) from by
              rw [dropF, if_neg (by rw [Hall.out]; simp), if_pos]
              exact List.any_eq_true.2 ⟨j, by simpa using hlj, by simp only [clashAt, HE.out, hh]; simp⟩)
            go_wp2_with fail
            rw [← HW.out]
            first | (go_region_with (go_at_call 36; refine (has_i bd D y.1 _ ?_ hwf).mono ?_; exact (hx.below (Below.refl _ _).drew).d; rintro e w2 ⟨rfl, hb2⟩)) | fail
            all_goals
              have hb4 : Below w.heap.size w w2 := Hb1.out.trans ((hbj1.drew.trans (hb2.mono hbj1.size)).mono Hb1.out.size)
              go_wp2_with fail
              go_ret
              rw [hf.out]
              exact ⟨rfl, h.below hb4, gb hb4 _⟩
        · have hje : j = l.length := by omega
          have hf := Lib.hid (show dropF D l = (0, putAll D l) from by
            have := hnc.out
            rw [hje] at this
            rw [dropF, if_neg (by rw [Hall.out]; simp), if_neg (by rw [this]; simp)])
          have h2 := h1.below hbj
          have HL2 := Lib.hid (HL1.out.below hbj)
          have Hg2 := Lib.hid (Hb1.out.trans (hbj.mono Hb1.out.size))
          clear hje hnc HL1 Hb1
          go_wp2_with fail
          obtain ⟨w2, rfl⟩ : ∃ x : World, x = wr := ⟨_, rfl⟩
          clear hbj
          go_loopw [10, 48] (fun _ i wq => ∃ k : Nat, k ≤ l.length ∧ i = .int .i64 k ∧ IsPins wq p bm bd M (putAll D (l.take k)) ∧ w2.grownBy wq (some bd)) (fun _ i _ => l.length - (intOf i).toNat)
          case atStart => exact ⟨0, Nat.zero_le _, rfl, h2, gb_refl _ _⟩
          case round =>
            obtain ⟨i, hi, rfl, hp, hg⟩ := hrel
            have h63 := H63.out
            by_cases hli : i < l.length
            · obtain ⟨ad, rfl, hb0, hc0, hc1⟩ := (HL2.out.kept h2.d hg) i hli
              obtain ⟨y, hy⟩ : ∃ y, y = l[i] := ⟨_, rfl⟩
              have e : l.getD i (0, 0) = y := by simp [hy, List.getD_eq_getElem?_getD, hli]
              rw [e] at hc0 hc1
              have hwf := may_wf (List.all_eq_true.1 Hall.out y (by rw [hy]; exact List.getElem_mem _))
              have hkey := keyOf_int_mk Try.underlying3 hwf
              have HP := Lib.hid (putAll_succ D l i hli)
              have HY := Lib.hid hy
              have Hn := Lib.hid (show (putAll D (l.take i)).length < maxLen from by
                have h1 := putAll_len D (l.take i)
                have h2 := Hlen.out
                have h3 := HD.out
                rw [List.length_take] at h1
                show _ < 2 ^ 63 - 1
                omega)
              clear hy e
              obtain ⟨W, hW⟩ : ∃ W, W = wr.alloc (.cells #[.int .i64 y.1, .int .i64 y.2] 40) := ⟨_, rfl⟩
              have hbW : Below wr.heap.size wr W := by rw [hW]; exact (Below.refl _ _).alloc (Nat.le_refl _) _
              have hcW : W.cell? ⟨wr.heap.size, 0, none⟩ = some (.int .i64 y.1) := by rw [hW]; simp
              have hcW1 : W.cell? ⟨wr.heap.size, 1, none⟩ = some (.int .i64 y.2) := by rw [hW]; simp
              have hx := hp.below hbW
              have hcp := hx.c1
              have hx' : IsPins W.drew p bm bd M (putAll D (l.take i)) := hx.below (Below.refl _ _).drew
              have HW := Lib.hid hW
              clear hW
              go_wp2_with fail
              rw [← HW.out]
              go_still_tail 10, (by kernel_rfl)
              change wpList _ _ _ _ _ W.drew
              go_wp2_with (at_mapUpdate; refine wl_update _ rfl _ _ _ 74 rfl 3 3 (int_keyed Try.underlying3) Try.underlying74 intC bd _ rfl hx'.d Hn.out y.1 _ rfl hkey y.2 _ rfl rfl ?_; intro w4 hm4 ht4)
              go_roundw
              case rel =>
                refine ⟨i + 1, by omega, by go_num, ?_, (hg.trans (gb hbW.drew _)).trans ht4.grown⟩
                rw [HP.out, ← HY.out]
                exact hx'.grown_d hm4 ht4.grown
              case measure => simp [intOf]; omega
            · have hie : i = l.length := by omega
              have Hie := Lib.hid hie
              clear hie
              go_wp2_with fail
              go_ret
              rw [hf.out]
              rw [Hie.out, List.take_length] at hp
              exact ⟨rfl, hp, (gb Hg2.out _).trans hg⟩

end Go.Proofs.Ytjggeodnoigkkaa
