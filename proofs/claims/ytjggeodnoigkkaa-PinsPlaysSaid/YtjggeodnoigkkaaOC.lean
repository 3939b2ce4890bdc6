/-
  PinsOrder: the walk.
-/
import Derived.Test.YtjggeodnoigkkaaOD
import Derived.Test.YtjggeodnoigkkaaOE
namespace Go.Proofs.Ytjggeodnoigkkaa
open Go.RowKit Go.Maps Go.Shelf Go.Proofs.YtjggeodnoigkkaaM

theorem IsPins.lts {w : World} {p bm bd : Nat} {M : PM} {D : DM} (h : IsPins w p bm bd M D) : bm < w.heap.size ∧ bd < w.heap.size := by
  obtain ⟨_, _, hb, _⟩ := h.m.2
  obtain ⟨_, _, hd, _⟩ := h.d.2
  exact ⟨(Array.getElem?_eq_some_iff.1 hb).1, (Array.getElem?_eq_some_iff.1 hd).1⟩
theorem pinF_len (M : PM) (s : Bs) (x : Int) : (pinF M s x).2.length ≤ M.length + 1 := by
  unfold pinF
  split
  · exact Nat.le_succ _
  · split
    · exact Nat.le_succ _
    · exact length_put_le _ _ _
theorem enc_len {M : PM} (h : ∀ x ∈ M, x.2.2 = [] ∧ x.1.length = 1) (D : DM) : (encB M D).length = 16 + 11 * M.length + 16 * D.length := by
  have h8 : ∀ n, (eightB n).length = 8 := fun n => by simp [eightB]
  have h1 : ∀ M : PM, (∀ x ∈ M, x.2.2 = [] ∧ x.1.length = 1) → (M.flatMap pinX).length = 11 * M.length := fun M h => by
    induction M with
    | nil => rfl
    | cons x t ih =>
      rw [List.flatMap_cons, List.length_append, ih (fun y hy => h y (by simp [hy])), List.length_cons]
      obtain ⟨e1, e2⟩ := h x (by simp)
      simp only [pinX, shortB, List.length_append, List.length_cons, e1, e2, h8, List.length_nil]
      omega
  have h2 : ∀ D : DM, (D.flatMap dropX).length = 16 * D.length := fun D => by
    induction D with
    | nil => rfl
    | cons x t ih =>
      rw [List.flatMap_cons, List.length_append, ih, List.length_cons]
      simp only [dropX, List.length_append, h8]
      omega
  simp only [encB, List.length_append, h8, h1 M h, h2]
  omega

theorem firstB_succ (l : DM) (m : Nat) (x : Int × Int) (h : m < l.length) : firstB l (m + 1) x = (firstB l m x && !(decide (l[m].1 = x.1) && mayB l[m])) := by
  rw [firstB, firstB, List.take_succ_eq_append_getElem h, List.all_append]
  simp
theorem rd_drop1 (w : World) (x : Int × Int) (t : TypeId) : RdD (w.alloc (.cells #[.int .i64 x.1, .int .i64 x.2] t)) (some ⟨w.heap.size, 0, none⟩) [x] := fun k hk => by
  match k, hk with
  | 0, _ => exact ⟨_, rfl, by simp, by simp [Addr.add], by simp [Addr.add]⟩
theorem info3' : (Try.prog.info? 3).map (fun i => (i.zero, i.size, i.bytes)) = some (some (.int .i64 0), 1, 8) := by kernel_rfl
theorem make_ints0 (w : World) : (Instr.makeSlice 30 (.int .i64 0) (.int .i64 0)).run Try.prog w = .ok (.slice (some ⟨w.heap.size, 0, none⟩) 0 0) (w.alloc (.cells #[] 3)) := by
  obtain ⟨i0, hi, hz0, hz1, hz2⟩ := info_parts info3'
  have h := run_make (P := Try.prog) w 30 3 i0 (.int .i64 0) Try.underlying30 hi hz0 .i64 .i64 0 0 (by omega) (by omega) (by rw [hz2]; omega) (by omega)
  rw [hz1, show madeCells (Value.int .i64 0).cells (Int.toNat 0 * 1) = #[] from Array.eq_empty_of_size_eq_zero (by rw [size_madeCells]; rfl)] at h
  exact h

theorem IsPins.belowB {w w' : World} {p bm bd B : Nat} {M : PM} {D : DM} (h : IsPins w p bm bd M D) (hb : Below B w w') (h1 : p < B) (h2 : bm < B) (h3 : bd < B) : IsPins w' p bm bd M D :=
  ⟨(hb.cell (p := ⟨p, 0, none⟩) h1).trans h.c0, (hb.cell (p := ⟨p, 1, none⟩) h1).trans h.c1, h.m.below hb h2, h.d.below hb h3, h.ne⟩
theorem row_below {w w' : World} {B : Nat} {v : Value} {n : Nat} {xs : List Value} (h : w.ownsRow B 3 1 v n xs) (hb : Below w.heap.size w w') : w'.ownsRow B 3 1 v n xs := h.kept (gb hb none) (by cases v.ownBlock <;> simp)
theorem row_kept {w w' : World} {B b : Nat} {v : Value} {n : Nat} {xs : List Value} (h : w.ownsRow B 3 1 v n xs) (hg : w.grownBy w' (some b)) (hb : b < B) : w'.ownsRow B 3 1 v n xs := h.kept hg (by
  cases hv : v.ownBlock with
  | none => exact .inl rfl
  | some g =>
    refine .inr fun e => ?_
    have := (h.lt g hv).1
    cases e
    omega)
/-- What is done lies apart. -/
def DoneAt (A : Option Addr) (B : Nat) (ds : List Int) (W : World) : Prop := RdI W A ds ∧ ∀ ad, A = some ad → B ≤ ad.block
theorem DoneAt.below {A : Option Addr} {B : Nat} {ds : List Int} {w w' : World} (h : DoneAt A B ds w) (hb : Below w.heap.size w w') : DoneAt A B ds w' := ⟨h.1.below hb, h.2⟩
theorem DoneAt.kept {A : Option Addr} {B b : Nat} {ds : List Int} {w w' : World} (h : DoneAt A B ds w) (hB : b < B) (hg : w.grownBy w' (some b)) : DoneAt A B ds w' := ⟨fun k hk => by
  obtain ⟨ad, e, hlt, h0⟩ := h.1 k hk
  have h1 := h.2 ad e
  refine ⟨ad, e, Nat.lt_of_lt_of_le hlt hg.size, hg.cell h0 ?_⟩
  rw [add_block]
  intro e
  injection e with e
  omega, h.2⟩
theorem row_rd {w : World} {B : Nat} {v : Value} {l : List Int} (h : w.ownsRow B 3 1 v l.length (l.map encZ)) : ∃ A cap, v = .slice A l.length cap ∧ l.length ≤ cap ∧ DoneAt A B l w := by
  rcases h.2 with ⟨hv, hx⟩ | ⟨g, cap, cur, hv, hB, _, hc, _⟩
  · subst hv
    have hl : l = [] := List.eq_nil_of_length_eq_zero hx
    subst hl
    exact ⟨none, 0, rfl, Nat.le_refl _, fun k hk => by simp at hk, fun ad e => by cases e⟩
  · subst hv
    refine ⟨_, cap, rfl, hc, fun k hk => ⟨_, rfl, (h.lt g rfl).2, ?_⟩, fun ad e => by cases e; exact hB⟩
    have : (⟨g, 0, none⟩ : Addr).add k = ⟨g, k, none⟩ := by unfold Addr.add; split <;> simp_all
    rw [this, h.cellAt k (by simpa using hk)]
    simp [hk, encZ, List.getD_eq_getElem?_getD]
theorem drop_not {l : DM} {k : Nat} (h : k < l.length) (hf : firstB l k (l.getD k (0, 0)) = false) : dropAll (l.take (k + 1)) = dropAll (l.take k) ∧ doneK l (k + 1) = doneK l k := by
  have hd := drops_ok l k (by omega)
  have e0 : l.getD k (0, 0) = l[k] := by simp [List.getD_eq_getElem?_getD, h]
  have hh : hasM (dropAll (l.take k)) l[k].1 = true := by
    rw [first_iff hd, e0] at hf
    simpa using hf
  rw [dropAll_succ l k h, doneK, e0, dropF_one, hh]
  cases mayB l[k] <;> simp
theorem doneK_len (l : DM) (k : Nat) : (doneK l k).length ≤ k := by
  induction k with
  | zero => exact Nat.le_refl _
  | succ k ih =>
    rw [doneK, List.length_append]
    split <;> simp <;> omega

set_option maxRecDepth 100000 in
set_option maxHeartbeats 4000000 in
theorem order_walk (A0 : Option Addr) (c0 : Nat) (a : List Int) (A1 : Option Addr) (c1 : Nat) (l : DM) (w : World) (ha : RdI w A0 a) (hl : RdD w A1 l) (ma : a.length ≤ maxLen) (ml : l.length ≤ maxLen) :
    Calls Try.prog 4 #[.slice A0 a.length c0, .slice A1 l.length c1] w fun e w' => e = .returned (.bool true) ∧ Below w.heap.size w w' := by
  have HA := Lib.hid ha
  have HL := Lib.hid hl
  clear ha hl
  have ma' : a.length ≤ 9223372036854775807 := ma
  have ml' : l.length ≤ 9223372036854775807 := ml
  clear ma ml
  go_enter Try.func4, Try.ntmps4
  go_wp2_with fail
  refine (new_any _).mono ?_
  rintro e w1 ⟨p, bm, bd, rfl, h1, hb1, hp, hbm, hbd⟩
  go_wp2_with fail
  refine (new_any _).mono ?_
  rintro e w2 ⟨q, cm, cd, rfl, h2, hb2, hq, hcm, hcd⟩
  have hP := h1.below hb2
  have hb := hb1.trans (hb2.mono hb1.size)
  have lp := h1.lt
  have lm := h1.lts
  have hs1 := hb1.size
  have NE := Lib.hid (show (w.heap.size ≤ bm ∧ w.heap.size ≤ bd ∧ w.heap.size ≤ cm ∧ w.heap.size ≤ cd) ∧ (q ≠ bm ∧ cm ≠ bm ∧ cd ≠ bm) ∧ (q ≠ bd ∧ cm ≠ bd ∧ cd ≠ bd) ∧ (p ≠ cm ∧ bm ≠ cm ∧ bd ≠ cm) ∧ (p ≠ cd ∧ bm ≠ cd ∧ bd ≠ cd) from by omega)
  clear hp hbm hbd hq hcm hcd lp lm hs1 hb1 hb2 h1
  by_cases ka : 20 < a.length
  · have e1 : decide (20 < (a.length : Int)) = true := decide_eq_true (by omega)
    have e2 : decide (20 < a.length) = true := decide_eq_true ka
    clear ka
    go_wp2_with fail
    refine (awake_any _).mono ?_
    rintro e w3 ⟨rfl, hb4⟩
    go_wp2_with fail
    go_ret
    exact ⟨rfl, hb.trans (hb4.mono hb.size)⟩
  have e1 : decide (20 < (a.length : Int)) = false := decide_eq_false (by omega)
  have e2 : decide (20 < a.length) = false := decide_eq_false ka
  by_cases kl : 20 < l.length
  · have e3 : decide (20 < (l.length : Int)) = true := decide_eq_true (by omega)
    have e4 : decide (20 < l.length) = true := decide_eq_true kl
    clear ka kl
    go_wp2_with fail
    refine (awake_any _).mono ?_
    rintro e w3 ⟨rfl, hb4⟩
    go_wp2_with fail
    go_ret
    exact ⟨rfl, hb.trans (hb4.mono hb.size)⟩
  have e3 : decide (20 < (l.length : Int)) = false := decide_eq_false (by omega)
  have e4 : decide (20 < l.length) = false := decide_eq_false kl
  have KA := Lib.hid (Nat.le_of_not_lt ka)
  have KL := Lib.hid (Nat.le_of_not_lt kl)
  clear ka kl
  go_wp2_with fail
  clear e1 e2 e3 e4
  have HB := Lib.hid hb
  clear hb
  go_loopw [7] (fun i wr => ∃ (k : Nat) (M : PM), k ≤ a.length ∧ i = .int .i64 k ∧ PinsOf a (fun j => j < k) M ∧ M.length ≤ k ∧ IsPins wr p bm bd M [] ∧ IsPins wr q cm cd [] [] ∧ Below w.heap.size w wr) (fun i _ => a.length - (intOf i).toNat)
  case atStart => exact ⟨0, [], Nat.zero_le _, rfl, PinsOf.nil a (fun i _ h => by omega), Nat.le_refl _, hP, h2, HB.out⟩
  case round =>
    obtain ⟨k, M, hk, rfl, hM, hMl, h3, h4, hb3⟩ := hrel
    by_cases hlt : k < a.length
    · obtain ⟨g, rfl, hg1, hgx⟩ := HA.out k hlt
      have ka := KA.out
      have hs := hM.step k hlt ka (by omega)
      go_upto_region 8 with fail
      refine ord8 _ w p bm bd q cm cd M [] [] [] g a.length c0 k (a.getD k 0) _ (by omega) hlt (by rw [add_block]; exact hg1) hgx (by show _ < 2 ^ 63 - 1; omega) NE.out.1.1 NE.out.2.1.1 NE.out.2.1.2.1 NE.out.2.1.2.2 ⟨hb3.drew, h4.below (Below.refl _ _).drew, h3.below (Below.refl _ _).drew⟩ _ _ _ _ _ _ _ _ _ _ _ _ _ _ _ _ _ _ _ _ _ _ _ _ _ _ _ _ _ _ _ _ _ _ _ _ _ _ _ _ _ _ _ _ _ _ _ _ _ _ _ _ _ _ _ _ _ _ _ _ _ _ _ _ _ _ _ _ _ _ _ _ _ _ _ _ _ _ _ _ _ _ _ _ _ _ _ _ _ _ _ _ _ _ _ _ _ _ _ _ _ _ _ _ _ _ _ _ _ _ _ _ _ _ _ _ _ _ _ _ _ _ _ _ _ _ _ _ _ _ _ _ _ _ _ _ _ _ _ _ _ _ _ _ _ _ _ _ _ _ _ _ _ _ _ _ _ _ _ _ _ _ _ _ _ _ _ _ _ _ _ _ _ _ _ _ _ _ _ _ _ _ _ _ _ _ _ _ _ _ _ _ _ _ _ _ _ _ _ _ _ _ _ _ _ _ _ _ _ _ _ _ _ _ ?_
      intro w9 _ _ _ _ _ _ _ _ hj
      obtain ⟨j1, j2, j3⟩ := hj
      dsimp only [cond_true] at j3
      dsimp only [Exit.inBlock, Exit.then]
      go_wp2_with fail
      go_roundw
      case rel => exact ⟨k + 1, _, by omega, by go_num, hs.of fun j => by omega, Nat.le_trans (pinF_len _ _ _) (by omega), j3, j2, j1⟩
      case measure => simp [intOf]; omega
    · have hke : k = a.length := by omega
      subst hke
      have HM := Lib.hid hM
      have HMl := Lib.hid hMl
      clear hM hMl
      go_wp2_with fail
      go_loopw [8] (fun i wr => ∃ k : Nat, k ≤ l.length ∧ i = .int .i64 k ∧ IsPins wr p bm bd M (dropAll (l.take k)) ∧ IsPins wr q cm cd [] [] ∧ Below w.heap.size w wr) (fun i _ => l.length - (intOf i).toNat)
      case atStart => exact ⟨0, Nat.zero_le _, rfl, h3, h4, hb3⟩
      case round =>
        clear h3 h4 hb3
        obtain ⟨k, hk, rfl, h3, h4, hb3⟩ := hrel
        by_cases hlt : k < l.length
        · obtain ⟨g, rfl, hg1, hgx, hgy⟩ := HL.out k hlt
          have hi0 : (0 : Int) ≤ (k : Int) := by omega
          have hi1 : (k : Int) < (l.length : Int) := by omega
          have e0 : l.getD k (0, 0) = l[k] := by simp [List.getD_eq_getElem?_getD, hlt]
          rw [e0] at hgx hgy
          have hgx' := (hb3.cell (p := g.add (k * 2)) (by rw [add_block]; exact hg1)).trans hgx
          have hgy' := (hb3.cell (p := ⟨(g.add (k * 2)).block, (g.add (k * 2)).off + 1, none⟩) (by show (g.add (k * 2)).block < _; rw [add_block]; exact hg1)).trans hgy
          have HD := Lib.hid (dropAll_succ l k hlt)
          have HDl := Lib.hid (drops_ok l k (by omega))
          generalize l[k] = x at hgx hgy hgx' hgy' HD e0
          clear hgx hgy e0
          have hb8 : Below wr.heap.size wr (wr.alloc (.cells #[.int .i64 x.1, .int .i64 x.2] 40)) := (Below.refl _ _).alloc (Nat.le_refl _) _
          have h4' := h4.below hb8
          have HC := Lib.hid (drop_any p bm bd M (dropAll (l.take k)) (some ⟨wr.heap.size, 0, none⟩) 1 [x] _ (h3.below hb8) (rd_drop1 wr x 40) (show 1 ≤ 8796093022208 by decide) (by
            have h1 := HDl.out.len
            have h2 := KL.out
            have h3 : ∀ j, (doneK l j).length ≤ j := fun j => by
              induction j with
              | zero => exact Nat.le_refl _
              | succ j ih =>
                rw [doneK, List.length_append]
                split <;> simp <;> omega
            have h4 := h3 k
            omega) (show 1 ≤ 1 by decide))
          clear HDl
          go_wp2_with fail
          refine HC.out.mono ?_
          rintro e w5 ⟨rfl, h5, hg⟩
          clear HC
          go_wp2_with fail
          go_roundw
          case rel => exact ⟨k + 1, by omega, by go_num, by rw [HD.out]; exact h5, h4'.other hg NE.out.2.2.1.1 NE.out.2.2.1.2.1 NE.out.2.2.1.2.2, (hb3.trans (hb8.mono hb3.size)).trans (below_of_grown hg NE.out.1.2.1 (by have := hb3.size; simp; omega))⟩
          case measure => simp [intOf]; omega
        · have hke : k = l.length := by omega
          subst hke
          obtain ⟨W9, hW9⟩ : ∃ W, W = wr.alloc (.cells #[] 3) := ⟨_, rfl⟩
          have hr := make_ints0 wr
          rw [← hW9] at hr
          have hb8 : Below wr.heap.size wr W9 := by rw [hW9]; exact (Below.refl _ _).alloc (Nat.le_refl _) _
          have hown : W9.ownsRow wr.heap.size 3 1 (.slice (some ⟨wr.heap.size, 0, none⟩) 0 0) 0 [] := by rw [hW9]; exact World.ownsRow_made wr #[] 0 (Nat.le_refl _) (by decide) rfl
          have h3' := h3.below hb8
          have h4' := h4.below hb8
          have hb9 := hb3.trans (hb8.mono hb3.size)
          have lq := h4.lts
          have lp := h3.lts
          have HQ := Lib.hid (show (p < wr.heap.size ∧ bm < wr.heap.size ∧ bd < wr.heap.size) ∧ (q < wr.heap.size ∧ cm < wr.heap.size ∧ cd < wr.heap.size) ∧ w.heap.size ≤ wr.heap.size from ⟨⟨h3.lt, lp⟩, ⟨h4.lt, lq⟩, hb3.size⟩)
          have hB9 := hb8.size
          clear hW9 h3 h4 hb8 lq lp hb3
          generalize wr.heap.size = B at hown HQ hr hB9
          go_wp2_with fail
          clear hr
          go_loopw [9, 10] (fun v i wr => ∃ k : Nat, k ≤ l.length ∧ i = .int .i64 k ∧ wr.ownsRow B 3 1 v (doneK l k).length ((doneK l k).map encZ) ∧ IsPins wr p bm bd M (dropAll (l.take l.length)) ∧ IsPins wr q cm cd [] (dropAll (l.take k)) ∧ Below w.heap.size w wr ∧ B ≤ wr.heap.size) (fun _ i _ => l.length - (intOf i).toNat)
          case atStart => exact ⟨0, Nat.zero_le _, rfl, hown, h3', h4', hb9, hB9⟩
          case round =>
            clear hown h3' h4' hb9 hB9
            obtain ⟨k, hk, rfl, hown, h3, h4, hb3, hB3⟩ := hrel
            by_cases hlt : k < l.length
            · obtain ⟨g, rfl, hg1, hgx, hgy⟩ := HL.out k hlt
              have hi0 : (0 : Int) ≤ (k : Int) := by omega
              have hi1 : (k : Int) < (l.length : Int) := by omega
              go_wp2_with fail
              go_loopw [11, 12] (fun f i wx => ∃ m : Nat, m ≤ k ∧ i = .int .i64 m ∧ f = .bool (firstB l m (l.getD k (0, 0))) ∧ Below wr.heap.size wr wx) (fun _ i _ => k - (intOf i).toNat)
              case atStart => exact ⟨0, Nat.zero_le _, rfl, rfl, Below.refl _ _⟩
              case round =>
                obtain ⟨m, hm, rfl, rfl, hbx⟩ := hrel
                by_cases hmk : m < k
                · obtain ⟨g', hg', _, hmx, hmy⟩ := HL.out m (by omega)
                  obtain rfl : g = g' := Option.some.inj hg'
                  have hm0 : (0 : Int) ≤ (m : Int) := by omega
                  have hm1 : (m : Int) < (l.length : Int) := by omega
                  have hbb := hb3.trans (hbx.mono hb3.size)
                  have e0 : l.getD m (0, 0) = l[m] := by simp [List.getD_eq_getElem?_getD, show m < l.length by omega]
                  rw [e0] at hmx hmy
                  have hy0 := (hbb.cell (p := g.add (m * 2)) (by rw [add_block]; exact hg1)).trans hmx
                  have hy1 := (hbb.cell (p := ⟨(g.add (m * 2)).block, (g.add (m * 2)).off + 1, none⟩) (by show (g.add (m * 2)).block < _; rw [add_block]; exact hg1)).trans hmy
                  have hx0 := (hbb.cell (p := g.add (k * 2)) (by rw [add_block]; exact hg1)).trans hgx
                  have hs := firstB_succ l m (l.getD k (0, 0)) (by omega)
                  generalize l[m] = y at hmx hmy hy0 hy1 hs e0
                  generalize l.getD k (0, 0) = x at hgx hgy hx0 hs ⊢
                  generalize firstB l m x = b at hs
                  have HS := Lib.hid hs
                  have HBX := Lib.hid hbx
                  have HG := Lib.hid (show g.block < wr.heap.size ∧ True from ⟨by have h1 := hbb.size; omega, trivial⟩)
                  clear hmx hmy e0 hbb hs hbx hgx hgy h3 h4 hb3 hown
                  cases b
                  · have hf := Lib.hid (show firstB l (m + 1) x = false from by rw [HS.out]; rfl)
                    go_upto_region 21 with fail
                    refine fstF _ g l.length c1 k m x y _ HG.out.1 hm0 hm1 hi0 hi1 hy0 hy1 hx0 _ _ _ _ _ _ _ _ _ _ _ _ _ _ _ _ _ _ _ _ _ _ _ _ _ _ _ _ _ _ _ _ _ _ _ _ _ _ _ _ _ _ _ _ _ _ _ _ _ _ _ _ _ _ _ _ _ _ _ _ _ _ _ _ _ _ _ _ _ _ _ _ _ _ _ _ _ _ _ _ _ _ _ _ _ _ _ _ _ _ _ _ _ _ _ _ _ _ _ _ _ _ _ _ _ _ _ _ _ _ _ _ _ _ _ _ _ _ _ _ _ _ _ _ _ _ _ _ _ _ _ _ _ _ _ _ _ _ _ _ _ _ _ _ _ _ _ _ _ _ _ _ _ _ _ _ _ _ _ _ _ _ _ _ _ _ _ _ _ _ _ _ _ _ _ _ _ _ _ _ _ _ _ _ _ _ _ _ _ _ _ _ _ _ _ _ _ _ _ _ _ _ _ _ _ _ _ _ _ _ _ _ _ ?_
                    intro w9 _ _ _ _ _ _ _ _ _ _ _ _ _ _ _ _ _ _ _ _ _ _ _ _ _ _ _ _ _ _ _ _ _ _ _ _ _ _ _ _ _ _ _ hj
                    dsimp only [Exit.inBlock, Exit.then]
                    go_wp2_with fail
                    go_roundw
                    case rel => exact ⟨m + 1, by omega, by go_num, by rw [hf.out], HBX.out.trans (hj.mono HBX.out.size)⟩
                    case measure => simp [intOf]; omega
                  · by_cases c1 : y.1 = x.1
                    · by_cases c2 : y.2 ≤ y.1
                      · have f2 : decide (y.2 ≤ y.1) = true := decide_eq_true c2
                        have hf := Lib.hid (show firstB l (m + 1) x = true from by rw [HS.out, mayB, decide_eq_false (p := y.1 < y.2) (by omega)]; simp)
                        have C1 := Lib.hid c1
                        clear c1 c2
                        go_upto_region 21 with fail
                        refine fstC2 _ g l.length c1 k m x y _ HG.out.1 hm0 hm1 hi0 hi1 hy0 hy1 hx0 C1.out f2 _ _ _ _ _ _ _ _ _ _ _ _ _ _ _ _ _ _ _ _ _ _ _ _ _ _ _ _ _ _ _ _ _ _ _ _ _ _ _ _ _ _ _ _ _ _ _ _ _ _ _ _ _ _ _ _ _ _ _ _ _ _ _ _ _ _ _ _ _ _ _ _ _ _ _ _ _ _ _ _ _ _ _ _ _ _ _ _ _ _ _ _ _ _ _ _ _ _ _ _ _ _ _ _ _ _ _ _ _ _ _ _ _ _ _ _ _ _ _ _ _ _ _ _ _ _ _ _ _ _ _ _ _ _ _ _ _ _ _ _ _ _ _ _ _ _ _ _ _ _ _ _ _ _ _ _ _ _ _ _ _ _ _ _ _ _ _ _ _ _ _ _ _ _ _ _ _ _ _ _ _ _ _ _ _ _ _ _ _ _ _ _ _ _ _ _ _ _ _ _ _ _ _ _ _ _ _ _ _ _ _ _ _ ?_
                        intro w9 _ _ _ _ _ _ _ _ _ _ _ _ _ _ _ _ _ _ _ _ _ _ _ _ _ _ _ _ _ _ _ _ _ _ _ _ _ _ _ _ _ _ _ hj
                        dsimp only [Exit.inBlock, Exit.then]
                        go_wp2_with fail
                        go_roundw
                        case rel => exact ⟨m + 1, by omega, by go_num, by rw [hf.out], HBX.out.trans (hj.mono HBX.out.size)⟩
                        case measure => simp [intOf]; omega
                      · have f2 : decide (y.2 ≤ y.1) = false := decide_eq_false c2
                        by_cases c3 : y.1 < 1
                        · have f3 : decide (y.1 < 1) = true := decide_eq_true c3
                          have hf := Lib.hid (show firstB l (m + 1) x = true from by rw [HS.out, mayB, decide_eq_false (p := 1 ≤ y.1) (by omega)]; simp)
                          have C1 := Lib.hid c1
                          clear c1 c2 c3
                          go_upto_region 21 with fail
                          refine fstC3 _ g l.length c1 k m x y _ HG.out.1 hm0 hm1 hi0 hi1 hy0 hy1 hx0 C1.out f2 f3 _ _ _ _ _ _ _ _ _ _ _ _ _ _ _ _ _ _ _ _ _ _ _ _ _ _ _ _ _ _ _ _ _ _ _ _ _ _ _ _ _ _ _ _ _ _ _ _ _ _ _ _ _ _ _ _ _ _ _ _ _ _ _ _ _ _ _ _ _ _ _ _ _ _ _ _ _ _ _ _ _ _ _ _ _ _ _ _ _ _ _ _ _ _ _ _ _ _ _ _ _ _ _ _ _ _ _ _ _ _ _ _ _ _ _ _ _ _ _ _ _ _ _ _ _ _ _ _ _ _ _ _ _ _ _ _ _ _ _ _ _ _ _ _ _ _ _ _ _ _ _ _ _ _ _ _ _ _ _ _ _ _ _ _ _ _ _ _ _ _ _ _ _ _ _ _ _ _ _ _ _ _ _ _ _ _ _ _ _ _ _ _ _ _ _ _ _ _ _ _ _ _ _ _ _ _ _ _ _ _ _ _ _ ?_
                          intro w9 _ _ _ _ _ _ _ _ _ _ _ _ _ _ _ _ _ _ _ _ _ _ _ _ _ _ _ _ _ _ _ _ _ _ _ _ _ _ _ _ _ _ _ hj
                          dsimp only [Exit.inBlock, Exit.then]
                          go_wp2_with fail
                          go_roundw
                          case rel => exact ⟨m + 1, by omega, by go_num, by rw [hf.out], HBX.out.trans (hj.mono HBX.out.size)⟩
                          case measure => simp [intOf]; omega
                        · have f3 : decide (y.1 < 1) = false := decide_eq_false c3
                          by_cases c4 : 1099511627776 ≤ y.2
                          · have f4 : decide (1099511627776 ≤ y.2) = true := decide_eq_true c4
                            have hf := Lib.hid (show firstB l (m + 1) x = true from by rw [HS.out, mayB, decide_eq_false (p := y.2 < 1099511627776) (by omega)]; simp)
                            have C1 := Lib.hid c1
                            clear c1 c2 c3 c4
                            go_upto_region 21 with fail
                            refine fstC4 _ g l.length c1 k m x y _ HG.out.1 hm0 hm1 hi0 hi1 hy0 hy1 hx0 C1.out f2 f3 f4 _ _ _ _ _ _ _ _ _ _ _ _ _ _ _ _ _ _ _ _ _ _ _ _ _ _ _ _ _ _ _ _ _ _ _ _ _ _ _ _ _ _ _ _ _ _ _ _ _ _ _ _ _ _ _ _ _ _ _ _ _ _ _ _ _ _ _ _ _ _ _ _ _ _ _ _ _ _ _ _ _ _ _ _ _ _ _ _ _ _ _ _ _ _ _ _ _ _ _ _ _ _ _ _ _ _ _ _ _ _ _ _ _ _ _ _ _ _ _ _ _ _ _ _ _ _ _ _ _ _ _ _ _ _ _ _ _ _ _ _ _ _ _ _ _ _ _ _ _ _ _ _ _ _ _ _ _ _ _ _ _ _ _ _ _ _ _ _ _ _ _ _ _ _ _ _ _ _ _ _ _ _ _ _ _ _ _ _ _ _ _ _ _ _ _ _ _ _ _ _ _ _ _ _ _ _ _ _ _ _ _ _ _ ?_
                            intro w9 _ _ _ _ _ _ _ _ _ _ _ _ _ _ _ _ _ _ _ _ _ _ _ _ _ _ _ _ _ _ _ _ _ _ _ _ _ _ _ _ _ _ _ hj
                            dsimp only [Exit.inBlock, Exit.then]
                            go_wp2_with fail
                            go_roundw
                            case rel => exact ⟨m + 1, by omega, by go_num, by rw [hf.out], HBX.out.trans (hj.mono HBX.out.size)⟩
                            case measure => simp [intOf]; omega
                          · have f4 : decide (1099511627776 ≤ y.2) = false := decide_eq_false c4
                            have hf := Lib.hid (show firstB l (m + 1) x = false from by rw [HS.out, mayB, decide_eq_true (p := y.2 < 1099511627776) (by omega), decide_eq_true (p := 1 ≤ y.1) (by omega), decide_eq_true (p := y.1 < y.2) (by omega), decide_eq_true c1]; rfl)
                            have C1 := Lib.hid c1
                            clear c1 c2 c3 c4
                            go_upto_region 21 with fail
                            refine fstC5 _ g l.length c1 k m x y _ HG.out.1 hm0 hm1 hi0 hi1 hy0 hy1 hx0 C1.out f2 f3 f4 _ _ _ _ _ _ _ _ _ _ _ _ _ _ _ _ _ _ _ _ _ _ _ _ _ _ _ _ _ _ _ _ _ _ _ _ _ _ _ _ _ _ _ _ _ _ _ _ _ _ _ _ _ _ _ _ _ _ _ _ _ _ _ _ _ _ _ _ _ _ _ _ _ _ _ _ _ _ _ _ _ _ _ _ _ _ _ _ _ _ _ _ _ _ _ _ _ _ _ _ _ _ _ _ _ _ _ _ _ _ _ _ _ _ _ _ _ _ _ _ _ _ _ _ _ _ _ _ _ _ _ _ _ _ _ _ _ _ _ _ _ _ _ _ _ _ _ _ _ _ _ _ _ _ _ _ _ _ _ _ _ _ _ _ _ _ _ _ _ _ _ _ _ _ _ _ _ _ _ _ _ _ _ _ _ _ _ _ _ _ _ _ _ _ _ _ _ _ _ _ _ _ _ _ _ _ _ _ _ _ _ _ _ ?_
                            intro w9 _ _ _ _ _ _ _ _ _ _ _ _ _ _ _ _ _ _ _ _ _ _ _ _ _ _ _ _ _ _ _ _ _ _ _ _ _ _ _ _ _ _ _ hj
                            dsimp only [Exit.inBlock, Exit.then]
                            go_wp2_with fail
                            go_roundw
                            case rel => exact ⟨m + 1, by omega, by go_num, by rw [hf.out], HBX.out.trans (hj.mono HBX.out.size)⟩
                            case measure => simp [intOf]; omega
                    · have hf := Lib.hid (show firstB l (m + 1) x = true from by rw [HS.out, decide_eq_false c1]; rfl)
                      have C1 := Lib.hid c1
                      clear c1
                      go_upto_region 21 with fail
                      refine fstC1 _ g l.length c1 k m x y _ HG.out.1 hm0 hm1 hi0 hi1 hy0 hy1 hx0 C1.out _ _ _ _ _ _ _ _ _ _ _ _ _ _ _ _ _ _ _ _ _ _ _ _ _ _ _ _ _ _ _ _ _ _ _ _ _ _ _ _ _ _ _ _ _ _ _ _ _ _ _ _ _ _ _ _ _ _ _ _ _ _ _ _ _ _ _ _ _ _ _ _ _ _ _ _ _ _ _ _ _ _ _ _ _ _ _ _ _ _ _ _ _ _ _ _ _ _ _ _ _ _ _ _ _ _ _ _ _ _ _ _ _ _ _ _ _ _ _ _ _ _ _ _ _ _ _ _ _ _ _ _ _ _ _ _ _ _ _ _ _ _ _ _ _ _ _ _ _ _ _ _ _ _ _ _ _ _ _ _ _ _ _ _ _ _ _ _ _ _ _ _ _ _ _ _ _ _ _ _ _ _ _ _ _ _ _ _ _ _ _ _ _ _ _ _ _ _ _ _ _ _ _ _ _ _ _ _ _ _ _ _ _ ?_
                      intro w9 _ _ _ _ _ _ _ _ _ _ _ _ _ _ _ _ _ _ _ _ _ _ _ _ _ _ _ _ _ _ _ _ _ _ _ _ _ _ _ _ _ _ _ hj
                      dsimp only [Exit.inBlock, Exit.then]
                      go_wp2_with fail
                      go_roundw
                      case rel => exact ⟨m + 1, by omega, by go_num, by rw [hf.out], HBX.out.trans (hj.mono HBX.out.size)⟩
                      case measure => simp [intOf]; omega
                · have hmk' : m = k := by omega
                  subst hmk'
                  have HBm := Lib.hid (Nat.le_trans hB3 hbx.size)
                  have HGX := Lib.hid hgx
                  have h3m := h3.below hbx
                  have h4m := h4.below hbx
                  have hownm := row_below hown hbx
                  have hbm := hb3.trans (hbx.mono hb3.size)
                  have hgx' := (hbm.cell (p := g.add (m * 2)) (by rw [add_block]; exact hg1)).trans hgx
                  have hgy' := (hbm.cell (p := ⟨(g.add (m * 2)).block, (g.add (m * 2)).off + 1, none⟩) (by show (g.add (m * 2)).block < _; rw [add_block]; exact hg1)).trans hgy
                  clear hgx hgy h3 h4 hown hbx hb3 hB3
                  cases hf : firstB l m (l.getD m (0, 0))
                  · have HN := Lib.hid (drop_not hlt hf)
                    clear hf
                    go_wp2_with fail
                    go_roundw
                    case rel => exact ⟨m + 1, by omega, by go_num, by rw [HN.out.2]; exact hownm, h3m, by rw [HN.out.1]; exact h4m, hbm, HBm.out⟩
                    case measure => simp [intOf]; omega
                  · clear hf
                    have e0 : l.getD m (0, 0) = l[m] := by simp [List.getD_eq_getElem?_getD, hlt]
                    have hdk := drops_ok l m (by omega)
                    have hD1 := dropAll_succ l m hlt
                    rw [← e0] at hD1
                    have hD2 : doneK l (m + 1) = doneK l m ++ if (dropF (dropAll (l.take m)) [l.getD m (0, 0)]).1 = 0 then [(l.getD m (0, 0)).1] else [] := rfl
                    have hDl : (dropAll (l.take m)).length ≤ 8796093022208 := by
                      have h1 := hdk.len
                      have h2 := KL.out
                      have h3 := doneK_len l m
                      omega
                    clear e0 hdk
                    generalize l.getD m (0, 0) = x at *
                    have hb8 : Below wr.heap.size wr (wr.alloc (.cells #[.int .i64 x.1, .int .i64 x.2] 40)) := (Below.refl _ _).alloc (Nat.le_refl _) _
                    have hc := drop_any q cm cd [] (dropAll (l.take m)) (some ⟨wr.heap.size, 0, none⟩) 1 [x] _ (h4m.below hb8) (rd_drop1 wr x 40) (show 1 ≤ 8796093022208 by decide) hDl (show 1 ≤ 1 by decide)
                    obtain ⟨ec, hec⟩ : ∃ z, z = (dropF (dropAll (l.take m)) [x]).1 := ⟨_, rfl⟩
                    rw [← hec] at hc hD2
                    rw [← hD1] at hc
                    have HC := Lib.hid hc
                    have HD2 := Lib.hid hD2
                    have HB8 := Lib.hid hb8
                    have h3x := h3m.below hb8
                    have hownx := row_below hownm hb8
                    have hbx := hbm.trans (hb8.mono hbm.size)
                    clear hc hD2 hD1 hec hDl hb8 h3m hownm h4m
                    by_cases hz : ec = 0
                    · subst hz
                      have HD3 := Lib.hid (show doneK l (m + 1) = doneK l m ++ [x.1] from by rw [HD2.out]; rfl)
                      clear HD2
                      go_wp2_with fail
                      refine HC.out.mono ?_
                      rintro e w5 ⟨rfl, h5, hg⟩
                      have hown5 := row_kept hownx hg HQ.out.2.1.2.2
                      have h35 := h3x.other hg NE.out.2.2.2.2.1 NE.out.2.2.2.2.2.1 NE.out.2.2.2.2.2.2
                      have hb5 := hbx.trans (below_of_grown hg NE.out.1.2.2.2 hbx.size)
                      have hx5 := (hb5.cell (p := g.add (m * 2)) (by rw [add_block]; exact hg1)).trans HGX.out
                      have HB5 := Lib.hid (show B ≤ w5.heap.size from Nat.le_trans HBm.out (Nat.le_trans HB8.out.size hg.size))
                      have Hby := Lib.hid (show (((doneK l m).map encZ).length + 1) * 8 ≤ 140737488355328 from by
                        have h2 := KL.out
                        have h3 := doneK_len l m
                        rw [List.length_map]
                        omega)
                      have hown6 := hown5
                      rw [show (doneK l m).length = ((doneK l m).map encZ).length from (List.length_map _).symm] at hown6
                      clear HC hgx' hgy' h3x hownx hbx hown5
                      go_wp2_with (at_builtin; refine wl_append1 _ rfl _ _ 30 rfl B 3 (.int .i64 0) 8 Try.underlying30 info3' rfl _ _ rfl hown6 (.int .i64 x.1) rfl rfl Hby.out (by decide) HB5.out ?_; intro v' w6 h1' _ hb6)
                      go_roundw
                      case rel =>
                        refine ⟨m + 1, by omega, by go_num, ?_, h35.belowB hb6 HQ.out.1.1 HQ.out.1.2.1 HQ.out.1.2.2, h5.belowB hb6 HQ.out.2.1.1 HQ.out.2.1.2.1 HQ.out.2.1.2.2, hb5.trans (hb6.mono HQ.out.2.2), Nat.le_trans HB5.out hb6.size⟩
                        rw [HD3.out, ← List.length_map (f := encZ), List.map_append]
                        exact h1'
                      case measure => simp [intOf]; omega
                    · have hz1 : (ec == 0) = false := by simpa using hz
                      have HD3 := Lib.hid (show doneK l (m + 1) = doneK l m from by rw [HD2.out, if_neg hz, List.append_nil])
                      clear HD2 hz
                      go_wp2_with fail
                      refine HC.out.mono ?_
                      rintro e w5 ⟨rfl, h5, hg⟩
                      have hown5 := row_kept hownx hg HQ.out.2.1.2.2
                      have h35 := h3x.other hg NE.out.2.2.2.2.1 NE.out.2.2.2.2.2.1 NE.out.2.2.2.2.2.2
                      have hb5 := hbx.trans (below_of_grown hg NE.out.1.2.2.2 hbx.size)
                      have HB5 := Lib.hid (show B ≤ w5.heap.size from Nat.le_trans HBm.out (Nat.le_trans HB8.out.size hg.size))
                      clear HC hgx' hgy' h3x hownx hbx
                      go_wp2_with fail
                      go_roundw
                      case rel => exact ⟨m + 1, by omega, by go_num, by rw [HD3.out]; exact hown5, h35, h5, hb5, HB5.out⟩
                      case measure => simp [intOf]; omega
            · have hke : k = l.length := by omega
              subst hke
              have HD := Lib.hid (drops_ok l l.length (Nat.le_refl _))
              generalize dropAll (l.take l.length) = D at HD h3 h4
              obtain ⟨A, cp, rfl, hcp, hdn⟩ := row_rd hown
              clear hown
              have HDL := Lib.hid (doneK_len l l.length)
              have HDN := Lib.hid (show (doneK l l.length).length = D.length ∧ doneF [] D (doneK l l.length) = (0, []) ∧ ∀ x ∈ doneK l l.length, (Lit.int .i64 x).wf = true from ⟨HD.out.len, done_all HD.out, fun x hx => by
                have h1 := (HD.out.mem x).1 hx
                rw [hasM, List.any_eq_true] at h1
                obtain ⟨y, hy, e⟩ := h1
                rw [decide_eq_true_eq] at e
                rw [← e]
                exact may_wf (HD.out.may y hy)⟩)
              generalize doneK l l.length = ds at hcp hdn HDL HDN
              have HCP := Lib.hid hcp
              clear hcp
              go_wp2_with fail
              go_loopw [13] (fun i wr => ∃ (z : Int) (N : PM), -1 ≤ z ∧ z < a.length ∧ i = .int .i64 z ∧ PinsOf a (fun j => z < (j : Int)) N ∧ N.length + (z + 1).toNat ≤ a.length ∧ DoneAt A B ds wr ∧ IsPins wr p bm bd M D ∧ IsPins wr q cm cd N D ∧ Below w.heap.size w wr) (fun i _ => (intOf i + 1).toNat)
              case atStart => exact ⟨_, [], by omega, by omega, rfl, PinsOf.nil a (fun i h => by omega), by simp, hdn, h3, h4, hb3⟩
              case round =>
                clear h3 h4 hb3 hdn
                obtain ⟨z, N, hz1, hz2, rfl, hN, hNl, hdn, h3, h4, hb3⟩ := hrel
                by_cases hz0 : 0 ≤ z
                · obtain ⟨k, rfl⟩ : ∃ k : Nat, z = k := ⟨z.toNat, by omega⟩
                  obtain ⟨g, rfl, hg1, hgx⟩ := HA.out k (by omega)
                  have ka := KA.out
                  have hs := hN.step k (by omega) ka (by omega)
                  go_upto_region 27 with fail
                  refine ord27x _ (DoneAt A B ds) w q cm cd p bm bd N M D D g a.length c0 k (a.getD k 0) _ (fun _ _ hb h => h.below hb) (fun _ _ hg h => h.kept HQ.out.2.1.2.1 hg) (by omega) (by omega) (by rw [add_block]; exact hg1) hgx (by show _ < 2 ^ 63 - 1; omega) NE.out.1.2.2.1 NE.out.2.2.2.1.1 NE.out.2.2.2.1.2.1 NE.out.2.2.2.1.2.2 ⟨hb3.drew, h3.below (Below.refl _ _).drew, hdn.below (Below.refl _ _).drew, h4.below (Below.refl _ _).drew⟩ _ _ _ _ _ _ _ _ _ _ _ _ _ _ _ _ _ _ _ _ _ _ _ _ _ _ _ _ _ _ _ _ _ _ _ _ _ _ _ _ _ _ _ _ _ _ _ _ _ _ _ _ _ _ _ _ _ _ _ _ _ _ _ _ _ _ _ _ _ _ _ _ _ _ _ _ _ _ _ _ _ _ _ _ _ _ _ _ _ _ _ _ _ _ _ _ _ _ _ _ _ _ _ _ _ _ _ _ _ _ _ _ _ _ _ _ _ _ _ _ _ _ _ _ _ _ _ _ _ _ _ _ _ _ _ _ _ _ _ _ _ _ _ _ _ _ _ _ _ _ _ _ _ _ _ _ _ _ _ _ _ _ _ _ _ _ _ _ _ _ _ _ _ _ _ _ _ _ _ _ _ _ _ _ _ _ _ _ _ _ _ _ _ _ _ _ _ _ _ _ _ _ _ _ _ _ _ _ _ _ _ _ _ _ ?_
                  intro w9 _ _ _ _ _ _ _ _ hj
                  obtain ⟨j1, j2, jE, j3⟩ := hj
                  dsimp only [cond_true] at j3
                  dsimp only [Exit.inBlock, Exit.then]
                  go_wp2_with fail
                  go_roundw
                  case rel => exact ⟨(k : Int) - 1, _, by omega, by omega, rfl, hs.of fun j => by omega, by have := pinF_len N (nm k) (a.getD k 0); omega, jE, j2, j3, j1⟩
                  case measure => simp [intOf]
                · have hz9 : z = -1 := by omega
                  subst hz9
                  have hMN := PinsOf.eq HM.out hN (fun i h => by constructor <;> intro _ <;> omega)
                  subst hMN
                  clear hNl hN
                  have hML : M.length ≤ 20 := by have h1 := HMl.out; have h2 := KA.out; omega
                  have hDL : D.length ≤ 20 := by have h1 := HD.out.len; have h2 := doneK_len l l.length; have h3 := KL.out; omega
                  have hE : (encB M D).length ≤ 1000000000 := by rw [enc_len HM.out.plain D]; omega
                  have HC1 := Lib.hid (encode_any p bm bd M D wr h3 hE (by omega) (by omega))
                  have HC2 := Lib.hid fun w3 (hb : Below wr.heap.size wr w3) => encode_any q cm cd M D w3 (h4.below hb) hE (by omega) (by omega)
                  have HML := Lib.hid hML
                  have HDL' := Lib.hid hDL
                  clear hML hDL hE
                  obtain ⟨zz, hzz⟩ : ∃ z : ByteArray, z = ⟨(encB M D).toArray⟩ := ⟨_, rfl⟩
                  rw [← hzz] at HC1
                  rw [← hzz] at HC2
                  clear hzz h4
                  go_wp2_with fail
                  refine HC1.out.mono ?_
                  rintro e w3 ⟨rfl, hb31⟩
                  clear HC1
                  go_wp2_with fail
                  refine (HC2.out w3 hb31).mono ?_
                  rintro e w4 ⟨rfl, hb41⟩
                  clear HC2
                  have hb42 := hb31.trans (hb41.mono hb31.size)
                  have h3' := h3.below hb42
                  have hdn' := hdn.below hb42
                  have hb43 := hb3.trans (hb42.mono hb3.size)
                  clear hb31 hb41 hb42 h3 hdn hb3
                  go_wp2_with fail
                  refine (names_any p bm bd M D w4 h3' (by have := HML.out; omega)).mono ?_
                  rintro e w5 ⟨v, rfl, hstr, hb5⟩
                  obtain ⟨A2, cap2, rfl, hcell⟩ := hstr.shape
                  have h35 := h3'.below hb5
                  have hdn5 := hdn'.below hb5
                  have hb55 := hb43.trans (hb5.mono hb43.size)
                  have hcell2 := Lib.hid (show ∀ k, k < M.length → ∃ g, A2 = some ⟨g, 0, none⟩ ∧ g < w5.heap.size ∧ w5.cell? ⟨g, k, none⟩ = some (.string ⟨(M.getD k ([], (0, []))).1.toArray⟩) from fun k hk => by
                    obtain ⟨g, e, h1, h2⟩ := hcell k (by simpa using hk)
                    refine ⟨g, e, h1, h2.trans ?_⟩
                    simp [List.getD_eq_getElem?_getD, hk])
                  clear hcell hstr h3' hdn' hb43 hb5
                  have hml : (M.map (·.1)).length = M.length := List.length_map _
                  rw [hml]
                  clear hml
                  go_wp2_with fail
                  go_loopw [15] (fun i wr => ∃ k : Nat, k ≤ M.length ∧ i = .int .i64 k ∧ IsPins wr p bm bd (M.drop k) D ∧ Hid (∀ k, k < M.length → ∃ g, A2 = some ⟨g, 0, none⟩ ∧ g < wr.heap.size ∧ wr.cell? ⟨g, k, none⟩ = some (.string ⟨(M.getD k ([], (0, []))).1.toArray⟩)) ∧ DoneAt A B ds wr ∧ Below w.heap.size w wr) (fun i _ => M.length - (intOf i).toNat)
                  case atStart => exact ⟨0, Nat.zero_le _, rfl, h35, hcell2, hdn5, hb55⟩
                  case round =>
                    clear h35 hcell2 hdn5 hb55
                    obtain ⟨k, hk, rfl, h3, hcell, hdn, hb3⟩ := hrel
                    by_cases hlt : k < M.length
                    · obtain ⟨g, rfl, hg1, hcx⟩ := hcell.out k hlt
                      have h20 := HML.out
                      have e0 : M.getD k ([], (0, [])) = M[k] := by simp [List.getD_eq_getElem?_getD, hlt]
                      rw [e0] at hcx
                      have hun : unpinF (M.drop k) M[k].1 = (0, M.drop (k + 1)) := by
                        have e1 := List.drop_eq_getElem_cons hlt
                        have hr : Rising (M.drop k) := HM.out.rise.sublist (List.drop_sublist _ _)
                        have hp : ∀ y ∈ M.drop k, y.2.2 = [] := fun y hy => (HM.out.plain y (List.mem_of_mem_drop hy)).1
                        rw [e1] at hr hp ⊢
                        exact unpin_first hr hp
                      have hsl : M[k].1.length ≤ maxLen := by
                        rw [(HM.out.plain M[k] (List.getElem_mem _)).2]
                        decide
                      have hc := unpin_any p bm bd (M.drop k) D M[k].1 wr h3 (by rw [List.length_drop]; omega) hsl
                      rw [hun] at hc
                      generalize M[k].1 = nmk at hcx hc
                      have HC := Lib.hid hc
                      have H3 := Lib.hid h3
                      have hk0 : (0 : Int) ≤ (k : Int) := by omega
                      have hk1 : (k : Int) < (M.length : Int) := by omega
                      clear hc hun hsl e0 h3
                      go_wp2_with fail
                      refine HC.out.mono ?_
                      rintro e w6 ⟨rfl, h6, hg⟩
                      clear HC
                      go_wp2_with fail
                      go_roundw
                      case rel =>
                        refine ⟨k + 1, by omega, by go_num, h6, Lib.hid fun j hj => ?_, hdn.kept HQ.out.1.2.1 hg, hb3.trans (below_of_grown hg NE.out.1.1 hb3.size)⟩
                        obtain ⟨g', e, h1, h2⟩ := hcell.out j hj
                        exact ⟨g', e, Nat.lt_of_lt_of_le h1 hg.size, hg.cell h2 (by have := ne_map' h2 H3.out.m; simpa using this)⟩
                      case measure => simp [intOf]; omega
                    · have hke : k = M.length := by omega
                      subst hke
                      rw [List.drop_length] at h3
                      clear hcell
                      go_wp2_with fail
                      have hDL := HDL'.out
                      refine (free_any p bm bd [] D 1099511627776 _ h3 (by omega) (by decide)).mono ?_
                      rintro e w7 ⟨v, rfl, hv, hb7⟩
                      rw [freeF_all HD.out.may] at hv
                      obtain ⟨A3, cap3, rfl, _⟩ := hv.shape
                      have h37 := h3.below hb7
                      have hdn7 := hdn.below hb7
                      have hb77 := hb3.trans (hb7.mono hb3.size)
                      have hml : (D.map (·.1)).length = D.length := List.length_map _
                      rw [hml]
                      have HC := Lib.hid fun w8 (h : IsPins w8 p bm bd [] D) (hd : DoneAt A B ds w8) => (show Calls Try.prog 17 #[.pointer (some ⟨p, 0, none⟩), .slice A D.length cp] w8 fun e w' => e = .returned (.int .i64 0) ∧ IsPins w' p bm bd [] [] ∧ w8.grownBy w' (some bd) from by
                        have h1 := done_any p bm bd [] D A cp ds w8 h hd.1 (by have := HDN.out.1; omega) HCP.out HDN.out.2.2 (by decide)
                        rw [HDN.out.2.1, HDN.out.1] at h1
                        exact h1)
                      rw [show ds.length = D.length from HDN.out.1]
                      clear hml hv h3 hdn hb7 hb3
                      have HDLL := Lib.hid hDL
                      clear hDL
                      go_wp2_with fail
                      refine (pending_any p bm bd [] D _ h37 (by have := HDLL.out; omega)).mono ?_
                      rintro e w8 ⟨v, rfl, hv, hb8⟩
                      obtain ⟨A4, cap4, rfl, _⟩ := hv.shape
                      have h38 := h37.below hb8
                      have hdn8 := hdn7.below hb8
                      have hb88 := hb77.trans (hb8.mono hb77.size)
                      clear hv h37 hdn7 hb77 hb8
                      go_wp2_with fail
                      refine (HC.out w8 h38 hdn8).mono ?_
                      rintro e w9 ⟨rfl, h9, hg⟩
                      have hb9 := hb88.trans (below_of_grown hg NE.out.1.2.1 hb88.size)
                      clear HC h38 hdn8 hb88 hg
                      go_wp2_with fail
                      refine (pending_any p bm bd [] [] _ h9 (by decide)).mono ?_
                      rintro e w10 ⟨v, rfl, hv, hb10⟩
                      obtain ⟨A5, cap5, rfl, _⟩ := hv.shape
                      have h10 := h9.below hb10
                      have hb1 := hb9.trans (hb10.mono hb9.size)
                      clear hv h9 hb9 hb10
                      have HC1 := Lib.hid fun w3 p bm bd (h : IsPins w3 p bm bd [] []) => encode_any p bm bd [] [] w3 h (by decide) (by decide) (by decide)
                      obtain ⟨z0, hz0⟩ : ∃ z : ByteArray, z = ⟨(encB [] []).toArray⟩ := ⟨_, rfl⟩
                      rw [← hz0] at HC1
                      clear hz0
                      go_wp2_with fail
                      refine (HC1.out _ p bm bd h10).mono ?_
                      rintro e w11 ⟨rfl, hb11⟩
                      have hb2 := hb1.trans (hb11.mono hb1.size)
                      clear hb1 hb11 h10
                      go_wp2_with fail
                      refine (new_any _).mono ?_
                      rintro e w12 ⟨p', bm', bd', rfl, h12, hb12, _, _, _⟩
                      have hb3 := hb2.trans (hb12.mono hb2.size)
                      clear hb2 hb12
                      go_wp2_with fail
                      refine (HC1.out _ p' bm' bd' h12).mono ?_
                      rintro e w13 ⟨rfl, hb13⟩
                      have hb4 := hb3.trans (hb13.mono hb3.size)
                      clear hb3 hb13 h12
                      go_wp2_with fail
                      refine (awake_any _).mono ?_
                      rintro e w14 ⟨rfl, hb14⟩
                      have hb5 := hb4.trans (hb14.mono hb4.size)
                      clear hb4 hb14
                      go_wp2_with fail
                      go_ret
                      exact ⟨rfl, hb5⟩

end Go.Proofs.Ytjggeodnoigkkaa
