/-
  PinsPlays: same, the region that does a call with both, the walk (merged).
-/
import Derived.Test.YtjggeodnoigkkaaPE
import Derived.Test.YtjggeodnoigkkaaCK
namespace Go.Proofs.Ytjggeodnoigkkaa
open Go.RowKit Go.Maps Go.Shelf Go.Proofs.YtjggeodnoigkkaaM

theorem Drps.rd {w : World} {base : Nat} {v : Value} {l : DM} (h : Drps w base v l) : ∃ A cap, v = .slice A l.length cap ∧ RdD w A l := by
  obtain ⟨A, cap, e, hc⟩ := h.shape
  refine ⟨A, cap, e, fun k hk => ?_⟩
  obtain ⟨g, e1, h1, h2, h3⟩ := hc k hk
  have : (⟨g, 0, none⟩ : Addr).add (k * 2) = ⟨g, k * 2, none⟩ := by unfold Addr.add; split <;> simp_all
  refine ⟨_, e1, h1, ?_, ?_⟩
  · rw [this]; exact h2
  · rw [this]; exact h3
theorem atF_at {M : PM} (hr : Rising M) {k : Nat} (hk : k < M.length) : atF M M[k].1 = (M[k].2.1, 0) := by
  rw [atF, get_at hr hk]

set_option maxRecDepth 100000 in
set_option maxHeartbeats 8000000 in
theorem same_any (p bm bd : Nat) (M : PM) (D : DM) (A : Option Addr) (c : Nat) (B : Option Addr) (d : Nat) (dur : Int) (w : World) (h : IsPins w p bm bd M D) (rP : RdP w A M) (rD : RdD w B D) (hm : Made M D) (hM : M.length ≤ 1000) (hD : D.length ≤ 10000) :
    Calls Try.prog 24 #[.pointer (some ⟨p, 0, none⟩), .agg #[.slice A M.length c, .slice B D.length d], .int .i64 dur] w fun e w' => e = .returned (.bool true) ∧ Below w.heap.size w w' := by
  have HM := Lib.hid hm
  have HS := Lib.hid (And.intro hM hD)
  obtain ⟨W, hW⟩ : ∃ W, W = w.alloc (.cells #[.slice A M.length c, .slice B D.length d] 52) := ⟨_, rfl⟩
  have hb0 : Below w.heap.size w W := by rw [hW]; exact (Below.refl _ _).alloc (Nat.le_refl _) _
  have hx0 : W.cell? ⟨w.heap.size, 0, none⟩ = some (.slice A M.length c) := by rw [hW]; simp
  have hx1 : W.cell? ⟨w.heap.size, 1, none⟩ = some (.slice B D.length d) := by rw [hW]; simp
  have hxl : w.heap.size < W.heap.size := by rw [hW]; simp
  have HX := Lib.hid (And.intro hx0 (And.intro hx1 hxl))
  have HB0 := Lib.hid hb0
  have HP := Lib.hid (h.below hb0)
  have HR := Lib.hid (And.intro (rP.below hb0) (rD.below hb0))
  have hle := hm.enc_le
  have HEL := Lib.hid (show (encB M D).length ≤ 1000000000 from by omega)
  clear hb0 hx0 hx1 hxl rP rD hm h hle hM hD
  go_enter Try.func24, Try.ntmps24
  go_wp2_with fail
  rw [← hW]
  clear hW
  refine (names_any p bm bd M D W HP.out (by have := HS.out; omega)).mono ?_
  rintro e w1 ⟨v, rfl, hv, hb1⟩
  obtain ⟨LA, lc, rfl, hrn⟩ := hv.rd
  have hml : (M.map (·.1)).length = M.length := List.length_map _
  rw [hml]
  have HRN := Lib.hid hrn
  have HB1 := Lib.hid hb1
  clear hml hv hrn hb1
  go_wp2_with fail
  refine (pending_any p bm bd M D w1 (HP.out.below HB1.out) (by have := HS.out; omega)).mono ?_
  rintro e w2 ⟨v, rfl, hv, hb2⟩
  obtain ⟨LB, dc, rfl, hrd⟩ := hv.rd
  have HRD := Lib.hid hrd
  have HRN2 := Lib.hid (HRN.out.below hb2)
  have HB2 := Lib.hid (HB1.out.trans (hb2.mono HB1.out.size))
  have HP2 := Lib.hid (HP.out.below HB2.out)
  have HR2 := Lib.hid (And.intro (HR.out.1.below HB2.out) (HR.out.2.below HB2.out))
  have HX2 := Lib.hid (show w2.cell? ⟨w.heap.size, 0, none⟩ = some (.slice A M.length c) ∧ w2.cell? ⟨w.heap.size, 1, none⟩ = some (.slice B D.length d) ∧ w.heap.size < w2.heap.size from
    ⟨(HB2.out.cell (p := ⟨w.heap.size, 0, none⟩) HX.out.2.2).trans HX.out.1, (HB2.out.cell (p := ⟨w.heap.size, 1, none⟩) HX.out.2.2).trans HX.out.2.1, Nat.lt_of_lt_of_le HX.out.2.2 HB2.out.size⟩)
  have HBW := Lib.hid (HB0.out.trans (HB2.out.mono HB0.out.size))
  clear hv hrd hb2 HRN HB1 HP HR HX HB0 HB2
  obtain ⟨z, hz⟩ : ∃ z : ByteArray, z = ⟨(encB M D).toArray⟩ := ⟨_, rfl⟩
  have H43 := fun W (hW : Below w2.heap.size w2 W) => encode_any p bm bd M D W (HP2.out.below hW) HEL.out (by have := HS.out; omega) (by have := HS.out; omega)
  have H45 := fun W (hW : Below w2.heap.size w2 W) => refEncode_any A B c d M.length D.length M D W rfl rfl (HR2.out.1.below hW) (HR2.out.2.below hW) HEL.out (by have := HS.out; omega) (by have := HS.out; omega)
    (fun x hx => by have := HM.out.okM x hx; exact ⟨this.lo, by have := this.hi; omega⟩) (fun x hx => by have := (mayB_iff x).1 (HM.out.okD x hx); omega)
  rw [← hz] at H43 H45
  clear hz
  have HE43 := Lib.hid H43
  have HE45 := Lib.hid H45
  clear H43 H45
  go_upto_region 3 with fail
  refine sm3 _ p w.heap.size M.length D.length lc dc c d LA LB A B dur (freeF M D dur) z _ HX2.out.2.2 HX2.out.1 HX2.out.2.1
    (fun W hW => (free_any p bm bd M D dur W (HP2.out.below hW) (by have := HS.out; omega) (by have := HS.out; omega)).mono fun e w' ⟨v, he, hv, hb⟩ => by
      obtain ⟨A', c', rfl, hr⟩ := hv.rd
      exact ⟨⟨A', c', he, hr⟩, hb⟩)
    (fun W hW => (refFree_any A B c d M.length D.length M D dur W rfl rfl (HR2.out.1.below hW) (HR2.out.2.below hW) HM.out.riseD (by have := HS.out; omega) (by have := HS.out; omega)).mono fun e w' ⟨v, he, hv, hb⟩ => by
      obtain ⟨A', c', rfl, hr⟩ := hv.rd
      exact ⟨⟨A', c', he, hr⟩, hb⟩)
    (fun W A1 c1 A2 c2 r1 r2 => (ints_any A1 A2 _ _ c1 c2 _ _ W rfl rfl r1 r2 (by
      have h2 : (freeF M D dur).length ≤ D.length := by
        rw [freeF, List.length_map]
        exact List.length_filter_le _ _
      have := HS.out
      omega)).mono fun e w' ⟨he, hb⟩ => ⟨by rw [he, decide_eq_true rfl], hb⟩)
    HE43.out HE45.out _ _ _ _ _ _ _ _ _ _ _ _ _ _ _ _ _ _ _ _ _ _ _ _ _ _ _ _ _ _ _ _ _ _ _ _ _ _ _ _ _ _ _ _ _ _ _ _ _ _ _ _ _ _ _ _ _ _ _ _ _ _ _ _ _ _ _ _ _ _ _ _ _ _ _ _ _ _ _ _ _ _ _ _ _ _ _ _ _ _ _ _ _ _ _ _ _ _ _ _ _ _ _ _ _ _ _ _ _ _ _ _ _ _ _ _ _ _ _ _ _ _ _ _ _ _ _ _ _ _ _ _ _ _ _ _ _ _ _ _ _ _ _ _ _ _ _ _ _ ?_
  intro w3 _ _ _ _ _ _ _ _ _ _ _ _ _ _ _ _ _ _ _ _ _ _ _ _ _ _ _ _ _ _ hb3
  dsimp only [Exit.inBlock, Exit.then]
  have HB3 := Lib.hid hb3
  clear hb3
  go_wp2_with fail
  go_loopw [9] (fun i wr => ∃ k : Nat, k ≤ M.length ∧ i = .int .i64 k ∧ Below w2.heap.size w2 wr) (fun i _ => M.length - (intOf i).toNat)
  case atStart => exact ⟨0, Nat.zero_le _, rfl, HB3.out⟩
  case round =>
    obtain ⟨k, hk, rfl, hb⟩ := hrel
    have hMl := HS.out.1
    by_cases hlt : k < M.length
    · obtain ⟨a1, rfl, ha1, hn0⟩ := (HRN2.out.below hb) k (by rw [List.length_map]; exact hlt)
      obtain ⟨b, rfl, hbl, hc0, hc1, _⟩ := (HR2.out.1.below hb) k hlt
      have e0 : (M.map (·.1)).getD k [] = M[k].1 := by simp [List.getD_eq_getElem?_getD, hlt]
      have e1 : M.getD k P0 = M[k] := by simp [List.getD_eq_getElem?_getD, hlt]
      rw [e0] at hn0
      rw [e1] at hc0 hc1
      have HAT := Lib.hid (atF_at HM.out.riseM hlt)
      have hns : M[k].1.length ≤ 64 := ((rightB_iff _).1 (HM.out.okM _ (List.getElem_mem hlt)).name).2
      have hp := HP2.out.below hb
      have HA := Lib.hid (at_any p bm bd M D M[k].1 wr hp (Nat.le_trans hns (by decide)))
      rw [HAT.out] at HA
      have HB := Lib.hid hb
      have HN := Lib.hid (And.intro ha1 (And.intro hn0 (And.intro hbl (And.intro hc0 hc1))))
      have hk0 : (0 : Int) ≤ (k : Int) := by omega
      have hk1 : (k : Int) < (M.length : Int) := by omega
      clear e0 e1 HAT hns hp hb hc0 hc1 hbl
      generalize M[k] = y at hn0 HA HN
      go_wp2_with fail
      refine HA.out.mono ?_
      rintro e w4 ⟨rfl, hb4⟩
      have hbw4 := HB.out.trans (hb4.mono HB.out.size)
      have HBW4 := Lib.hid hbw4
      have HN4 := Lib.hid (show a1.block < w4.heap.size ∧ w4.cell? (a1.add k) = some (.string ⟨y.1.toArray⟩) ∧ b.block < w4.heap.size ∧ w4.cell? (b.add (k * 3)) = some (.string ⟨y.1.toArray⟩) ∧ w4.cell? ⟨(b.add (k * 3)).block, (b.add (k * 3)).off + 1, none⟩ = some (.int .i64 y.2.1) from
        ⟨Nat.lt_of_lt_of_le HN.out.1 hb4.size, (hb4.cell (p := a1.add k) (by rw [add_block]; exact HN.out.1)).trans HN.out.2.1, Nat.lt_of_lt_of_le HN.out.2.2.1 hb4.size, (hb4.cell (p := b.add (k * 3)) (by rw [add_block]; exact HN.out.2.2.1)).trans HN.out.2.2.2.1,
          (hb4.cell (p := ⟨(b.add (k * 3)).block, (b.add (k * 3)).off + 1, none⟩) (by show (b.add (k * 3)).block < _; rw [add_block]; exact HN.out.2.2.1)).trans HN.out.2.2.2.2⟩)
      have HX4 := Lib.hid (show w4.cell? ⟨w.heap.size, 0, none⟩ = some (.slice (some b) M.length c) ∧ w4.cell? ⟨w.heap.size, 1, none⟩ = some (.slice B D.length d) ∧ w.heap.size < w4.heap.size from
        ⟨(hbw4.cell (p := ⟨w.heap.size, 0, none⟩) HX2.out.2.2).trans HX2.out.1, (hbw4.cell (p := ⟨w.heap.size, 1, none⟩) HX2.out.2.2).trans HX2.out.2.1, Nat.lt_of_lt_of_le HX2.out.2.2 hbw4.size⟩)
      clear hb4 hbw4 HA hn0 ha1
      go_upto_region 9 with fail
      refine sm9 _ p w.heap.size M.length D.length lc c d k a1 b B ⟨y.1.toArray⟩ y.2.1 (clonesF M y.1) _ HX4.out.2.2 HX4.out.1 HX4.out.2.1 HN4.out.1 HN4.out.2.1 HN4.out.2.2.1 HN4.out.2.2.2.1 HN4.out.2.2.2.2 hk0 hk1
        (fun W hW => (clones_any p bm bd M D y.1 W ((HP2.out.below HBW4.out).below hW) (by have := HS.out; omega)).mono fun e w' ⟨v, he, hv, hb⟩ => by
          obtain ⟨A', c', rfl, hr⟩ := hv.rd
          exact ⟨⟨A', c', he, hr⟩, hb⟩)
        (fun W hW => (refClones_any (some b) B c d M.length D.length M y.1 W rfl ((HR2.out.1.below HBW4.out).below hW) (by have := HS.out; omega)).mono fun e w' ⟨v, he, hv, hb⟩ => by
          obtain ⟨A', c', rfl, hr⟩ := hv.rd
          exact ⟨⟨A', c', he, hr⟩, hb⟩)
        (fun W A1 c1 A2 c2 r1 r2 => (texts_any A1 A2 _ _ c1 c2 _ _ W rfl rfl r1 r2 (by
          have h2 : (clonesF M y.1).length ≤ M.length := by
            rw [clonesF, List.length_map]
            exact List.length_filter_le _ _
          have := HS.out
          omega)).mono fun e w' ⟨he, hb⟩ => ⟨by rw [he, decide_eq_true rfl], hb⟩) _ _ _ _ _ _ _ _ _ _ _ _ _ _ _ _ _ _ _ _ _ _ _ _ _ _ _ _ _ _ _ _ _ _ _ _ _ _ _ _ _ _ _ _ _ _ _ _ _ _ _ _ _ _ _ _ _ _ _ _ _ _ _ _ _ _ _ _ _ _ _ _ _ _ _ _ _ _ _ _ _ _ _ _ _ _ _ _ _ _ _ _ _ _ _ _ _ _ _ _ _ _ _ _ _ _ _ _ _ _ _ _ _ _ _ _ _ _ _ _ _ _ _ _ _ _ _ _ _ _ _ _ _ _ _ _ _ _ _ _ _ _ _ _ _ _ _ _ ?_
      intro w5 _ _ _ _ _ _ _ _ _ _ _ _ _ _ _ _ _ _ _ _ _ _ _ _ _ _ _ _ _ _ _ _ _ _ _ _ _ _ _ _ hb5
      dsimp only [Exit.inBlock, Exit.then]
      have hb6 := HBW4.out.trans (hb5.mono HBW4.out.size)
      clear hb5
      go_wp2_with fail
      go_roundw
      case rel => exact ⟨k + 1, by omega, by go_num, hb6⟩
      case measure => simp [intOf]; omega
    · have hke : k = M.length := by omega
      subst hke
      have HB := Lib.hid hb
      clear hb
      go_wp2_with fail
      go_loopw [12] (fun i wr => ∃ k : Nat, k ≤ D.length ∧ i = .int .i64 k ∧ Below w2.heap.size w2 wr) (fun i _ => D.length - (intOf i).toNat)
      case atStart => exact ⟨0, Nat.zero_le _, rfl, HB.out⟩
      case round =>
        obtain ⟨k, hk, rfl, hb⟩ := hrel
        have hDl := HS.out.2
        by_cases hlt : k < D.length
        · obtain ⟨a2, rfl, ha2, hd0, hd1⟩ := (HRD.out.below hb) k hlt
          obtain ⟨b, rfl, hbl, hc0, hc1⟩ := (HR2.out.2.below hb) k hlt
          have e1 : D.getD k (0, 0) = D[k] := by simp [List.getD_eq_getElem?_getD, hlt]
          rw [e1] at hd0 hd1 hc0 hc1
          have hxw := num_wf (n := D[k].1) (by have := (mayB_iff _).1 (HM.out.okD _ (List.getElem_mem hlt)); omega)
          have HWF := Lib.hid hxw
          have hx0 := (hb.cell (p := ⟨w.heap.size, 0, none⟩) HX2.out.2.2).trans HX2.out.1
          have hx1 := (hb.cell (p := ⟨w.heap.size, 1, none⟩) HX2.out.2.2).trans HX2.out.2.1
          have hxl := Nat.lt_of_lt_of_le HX2.out.2.2 hb.size
          have hk0 : (0 : Int) ≤ (k : Int) := by omega
          have hk1 : (k : Int) < (D.length : Int) := by omega
          have HBB := Lib.hid hb
          clear e1 hb hxw
          generalize D[k] = y at hd0 hd1 hc0 hc1 HWF
          go_upto_region 14 with fail
          refine sm14 _ p w.heap.size M.length D.length dc c d k a2 b A y (holdsF M D y.1) _ hxl hx0 hx1 ha2 hd0 hd1 hbl hc0 hc1 hk0 hk1
            (fun W hW => (holds_any p bm bd M D y.1 W ((HP2.out.below HBB.out).below hW) (by have := HS.out; omega) HWF.out).mono fun e w' ⟨v, he, hv, hb⟩ => by
              obtain ⟨A', c', rfl, hr⟩ := hv.rd
              exact ⟨⟨A', c', he, hr⟩, hb⟩)
            (fun W hW => (refHolds_any A (some b) c d M.length D.length M D y.1 W rfl rfl ((HR2.out.1.below HBB.out).below hW) ((HR2.out.2.below HBB.out).below hW) HM.out.riseD (by have := HS.out; omega) (by have := HS.out; omega)).mono fun e w' ⟨v, he, hv, hb⟩ => by
              obtain ⟨A', c', rfl, hr⟩ := hv.rd
              exact ⟨⟨A', c', he, hr⟩, hb⟩)
            (fun W A1 c1 A2 c2 r1 r2 => (texts_any A1 A2 _ _ c1 c2 _ _ W rfl rfl r1 r2 (by
              have h2 : (holdsF M D y.1).length ≤ M.length := by
                rw [holdsF]
                cases getM D y.1 with
                | none => exact Nat.zero_le _
                | some v =>
                  simp only [List.length_map]
                  exact List.length_filter_le _ _
              have := HS.out
              omega)).mono fun e w' ⟨he, hb⟩ => ⟨by rw [he, decide_eq_true rfl], hb⟩) _ _ _ _ _ _ _ _ _ _ _ _ _ _ _ _ _ _ _ _ _ _ _ _ _ _ _ _ _ _ _ _ _ _ _ _ _ _ _ _ _ _ _ _ _ _ _ _ _ _ _ _ _ _ _ _ _ _ _ _ _ _ _ _ _ _ _ _ _ _ _ _ _ _ _ _ _ _ _ _ _ _ _ _ _ _ _ _ _ _ _ _ _ _ _ _ _ _ _ _ _ _ _ _ _ _ _ _ _ _ _ _ _ _ _ _ _ _ _ _ _ _ _ _ _ _ _ _ _ _ _ _ _ _ _ _ _ _ _ _ _ _ _ _ _ _ _ _ _ _ ?_
          intro w5 _ _ _ _ _ _ _ _ _ _ _ _ _ _ _ _ _ _ _ _ _ _ _ _ _ _ _ _ _ _ _ _ _ _ _ _ _ _ _ _ _ _ _ hb5
          dsimp only [Exit.inBlock, Exit.then]
          have hb6 := HBB.out.trans (hb5.mono HBB.out.size)
          clear hb5 hd0 hd1 hc0 hc1 hx0 hx1
          go_wp2_with fail
          go_roundw
          case rel => exact ⟨k + 1, by omega, by go_num, hb6⟩
          case measure => simp [intOf]; omega
        · have hke : k = D.length := by omega
          subst hke
          go_wp2_with fail
          go_ret
          exact ⟨rfl, HBW.out.trans (hb.mono HBW.out.size)⟩

end Go.Proofs.Ytjggeodnoigkkaa

namespace Go.Proofs.Ytjggeodnoigkkaa
open Go.RowKit Go.Maps Go.Shelf Go.Proofs.YtjggeodnoigkkaaM

/-- The document's pins, before or behind the call. -/
def RefJ (b : Bool) (W : World) (x : Nat) (M M' : PM) (D D' : DM) (A : Option Addr) (c : Nat) (B : Option Addr) (d : Nat) : Prop := bif b then (∃ A' c' B' d', RefAt W x M' D' A' c' B' d') else RefAt W x M D A c B d
theorem RefJ.below {b : Bool} {w w' : World} {x : Nat} {M M' : PM} {D D' : DM} {A : Option Addr} {c : Nat} {B : Option Addr} {d : Nat} (h : RefJ b w x M M' D D' A c B d) (hb : Below w.heap.size w w') : RefJ b w' x M M' D D' A c B d := by
  cases b with
  | true =>
    obtain ⟨A', c', B', d', h⟩ := h
    exact ⟨A', c', B', d', h.below hb⟩
  | false => exact RefAt.below h hb
theorem RefJ.turned {b : Bool} {w w' : World} {x p bm bd : Nat} {M M' M0 : PM} {D D' D0 : DM} {A : Option Addr} {c : Nat} {B : Option Addr} {d : Nat} (h : RefJ b w x M M' D D' A c B d) (hp : IsPins w p bm bd M0 D0) (ht : TurnedK bm bd w w') : RefJ b w' x M M' D D' A c B d := by
  cases b with
  | true =>
    obtain ⟨A', c', B', d', h⟩ := h
    exact ⟨A', c', B', d', h.turned hp ht⟩
  | false => exact RefAt.turned h hp ht
theorem rows_turned {w w' : World} {p bm bd : Nat} {M P : PM} {D D2 : DM} {A B : Option Addr} (h1 : RdP w A P) (h2 : RdD w B D2) (hp : IsPins w p bm bd M D) (ht : TurnedK bm bd w w') : RdP w' A P ∧ RdD w' B D2 := by
  obtain ⟨b, rfl | rfl, hg⟩ := ht
  · exact ⟨h1.keptM hp.m hg, h2.keptM hp.m hg⟩
  · exact ⟨h1.keptM hp.d hg, h2.keptM hp.d hg⟩

noncomputable def codepl8 : Code := ((Try.f5.body.bind (theRegion 8)).getD .skip)

set_option linter.unusedVariables false in
def Jpl8 (we : World) (p bm bd x : Nat) (M M' : PM) (D D' : DM) (A : Option Addr) (c : Nat) (B : Option Addr) (d : Nat) (b : Addr) (n cap i : Nat) (o : OpV) (A4 : Option Addr) (c4 : Nat) (A5 : Option Addr) (c5 : Nat) (dur er : Int) (L : Nat → Bool) (W : World) : Prop := Below we.heap.size we W ∧ IsPins W p bm bd (bif L 5 then M' else M) (bif L 5 then D' else D) ∧ RefJ (L 10) W x M M' D D' A c B d
set_option linter.unusedVariables false in
def Rpl8 (we : World) (p bm bd x : Nat) (M M' : PM) (D D' : DM) (A : Option Addr) (c : Nat) (B : Option Addr) (d : Nat) (b : Addr) (n cap i : Nat) (o : OpV) (A4 : Option Addr) (c4 : Nat) (A5 : Option Addr) (c5 : Nat) (dur er : Int) (j : Nat) (v : Value) (w : World) : Prop :=
  if j = 14 then ∃ A' c' B' d', v = .agg #[.slice A' M'.length c', .slice B' D'.length d'] ∧ RdP w A' M' ∧ RdD w B' D' ∧ (∀ ad, A' = some ad → ad.block ≠ x) ∧ (∀ ad, B' = some ad → ad.block ≠ x) else v = [.pointer (some ⟨p, 0, none⟩), .slice (some b) n cap, .int .i64 (i : Int), .pointer (some (b.add (i * 6))), .agg #[.int .i64 o.ask, .string ⟨o.name.toArray⟩, .string ⟨o.of_.toArray⟩, .int .i64 o.n, .slice A4 o.drops.length c4, .slice A5 o.nums.length c5], .int .i64 er, .slice (some b) n cap, .int .i64 (i : Int), .pointer (some (b.add (i * 6))), .agg #[.int .i64 o.ask, .string ⟨o.name.toArray⟩, .string ⟨o.of_.toArray⟩, .int .i64 o.n, .slice A4 o.drops.length c4, .slice A5 o.nums.length c5], .int .i64 er, .bool false, .bool false, .pointer (some ⟨p, 0, none⟩), undef, .int .i64 dur, .bool true, .bool false, .bool false].getD j undef
set_option maxRecDepth 1000000 in
set_option maxHeartbeats 4000000 in
theorem pl8 (Q : Exit → Act → World → Prop) (we : World) (p bm bd x : Nat) (M M' : PM) (D D' : DM) (A : Option Addr) (c : Nat) (B : Option Addr) (d : Nat) (b : Addr) (n cap i : Nat) (o : OpV) (A4 : Option Addr) (c4 : Nat) (A5 : Option Addr) (c5 : Nat) (dur er : Int) (w : World)
    (HO : OpAt we (b.add (i * 6)) o A4 c4 A5 c5)
    (HB : we.heap.size ≤ bm ∧ we.heap.size ≤ bd ∧ we.heap.size ≤ x ∧ p ≠ x ∧ bm ≠ x ∧ bd ≠ x)
    (hi0 : (0 : Int) ≤ (i : Int))
    (hi1 : (i : Int) < (n : Int))
    (H5 : ∀ W, Below we.heap.size we W → IsPins W p bm bd M D → Calls Try.prog 12 #[.pointer (some ⟨p, 0, none⟩), .agg #[.int .i64 o.ask, .string ⟨o.name.toArray⟩, .string ⟨o.of_.toArray⟩, .int .i64 o.n, .slice A4 o.drops.length c4, .slice A5 o.nums.length c5]] W fun e w' => e = .returned (.int .i64 er) ∧ IsPins w' p bm bd M' D' ∧ TurnedK bm bd W w')
    (H10 : ∀ W, Below we.heap.size we W → RefAt W x M D A c B d → Calls Try.prog 23 #[.pointer (some ⟨x, 0, none⟩), .agg #[.int .i64 o.ask, .string ⟨o.name.toArray⟩, .string ⟨o.of_.toArray⟩, .int .i64 o.n, .slice A4 o.drops.length c4, .slice A5 o.nums.length c5]] W fun e w' => e = .returned (.int .i64 er) ∧ (∃ A' c' B' d', RefAt w' x M' D' A' c' B' d') ∧ W.grownBy w' (some x))
    (H16 : ∀ W A' c' B' d', Below we.heap.size we W → IsPins W p bm bd M' D' → RdP W A' M' → RdD W B' D' → Calls Try.prog 24 #[.pointer (some ⟨p, 0, none⟩), .agg #[.slice A' M'.length c', .slice B' D'.length d'], .int .i64 dur] W fun e w' => e = .returned (.bool true) ∧ Below W.heap.size W w')
    (hj0 : Jpl8 we p bm bd x M M' D D' A c B d b n cap i o A4 c4 A5 c5 dur er (fun _ => false) w.drew) (t2 t3 t4 t8 t9 t10 t11 t12 t13 t14 t15 t16 t17 t18 t19 t20 t21 t22 t23 t24 t25 t26 t27 t28 t29 t30 t31 t32 t33 t34 t35 t36 t37 t38 t39 t40 t41 t42 t43 t44 t45 t46 t47 t48 t49 t50 t51 t52 t53 t54 t55 t56 t57 t58 t59 t60 t61 t62 t63 t64 t65 t66 t67 t68 t69 t70 t71 t72 t73 t74 t75 t76 t77 t78 t79 t80 t81 t82 t83 t84 t85 t86 t87 t88 t89 : Value) (hK : ∀ (w' : World) (s30 s31 s32 s33 s34 s35 s36 s37 s38 s39 s40 s41 s42 s43 s44 s45 s46 s47 : Value), Jpl8 we p bm bd x M M' D D' A c B d b n cap i o A4 c4 A5 c5 dur er (fun _ => true) w' → Q .normal ⟨#[.slice (some b) n cap, .int .i64 dur, t2, t3, t4, .pointer (some ⟨p, 0, none⟩), .pointer (some ⟨x, 0, none⟩), .int .i64 (i : Int), t8, t9, t10, t11, t12, t13, t14, t15, t16, t17, t18, t19, t20, t21, t22, t23, t24, t25, t26, t27, t28, t29, s30, s31, s32, s33, s34, s35, s36, s37, s38, s39, s40, s41, s42, s43, s44, s45, s46, s47, .bool false, t49, t50, t51, t52, t53, t54, t55, t56, t57, t58, t59, t60, t61, t62, t63, t64, t65, t66, t67, t68, t69, t70, t71, t72, t73, t74, t75, t76, t77, t78, t79, t80, t81, t82, t83, t84, t85, t86, t87, t88, t89], []⟩ w') :
    Code.wp Try.prog codepl8 Q ⟨#[.slice (some b) n cap, .int .i64 dur, t2, t3, t4, .pointer (some ⟨p, 0, none⟩), .pointer (some ⟨x, 0, none⟩), .int .i64 (i : Int), t8, t9, t10, t11, t12, t13, t14, t15, t16, t17, t18, t19, t20, t21, t22, t23, t24, t25, t26, t27, t28, t29, t30, t31, t32, t33, t34, t35, t36, t37, t38, t39, t40, t41, t42, t43, t44, t45, t46, t47, t48, t49, t50, t51, t52, t53, t54, t55, t56, t57, t58, t59, t60, t61, t62, t63, t64, t65, t66, t67, t68, t69, t70, t71, t72, t73, t74, t75, t76, t77, t78, t79, t80, t81, t82, t83, t84, t85, t86, t87, t88, t89], []⟩ w := by
  replace HO := Lib.hid HO
  replace HB := Lib.hid HB
  replace H5 := Lib.hid H5
  replace H10 := Lib.hid H10
  replace H16 := Lib.hid H16
  have HK := Lib.hid hK
  clear hK
  conv => arg 2; whnf
  refine wp_flow4 (P := Try.prog) (by kernel_rfl) (by kernel_rfl) (Jpl8 we p bm bd x M M' D D' A c B d b n cap i o A4 c4 A5 c5 dur er) (Rpl8 we p bm bd x M M' D D' A c B d b n cap i o A4 c4 A5 c5 dur er) hj0 ?_ ?_
  · refine ⟨?_, ?_, ?_, ?_, ?_, ?_, ?_, ?_, ?_, ?_, ?_, ?_, ?_, ?_, ?_, ?_, ?_, ?_, ?_, trivial⟩
    · intro L a w1 hJ hA hU hT hD K hK
      refine duty_plain rfl ?_
      have h5 : a.tmps[5]?.getD undef = .pointer (some ⟨p, 0, none⟩) := eval_get (hA.at_ 5 (by kernel_rfl))
      refine wp_value (v := .pointer (some ⟨p, 0, none⟩)) (w' := w1) ?_ (hK _ _ hJ (fun _ _ _ h => h) rfl)
      clear hK hD hA hJ hU hT
      go_simp
    · intro L a w1 hJ hA hU hT hD K hK
      refine duty_plain rfl ?_
      have h0 : a.tmps[0]?.getD undef = .slice (some b) n cap := eval_get (hA.at_ 0 (by kernel_rfl))
      refine wp_value (v := .slice (some b) n cap) (w' := w1) ?_ (hK _ _ hJ (fun _ _ _ h => h) rfl)
      clear hK hD hA hJ hU hT
      go_simp
    · intro L a w1 hJ hA hU hT hD K hK
      refine duty_plain rfl ?_
      have h7 : a.tmps[7]?.getD undef = .int .i64 (i : Int) := eval_get (hA.at_ 7 (by kernel_rfl))
      refine wp_value (v := .int .i64 (i : Int)) (w' := w1) ?_ (hK _ _ hJ (fun _ _ _ h => h) rfl)
      clear hK hD hA hJ hU hT
      go_simp
    · intro L a w1 hJ hA hU hT hD K hK
      refine duty_plain rfl ?_
      have h31 : a.tmps[31]?.getD undef = .slice (some b) n cap := eval_get (given_at hD 1 rfl rfl rfl)
      have h32 : a.tmps[32]?.getD undef = .int .i64 (i : Int) := eval_get (given_at hD 2 rfl rfl rfl)
      refine wp_value (v := .pointer (some (b.add (i * 6)))) (w' := w1) ?_ (hK _ _ hJ (fun _ _ _ h => h) rfl)
      clear hK hD hA hJ hU hT
      go_simp
    · intro L a w1 hJ hA hU hT hD K hK
      refine duty_plain rfl ?_
      have h33 : a.tmps[33]?.getD undef = .pointer (some (b.add (i * 6))) := eval_get (given_at hD 3 rfl rfl rfl)
      have ho := (HO.out.below hJ.1)
      have o0 := ho.x0
      have o1 := ho.x1
      have o2 := ho.x2
      have o3 := ho.x3
      have o4 := ho.x4
      have o5 := ho.x5
      refine wp_value (v := .agg #[.int .i64 o.ask, .string ⟨o.name.toArray⟩, .string ⟨o.of_.toArray⟩, .int .i64 o.n, .slice A4 o.drops.length c4, .slice A5 o.nums.length c5]) (w' := w1) ?_ (hK _ _ hJ (fun _ _ _ h => h) rfl)
      clear hK hD hA hJ hU hT ho
      go_simp
    · intro L a w1 hJ hA hU hT hD K hK
      refine duty_plain rfl ?_
      have h30 : a.tmps[30]?.getD undef = .pointer (some ⟨p, 0, none⟩) := eval_get (given_at hD 0 rfl rfl rfl)
      have h34 : a.tmps[34]?.getD undef = .agg #[.int .i64 o.ask, .string ⟨o.name.toArray⟩, .string ⟨o.of_.toArray⟩, .int .i64 o.n, .slice A4 o.drops.length c4, .slice A5 o.nums.length c5] := eval_get (given_at hD 4 rfl rfl rfl)
      have hL := hT.self
      unfold Jpl8 at hJ
      rw [hL] at hJ
      obtain ⟨j1, j2, j3⟩ := hJ
      refine wp_enter (f := 12) (args := #[.pointer (some ⟨p, 0, none⟩), .agg #[.int .i64 o.ask, .string ⟨o.name.toArray⟩, .string ⟨o.of_.toArray⟩, .int .i64 o.n, .slice A4 o.drops.length c4, .slice A5 o.nums.length c5]]) (w' := w1) ?_ (Calls.mono (H5.out w1 j1 j2) ?_)
      · clear hK hD hA hU hT j1 j2 j3
        go_simp
      · rintro e w2 ⟨rfl, h2, ht⟩
        refine ⟨_, rfl, hK _ _ ⟨j1.trans (ht.below HB.out.1 HB.out.2.1 j1.size), h2, j3.turned j2 ht⟩ ?_ rfl⟩
        · intro j u hj h
          unfold Rpl8 at h ⊢
          by_cases e3 : j = 14
          · rw [if_pos e3] at h ⊢
            obtain ⟨A', c', B', d', e, r1, r2, r3⟩ := h
            have hr := rows_turned r1 r2 j2 ht
            exact ⟨A', c', B', d', e, hr.1, hr.2, r3⟩
          · rw [if_neg e3] at h ⊢; exact h
    · intro L a w1 hJ hA hU hT hD K hK
      refine duty_plain rfl ?_
      have h0 : a.tmps[0]?.getD undef = .slice (some b) n cap := eval_get (hA.at_ 0 (by kernel_rfl))
      refine wp_value (v := .slice (some b) n cap) (w' := w1) ?_ (hK _ _ hJ (fun _ _ _ h => h) rfl)
      clear hK hD hA hJ hU hT
      go_simp
    · intro L a w1 hJ hA hU hT hD K hK
      refine duty_plain rfl ?_
      have h7 : a.tmps[7]?.getD undef = .int .i64 (i : Int) := eval_get (hA.at_ 7 (by kernel_rfl))
      refine wp_value (v := .int .i64 (i : Int)) (w' := w1) ?_ (hK _ _ hJ (fun _ _ _ h => h) rfl)
      clear hK hD hA hJ hU hT
      go_simp
    · intro L a w1 hJ hA hU hT hD K hK
      refine duty_plain rfl ?_
      have h36 : a.tmps[36]?.getD undef = .slice (some b) n cap := eval_get (given_at hD 6 rfl rfl rfl)
      have h37 : a.tmps[37]?.getD undef = .int .i64 (i : Int) := eval_get (given_at hD 7 rfl rfl rfl)
      refine wp_value (v := .pointer (some (b.add (i * 6)))) (w' := w1) ?_ (hK _ _ hJ (fun _ _ _ h => h) rfl)
      clear hK hD hA hJ hU hT
      go_simp
    · intro L a w1 hJ hA hU hT hD K hK
      refine duty_plain rfl ?_
      have h38 : a.tmps[38]?.getD undef = .pointer (some (b.add (i * 6))) := eval_get (given_at hD 8 rfl rfl rfl)
      have ho := (HO.out.below hJ.1)
      have o0 := ho.x0
      have o1 := ho.x1
      have o2 := ho.x2
      have o3 := ho.x3
      have o4 := ho.x4
      have o5 := ho.x5
      refine wp_value (v := .agg #[.int .i64 o.ask, .string ⟨o.name.toArray⟩, .string ⟨o.of_.toArray⟩, .int .i64 o.n, .slice A4 o.drops.length c4, .slice A5 o.nums.length c5]) (w' := w1) ?_ (hK _ _ hJ (fun _ _ _ h => h) rfl)
      clear hK hD hA hJ hU hT ho
      go_simp
    · intro L a w1 hJ hA hU hT hD K hK
      refine duty_plain rfl ?_
      have h6 : a.tmps[6]?.getD undef = .pointer (some ⟨x, 0, none⟩) := eval_get (hA.at_ 6 (by kernel_rfl))
      have h39 : a.tmps[39]?.getD undef = .agg #[.int .i64 o.ask, .string ⟨o.name.toArray⟩, .string ⟨o.of_.toArray⟩, .int .i64 o.n, .slice A4 o.drops.length c4, .slice A5 o.nums.length c5] := eval_get (given_at hD 9 rfl rfl rfl)
      have hL := hT.self
      unfold Jpl8 at hJ
      rw [hL] at hJ
      obtain ⟨j1, j2, j3⟩ := hJ
      refine wp_enter (f := 23) (args := #[.pointer (some ⟨x, 0, none⟩), .agg #[.int .i64 o.ask, .string ⟨o.name.toArray⟩, .string ⟨o.of_.toArray⟩, .int .i64 o.n, .slice A4 o.drops.length c4, .slice A5 o.nums.length c5]]) (w' := w1) ?_ (Calls.mono (H10.out w1 j1 j3) ?_)
      · clear hK hD hA hU hT j1 j2 j3
        go_simp
      · rintro e w2 ⟨rfl, h2, hg⟩
        refine ⟨_, rfl, hK _ _ ⟨j1.trans (below_of_grown hg HB.out.2.2.1 j1.size), j2.other hg HB.out.2.2.2.1 HB.out.2.2.2.2.1 HB.out.2.2.2.2.2, h2⟩ ?_ rfl⟩
        · intro j u hj h
          unfold Rpl8 at h ⊢
          by_cases e3 : j = 14
          · rw [if_pos e3] at h ⊢
            obtain ⟨A', c', B', d', e, r1, r2, r3, r4⟩ := h
            exact ⟨A', c', B', d', e, r1.kept hg fun ad e => by simpa using r3 ad e, r2.keep hg fun ad e => by simpa using r4 ad e, r3, r4⟩
          · rw [if_neg e3] at h ⊢; exact h
    · intro L a w1 hJ hA hU hT hD K hK
      refine duty_plain rfl ?_
      have h35 : a.tmps[35]?.getD undef = .int .i64 er := eval_get (given_at hD 5 rfl rfl rfl)
      have h40 : a.tmps[40]?.getD undef = .int .i64 er := eval_get (given_at hD 10 rfl rfl rfl)
      refine wp_value (v := .bool false) (w' := w1) ?_ (hK _ _ hJ (fun _ _ _ h => h) rfl)
      clear hK hD hA hJ hU hT
      go_simp
    · intro L a w1 hJ hA hU hT hD K hK
      refine duty_plain rfl ?_
      have h41 : a.tmps[41]?.getD undef = .bool false := eval_get (given_at hD 11 rfl rfl rfl)
      refine wp_value (v := .bool false) (w' := w1) ?_ (hK _ _ hJ (fun _ _ _ h => h) rfl)
      clear hK hD hA hJ hU hT
      go_simp
    · intro L a w1 hJ hA hU hT hD K hK
      refine duty_yes rfl rfl rfl (hA.lt 42 (by kernel_rfl)) (given_at hD 12 rfl rfl rfl) ?_
      have h5 : a.tmps[5]?.getD undef = .pointer (some ⟨p, 0, none⟩) := eval_get (hA.at_ 5 (by kernel_rfl))
      refine wp_value (v := .pointer (some ⟨p, 0, none⟩)) (w' := w1) ?_ (hK _ _ hJ (fun _ _ _ h => h) rfl)
      clear hK hD hA hJ hU hT
      go_simp
    · intro L a w1 hJ hA hU hT hD K hK
      refine duty_yes rfl rfl rfl (hA.lt 42 (by kernel_rfl)) (given_at hD 12 rfl rfl rfl) ?_
      have h6 : a.tmps[6]?.getD undef = .pointer (some ⟨x, 0, none⟩) := eval_get (hA.at_ 6 (by kernel_rfl))
      have hL12 := hT.yes 12 rfl
      have hL11 := hT.up 12 11 hL12 rfl rfl
      have hL10 := hT.up 11 10 hL11 rfl rfl
      have hj3 := hJ.2.2
      rw [hL10] at hj3
      obtain ⟨A', c', B', d', hr⟩ := hj3
      have y0 := hr.c0
      have y1 := hr.c1
      refine wp_value (v := .agg #[.slice A' M'.length c', .slice B' D'.length d']) (w' := w1) ?_ (hK _ _ hJ (fun _ _ _ h => h) ⟨A', c', B', d', rfl, hr.rP, hr.rD, hr.nA, hr.nB⟩)
      clear hK hD hA hJ hU hT hr
      go_simp
    · intro L a w1 hJ hA hU hT hD K hK
      refine duty_yes rfl rfl rfl (hA.lt 42 (by kernel_rfl)) (given_at hD 12 rfl rfl rfl) ?_
      have h1 : a.tmps[1]?.getD undef = .int .i64 dur := eval_get (hA.at_ 1 (by kernel_rfl))
      refine wp_value (v := .int .i64 dur) (w' := w1) ?_ (hK _ _ hJ (fun _ _ _ h => h) rfl)
      clear hK hD hA hJ hU hT
      go_simp
    · intro L a w1 hJ hA hU hT hD K hK
      refine duty_yes rfl rfl rfl (hA.lt 42 (by kernel_rfl)) (given_at hD 12 rfl rfl rfl) ?_
      have h43 : a.tmps[43]?.getD undef = .pointer (some ⟨p, 0, none⟩) := eval_get (given_at hD 13 rfl rfl rfl)
      have h45 : a.tmps[45]?.getD undef = .int .i64 dur := eval_get (given_at hD 15 rfl rfl rfl)
      have hL12 := hT.yes 12 rfl
      have hL11 := hT.up 12 11 hL12 rfl rfl
      have hL5 := hT.up 11 5 hL11 rfl rfl
      have j1 := hJ.1
      have j2 := hJ.2.1
      have j3 := hJ.2.2
      rw [hL5] at j2
      have hv : ∃ A' c' B' d', a.eval (.tmp 44) = .agg #[.slice A' M'.length c', .slice B' D'.length d'] ∧ RdP w1 A' M' ∧ RdD w1 B' D' ∧ (∀ ad, A' = some ad → ad.block ≠ x) ∧ (∀ ad, B' = some ad → ad.block ≠ x) := given_at hD 14 rfl rfl rfl
      obtain ⟨A', c', B', d', e1, r1, r2, _⟩ := hv
      have h44 := eval_get e1
      refine wp_enter (f := 24) (args := #[.pointer (some ⟨p, 0, none⟩), .agg #[.slice A' M'.length c', .slice B' D'.length d'], .int .i64 dur]) (w' := w1) ?_ (Calls.mono (H16.out w1 A' c' B' d' j1 j2 r1 r2) ?_)
      · clear hK hD hA hJ hU hT
        go_simp
      · rintro e w2 ⟨rfl, hb2⟩
        refine ⟨_, rfl, hK _ _ ⟨hJ.1.trans (hb2.mono hJ.1.size), hJ.2.1.below hb2, hJ.2.2.below hb2⟩ ?_ rfl⟩
        · intro j u hj h
          unfold Rpl8 at h ⊢
          by_cases e3 : j = 14
          · rw [if_pos e3] at h ⊢
            obtain ⟨A', c', B', d', e, r1, r2, r3⟩ := h
            exact ⟨A', c', B', d', e, r1.below hb2, r2.below hb2, r3⟩
          · rw [if_neg e3] at h ⊢; exact h
    · intro L a w1 hJ hA hU hT hD K hK
      refine duty_yes rfl rfl rfl (hA.lt 42 (by kernel_rfl)) (given_at hD 12 rfl rfl rfl) ?_
      have h46 : a.tmps[46]?.getD undef = .bool true := eval_get (given_at hD 16 rfl rfl rfl)
      refine wp_value (v := .bool false) (w' := w1) ?_ (hK _ _ hJ (fun _ _ _ h => h) rfl)
      clear hK hD hA hJ hU hT
      go_simp
    · intro L a w1 hJ hA hU hT hD K hK
      refine duty_plain rfl ?_
      have h42 : a.tmps[42]?.getD undef = .bool false := eval_get (given_at hD 12 rfl rfl rfl)
      have h47 : a.tmps[47]?.getD undef = .bool false := eval_get (given_at hD 17 rfl rfl rfl)
      refine wp_value (v := .bool false) (w' := w1) ?_ (hK _ _ hJ (fun _ _ _ h => h) rfl)
      clear hK hD hA hJ hU hT
      go_simp
  · intro L a w' hJ hL hA hG
    have hv48 : a.tmps[48]?.getD undef = .bool false := eval_get (hG 18 _ _ rfl rfl)
    have ha : a = ⟨#[.slice (some b) n cap, .int .i64 dur, t2, t3, t4, .pointer (some ⟨p, 0, none⟩), .pointer (some ⟨x, 0, none⟩), .int .i64 (i : Int), t8, t9, t10, t11, t12, t13, t14, t15, t16, t17, t18, t19, t20, t21, t22, t23, t24, t25, t26, t27, t28, t29, a.tmps[30]?.getD undef, a.tmps[31]?.getD undef, a.tmps[32]?.getD undef, a.tmps[33]?.getD undef, a.tmps[34]?.getD undef, a.tmps[35]?.getD undef, a.tmps[36]?.getD undef, a.tmps[37]?.getD undef, a.tmps[38]?.getD undef, a.tmps[39]?.getD undef, a.tmps[40]?.getD undef, a.tmps[41]?.getD undef, a.tmps[42]?.getD undef, a.tmps[43]?.getD undef, a.tmps[44]?.getD undef, a.tmps[45]?.getD undef, a.tmps[46]?.getD undef, a.tmps[47]?.getD undef, .bool false, t49, t50, t51, t52, t53, t54, t55, t56, t57, t58, t59, t60, t61, t62, t63, t64, t65, t66, t67, t68, t69, t70, t71, t72, t73, t74, t75, t76, t77, t78, t79, t80, t81, t82, t83, t84, t85, t86, t87, t88, t89], []⟩ := act_of ⟨eval_get (hA.at_ 0 (by kernel_rfl)), eval_get (hA.at_ 1 (by kernel_rfl)), eval_get (hA.at_ 2 (by kernel_rfl)), eval_get (hA.at_ 3 (by kernel_rfl)), eval_get (hA.at_ 4 (by kernel_rfl)), eval_get (hA.at_ 5 (by kernel_rfl)), eval_get (hA.at_ 6 (by kernel_rfl)), eval_get (hA.at_ 7 (by kernel_rfl)), eval_get (hA.at_ 8 (by kernel_rfl)), eval_get (hA.at_ 9 (by kernel_rfl)), eval_get (hA.at_ 10 (by kernel_rfl)), eval_get (hA.at_ 11 (by kernel_rfl)), eval_get (hA.at_ 12 (by kernel_rfl)), eval_get (hA.at_ 13 (by kernel_rfl)), eval_get (hA.at_ 14 (by kernel_rfl)), eval_get (hA.at_ 15 (by kernel_rfl)), eval_get (hA.at_ 16 (by kernel_rfl)), eval_get (hA.at_ 17 (by kernel_rfl)), eval_get (hA.at_ 18 (by kernel_rfl)), eval_get (hA.at_ 19 (by kernel_rfl)), eval_get (hA.at_ 20 (by kernel_rfl)), eval_get (hA.at_ 21 (by kernel_rfl)), eval_get (hA.at_ 22 (by kernel_rfl)), eval_get (hA.at_ 23 (by kernel_rfl)), eval_get (hA.at_ 24 (by kernel_rfl)), eval_get (hA.at_ 25 (by kernel_rfl)), eval_get (hA.at_ 26 (by kernel_rfl)), eval_get (hA.at_ 27 (by kernel_rfl)), eval_get (hA.at_ 28 (by kernel_rfl)), eval_get (hA.at_ 29 (by kernel_rfl)), rfl, rfl, rfl, rfl, rfl, rfl, rfl, rfl, rfl, rfl, rfl, rfl, rfl, rfl, rfl, rfl, rfl, rfl, hv48, eval_get (hA.at_ 49 (by kernel_rfl)), eval_get (hA.at_ 50 (by kernel_rfl)), eval_get (hA.at_ 51 (by kernel_rfl)), eval_get (hA.at_ 52 (by kernel_rfl)), eval_get (hA.at_ 53 (by kernel_rfl)), eval_get (hA.at_ 54 (by kernel_rfl)), eval_get (hA.at_ 55 (by kernel_rfl)), eval_get (hA.at_ 56 (by kernel_rfl)), eval_get (hA.at_ 57 (by kernel_rfl)), eval_get (hA.at_ 58 (by kernel_rfl)), eval_get (hA.at_ 59 (by kernel_rfl)), eval_get (hA.at_ 60 (by kernel_rfl)), eval_get (hA.at_ 61 (by kernel_rfl)), eval_get (hA.at_ 62 (by kernel_rfl)), eval_get (hA.at_ 63 (by kernel_rfl)), eval_get (hA.at_ 64 (by kernel_rfl)), eval_get (hA.at_ 65 (by kernel_rfl)), eval_get (hA.at_ 66 (by kernel_rfl)), eval_get (hA.at_ 67 (by kernel_rfl)), eval_get (hA.at_ 68 (by kernel_rfl)), eval_get (hA.at_ 69 (by kernel_rfl)), eval_get (hA.at_ 70 (by kernel_rfl)), eval_get (hA.at_ 71 (by kernel_rfl)), eval_get (hA.at_ 72 (by kernel_rfl)), eval_get (hA.at_ 73 (by kernel_rfl)), eval_get (hA.at_ 74 (by kernel_rfl)), eval_get (hA.at_ 75 (by kernel_rfl)), eval_get (hA.at_ 76 (by kernel_rfl)), eval_get (hA.at_ 77 (by kernel_rfl)), eval_get (hA.at_ 78 (by kernel_rfl)), eval_get (hA.at_ 79 (by kernel_rfl)), eval_get (hA.at_ 80 (by kernel_rfl)), eval_get (hA.at_ 81 (by kernel_rfl)), eval_get (hA.at_ 82 (by kernel_rfl)), eval_get (hA.at_ 83 (by kernel_rfl)), eval_get (hA.at_ 84 (by kernel_rfl)), eval_get (hA.at_ 85 (by kernel_rfl)), eval_get (hA.at_ 86 (by kernel_rfl)), eval_get (hA.at_ 87 (by kernel_rfl)), eval_get (hA.at_ 88 (by kernel_rfl)), eval_get (hA.at_ 89 (by kernel_rfl)), trivial⟩ hA.size hA.defers
    rw [ha]
    refine HK.out w' _ _ _ _ _ _ _ _ _ _ _ _ _ _ _ _ _ _ ?_
    unfold Jpl8 at hJ ⊢
    rw [hL 5 (of_decide_eq_true (by kernel_rfl))] at hJ
    rw [hL 10 (of_decide_eq_true (by kernel_rfl))] at hJ
    exact hJ


end Go.Proofs.Ytjggeodnoigkkaa

namespace Go.Proofs.Ytjggeodnoigkkaa
open Go.RowKit Go.Maps Go.Shelf Go.Proofs.YtjggeodnoigkkaaM

theorem RefAt.made (w : World) (t : TypeId) : RefAt (w.alloc (.cells #[.slice none 0 0, .slice none 0 0] t)) w.heap.size [] [] none 0 none 0 :=
  ⟨by simp, by simp, by rw [frozen?_alloc_cells]; simp [World.frozen?], by rw [frozen?_alloc_cells]; simp [World.frozen?], (fun k hk => by simp at hk), (fun k hk => by simp at hk), (fun ad e => by cases e), (fun ad e => by cases e), Nat.le_refl _, Nat.le_refl _⟩
theorem clones_empty (M : PM) : clonesF M [] = [] := by
  rw [clonesF, List.map_eq_nil_iff, List.filter_eq_nil_iff]
  intro x _
  simp [clonesQ]

set_option maxRecDepth 100000 in
set_option maxHeartbeats 8000000 in
theorem plays_walk (A0 : Option Addr) (cap : Nat) (L : List OpV) (dur : Int) (w : World) (hL : RdOps w A0 L) (h63 : L.length ≤ maxLen) :
    Calls Try.prog 5 #[.slice A0 L.length cap, .int .i64 dur] w fun e w' => e = .returned (.bool true) ∧ Below w.heap.size w w' := by
  have HL := Lib.hid hL
  have H63 := Lib.hid (show L.length ≤ 9223372036854775807 from h63)
  have Hm := Lib.hid h63
  clear hL h63
  go_enter Try.func5, Try.ntmps5
  go_wp2_with fail
  refine (new_any _).mono ?_
  rintro e w1 ⟨p, bm, bd, rfl, h1, hb1, hp, hm, hd⟩
  go_wp2_with fail
  refine (few_any A0 cap L _ (HL.out.below hb1) Hm.out).mono ?_
  rintro e w2 ⟨rfl, hb2⟩
  have h2 := h1.below hb2
  have hb3 := hb1.trans (hb2.mono hb1.size)
  clear h1 hb1 hb2
  cases hf : fewB L
  · go_wp2_with fail
    refine (awake_any _).mono ?_
    rintro e w3 ⟨rfl, hb4⟩
    go_wp2_with fail
    go_ret
    exact ⟨rfl, hb3.trans (hb4.mono hb3.size)⟩
  · have HF := Lib.hid hf
    clear hf
    have hx0 := RefAt.made w2 52
    have hal : Below w2.heap.size w2 (w2.alloc (.cells #[.slice none 0 0, .slice none 0 0] 52)) := (Below.refl _ _).alloc (Nat.le_refl _) _
    have hl := h2.lts
    have hl0 := h2.lt
    have HB := Lib.hid (show w.heap.size ≤ bm ∧ w.heap.size ≤ bd ∧ w.heap.size ≤ w2.heap.size ∧ p ≠ w2.heap.size ∧ bm ≠ w2.heap.size ∧ bd ≠ w2.heap.size from ⟨hm, hd, hb3.size, by omega, by omega, by omega⟩)
    have h3 := h2.below hal
    have hb4 := hb3.trans (hal.mono hb3.size)
    clear hm hd hp h2 hb3 hal hl hl0
    obtain ⟨x, hx⟩ : ∃ x, x = w2.heap.size := ⟨_, rfl⟩
    rw [← hx] at hx0 HB
    go_wp2_with fail
    rw [← hx]
    clear hx
    go_loopw [7] (fun i wr => ∃ (j : Nat) (M : PM) (D : DM) (A : Option Addr) (c : Nat) (B : Option Addr) (d : Nat), j ≤ L.length ∧ i = .int .i64 j ∧ IsPins wr p bm bd M D ∧ RefAt wr x M D A c B d ∧ Hid (Made M D) ∧ M.length ≤ j ∧ D.length ≤ 20 * j ∧ Below w.heap.size w wr) (fun i _ => L.length - (intOf i).toNat)
    case atStart => exact ⟨0, [], [], none, 0, none, 0, Nat.zero_le _, rfl, h3, hx0, Lib.hid Made.nil, Nat.le_refl _, Nat.le_refl _, hb4⟩
    case round =>
      obtain ⟨j, M, D, A, c, B, d, hj, rfl, hI, hR, hmade, hMl, hDl, hb⟩ := hrel
      have h63 := H63.out
      by_cases hlt : j < L.length
      · obtain ⟨ad, A4, c4, A5, c5, rfl, hx⟩ := HL.out j hlt
        have HO := Lib.hid (List.all_eq_true.1 (show L.all fewO = true from (Bool.and_eq_true _ _ ▸ HF.out).2) L[j] (List.getElem_mem _))
        generalize L[j] = o at hx HO
        have hlen60 := Lib.hid (show L.length ≤ 60 from of_decide_eq_true (Bool.and_eq_true _ _ ▸ HF.out).1)
        have HXX := Lib.hid hx
        obtain ⟨_, y1, _, _, _, _, l4, l5, r4, r5, n1, n2, wf⟩ := hx
        have HX := Lib.hid (show o.drops.length ≤ 20 ∧ o.nums.length ≤ 20 from by
          have := HO.out
          simp only [fewO, Bool.and_eq_true, decide_eq_true_eq] at this
          exact ⟨this.1, this.2.1⟩)
        have HDL := Lib.hid (doesF_len M D o)
        have HMD := Lib.hid (hmade.out.does o)
        have HSZ := Lib.hid (show (doesF M D o).2.1.length ≤ j + 1 ∧ (doesF M D o).2.2.length ≤ 20 * (j + 1) from by
          have h1 := HDL.out
          have h2 := HX.out.1
          omega)
        have HC5 := Lib.hid (fun W (hW : Below w.heap.size w W) (hp : IsPins W p bm bd M D) => does2_any p bm bd M D o A4 c4 A5 c5 W hp l4 l5 (r4.below hW) (r5.below hW) n1 n2 wf (by have := hlen60.out; omega) (by have := hlen60.out; omega) HX.out.1 HX.out.2)
        have HC10 := Lib.hid (fun W (hW : Below w.heap.size w W) (hr : RefAt W x M D A c B d) => asked_any x M D A c B d o A4 c4 A5 c5 W hr hmade.out.riseM hmade.out.riseD (r4.below hW) (r5.below hW)
          (fun ad' e h0 => by
            obtain ⟨ad'', e', hlt', _⟩ := r5 0 h0
            rw [e] at e'
            obtain rfl := Option.some.inj e'
            have := HB.out.2.2.1
            omega) n1 (by have := hlen60.out; omega) (by have := hlen60.out; omega) HX.out.1 HX.out.2)
        have HC16 := Lib.hid (fun W A' c' B' d' (_ : Below w.heap.size w W) (hp : IsPins W p bm bd (doesF M D o).2.1 (doesF M D o).2.2) r1 r2 => same_any p bm bd (doesF M D o).2.1 (doesF M D o).2.2 A' c' B' d' dur W hp r1 r2 HMD.out (by have := HSZ.out; have := hlen60.out; omega) (by have := HSZ.out; have := hlen60.out; omega))
        have Hy1 := Lib.hid (And.intro y1 n1)
        have hi0 : (0 : Int) ≤ (j : Int) := by omega
        have hi1 : (j : Int) < (L.length : Int) := by omega
        clear l4 l5 r4 r5 n1 n2 wf hMl hDl HDL hmade y1
        generalize (doesF M D o).2.1 = M' at HC5 HC10 HC16 HSZ HMD
        generalize (doesF M D o).2.2 = D' at HC5 HC10 HC16 HSZ HMD
        generalize (doesF M D o).1 = er at HC5 HC10
        go_upto_region 8 with fail
        refine pl8 _ w p bm bd x M M' D D' A c B d ad L.length cap j o A4 c4 A5 c5 dur er _ HXX.out HB.out hi0 hi1 HC5.out HC10.out HC16.out ⟨hb.trans ((Below.refl _ _).drew.mono hb.size), hI.below (Below.refl _ _).drew, hR.below (Below.refl _ _).drew⟩ _ _ _ _ _ _ _ _ _ _ _ _ _ _ _ _ _ _ _ _ _ _ _ _ _ _ _ _ _ _ _ _ _ _ _ _ _ _ _ _ _ _ _ _ _ _ _ _ _ _ _ _ _ _ _ _ _ _ _ _ _ _ _ _ _ _ _ _ _ _ _ _ _ _ _ _ _ _ _ _ _ _ _ _ _ ?_
        intro w9 _ _ _ _ _ _ _ _ _ _ _ _ _ _ _ _ _ _ hjj
        obtain ⟨j1, j2, j3⟩ := hjj
        obtain ⟨A', c', B', d', hr9⟩ := j3
        dsimp only [cond_true] at j2
        dsimp only [Exit.inBlock, Exit.then]
        have y1 := (j1.cell (p := ⟨(ad.add (j * 6)).block, (ad.add (j * 6)).off + 1, none⟩) (World.block_lt_of_cell? _ _ Hy1.out.1)).trans Hy1.out.1
        have hpl2 := fun w hP h63 => place_any A' B' c' d' M'.length D'.length M' o.name w rfl hP h63
        have HAT := Lib.hid (at_any p bm bd M' D' o.name w9 j2 Hy1.out.2)
        have H9 := Lib.hid j2
        have HR9 := Lib.hid hr9
        have HB9 := Lib.hid j1
        have HPL := Lib.hid hpl2
        clear hI hR hb j2 hr9 hpl2 HC5 HC10 HC16
        go_wp2_with fail
        refine HAT.out.mono ?_
        rintro e w10 ⟨rfl, hb10⟩
        have HB10 := Lib.hid (HB9.out.trans (hb10.mono HB9.out.size))
        have H10 := Lib.hid (H9.out.below hb10)
        have HR10 := Lib.hid (HR9.out.below hb10)
        have y1' := (HB10.out.cell (p := ⟨(ad.add (j * 6)).block, (ad.add (j * 6)).off + 1, none⟩) (World.block_lt_of_cell? _ _ Hy1.out.1)).trans Hy1.out.1
        have x0 := HR10.out.c0
        have x1 := HR10.out.c1
        have HPLC := Lib.hid (HPL.out w10.drew (HR10.out.rP.below (Below.refl _ _).drew) (by have := HSZ.out; have := hlen60.out; omega))
        clear hb10 HAT y1 j1 HPL
        go_wp2_with fail
        go_still_tail 6, (by kernel_rfl)
        change wpList _ _ _ _ _ w10.drew
        go_wp2_with fail
        refine HPLC.out.mono ?_
        rintro e w11 ⟨r, rfl, hpi, hb11⟩
        have hh := hpi.has
        have HB11 := Lib.hid ((HB10.out.trans ((Below.refl w10.heap.size w10).drew.mono HB10.out.size)).trans (hb11.mono HB10.out.size))
        have H11 := Lib.hid ((H10.out.below (Below.refl _ _).drew).below hb11)
        have HR11 := Lib.hid ((HR10.out.below (Below.refl _ _).drew).below hb11)
        have HCL := Lib.hid (clones_any p bm bd M' D' [] w11 H11.out (by have := HSZ.out; have := hlen60.out; omega))
        rw [clones_empty] at HCL
        have hg := hasM_get M' o.name
        clear hpi hb11 HPLC y1' x0 x1
        cases hgm : getM M' o.name with
        | some z =>
          have hat : atF M' o.name = (z.1, 0) := by rw [atF, hgm]
          rw [hgm] at hg
          have d1 : decide (0 ≤ r) = true := hh.trans hg
          have d2 : decide (r < 0) = false := by have := of_decide_eq_true d1; exact decide_eq_false (by omega)
          rw [hat]
          clear hh hg hgm hat
          go_wp2_with fail
          refine HCL.out.mono ?_
          rintro e w12 ⟨v, rfl, hv, hb12⟩
          obtain ⟨A5', k5, rfl, _⟩ := hv.shape
          have h12 := H11.out.below hb12
          have hr12 := HR11.out.below hb12
          have hbb := HB11.out.trans (hb12.mono HB11.out.size)
          clear hv hb12
          go_wp2_with fail
          go_roundw
          case rel => exact ⟨j + 1, M', D', A', c', B', d', by omega, by go_num, h12, hr12, HMD, HSZ.out.1, HSZ.out.2, hbb⟩
          case measure => simp [intOf]; omega
        | none =>
          have hat : atF M' o.name = (0, 15) := by rw [atF, hgm]
          rw [hgm] at hg
          have d1 : decide (0 ≤ r) = false := hh.trans hg
          have d2 : decide (r < 0) = true := by have := of_decide_eq_false d1; exact decide_eq_true (by omega)
          rw [hat]
          clear hh hg hgm hat
          go_wp2_with fail
          refine HCL.out.mono ?_
          rintro e w12 ⟨v, rfl, hv, hb12⟩
          obtain ⟨A5', k5, rfl, _⟩ := hv.shape
          have h12 := H11.out.below hb12
          have hr12 := HR11.out.below hb12
          have hbb := HB11.out.trans (hb12.mono HB11.out.size)
          clear hv hb12
          go_wp2_with fail
          go_roundw
          case rel => exact ⟨j + 1, M', D', A', c', B', d', by omega, by go_num, h12, hr12, HMD, HSZ.out.1, HSZ.out.2, hbb⟩
          case measure => simp [intOf]; omega
      · clear hI hR hmade hMl hDl
        go_wp2_with fail
        refine (awake_any _).mono ?_
        rintro e w3 ⟨rfl, hb5⟩
        go_wp2_with fail
        go_ret
        exact ⟨rfl, hb.trans (hb5.mono hb.size)⟩

end Go.Proofs.Ytjggeodnoigkkaa
