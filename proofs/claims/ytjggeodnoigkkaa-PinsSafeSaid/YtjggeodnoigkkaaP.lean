/-
  PinsSafe: the walk.
-/
import Derived.Test.YtjggeodnoigkkaaQ
import Derived.Deep.DeepCutAuto
import Derived.Deep.CutBlock
namespace Go.Proofs.Ytjggeodnoigkkaa
open Go.RowKit Go.Maps Go.Shelf Go.Proofs.YtjggeodnoigkkaaM

set_option maxRecDepth 100000 in
set_option maxHeartbeats 4000000 in
theorem safe_walk (A : Option Addr) (cap : Nat) (L : List OpV) (dur : Int) (w : World) (hL : RdOps w A L) (h63 : L.length ≤ maxLen) :
    Calls Try.prog 3 #[.slice A L.length cap, .int .i64 dur] w fun e w' => e = .returned (.bool true) ∧ Below w.heap.size w w' := by
  have HL := Lib.hid hL
  have H63 := Lib.hid (show L.length ≤ 9223372036854775807 from h63)
  have Hm := Lib.hid h63
  clear hL h63
  go_enter Try.func3, Try.ntmps3
  go_wp2_with fail
  refine (new_any _).mono ?_
  rintro e w1 ⟨p, bm, bd, rfl, h1, hb1, hp, hm, hd⟩
  go_wp2_with fail
  refine (few_any A cap L _ (HL.out.below hb1) Hm.out).mono ?_
  rintro e w2 ⟨rfl, hb2⟩
  have h2 := h1.below hb2
  have hb3 := hb1.trans (hb2.mono hb1.size)
  clear h1 hb1 hb2
  cases hf : fewB L
  · go_wp2_with fail
    refine (awake_any _).mono ?_
    rintro e w3 ⟨rfl, hb4⟩
    go_wp2_with fail
    go_ret
    exact ⟨rfl, hb3.trans (hb4.mono hb3.size)⟩
  · have HF := Lib.hid hf
    clear hf
    have HB := Lib.hid (show w.heap.size ≤ bm ∧ w.heap.size ≤ bd from ⟨hm, hd⟩)
    clear hm hd hp
    go_wp2_with fail
    go_loopw [6] (fun i wr => ∃ (j : Nat) (M : PM) (D : DM), j ≤ L.length ∧ i = .int .i64 j ∧ IsPins wr p bm bd M D ∧ M.length ≤ j ∧ D.length ≤ 20 * j ∧ Below w.heap.size w wr) (fun i _ => L.length - (intOf i).toNat)
    case atStart => exact ⟨0, [], [], Nat.zero_le _, rfl, h2, Nat.le_refl _, Nat.le_refl _, hb3⟩
    case round =>
      obtain ⟨j, M, D, hj, rfl, hI, hMl, hDl, hb⟩ := hrel
      have h63 := H63.out
      by_cases hlt : j < L.length
      · obtain ⟨ad, A4, c4, A5, c5, rfl, hx⟩ := (HL.out.below hb) j hlt
        have HO := Lib.hid (List.all_eq_true.1 (show L.all fewO = true from (Bool.and_eq_true _ _ ▸ HF.out).2) L[j] (List.getElem_mem _))
        generalize L[j] = o at hx HO
        have hlen60 := Lib.hid (show L.length ≤ 60 from of_decide_eq_true (Bool.and_eq_true _ _ ▸ HF.out).1)
        obtain ⟨x0, x1, x2, x3, x4, x5, l4, l5, r4, r5, n1, n2, wf⟩ := hx
        have HX := Lib.hid (show o.drops.length ≤ 20 ∧ o.nums.length ≤ 20 from by
          have := HO.out
          simp only [fewO, Bool.and_eq_true, decide_eq_true_eq] at this
          exact ⟨this.1, this.2.1⟩)
        have HC := Lib.hid (does_any p bm bd M D o A4 c4 A5 c5 wr hI l4 l5 r4 r5 n1 n2 wf (by have := hlen60.out; omega) (by have := hlen60.out; omega) HX.out.1 HX.out.2)
        have HDL := Lib.hid (doesF_len M D o)
        clear l4 l5 r4 r5 n1 n2 wf hI
        go_wp2_with fail
        refine HC.out.mono ?_
        rintro e w4 ⟨rfl, h4, ht⟩
        have hb4 := hb.trans (ht _ HB.out.1 HB.out.2 hb.size)
        have HSZ := Lib.hid (show (doesF M D o).2.1.length ≤ j + 1 ∧ (doesF M D o).2.2.length ≤ 20 * (j + 1) from by
          have h1 := HDL.out
          have h2 := HX.out.1
          omega)
        clear HC ht hb hMl hDl HDL
        generalize (doesF M D o).2.1 = M' at h4 HSZ
        generalize (doesF M D o).2.2 = D' at h4 HSZ
        generalize (doesF M D o).1 = er
        clear x0 x1 x2 x3 x4 x5
        have HZ := Lib.hid (show M'.length * 16 ≤ 140737488355328 ∧ D'.length * 16 ≤ 140737488355328 from by
          have h1 := HSZ.out
          have h2 := hlen60.out
          omega)
        go_wp2_with fail
        refine (free_any p bm bd M' D' dur _ h4 HZ.out.2 HZ.out.1).mono ?_
        rintro e w5 ⟨vf, rfl, hvf, hb5⟩
        have h5 := h4.below hb5
        go_wp2_with fail
        refine (pending_any p bm bd M' D' _ h5 HZ.out.2).mono ?_
        rintro e w6 ⟨vd, rfl, hvd, hb6⟩
        have h6 := h5.below hb6
        go_wp2_with fail
        refine (names_any p bm bd M' D' _ h6 HZ.out.1).mono ?_
        rintro e w7 ⟨vn, rfl, hvn, hb7⟩
        have h7 := h6.below hb7
        have hvf7 := (hvf.below hb6).below hb7
        have hvd7 := hvd.below hb7
        have hb8 := hb4.trans (((hb5.trans (hb6.mono hb5.size)).trans (hb7.mono (Nat.le_trans hb5.size hb6.size))).mono hb4.size)
        clear h4 h5 h6 hvf hvd hb5 hb6 hb7 hb4
        obtain ⟨Af, cf, rfl, hcf⟩ := hvf7.shape
        obtain ⟨Ad, cd, rfl, hcd⟩ := hvd7.shape
        obtain ⟨An, cn, rfl, hcn⟩ := hvn.shape
        have HCF := Lib.hid hcf
        have HCD := Lib.hid hcd
        have HCN := Lib.hid hcn
        clear hcf hcd hcn hvf7 hvd7 hvn
        have HI := Lib.hid (show D'.length ≤ 9223372036854775807 ∧ M'.length ≤ 9223372036854775807 ∧ (freeF M' D' dur).length ≤ 9223372036854775807 from by
          have h1 := HZ.out
          have h2 : (freeF M' D' dur).length ≤ D'.length := by
            unfold freeF
            rw [List.length_map]
            exact List.length_filter_le _ _
          omega)
        have HRD := Lib.hid h7.d.1
        have HRM := Lib.hid h7.m.1
        have HKL := Lib.hid h7.m.key_len
        go_wp2_with fail
        go_loopw [10, 11] (fun n i wr => ∃ k c : Nat, k ≤ D'.length ∧ i = .int .i64 k ∧ n = .int .i64 c ∧ Hid (c = ((D'.take k).filter (freeQ M' D' dur)).length) ∧ Below w7.heap.size w7 wr) (fun _ i _ => D'.length - (intOf i).toNat)
        case atStart => exact ⟨0, 0, Nat.zero_le _, rfl, rfl, Lib.hid rfl, Below.refl _ _⟩
        case round =>
          obtain ⟨k, c, hk, rfl, rfl, hc, hbk⟩ := hrel
          have hD63 := HI.out.1
          have hck : c ≤ k := by
            rw [hc.out]
            exact Nat.le_trans (List.length_filter_le _ _) (List.length_take_le _ _)
          by_cases hltk : k < D'.length
          · obtain ⟨gd, rfl, hgd, hy1, hy2⟩ := HCD.out k hltk
            obtain ⟨y, hy⟩ : ∃ y, y = D'[k] := ⟨_, rfl⟩
            have ey : D'.getD k (0, 0) = y := by simp [hy, List.getD_eq_getElem?_getD, hltk]
            rw [ey] at hy1 hy2
            have HYM := Lib.hid (show y ∈ D' from by rw [hy]; exact List.getElem_mem _)
            have HY := Lib.hid hy
            clear hy ey
            obtain ⟨w8, rfl⟩ : ∃ x : World, x = wr := ⟨_, rfl⟩
            have hM63 := HI.out.2.1
            have Hb8 := Lib.hid hbk
            clear hbk
            go_wp2_with fail
            go_loopw [12, 13] (fun b i wr => ∃ m : Nat, m ≤ M'.length ∧ i = .int .i64 m ∧ b = .bool (heldBy (M'.take m) y) ∧ Below w8.heap.size w8 wr) (fun _ i _ => M'.length - (intOf i).toNat)
            case atStart => exact ⟨0, Nat.zero_le _, rfl, rfl, Below.refl _ _⟩
            case round =>
              obtain ⟨m, hm, rfl, rfl, hbm⟩ := hrel
              have hb7m := Hb8.out.trans (hbm.mono Hb8.out.size)
              have hy1' := (hb7m.cell (p := ⟨gd, k * 2, none⟩) hgd).trans hy1
              have hy2' := (hb7m.cell (p := ⟨gd, k * 2 + 1, none⟩) hgd).trans hy2
              by_cases hltm : m < M'.length
              · obtain ⟨gn, rfl, hgn, hx1⟩ := HCN.out m (by simpa using hltm)
                obtain ⟨x, hx⟩ : ∃ x, x = M'[m] := ⟨_, rfl⟩
                have ex : (M'.map (·.1)).getD m [] = x.1 := by simp [hx, List.getD_eq_getElem?_getD, hltm]
                rw [ex] at hx1
                have hx1' := (hb7m.cell (p := ⟨gn, m, none⟩) hgn).trans hx1
                have HXM := Lib.hid (show x ∈ M' from by rw [hx]; exact List.getElem_mem _)
                have HS := Lib.hid (show heldBy (M'.take (m + 1)) y = (heldBy (M'.take m) y || holdsQ y.1 y.2 x.2) from by
                  unfold heldBy
                  rw [any_take_succ _ M' m hltm, ← hx])
                have hP := h7.below hb7m
                have HAT := Lib.hid (atF_mem HRM.out HXM.out)
                have HKX := Lib.hid (HKL.out x HXM.out)
                clear hx ex hx1
                go_wp2_with fail
                refine (at_any p bm bd M' D' x.1 _ hP HKX.out).mono ?_
                rintro e w9 ⟨rfl, hb9⟩
                have hz1 := (hb9.cell (p := ⟨gd, k * 2, none⟩) (Nat.lt_of_lt_of_le hgd hb7m.size)).trans hy1'
                have hz2 := (hb9.cell (p := ⟨gd, k * 2 + 1, none⟩) (Nat.lt_of_lt_of_le hgd hb7m.size)).trans hy2'
                have hbm9 := hbm.trans (hb9.mono hbm.size)
                rw [HAT.out]
                clear hy1' hy2' hx1' hP hb9
                cases hh : heldBy (M'.take m) y
                · by_cases g1 : y.1 ≤ x.2.1
                  · by_cases g2 : x.2.1 < y.2
                    · have HQ := Lib.hid (show heldBy (M'.take (m + 1)) y = true from by
                        rw [HS.out, hh, holdsQ, decide_eq_true g1, decide_eq_true g2]
                        rfl)
                      go_wp2_with fail
                      go_roundw
                      case rel => exact ⟨m + 1, by omega, by go_num, by rw [HQ.out], hbm9⟩
                      case measure => simp [intOf]; omega
                    · have HQ := Lib.hid (show heldBy (M'.take (m + 1)) y = false from by
                        rw [HS.out, hh, holdsQ, decide_eq_false g2, Bool.and_false]
                        rfl)
                      go_wp2_with fail
                      go_roundw
                      case rel => exact ⟨m + 1, by omega, by go_num, by rw [HQ.out, decide_eq_false (by omega)], hbm9⟩
                      case measure => simp [intOf]; omega
                  · have HQ := Lib.hid (show heldBy (M'.take (m + 1)) y = false from by
                      rw [HS.out, hh, holdsQ, decide_eq_false g1]
                      rfl)
                    go_wp2_with fail
                    go_roundw
                    case rel => exact ⟨m + 1, by omega, by go_num, by rw [HQ.out], hbm9⟩
                    case measure => simp [intOf]; omega
                · have HQ := Lib.hid (show heldBy (M'.take (m + 1)) y = true from by
                    rw [HS.out, hh]
                    rfl)
                  go_wp2_with fail
                  go_roundw
                  case rel => exact ⟨m + 1, by omega, by go_num, by rw [HQ.out], hbm9⟩
                  case measure => simp [intOf]; omega
              · have hme : m = M'.length := by omega
                have HH := Lib.hid (show heldBy (M'.take m) y = heldBy M' y from by rw [hme, List.take_length])
                clear hme
                have hgdr : gd < wr.heap.size := Nat.lt_of_lt_of_le hgd hb7m.size
                have HIS := Lib.hid (is_eq (M := M') HRD.out dur k hltk)
                have hF63 := HI.out.2.2
                have HCF7 := Lib.hid (show ∀ i, i < (freeF M' D' dur).length → ∃ g, Af = some ⟨g, 0, none⟩ ∧ g < wr.heap.size ∧ wr.cell? ⟨g, i, none⟩ = some (.int .i64 ((freeF M' D' dur).getD i 0)) from fun i hi => by
                  obtain ⟨g, e, hg, hcell⟩ := HCF.out i hi
                  exact ⟨g, e, Nat.lt_of_lt_of_le hg hb7m.size, (hb7m.cell (p := ⟨g, i, none⟩) hg).trans hcell⟩)
                go_upto_region 21 with fail
                go_cut [16] (fun s16 wx => s16 = .bool (freeQ M' D' dur y) ∧ Below wr.heap.size wr wx)
                case first =>
                  by_cases hcl : c < (freeF M' D' dur).length
                  · obtain ⟨gf, rfl, hgf, hfc⟩ := HCF7.out c hcl
                    have HIS2 := Lib.hid (show decide ((freeF M' D' dur).getD c 0 = y.1) = freeQ M' D' dur y from by
                      have := HIS.out
                      rw [← hc.out, decide_eq_true hcl, ← HY.out] at this
                      exact this)
                    generalize (freeF M' D' dur).getD c 0 = fv at hfc HIS2
                    have hcl' : decide ((c : Int) < ((freeF M' D' dur).length : Int)) = true := decide_eq_true (by omega)
                    have hcl2 : decide (c < (freeF M' D' dur).length) = true := decide_eq_true hcl
                    have hi0 : (0 : Int) ≤ (c : Int) := by omega
                    have hi1 : (c : Int) < ((freeF M' D' dur).length : Int) := by omega
                    have hk0 : (0 : Int) ≤ (k : Int) := by omega
                    have hk1 : (k : Int) < (D'.length : Int) := by omega
                    by_cases hfy : fv = y.1
                    · have hb1 : (fv == y.1) = true := by simp [hfy]
                      have hq := Lib.hid (show freeQ M' D' dur y = true from by rw [← HIS2.out, decide_eq_true hfy])
                      clear hfy
                      go_quiet (fail)
                      go_wp2_with fail
                      go_meet
                      exact ⟨by rw [hq.out], ⟨rfl, rfl, rfl, Nat.le_refl _, fun _ _ => rfl⟩⟩
                    · have hb1 : (fv == y.1) = false := by simp [hfy]
                      have hq := Lib.hid (show freeQ M' D' dur y = false from by rw [← HIS2.out, decide_eq_false hfy])
                      clear hfy
                      go_quiet (fail)
                      go_wp2_with fail
                      go_meet
                      exact ⟨by rw [hq.out], ⟨rfl, rfl, rfl, Nat.le_refl _, fun _ _ => rfl⟩⟩
                  · have hq := Lib.hid (show freeQ M' D' dur y = false from by
                      have := HIS.out
                      rw [← hc.out, decide_eq_false hcl, ← HY.out] at this
                      exact this.symm)
                    have hcl' : decide ((c : Int) < ((freeF M' D' dur).length : Int)) = false := decide_eq_false (by omega)
                    have hcl2 : decide (c < (freeF M' D' dur).length) = false := decide_eq_false (by omega)
                    go_quiet (fail)
                    go_wp2_with fail
                    go_meet
                    exact ⟨by rw [hq.out], ⟨rfl, rfl, rfl, Nat.le_refl _, fun _ _ => rfl⟩⟩
                case rest =>
                  obtain ⟨rfl, hbx⟩ := hcut
                  have hP := (h7.below hb7m).below hbx
                  have hz1 := (hbx.cell (p := ⟨gd, k * 2, none⟩) hgdr).trans hy1'
                  have hz2 := (hbx.cell (p := ⟨gd, k * 2 + 1, none⟩) hgdr).trans hy2'
                  have hgx : gd < wc.heap.size := Nat.lt_of_lt_of_le hgdr hbx.size
                  have hb7x := hb7m.trans (hbx.mono hb7m.size)
                  have HCX := Lib.hid (count_succ (freeQ M' D' dur) D' k hltk)
                  have HFQ := Lib.hid (freeQ_mem (M := M') HRD.out dur HYM.out)
                  have HRK := Lib.hid (show ∀ h : 0 < k, D'[k - 1].1 < y.1 ∧ wc.cell? ⟨gd, (k - 1) * 2, none⟩ = some (.int .i64 D'[k - 1].1) from fun h => by
                    obtain ⟨g, e, _, hcell, _⟩ := HCD.out (k - 1) (by omega)
                    cases e
                    refine ⟨by rw [HY.out]; exact rising_lt HRD.out (by omega) hltk, (hb7x.cell (p := ⟨gd, (k - 1) * 2, none⟩) hgd).trans ?_⟩
                    rw [hcell]
                    simp [List.getD_eq_getElem?_getD, show k - 1 < D'.length from by omega])
                  have hk63 : (k : Int) ≤ 9223372036854775806 := by omega
                  clear hy1' hy2' hbx HIS
                  have hk0 : (0 : Int) ≤ (k : Int) := by omega
                  have hk1 : (k : Int) < (D'.length : Int) := by omega
                  cases hq : freeQ M' D' dur y
                  · cases hbool : heldBy M' y
                    · have hdu : dur < y.2 := by
                        have := HFQ.out
                        rw [hq, hbool] at this
                        by_cases hle : y.2 ≤ dur
                        · rw [decide_eq_true hle] at this; simp at this
                        · omega
                      rw [HH.out, hbool]
                      have hH2 := Lib.hid hbool
                      clear hbool
                      have HCn := Lib.hid (show c = ((D'.take (k + 1)).filter (freeQ M' D' dur)).length from by rw [HCX.out, ← hc.out, ← HY.out, hq]; rfl)
                      have hd1 : decide (y.2 ≤ dur) = false := decide_eq_false (by omega)
                      by_cases hk0' : 0 < k
                      · have hr1 := HRK.out hk0'
                        generalize D'[k - 1].1 = z at hr1
                        obtain ⟨hr1, hr2⟩ := hr1
                        have hd2 : decide (0 < (k : Int)) = true := decide_eq_true (by omega)
                        have hd2' : decide (0 < k) = true := decide_eq_true hk0'
                        have hd3 : decide (y.1 ≤ z) = false := decide_eq_false (by omega)
                        have hk2 : (0 : Int) ≤ (k : Int) - 1 := by omega
                        have hk3 : (k : Int) - 1 < (D'.length : Int) := by omega
                        have hk4 : ((k : Int) - 1).toNat = k - 1 := by omega
                        have hk5 : IntKind.i64.wrap ((k : Int) - 1) = (k : Int) - 1 := IntWalk.i64_in _ (by omega)
                        clear hr1 hdu
                        go_upto_region 24 with fail
                        go_quiet (fail)
                        go_wp2_with fail
                        go_roundw
                        case rel => exact ⟨k + 1, c, by omega, by go_num, by go_num, HCn, hb7x.trans ⟨rfl, rfl, rfl, Nat.le_refl _, fun _ _ => rfl⟩⟩
                        case measure => simp [intOf]; omega
                      · have hd2 : decide (0 < (k : Int)) = false := decide_eq_false (by omega)
                        have hd2' : decide (0 < k) = false := decide_eq_false hk0'
                        clear hdu
                        go_upto_region 24 with fail
                        go_quiet (fail)
                        go_wp2_with fail
                        go_roundw
                        case rel => exact ⟨k + 1, c, by omega, by go_num, by go_num, HCn, hb7x.trans ⟨rfl, rfl, rfl, Nat.le_refl _, fun _ _ => rfl⟩⟩
                        case measure => simp [intOf]; omega
                    · have HD1 := Lib.hid (done_held HRD.out HYM.out hbool)
                      rw [HH.out, hbool]
                      have hH2 := Lib.hid hbool
                      clear hbool
                      have HCn := Lib.hid (show c = ((D'.take (k + 1)).filter (freeQ M' D' dur)).length from by rw [HCX.out, ← hc.out, ← HY.out, hq]; rfl)
                      have HC17 := Lib.hid (show ∀ W b, Below wc.heap.size wc W → RdI W (some ⟨b, 0, none⟩) [y.1] → Calls Try.prog 17 #[.pointer (some ⟨p, 0, none⟩), .slice (some ⟨b, 0, none⟩) 1 1] W fun e w' => e = .returned (.int .i64 37) ∧ Below W.heap.size W w' from fun W b hbW hr => by
                        refine (done_full p bm bd M' D' (some ⟨b, 0, none⟩) 1 [y.1] _ (hP.below hbW) hr (by simp) (by simp) (fun x hx => ?_) HZ.out.1).mono ?_
                        · rw [List.mem_singleton.1 hx]
                          exact DMap.key_wf h7.d y HYM.out
                        · rintro e w' ⟨rfl, _, _, hb⟩
                          rw [HD1.out] at hb ⊢
                          exact ⟨rfl, hb (by show (37 : Int) ≠ 0; decide)⟩)
                      by_cases hk0' : 0 < k
                      · have hr1 := HRK.out hk0'
                        generalize D'[k - 1].1 = z at hr1
                        obtain ⟨hr1, hr2⟩ := hr1
                        go_upto_region 24 with fail
                        go_cut [156] (fun s wx => s = .bool false ∧ Below wc.heap.size wc wx)
                        case first =>
                          rename_i J9 K9 hJ9 hM9
                          refine safe24P _ _ p gd D'.length cd dur y.1 z k wc hltk hD63 hgx hz1 hk0' hr2 hr1 HC17.out _ _ _ _ _ _ _ _ _ _ _ _ _ _ _ _ _ _ _ _ _ _ _ _ _ _ _ _ _ _ _ _ _ _ _ _ _ _ _ _ _ _ _ _ _ _ _ _ _ _ _ _ _ _ _ _ _ _ _ _ _ _ _ _ _ _ _ _ _ _ _ _ _ _ _ _ _ _ _ _ _ _ _ _ _ _ _ _ _ _ _ _ _ _ _ _ _ _ _ _ _ _ _ _ _ _ _ _ _ _ _ _ _ _ _ _ _ _ _ _ _ _ _ _ _ _ _ _ _ _ _ _ _ _ _ _ _ _ _ _ _ _ _ _ _ _ _ _ _ _ _ _ _ _ _ _ ?_
                          intro w9 _ _ _ _ _ _ _ _ _ _ _ _ _ _ _ _ _ _ _ _ _ _ _ _ _ _ _ _ _ _ _ _ _ _ _ _ _ _ _ _ _ _ _ _ hb9
                          dsimp only
                          refine hM9 _ _ ?_
                          go_meet
                          exact ⟨rfl, hb9⟩
                        case rest =>
                          obtain ⟨rfl, hb9⟩ := hcut
                          go_wp2_with fail
                          go_roundw
                          case rel => exact ⟨k + 1, c, by omega, by go_num, by go_num, HCn, hb7x.trans (hb9.mono hb7x.size)⟩
                          case measure => simp [intOf]; omega
                      · have hn0 : (0 : Int) ≤ (k : Int) := by omega
                        go_upto_region 24 with fail
                        go_cut [156] (fun s wx => s = .bool false ∧ Below wc.heap.size wc wx)
                        case first =>
                          rename_i J9 K9 hJ9 hM9
                          refine safe24Z _ _ p gd D'.length cd dur y.1 k wc hltk hD63 hgx hz1 hk0' HC17.out _ _ _ _ _ _ _ _ _ _ _ _ _ _ _ _ _ _ _ _ _ _ _ _ _ _ _ _ _ _ _ _ _ _ _ _ _ _ _ _ _ _ _ _ _ _ _ _ _ _ _ _ _ _ _ _ _ _ _ _ _ _ _ _ _ _ _ _ _ _ _ _ _ _ _ _ _ _ _ _ _ _ _ _ _ _ _ _ _ _ _ _ _ _ _ _ _ _ _ _ _ _ _ _ _ _ _ _ _ _ _ _ _ _ _ _ _ _ _ _ _ _ _ _ _ _ _ _ _ _ _ _ _ _ _ _ _ _ _ _ _ _ _ _ _ _ _ _ _ _ _ _ _ _ _ _ ?_
                          intro w9 _ _ _ _ _ _ _ _ _ _ _ _ _ _ _ _ _ _ _ _ _ _ _ _ _ _ _ _ _ _ _ _ _ _ _ _ _ _ _ _ _ _ _ _ hb9
                          dsimp only
                          refine hM9 _ _ ?_
                          go_meet
                          exact ⟨rfl, hb9⟩
                        case rest =>
                          obtain ⟨rfl, hb9⟩ := hcut
                          go_wp2_with fail
                          go_roundw
                          case rel => exact ⟨k + 1, c, by omega, by go_num, by go_num, HCn, hb7x.trans (hb9.mono hb7x.size)⟩
                          case measure => simp [intOf]; omega
                  · have h12 := HFQ.out
                    rw [hq] at h12
                    have h1 := (Bool.and_eq_true _ _ ▸ h12.symm : _ ∧ _)
                    have hbool : heldBy M' y = false := by have := h1.2; simpa using this
                    have hdu : y.2 ≤ dur := of_decide_eq_true h1.1
                    rw [HH.out, hbool]
                    clear h12 h1
                    have hH2 := Lib.hid hbool
                    clear hbool
                    have HCn := Lib.hid (show c + 1 = ((D'.take (k + 1)).filter (freeQ M' D' dur)).length from by rw [HCX.out, ← hc.out, ← HY.out, hq]; rfl)
                    have hd1 : decide (y.2 ≤ dur) = true := decide_eq_true hdu
                    by_cases hk0' : 0 < k
                    · have hr1 := HRK.out hk0'
                      generalize D'[k - 1].1 = z at hr1
                      obtain ⟨hr1, hr2⟩ := hr1
                      have hd2 : decide (0 < (k : Int)) = true := decide_eq_true (by omega)
                      have hd2' : decide (0 < k) = true := decide_eq_true hk0'
                      have hd3 : decide (y.1 ≤ z) = false := decide_eq_false (by omega)
                      have hk2 : (0 : Int) ≤ (k : Int) - 1 := by omega
                      have hk3 : (k : Int) - 1 < (D'.length : Int) := by omega
                      have hk4 : ((k : Int) - 1).toNat = k - 1 := by omega
                      have hk5 : IntKind.i64.wrap ((k : Int) - 1) = (k : Int) - 1 := IntWalk.i64_in _ (by omega)
                      clear hr1 hdu
                      go_upto_region 24 with fail
                      go_quiet (fail)
                      go_wp2_with fail
                      go_roundw
                      case rel => exact ⟨k + 1, c + 1, by omega, by go_num, by go_num, HCn, hb7x.trans ⟨rfl, rfl, rfl, Nat.le_refl _, fun _ _ => rfl⟩⟩
                      case measure => simp [intOf]; omega
                    · have hd2 : decide (0 < (k : Int)) = false := decide_eq_false (by omega)
                      have hd2' : decide (0 < k) = false := decide_eq_false hk0'
                      clear hdu
                      go_upto_region 24 with fail
                      go_quiet (fail)
                      go_wp2_with fail
                      go_roundw
                      case rel => exact ⟨k + 1, c + 1, by omega, by go_num, by go_num, HCn, hb7x.trans ⟨rfl, rfl, rfl, Nat.le_refl _, fun _ _ => rfl⟩⟩
                      case measure => simp [intOf]; omega
          · have hke : k = D'.length := by omega
            have HE := Lib.hid (show c = (freeF M' D' dur).length from by
              have := hc.out
              rw [hke, List.take_length] at this
              rw [this, freeF, List.length_map])
            have hFe : (freeF M' D' dur).length = c := HE.out.symm
            clear hke hc
            go_wp2_with fail
            go_roundw
            case rel => exact ⟨j + 1, M', D', by omega, by go_num, h7.below hbk, HSZ.out.1, HSZ.out.2, hb8.trans (hbk.mono hb8.size)⟩
            case measure => simp [intOf]; omega
      · go_wp2_with fail
        refine (awake_any _).mono ?_
        rintro e w3 ⟨rfl, hb4⟩
        go_wp2_with fail
        go_ret
        exact ⟨rfl, hb.trans (hb4.mono hb.size)⟩

end Go.Proofs.Ytjggeodnoigkkaa
