/-
  PinsBack: the walk.
-/
import Derived.Test.YtjggeodnoigkkaaCI
import Derived.Test.YtjggeodnoigkkaaCJ
import Derived.Test.YtjggeodnoigkkaaN
namespace Go.Proofs.Ytjggeodnoigkkaa
open Go.RowKit Go.Maps Go.Shelf Go.Proofs.YtjggeodnoigkkaaM

theorem flat_le {α : Type} (f : α → Bs) (c : Nat) : ∀ l : List α, (∀ x ∈ l, (f x).length ≤ c) → (l.flatMap f).length ≤ c * l.length
  | [], _ => by simp
  | x :: l, h => by
    have h1 := h x (by simp)
    have h2 := flat_le f c l fun y hy => h y (List.mem_cons_of_mem _ hy)
    rw [List.flatMap_cons, List.length_append, List.length_cons, Nat.mul_add]
    omega
theorem flat_ge {α : Type} (f : α → Bs) (h : ∀ x, 1 ≤ (f x).length) : ∀ l : List α, l.length ≤ (l.flatMap f).length
  | [] => by simp
  | x :: l => by
    have h1 := h x
    have h2 := flat_ge f h l
    rw [List.flatMap_cons, List.length_append, List.length_cons]
    omega
theorem pinX_len (x : Bs × (Int × Bs)) : (pinX x).length = x.1.length + x.2.2.length + 10 := by
  simp only [pinX, shortB, List.length_append, List.length_cons, eightB_len]
  omega
theorem dropX_len (x : Int × Int) : (dropX x).length = 16 := by simp [dropX, eightB_len]
theorem Made.enc_le {M : PM} {D : DM} (h : Made M D) : (encB M D).length ≤ 16 + 138 * M.length + 16 * D.length := by
  have h1 := flat_le pinX 138 M fun x hx => by
    have h1 := ((rightB_iff _).1 (h.okM x hx).name).2
    have h2 := (h.okM x hx).of_
    rw [pinX_len]
    omega
  have h2 := flat_le dropX 16 D fun x _ => by rw [dropX_len]; omega
  simp only [encB, List.length_append, eightB_len]
  omega
theorem enc_ge (M : PM) (D : DM) : M.length + D.length ≤ (encB M D).length := by
  have h1 := flat_ge pinX (fun x => by rw [pinX_len]; omega) M
  have h2 := flat_ge dropX (fun x => by rw [dropX_len]; omega) D
  simp only [encB, List.length_append]
  omega

set_option maxRecDepth 100000 in
set_option maxHeartbeats 4000000 in
theorem back_walk (A : Option Addr) (cap : Nat) (L : List OpV) (s : Bs) (w : World) (hL : RdOps w A L) (h63 : L.length ≤ maxLen) (hs63 : s.length ≤ 9223372036854775807) :
    Calls Try.prog 8 #[.slice A L.length cap, .string ⟨s.toArray⟩] w fun e w' => e = .returned (.bool true) ∧ Below w.heap.size w w' := by
  have HL := Lib.hid hL
  have H63 := Lib.hid (show L.length ≤ 9223372036854775807 from h63)
  have Hm := Lib.hid h63
  clear hL h63
  go_enter Try.func8, Try.ntmps8
  go_wp2_with fail
  refine (new_any _).mono ?_
  rintro e w1 ⟨p, bm, bd, rfl, h1, hb1, hp, hm, hd⟩
  go_wp2_with fail
  refine (few_any A cap L _ (HL.out.below hb1) Hm.out).mono ?_
  rintro e w2 ⟨rfl, hb2⟩
  have h2 := h1.below hb2
  have hb3 := hb1.trans (hb2.mono hb1.size)
  clear h1 hb1 hb2
  cases hf : fewB L
  · go_wp2_with fail
    refine (awake_any _).mono ?_
    rintro e w3 ⟨rfl, hb4⟩
    go_wp2_with fail
    go_ret
    exact ⟨rfl, hb3.trans (hb4.mono hb3.size)⟩
  · by_cases hs : 2000 < s.length
    · have e1 : decide (2000 < (s.length : Int)) = true := decide_eq_true (by omega)
      have e2 : decide (2000 < s.length) = true := decide_eq_true hs
      clear hs
      go_wp2_with fail
      refine (awake_any _).mono ?_
      rintro e w3 ⟨rfl, hb4⟩
      go_wp2_with fail
      go_ret
      exact ⟨rfl, hb3.trans (hb4.mono hb3.size)⟩
    have e1 : decide (2000 < (s.length : Int)) = false := decide_eq_false (by omega)
    have e2 : decide (2000 < s.length) = false := decide_eq_false hs
    have HS := Lib.hid (show s.length ≤ 2000 by omega)
    have HF := Lib.hid hf
    clear hf hs
    have HB := Lib.hid (show w.heap.size ≤ bm ∧ w.heap.size ≤ bd from ⟨hm, hd⟩)
    clear hm hd hp
    go_wp2_with fail
    clear e1 e2
    go_loopw [6] (fun i wr => ∃ (j : Nat) (M : PM) (D : DM), j ≤ L.length ∧ i = .int .i64 j ∧ IsPins wr p bm bd M D ∧ Hid (Made M D) ∧ M.length ≤ j ∧ D.length ≤ 20 * j ∧ Below w.heap.size w wr) (fun i _ => L.length - (intOf i).toNat)
    case atStart => exact ⟨0, [], [], Nat.zero_le _, rfl, h2, Lib.hid Made.nil, Nat.le_refl _, Nat.le_refl _, hb3⟩
    case round =>
      obtain ⟨j, M, D, hj, rfl, hI, hmade, hMl, hDl, hb⟩ := hrel
      have h63 := H63.out
      by_cases hlt : j < L.length
      · obtain ⟨ad, A4, c4, A5, c5, rfl, hx⟩ := (HL.out.below hb) j hlt
        have HO := Lib.hid (List.all_eq_true.1 (show L.all fewO = true from (Bool.and_eq_true _ _ ▸ HF.out).2) L[j] (List.getElem_mem _))
        generalize L[j] = o at hx HO
        have hlen60 := Lib.hid (show L.length ≤ 60 from of_decide_eq_true (Bool.and_eq_true _ _ ▸ HF.out).1)
        obtain ⟨x0, x1, x2, x3, x4, x5, l4, l5, r4, r5, n1, n2, wf⟩ := hx
        have HX := Lib.hid (show o.drops.length ≤ 20 ∧ o.nums.length ≤ 20 from by
          have := HO.out
          simp only [fewO, Bool.and_eq_true, decide_eq_true_eq] at this
          exact ⟨this.1, this.2.1⟩)
        have HC := Lib.hid (does_any p bm bd M D o A4 c4 A5 c5 wr hI l4 l5 r4 r5 n1 n2 wf (by have := hlen60.out; omega) (by have := hlen60.out; omega) HX.out.1 HX.out.2)
        have HDL := Lib.hid (doesF_len M D o)
        have HMD := Lib.hid (hmade.out.does o)
        clear l4 l5 r4 r5 n1 n2 wf hI hmade
        go_wp2_with fail
        refine HC.out.mono ?_
        rintro e w4 ⟨rfl, h4, ht⟩
        have hb4 := hb.trans (ht _ HB.out.1 HB.out.2 hb.size)
        have HSZ := Lib.hid (show (doesF M D o).2.1.length ≤ j + 1 ∧ (doesF M D o).2.2.length ≤ 20 * (j + 1) from by
          have h1 := HDL.out
          have h2 := HX.out.1
          omega)
        clear HC ht hb hMl hDl HDL
        generalize (doesF M D o).2.1 = M' at h4 HSZ HMD
        generalize (doesF M D o).2.2 = D' at h4 HSZ HMD
        generalize (doesF M D o).1 = er
        clear x0 x1 x2 x3 x4 x5
        go_wp2_with fail
        go_roundw
        case rel => exact ⟨j + 1, M', D', by omega, by go_num, h4, HMD, HSZ.out.1, HSZ.out.2, hb4⟩
        case measure => simp [intOf]; omega
      · have hlen60 : L.length ≤ 60 := of_decide_eq_true (Bool.and_eq_true _ _ ▸ HF.out).1
        have hle := hmade.out.enc_le
        have HEL := Lib.hid (show M.length ≤ 60 ∧ D.length ≤ 1200 ∧ (encB M D).length ≤ 100000 from by omega)
        have HDE := Lib.hid (decF_enc hmade.out (by omega) (by omega))
        clear hle hlen60 hMl hDl hmade
        have hC1 := fun wx p bm bd (h : IsPins wx p bm bd M D) => encode_any p bm bd M D wx h (by have := HEL.out; omega) (by have := HEL.out; omega) (by have := HEL.out; omega)
        have hC2 := fun wx => decode_any (encB M D) wx HEL.out.2.2
        have hDP : ∀ e w w', DecPost (encB M D) w e w' → Below w.heap.size w w' ∧ ∃ p bm bd, e = .returned (.tuple #[.pointer (some ⟨p, 0, none⟩), .int .i64 0]) ∧ IsPins w' p bm bd M D ∧ w.heap.size ≤ bm ∧ w.heap.size ≤ bd := fun e w w' h => by
          obtain ⟨h1, h2⟩ := h
          rw [HDE.out] at h2
          rcases h2 with h2 | h2
          · exact absurd rfl h2.1
          · exact ⟨h1, h2.2⟩
        have HC1 := Lib.hid hC1
        have HC2 := Lib.hid (fun wx => (hC2 wx).mono fun e w' h => hDP e wx w' h)
        clear hC1 hC2 hDP
        obtain ⟨z, hz⟩ : ∃ z : ByteArray, z = ⟨(encB M D).toArray⟩ := ⟨_, rfl⟩
        rw [← hz] at HC1
        rw [← hz] at HC2
        clear hz
        go_wp2_with fail
        refine (HC1.out _ p bm bd hI).mono ?_
        rintro e w4 ⟨rfl, hb4⟩
        have h4 := hI.below hb4
        have hb5 := hb.trans (hb4.mono hb.size)
        clear hI hb4 hb
        go_wp2_with fail
        refine (HC2.out _).mono ?_
        rintro e w5 ⟨hb6, q, cm, cd, rfl, h5, _, _⟩
        have h55 := h4.below hb6
        have hb7 := hb5.trans (hb6.mono hb5.size)
        clear hb5 hb6 h4
        go_wp2_with fail
        refine (HC1.out _ q cm cd h5).mono ?_
        rintro e w6 ⟨rfl, hb8⟩
        have h6 := h5.below hb8
        have h66 := h55.below hb8
        have hb9 := hb7.trans (hb8.mono hb7.size)
        clear hb7 hb8 h5 h55
        go_wp2_with fail
        refine (HC1.out _ p bm bd h66).mono ?_
        rintro e w7 ⟨rfl, hb8⟩
        have h7 := h6.below hb8
        have h77 := h66.below hb8
        have hb10 := hb9.trans (hb8.mono hb9.size)
        clear hb9 hb8 h6 h66
        go_wp2_with fail
        refine (names_any q cm cd M D _ h7 (by have := HEL.out; omega)).mono ?_
        rintro e w8 ⟨v, rfl, hv, hb8⟩
        obtain ⟨A1, k1, rfl, r1⟩ := hv.rd
        have hml : (M.map (·.1)).length = M.length := List.length_map _
        rw [hml]
        clear hml
        have h8 := h7.below hb8
        have h88 := h77.below hb8
        have hb11 := hb10.trans (hb8.mono hb10.size)
        clear hb10 hb8 h7 h77 hv
        go_wp2_with fail
        refine (names_any p bm bd M D _ h88 (by have := HEL.out; omega)).mono ?_
        rintro e w9 ⟨v, rfl, hv, hb8⟩
        obtain ⟨A2, k2, rfl, r2⟩ := hv.rd
        have hml : (M.map (·.1)).length = M.length := List.length_map _
        rw [hml]
        clear hml
        have h9 := h8.below hb8
        have h99 := h88.below hb8
        have HT := Lib.hid (texts_any A1 A2 M.length M.length k1 k2 _ _ w9 (List.length_map _) (List.length_map _) (r1.below hb8) r2 (by have := HEL.out; omega))
        have hb12 := hb11.trans (hb8.mono hb11.size)
        clear hb11 hb8 h8 h88 hv r1 r2
        go_wp2_with fail
        ((with_reducible refine HT.out.mono ?_))
        rintro e w10 ⟨rfl, hb8⟩
        have h10 := h9.below hb8
        have h100 := h99.below hb8
        have hb13 := hb12.trans (hb8.mono hb12.size)
        clear hb12 hb8 h9 h99 HT
        go_wp2_with fail
        refine (free_any q cm cd M D 50 _ h10 (by have := HEL.out; omega) (by have := HEL.out; omega)).mono ?_
        rintro e w11 ⟨v, rfl, hv, hb8⟩
        obtain ⟨A3, k3, rfl, r3⟩ := hv.rd
        have h110 := h100.below hb8
        have hb14 := hb13.trans (hb8.mono hb13.size)
        clear hb13 hb8 h10 h100 hv
        go_wp2_with fail
        refine (free_any p bm bd M D 50 _ h110 (by have := HEL.out; omega) (by have := HEL.out; omega)).mono ?_
        rintro e w12 ⟨v, rfl, hv, hb8⟩
        obtain ⟨A4, k4, rfl, r4⟩ := hv.rd
        have HT := Lib.hid (ints_any A3 A4 _ _ k3 k4 _ _ w12 rfl rfl (r3.below hb8) r4 (by
          have h1 := HEL.out
          have h2 : (freeF M D 50).length ≤ D.length := by
            rw [freeF, List.length_map]
            exact List.length_filter_le _ _
          omega))
        have hb15 := hb14.trans (hb8.mono hb14.size)
        clear hb14 hb8 h110 hv r3 r4
        go_wp2_with fail
        ((with_reducible refine HT.out.mono ?_))
        rintro e w13 ⟨rfl, hb8⟩
        have hb16 := hb15.trans (hb8.mono hb15.size)
        clear hb15 hb8 HT HC1 HC2 HDE HEL
        go_wp2_with fail
        refine (decode_any s _ (by have := HS.out; omega)).mono ?_
        rintro e w14 ⟨hb8, hdec⟩
        have hb17 := hb16.trans (hb8.mono hb16.size)
        clear hb16 hb8
        rcases hdec with ⟨hne, rfl⟩ | ⟨he, r, cm', cd', rfl, hr, _, _⟩
        · generalize (decF s).1 = er at hne
          have e1 : (er == 0) = false := by simpa using hne
          have e2 : (er != 0) = true := by simpa using hne
          clear hne
          go_wp2_with fail
          refine (awake_any _).mono ?_
          rintro e w15 ⟨rfl, hb8⟩
          go_wp2_with fail
          go_ret
          exact ⟨rfl, hb17.trans (hb8.mono hb17.size)⟩
        · have hback := decF_back (s := s) (by have := HS.out; omega) he
          have hge := enc_ge (decF s).2.1 (decF s).2.2
          rw [hback] at hge
          have HC := encode_any r cm' cd' (decF s).2.1 (decF s).2.2 w14 hr (by rw [hback]; have := HS.out; omega) (by have := HS.out; omega) (by have := HS.out; omega)
          rw [hback] at HC
          have HC1 := Lib.hid HC
          clear HC hge hback he hr
          go_wp2_with fail
          refine HC1.out.mono ?_
          rintro e w15 ⟨rfl, hb8⟩
          have hb18 := hb17.trans (hb8.mono hb17.size)
          clear hb17 hb8
          go_wp2_with fail
          refine (awake_any _).mono ?_
          rintro e w16 ⟨rfl, hb8⟩
          go_wp2_with fail
          go_ret
          exact ⟨rfl, hb18.trans (hb8.mono hb18.size)⟩

end Go.Proofs.Ytjggeodnoigkkaa
