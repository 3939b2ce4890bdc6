/-
  Package pins: Done.
-/
import Derived.Test.YtjggeodnoigkkaaG
namespace Go.Proofs.Ytjggeodnoigkkaa
open Go.RowKit Go.Maps Go.Shelf Go.Proofs.YtjggeodnoigkkaaM

set_option maxRecDepth 100000 in
set_option maxHeartbeats 1000000 in
theorem index_any (A : Option Addr) (n cap : Nat) (l : List Int) (v : Int) (w : World) (hn : l.length = n) (hl : RdI w A l) (hlen : n ≤ 9223372036854775807) :
    Calls Try.prog 67 #[.slice A n cap, .int .i64 v] w fun e w' => (∃ r : Int, e = .returned (.int .i64 r) ∧ decide (0 ≤ r) = l.any fun x => decide (x = v)) ∧ Below w.heap.size w w' := by
  subst hn
  have HL := Lib.hid hl
  have H63 := Lib.hid hlen
  clear hl hlen
  go_enter Try.func67, Try.ntmps67
  go_wp2_with fail
  go_loopw [5, 8] (fun _ i wr => ∃ k : Nat, k ≤ l.length ∧ i = .int .i64 k ∧ Hid (((l.take k).any fun x => decide (x = v)) = false) ∧ Below w.heap.size w wr) (fun _ i _ => l.length - (intOf i).toNat)
  case atStart => exact ⟨0, Nat.zero_le _, rfl, Lib.hid rfl, Below.refl _ _⟩
  case round =>
    obtain ⟨k, hk, rfl, hno, hbk⟩ := hrel
    have h63 := H63.out
    by_cases hlt : k < l.length
    · obtain ⟨ad, rfl, hb0, hc0⟩ := (HL.out.below hbk) k hlt
      obtain ⟨y, hy⟩ : ∃ y, y = l[k] := ⟨_, rfl⟩
      have e : l.getD k 0 = y := by simp [hy, List.getD_eq_getElem?_getD, hlt]
      rw [e] at hc0
      have HY := Lib.hid hy
      have HA := Lib.hid (any_take_succ (fun x => decide (x = v)) l k hlt)
      clear hy e
      by_cases hv : v = y
      · have hvb : (v == y) = true := by simp [hv]
        have Hv := Lib.hid hv
        clear hv
        go_wp2_with fail
        go_ret
        refine ⟨⟨k, rfl, ?_⟩, hbk⟩
        have e1 : (l.any fun x => decide (x = v)) = true := List.any_eq_true.2 ⟨y, by rw [HY.out]; exact List.getElem_mem _, by simp [Hv.out]⟩
        rw [e1]
        simp
      · have hvb : (v == y) = false := by simp [hv]
        have Hv := Lib.hid hv
        clear hv
        go_wp2_with fail
        go_roundw
        case rel => exact ⟨k + 1, by omega, by go_num, Lib.hid (by rw [HA.out, hno.out, ← HY.out]; simpa using fun h => Hv.out h.symm), hbk⟩
        case measure => simp [intOf]; omega
    · have hke : k = l.length := by omega
      have Hke := Lib.hid hke
      clear hke
      go_wp2_with fail
      go_ret
      refine ⟨⟨-1, rfl, ?_⟩, hbk⟩
      have := hno.out
      rw [Hke.out, List.take_length] at this
      rw [this]
      rfl

set_option maxHeartbeats 400000 in
theorem contains_any (A : Option Addr) (n cap : Nat) (l : List Int) (v : Int) (w : World) (hn : l.length = n) (hl : RdI w A l) (hlen : n ≤ 9223372036854775807) :
    Calls Try.prog 37 #[.slice A n cap, .int .i64 v] w fun e w' => e = .returned (.bool (l.any fun x => decide (x = v))) ∧ Below w.heap.size w w' := by
  have HC := Lib.hid (index_any A n cap l v w hn hl hlen)
  clear hl hn
  go_enter Try.func37, Try.ntmps37
  go_wp2_with fail
  refine HC.out.mono ?_
  rintro e w1 ⟨⟨r, rfl, hr⟩, hb⟩
  have Hr := Lib.hid hr
  clear hr
  go_wp2_with fail
  go_ret
  exact ⟨by rw [← Hr.out]; rfl, hb⟩

def doneErr (M : PM) (D : DM) (pre : List Int) (x : Int) : Int :=
  if hasM D x = false then 15 else if (holdsF M D x).length > 0 then 37 else if (pre.any fun y => decide (y = x)) = true then 1 else 0
def doneGo (M : PM) (D : DM) : List Int → List Int → Int
  | _, [] => 0
  | pre, x :: r => if doneErr M D pre x = 0 then doneGo M D (pre ++ [x]) r else doneErr M D pre x
def delAll (D : DM) (l : List Int) : DM := l.foldl delM D
def doneF (M : PM) (D : DM) (l : List Int) : Int × DM := if doneGo M D [] l = 0 then (0, delAll D l) else (doneGo M D [] l, D)

theorem doneGo_step (M : PM) (D : DM) (l : List Int) (k : Nat) (h : k < l.length) :
    doneGo M D (l.take k) (l.drop k) = if doneErr M D (l.take k) l[k] = 0 then doneGo M D (l.take (k + 1)) (l.drop (k + 1)) else doneErr M D (l.take k) l[k] := by
  rw [List.drop_eq_getElem_cons h, doneGo, List.take_succ_eq_append_getElem h]
theorem delAll_succ (D : DM) (l : List Int) (k : Nat) (h : k < l.length) : delAll D (l.take (k + 1)) = delM (delAll D (l.take k)) l[k] := by
  unfold delAll
  rw [List.take_succ_eq_append_getElem h, List.foldl_append]
  rfl

set_option maxRecDepth 100000 in
set_option maxHeartbeats 2000000 in
theorem done_full (p bm bd : Nat) (M : PM) (D : DM) (A : Option Addr) (cap : Nat) (l : List Int) (w : World) (h : IsPins w p bm bd M D) (hl : RdI w A l) (hlen : l.length ≤ 8796093022208) (hcap : l.length ≤ cap) (hwf : ∀ x ∈ l, (Lit.int .i64 x).wf = true) (hszM : M.length * 16 ≤ 140737488355328) :
    Calls Try.prog 17 #[.pointer (some ⟨p, 0, none⟩), .slice A l.length cap] w fun e w' => e = .returned (.int .i64 (doneF M D l).1) ∧ IsPins w' p bm bd M (doneF M D l).2 ∧ w.grownBy w' (some bd) ∧ ((doneF M D l).1 ≠ 0 → Below w.heap.size w w') := by
  have HL := Lib.hid hl
  have H63 := Lib.hid (show l.length ≤ 9223372036854775807 from by omega)
  have Hcap := Lib.hid hcap
  have Hwf := Lib.hid hwf
  have HszM := Lib.hid hszM
  clear hl hlen hcap hwf hszM
  go_enter Try.func17, Try.ntmps17
  go_wp2_with fail
  go_loopw [5, 6, 13] (fun _ _ i wr => ∃ k : Nat, k ≤ l.length ∧ i = .int .i64 k ∧ Hid (doneGo M D [] l = doneGo M D (l.take k) (l.drop k)) ∧ Below w.heap.size w wr) (fun _ _ i _ => l.length - (intOf i).toNat)
  case atStart => exact ⟨0, Nat.zero_le _, rfl, Lib.hid rfl, Below.refl _ _⟩
  case round =>
    obtain ⟨k, hk, rfl, hgo, hbk⟩ := hrel
    have h63 := H63.out
    have hkc : k ≤ cap := Nat.le_trans hk Hcap.out
    by_cases hlt : k < l.length
    · obtain ⟨ad, rfl, hb0, hc0⟩ := (HL.out.below hbk) k hlt
      obtain ⟨y, hy⟩ : ∃ y, y = l[k] := ⟨_, rfl⟩
      have e : l.getD k 0 = y := by simp [hy, List.getD_eq_getElem?_getD, hlt]
      rw [e] at hc0
      have hwy := Hwf.out y (by rw [hy]; exact List.getElem_mem _)
      have hst := doneGo_step M D l k hlt
      rw [← hy, ← hgo.out] at hst
      have HST := Lib.hid hst
      have h1 := h.below hbk
      clear hy e hst hgo
      cases hh : hasM D y
      · have hf := Lib.hid (show doneF M D l = (15, D) from by
          have e : doneErr M D (l.take k) y = 15 := by rw [doneErr, if_pos hh]
          have := HST.out
          rw [e] at this
          rw [doneF, this]
          rfl)
        have hcp := h1.c1
        go_wp2_with fail
        refine (has_i bd D y _ h1.d hwy).mono ?_
        rintro e w2 ⟨rfl, hb2⟩
        go_wp2_with fail
        go_ret
        rw [hf.out]
        have hb3 := hbk.trans (hb2.mono hbk.size)
        exact ⟨rfl, h.below hb3, gb hb3 _, fun _ => hb3⟩
      · by_cases hH : (holdsF M D y).length > 0
        · have hf := Lib.hid (show doneF M D l = (37, D) from by
            have e : doneErr M D (l.take k) y = 37 := by rw [doneErr, if_neg (by simp [hh]), if_pos hH]
            have := HST.out
            rw [e] at this
            rw [doneF, this]
            rfl)
          have hcp := h1.c1
          go_wp2_with fail
          refine (has_i bd D y _ h1.d hwy).mono ?_
          rintro e w2 ⟨rfl, hb2⟩
          have h2 := h1.below hb2
          go_wp2_with fail
          refine (holds_any _ _ _ _ _ _ _ h2 HszM.out hwy).mono ?_
          rintro e w3 ⟨v3, rfl, hv3, hb3⟩
          obtain ⟨A3, cap3, rfl, _⟩ := hv3.shape
          go_wp2_with fail
          go_ret
          rw [hf.out]
          have hb4 := (hbk.trans (hb2.mono hbk.size)).trans (hb3.mono (Nat.le_trans hbk.size hb2.size))
          exact ⟨rfl, h.below hb4, gb hb4 _, fun _ => hb4⟩
        · cases hd : (l.take k).any fun z => decide (z = y)
          · have e : doneErr M D (l.take k) y = 0 := by rw [doneErr, if_neg (by simp [hh]), if_neg hH, if_neg (by simp [hd])]
            have hnx := HST.out
            rw [e, if_pos rfl] at hnx
            have HNX := Lib.hid hnx
            have Hd := Lib.hid hd
            clear e hnx hd
            have hcp := h1.c1
            go_wp2_with fail
            refine (has_i bd D y _ h1.d hwy).mono ?_
            rintro e w2 ⟨rfl, hb2⟩
            have h2 := h1.below hb2
            go_wp2_with fail
            refine (holds_any _ _ _ _ _ _ _ h2 HszM.out hwy).mono ?_
            rintro e w3 ⟨v3, rfl, hv3, hb3⟩
            obtain ⟨A3, cap3, rfl, _⟩ := hv3.shape
            have hb4 := (hbk.trans (hb2.mono hbk.size)).trans (hb3.mono (Nat.le_trans hbk.size hb2.size))
            go_wp2_with fail
            refine (contains_any (some ad) k cap (l.take k) y _ (by rw [List.length_take]; omega) ((HL.out.below hb4).take k) (by omega)).mono ?_
            rintro e w4 ⟨rfl, hb5⟩
            rw [Hd.out]
            go_wp2_with fail
            go_roundw
            case rel => exact ⟨k + 1, by omega, by go_num, HNX, hb4.trans (hb5.mono hb4.size)⟩
            case measure => simp [intOf]; omega
          · have hf := Lib.hid (show doneF M D l = (1, D) from by
              have e : doneErr M D (l.take k) y = 1 := by rw [doneErr, if_neg (by simp [hh]), if_neg hH, if_pos hd]
              have := HST.out
              rw [e] at this
              rw [doneF, this]
              rfl)
            have Hd := Lib.hid hd
            clear hd
            have hcp := h1.c1
            go_wp2_with fail
            refine (has_i bd D y _ h1.d hwy).mono ?_
            rintro e w2 ⟨rfl, hb2⟩
            have h2 := h1.below hb2
            go_wp2_with fail
            refine (holds_any _ _ _ _ _ _ _ h2 HszM.out hwy).mono ?_
            rintro e w3 ⟨v3, rfl, hv3, hb3⟩
            obtain ⟨A3, cap3, rfl, _⟩ := hv3.shape
            have hb4 := (hbk.trans (hb2.mono hbk.size)).trans (hb3.mono (Nat.le_trans hbk.size hb2.size))
            go_wp2_with fail
            refine (contains_any (some ad) k cap (l.take k) y _ (by rw [List.length_take]; omega) ((HL.out.below hb4).take k) (by omega)).mono ?_
            rintro e w4 ⟨rfl, hb5⟩
            rw [Hd.out]
            go_wp2_with fail
            go_ret
            rw [hf.out]
            have hb6 := hb4.trans (hb5.mono hb4.size)
            exact ⟨rfl, h.below hb6, gb hb6 _, fun _ => hb6⟩
    · have hke : k = l.length := by omega
      have hf := Lib.hid (show doneF M D l = (0, delAll D l) from by
        have := hgo.out
        rw [hke, List.drop_length] at this
        have e : doneGo M D [] l = 0 := this.trans (by rw [doneGo])
        rw [doneF, if_pos e])
      have h2 := h.below hbk
      have HL2 := Lib.hid (HL.out.below hbk)
      have Hg2 := Lib.hid hbk
      clear hke hgo HL
      go_wp2_with fail
      obtain ⟨w2, rfl⟩ : ∃ x : World, x = wr := ⟨_, rfl⟩
      clear hbk
      go_loopw [8, 42] (fun _ i wq => ∃ k : Nat, k ≤ l.length ∧ i = .int .i64 k ∧ IsPins wq p bm bd M (delAll D (l.take k)) ∧ w2.grownBy wq (some bd)) (fun _ i _ => l.length - (intOf i).toNat)
      case atStart => exact ⟨0, Nat.zero_le _, rfl, h2, gb_refl _ _⟩
      case round =>
        obtain ⟨i, hi, rfl, hp, hg⟩ := hrel
        have h63 := H63.out
        by_cases hli : i < l.length
        · obtain ⟨ad, rfl, hb0, hc0⟩ := (HL2.out.kept h2.d hg) i hli
          obtain ⟨y, hy⟩ : ∃ y, y = l[i] := ⟨_, rfl⟩
          have e : l.getD i 0 = y := by simp [hy, List.getD_eq_getElem?_getD, hli]
          rw [e] at hc0
          have hkey := keyOf_int_mk Try.underlying3 (Hwf.out y (by rw [hy]; exact List.getElem_mem _))
          have HP := Lib.hid (delAll_succ D l i hli)
          have HY := Lib.hid hy
          have hcp := hp.c1
          clear hy e
          go_wp2_with (at_delete; refine wl_delete _ rfl _ _ 74 3 rfl 3 (int_keyed Try.underlying3) Try.underlying74 intC bd _ rfl hp.d y _ rfl hkey ?_; intro w4 hm4 ht4)
          go_roundw
          case rel =>
            refine ⟨i + 1, by omega, by go_num, ?_, hg.trans ht4.grown⟩
            rw [HP.out, ← HY.out]
            exact hp.grown_d hm4 ht4.grown
          case measure => simp [intOf]; omega
        · have hie : i = l.length := by omega
          have Hie := Lib.hid hie
          clear hie
          go_wp2_with fail
          go_ret
          rw [hf.out]
          rw [Hie.out, List.take_length] at hp
          exact ⟨rfl, hp, (gb Hg2.out _).trans hg, fun h => absurd rfl h⟩

theorem done_any (p bm bd : Nat) (M : PM) (D : DM) (A : Option Addr) (cap : Nat) (l : List Int) (w : World) (h : IsPins w p bm bd M D) (hl : RdI w A l) (hlen : l.length ≤ 8796093022208) (hcap : l.length ≤ cap) (hwf : ∀ x ∈ l, (Lit.int .i64 x).wf = true) (hszM : M.length * 16 ≤ 140737488355328) :
    Calls Try.prog 17 #[.pointer (some ⟨p, 0, none⟩), .slice A l.length cap] w fun e w' => e = .returned (.int .i64 (doneF M D l).1) ∧ IsPins w' p bm bd M (doneF M D l).2 ∧ w.grownBy w' (some bd) :=
  (done_full p bm bd M D A cap l w h hl hlen hcap hwf hszM).mono fun _ _ ⟨a, b, c, _⟩ => ⟨a, b, c⟩

end Go.Proofs.Ytjggeodnoigkkaa
