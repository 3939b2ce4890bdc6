/-
  Encode: what pins are as bytes, and that the program's Encode answers it.
-/
import Derived.Test.YtjggeodnoigkkaaV
import Derived.Deep.DeepCutAuto
import Derived.Deep.CutBlock
namespace Go.Proofs.Ytjggeodnoigkkaa
open Go.RowKit Go.Maps Go.Shelf Go.Proofs.YtjggeodnoigkkaaM

def pinX (x : Bs × (Int × Bs)) : Bs := shortB x.1 ++ shortB x.2.2 ++ eightB x.2.1
def dropX (x : Int × Int) : Bs := eightB x.1 ++ eightB x.2
def encB (M : PM) (D : DM) : Bs := eightB M.length ++ M.flatMap pinX ++ (eightB D.length ++ D.flatMap dropX)

theorem flat_take {α : Type} (f : α → Bs) (l : List α) (k : Nat) : ((l.take k).flatMap f).length ≤ (l.flatMap f).length := by
  conv => rhs; rw [← List.take_append_drop k l, List.flatMap_append, List.length_append]
  omega
theorem flat_succ {α : Type} (f : α → Bs) (l : List α) (k : Nat) (h : k < l.length) : (l.take (k + 1)).flatMap f = (l.take k).flatMap f ++ f l[k] := by
  rw [List.take_succ_eq_append_getElem h, List.flatMap_append]
  simp

set_option maxRecDepth 100000 in
set_option maxHeartbeats 2000000 in
theorem encode_any (p bm bd : Nat) (M : PM) (D : DM) (w : World) (h : IsPins w p bm bd M D) (hlen : (encB M D).length ≤ 1000000000) (hM : M.length ≤ 1000000) (hD : D.length ≤ 1000000) :
    Calls Try.prog 21 #[.pointer (some ⟨p, 0, none⟩)] w fun e w' => e = .returned (.string ⟨(encB M D).toArray⟩) ∧ Below w.heap.size w w' := by
  have HL := Lib.hid hlen
  clear hlen
  go_enter Try.func21, Try.ntmps21
  go_wp2_with fail
  refine (names_any _ _ _ _ _ _ h (by omega)).mono ?_
  rintro e w1 ⟨v, rfl, hs, hb⟩
  have h1 := h.below hb
  obtain ⟨A, cap, rfl, hcell⟩ := hs.shape
  clear hs
  have hcell' := Lib.hid hcell
  clear hcell
  rw [List.length_map] at hcell' ⊢
  go_wp2_with fail
  refine (eight_any _ _).mono ?_
  rintro e w2 ⟨rfl, hb2⟩
  have h2 := h1.below hb2
  have hm63 := Lib.hid (show M.length ≤ 9223372036854775807 from by omega)
  have hd63 := Lib.hid (show D.length ≤ 1000000 from hD)
  clear hM hD
  go_wp2_with fail
  go_loopw [4, 21] (fun v i wr => ∃ k : Nat, k ≤ M.length ∧ i = .int .i64 k ∧ v = .string ⟨(eightB M.length ++ (M.take k).flatMap pinX).toArray⟩ ∧ Below w2.heap.size w2 wr) (fun _ i _ => M.length - (intOf i).toNat)
  case atStart => exact ⟨0, Nat.zero_le _, rfl, by simp, Below.refl _ _⟩
  case round =>
    obtain ⟨k, hk, rfl, rfl, hbk⟩ := hrel
    have hr := h2.below hbk
    have c0 := hr.c0
    have h63 := hm63.out
    by_cases hlt : k < M.length
    · obtain ⟨g, rfl, hg1, hcx⟩ := hcell'.out k hlt
      obtain ⟨y, hy⟩ : ∃ y, y = M[k] := ⟨_, rfl⟩
      have hcx' : wr.cell? ⟨g, k, none⟩ = some (.string ⟨y.1.toArray⟩) := by
        have e : (M.map (·.1)).getD k [] = y.1 := by simp [hy, List.getD_eq_getElem?_getD, hlt]
        rw [← e]
        exact (hbk.cell (p := ⟨g, k, none⟩) (Nat.lt_of_lt_of_le hg1 hb2.size)).trans ((hb2.cell (p := ⟨g, k, none⟩) hg1).trans hcx)
      have hlk := hr.m.at_mem y (by rw [hy]; exact List.getElem_mem _)
      have HY := Lib.hid hy
      clear hy hcx
      go_upto_region 9 with fail
      have H1 := short_any y.1
      have H2 := short_any y.2.2
      have H3 := eight_any y.2.1
      have HQ := Lib.hid (show eightB M.length ++ (M.take k).flatMap pinX ++ (shortB y.1 ++ shortB y.2.2 ++ eightB y.2.1) = eightB M.length ++ (M.take (k + 1)).flatMap pinX from by rw [flat_succ pinX M k hlt, ← HY.out, List.append_assoc]; rfl)
      have HN := Lib.hid (show (eightB M.length).length + ((M.take k).flatMap pinX).length + (pinX y).length ≤ 1000000000 from by
        have h1 := HL.out
        have h2 := flat_take pinX M (k + 1)
        rw [flat_succ pinX M k hlt, ← HY.out, List.length_append] at h2
        simp only [encB, List.length_append] at h1
        omega)
      have hn1 : (shortB y.1).length = y.1.length + 1 := rfl
      have hn2 : (shortB y.2.2).length = y.2.2.length + 1 := rfl
      have hn3 : (pinX y).length = (shortB y.1).length + (shortB y.2.2).length + (eightB y.2.1).length := by simp only [pinX, List.length_append]
      have hn4 := HN.out
      have hb8 : Below wr.heap.size wr (wr.alloc (.cells #[.int .i64 y.2.1, .string ⟨y.2.2.toArray⟩] 84)) := (Below.refl _ _).alloc (Nat.le_refl _) _
      refine enc9 _ ⟨(eightB M.length ++ (M.take k).flatMap pinX).toArray⟩ ⟨y.1.toArray⟩ ⟨y.2.2.toArray⟩ ⟨(shortB y.1).toArray⟩ ⟨(shortB y.2.2).toArray⟩ ⟨(eightB y.2.1).toArray⟩ y.2.1 wr.heap.size _ (by simp) (by simp) (by simp) (fun W => H1 W (by omega)) (fun W => H2 W (by omega)) (fun W => H3 W) ?_ ?_ ?_ _ _ _ _ _ _ _ _ _ _ _ _ _ _ _ _ _ _ _ _ _ _ _ _ _ _ _ _ _ _ _ _ _ _ _ _ _ _ _ _ _ _ _ _ _ _ _ _ _ _ _ _ _ _ _ _ _ _ _ _ _ _ _ _ _ _ _ ?_
      · show (shortB y.1).length + (shortB y.2.2).length ≤ _
        omega
      · show (shortB y.1).length + (shortB y.2.2).length + (eightB y.2.1).length ≤ _
        omega
      · show (eightB M.length ++ (M.take k).flatMap pinX).length + ((shortB y.1).length + (shortB y.2.2).length + (eightB y.2.1).length) ≤ _
        rw [List.length_append]
        omega
      · rw [cat_bs, cat_bs, cat_bs, HQ.out]
        intro w9 _ _ _ _ _ _ _ _ _ _ _ _ hb9
        clear H1 H2 H3 hn1 hn2 hn3 hn4
        dsimp only [Exit.inBlock, Exit.then]
        go_wp2_with fail
        go_roundw
        case rel => exact ⟨k + 1, by omega, by go_num, rfl, hbk.trans ((hb8.trans (hb9.mono hb8.size)).mono hbk.size)⟩
        case measure => simp [intOf]; omega
    · have hke : k = M.length := by omega
      subst hke
      rw [List.take_length]
      have hb3 := hb.trans ((hb2.trans (hbk.mono hb2.size)).mono hb.size)
      clear hb hb2 hbk h1 h2 hcell'
      go_wp2_with fail
      refine (pending_any _ _ _ _ _ _ hr (by have := hd63.out; omega)).mono ?_
      rintro e w4 ⟨v, rfl, hs, hb4⟩
      obtain ⟨A, cap, rfl, hcell⟩ := hs.shape
      have hcell' := Lib.hid hcell
      clear hcell hs
      go_wp2_with fail
      refine (eight_any _ _).mono ?_
      rintro e w5 ⟨rfl, hb5⟩
      have HP := Lib.hid (show (eightB M.length ++ M.flatMap pinX).length + (eightB D.length).length + (D.flatMap dropX).length ≤ 1000000000 from by
        have h1 := HL.out
        simp only [encB, List.length_append] at h1 ⊢
        omega)
      obtain ⟨z1, hz1⟩ : ∃ z : ByteArray, z = ⟨(eightB M.length ++ M.flatMap pinX).toArray⟩ := ⟨_, rfl⟩
      obtain ⟨z2, hz2⟩ : ∃ z : ByteArray, z = ⟨(eightB D.length).toArray⟩ := ⟨_, rfl⟩
      rw [← hz1, ← hz2]
      have hsz : z1.size + z2.size ≤ 9223372036854775807 := by
        rw [hz1, hz2]
        show (eightB M.length ++ M.flatMap pinX).length + (eightB D.length).length ≤ _
        have := HP.out
        omega
      have HZ := Lib.hid (show z1 ++ z2 = ⟨(eightB M.length ++ M.flatMap pinX ++ eightB D.length).toArray⟩ from by rw [hz1, hz2, cat_bs])
      clear hz1 hz2
      have hr5 := (hr.below hb4).below hb5
      have hdl : D.length ≤ 9223372036854775807 := by have := hd63.out; omega
      go_wp2_with fail
      clear hsz
      go_loopw [4, 55] (fun v i wr => ∃ k : Nat, k ≤ D.length ∧ i = .int .i64 k ∧ v = .string ⟨(eightB M.length ++ M.flatMap pinX ++ eightB D.length ++ (D.take k).flatMap dropX).toArray⟩ ∧ Below w5.heap.size w5 wr) (fun _ i _ => D.length - (intOf i).toNat)
      case atStart => exact ⟨0, Nat.zero_le _, rfl, by rw [HZ.out]; simp, Below.refl _ _⟩
      case round =>
        obtain ⟨k, hk, rfl, rfl, hbk⟩ := hrel
        have h63 : D.length ≤ 9223372036854775807 := hdl
        by_cases hlt : k < D.length
        · obtain ⟨g, rfl, hg1, hcx, hcy⟩ := hcell'.out k hlt
          have hl5 : w4.heap.size ≤ w5.heap.size := hb5.size
          have e0 : D.getD k (0, 0) = D[k] := by simp [List.getD_eq_getElem?_getD, hlt]
          rw [e0] at hcx hcy
          have hx' : ∀ j v, w4.cell? ⟨g, j, none⟩ = some v → wr.cell? ⟨g, j, none⟩ = some v := fun j v hv => (hbk.cell (p := ⟨g, j, none⟩) (Nat.lt_of_lt_of_le hg1 hl5)).trans ((hb5.cell (p := ⟨g, j, none⟩) hg1).trans hv)
          have hcx' := hx' _ _ hcx
          have hcy' := hx' _ _ hcy
          have HF := Lib.hid (flat_succ dropX D k hlt)
          generalize D[k] = y at hcx hcy hcx' hcy' HF e0
          clear hx' hcx hcy e0
          go_upto_region 16 with fail
          have H1 := eight_any y.1
          have H2 := eight_any y.2
          have HQ := Lib.hid (show eightB M.length ++ M.flatMap pinX ++ eightB D.length ++ (D.take k).flatMap dropX ++ (eightB y.1 ++ eightB y.2) = eightB M.length ++ M.flatMap pinX ++ eightB D.length ++ (D.take (k + 1)).flatMap dropX from by rw [HF.out, ← List.append_assoc _ _ (dropX y)]; rfl)
          have hn := HP.out
          have hn2 := flat_take dropX D (k + 1)
          rw [HF.out, List.length_append] at hn2
          have hn3 : (dropX y).length = (eightB y.1).length + (eightB y.2).length := by simp only [dropX, List.length_append]
          have hb8 : Below wr.heap.size wr (wr.alloc (.cells #[.int .i64 y.1, .int .i64 y.2] 40)) := (Below.refl _ _).alloc (Nat.le_refl _) _
          refine enc16 _ ⟨(eightB M.length ++ M.flatMap pinX ++ eightB D.length ++ (D.take k).flatMap dropX).toArray⟩ ⟨(eightB y.1).toArray⟩ ⟨(eightB y.2).toArray⟩ y.1 y.2 wr.heap.size _ (by simp) (by simp) (by simp) (fun W => H1 W) (fun W => H2 W) ?_ ?_ _ _ _ _ _ _ _ _ _ _ _ _ _ _ _ _ _ _ _ _ _ _ _ _ _ _ _ _ _ _ _ _ _ _ _ _ _ _ _ _ _ _ _ _ _ _ _ _ _ _ _ _ _ _ _ _ _ _ _ _ _ _ _ _ _ _ _ _ ?_
          · show (eightB y.1).length + (eightB y.2).length ≤ _
            omega
          · show (eightB M.length ++ M.flatMap pinX ++ eightB D.length ++ (D.take k).flatMap dropX).length + ((eightB y.1).length + (eightB y.2).length) ≤ _
            rw [List.length_append, List.length_append]
            omega
          · rw [cat_bs (eightB y.1) (eightB y.2), cat_bs (eightB M.length ++ M.flatMap pinX ++ eightB D.length ++ (D.take k).flatMap dropX) (eightB y.1 ++ eightB y.2), HQ.out]
            intro w9 _ _ _ _ _ _ _ _ _ hb9
            clear H1 H2 hn hn2 hn3
            dsimp only [Exit.inBlock, Exit.then]
            go_wp2_with fail
            go_roundw
            case rel => exact ⟨k + 1, by omega, by go_num, rfl, hbk.trans ((hb8.trans (hb9.mono hb8.size)).mono hbk.size)⟩
            case measure => simp [intOf]; omega
        · have hke : k = D.length := by omega
          subst hke
          rw [List.take_length]
          go_wp2_with fail
          go_ret
          refine ⟨?_, hb3.trans (((hb4.trans (hb5.mono hb4.size)).trans (hbk.mono (Nat.le_trans hb4.size hb5.size))).mono hb3.size)⟩
          simp only [encB, List.append_assoc]
          rfl

end Go.Proofs.Ytjggeodnoigkkaa
