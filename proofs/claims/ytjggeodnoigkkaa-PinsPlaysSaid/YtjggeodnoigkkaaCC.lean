/-
  What cuts bytes off: text, number, short: each by a contract.
-/
import Derived.Test.YtjggeodnoigkkaaCB
import Derived.Lib.Strings
import Derived.Lib.IndexBytes
import Derived.Lib.HexFns
import Derived.Laws.BitsAllLaws
namespace Go.Proofs.Ytjggeodnoigkkaa
open Go.RowKit Go.Maps Go.Shelf Go.Proofs.YtjggeodnoigkkaaM

/-- WHAT IS LEFT, AT BLOCK c. -/
structure IsCut (w : World) (c : Nat) (x : Cs) : Prop where
  c0 : w.cell? ⟨c, 0, none⟩ = some (.string ⟨x.1.toArray⟩)
  c1 : w.cell? ⟨c, 1, none⟩ = some (.bool x.2)
  f0 : w.frozen? ⟨c, 0, none⟩ = false
  f1 : w.frozen? ⟨c, 1, none⟩ = false
theorem frozen_same {w w' : World} {b o : Nat} (h : w'.heap[b]? = w.heap[b]?) : w'.frozen? ⟨b, o, none⟩ = w.frozen? ⟨b, o, none⟩ := by
  simp [World.frozen?, h]
theorem IsCut.lt {w : World} {c : Nat} {x : Cs} (h : IsCut w c x) : c < w.heap.size := World.block_lt_of_cell? _ _ h.c0
theorem IsCut.kept {w w' : World} {c : Nat} {x : Cs} {row : Option Nat} (h : IsCut w c x) (hg : w.grownBy w' row) (hne : some c ≠ row) : IsCut w' c x :=
  have hb := hg.block c h.lt hne
  ⟨hg.cell h.c0 hne, hg.cell h.c1 hne, (frozen_same hb).trans h.f0, (frozen_same hb).trans h.f1⟩
theorem IsCut.below {w w' : World} {c : Nat} {x : Cs} (h : IsCut w c x) (hb : Below w.heap.size w w') : IsCut w' c x := h.kept (gb hb none) (by simp)

theorem IsCut.put0 {w : World} {c : Nat} {x : Cs} (h : IsCut w c x) (t : Bs) : IsCut (w.setCell ⟨c, 0, none⟩ (.string ⟨t.toArray⟩)) c (t, x.2) :=
  ⟨World.cell?_setCell_same _ _ _ h.c0, (World.cell?_setCell_other _ ⟨c, 0, none⟩ ⟨c, 1, none⟩ _ (by intro h; cases h)).trans h.c1, (World.frozen?_setCell _ _ _ _).trans h.f0, (World.frozen?_setCell _ _ _ _).trans h.f1⟩
theorem IsCut.put1 {w : World} {c : Nat} {x : Cs} (h : IsCut w c x) (b : Bool) : IsCut (w.setCell ⟨c, 1, none⟩ (.bool b)) c (x.1, b) :=
  ⟨(World.cell?_setCell_other _ ⟨c, 1, none⟩ ⟨c, 0, none⟩ _ (by intro h; cases h)).trans h.c0, World.cell?_setCell_same _ _ _ h.c1, (World.frozen?_setCell _ _ _ _).trans h.f0, (World.frozen?_setCell _ _ _ _).trans h.f1⟩
theorem grown_set (w : World) (c i : Nat) (v : Value) : w.grownBy (w.setCell ⟨c, i, none⟩ v) (some c) := Lib.Hx.grownBy_set (World.grownBy.refl w _) _ rfl v

theorem cut_l (s : Bs) (n : Nat) : (⟨s.toArray⟩ : ByteArray).extract 0 n = ⟨(s.take n).toArray⟩ := by
  apply ByteArray.ext
  apply Array.ext'
  rw [Lib.extract_data]
  simp
theorem cut_r (s : Bs) (n : Nat) : (⟨s.toArray⟩ : ByteArray).extract n s.length = ⟨(s.drop n).toArray⟩ := by
  apply ByteArray.ext
  apply Array.ext'
  exact Lib.extract_to_end (⟨s.toArray⟩ : ByteArray) n

set_option maxRecDepth 100000 in
set_option maxHeartbeats 1000000 in
theorem text_any (c : Nat) (x : Cs) (n : Nat) (w : World) (h : IsCut w c x) (hs : x.1.length ≤ 9223372036854775807) :
    Calls Try.prog 81 #[.pointer (some ⟨c, 0, none⟩), .int .i64 (n : Int)] w fun e w' => e = .returned (.string ⟨(textF x n).1.toArray⟩) ∧ IsCut w' c (textF x n).2 ∧ w.grownBy w' (some c) := by
  obtain ⟨s, b⟩ := x
  have H := Lib.hid h
  obtain ⟨c0, c1, f0, f1⟩ := h
  cases b with
  | true =>
    have ht : textF (s, true) n = ([], (s, true)) := rfl
    rw [ht]
    go_enter Try.func81, Try.ntmps81
    go_wp2_with fail
    go_ret
    exact ⟨rfl, H.out.put1 true, grown_set _ _ _ _⟩
  | false =>
    by_cases hn : s.length < n
    · have ht : textF (s, false) n = ([], (s, true)) := by simp [textF, hn]
      rw [ht]
      have d1 : decide ((s.length : Int) < (n : Int)) = true := decide_eq_true (by omega)
      have d2 : decide (s.length < n) = true := decide_eq_true hn
      go_enter Try.func81, Try.ntmps81
      go_wp2_with fail
      go_ret
      exact ⟨rfl, H.out.put1 true, grown_set _ _ _ _⟩
    · have ht : textF (s, false) n = (s.take n, (s.drop n, false)) := by simp [textF, hn]
      rw [ht]
      have d1 : decide ((s.length : Int) < (n : Int)) = false := decide_eq_false (by omega)
      have d2 : decide (s.length < n) = false := decide_eq_false hn
      have d3 : (n : Int) ≤ (s.length : Int) := by omega
      have d4 : n ≤ s.length := by omega
      go_enter Try.func81, Try.ntmps81
      go_wp2_with fail
      go_ret
      rw [← cut_l]
      exact ⟨rfl, by rw [cut_r]; exact H.out.put0 _, grown_set _ _ _ _⟩


theorem numGo_cons (l : List UInt8) (k : Nat) (hk : k < l.length) (n : Int) : numGo (l.take (k + 1)).reverse n = if 1099511627776 ≤ n then -1 else numGo (l.take k).reverse (n * 256 + (l[k].toNat : Int)) := by
  rw [List.take_succ_eq_append_getElem hk, List.reverse_append]
  rfl

theorem i64_or_nat (a b : Nat) (ha : a < 9223372036854775808) (hb : b < 9223372036854775808) : bits .or .i64 (a : Int) (b : Int) = ((a ||| b : Nat) : Int) := by
  have hx : a ||| b < 2 ^ 63 := Nat.or_lt_two_pow (by omega) (by omega)
  have ho : ∀ a : Nat, a < 9223372036854775808 → (BitVec.ofInt 64 (a : Int)).toNat = a := fun a ha => by
    rw [BitVec.ofInt_natCast, BitVec.toNat_ofNat]
    exact Nat.mod_eq_of_lt (by omega)
  show IntKind.i64.wrap ((BitVec.ofInt 64 (a : Int) ||| BitVec.ofInt 64 (b : Int)).toNat : Int) = _
  rw [BitVec.toNat_or, ho a ha, ho b hb]
  exact IntWalk.i64_in _ (by omega)
theorem shl_or (n : Int) (b : Nat) (h0 : 0 ≤ n) (h1 : n < 1099511627776) (hb : b < 256) : bits BinOp.or IntKind.i64 (n * 256) (b : Int) = n * 256 + (b : Int) := by
  obtain ⟨m, rfl⟩ := Int.eq_ofNat_of_zero_le h0
  have e : ((m : Int) * 256) = ((m * 256 : Nat) : Int) := by omega
  have e2 : m * 256 ||| b = m * 256 + b := by
    rw [show m * 256 = m <<< 8 from by rw [Nat.shiftLeft_eq], Nat.shiftLeft_add_eq_or_of_lt (by omega)]
  rw [e, i64_or_nat (m * 256) b (by omega) (by omega), e2]
  omega

set_option maxRecDepth 100000 in
set_option maxHeartbeats 1000000 in
theorem number_any (c : Nat) (x : Cs) (w : World) (h : IsCut w c x) (hs : x.1.length ≤ 9223372036854775807) :
    Calls Try.prog 73 #[.pointer (some ⟨c, 0, none⟩)] w fun e w' => e = .returned (.int .i64 (numF x).1) ∧ IsCut w' c (numF x).2 ∧ w.grownBy w' (some c) := by
  have hl := textF_short x 8
  have HT := Lib.hid (text_any c x 8 w h hs)
  rw [show numF x = (numGo (textF x 8).1.reverse 0, (textF x 8).2) from rfl]
  generalize textF x 8 = t at hl HT
  obtain ⟨t, x'⟩ := t
  clear h hs
  simp only at hl HT ⊢
  go_enter Try.func73, Try.ntmps73
  go_wp2_with fail
  refine HT.out.mono ?_
  rintro e w1 ⟨rfl, h1, hg⟩
  clear HT
  have H1 := Lib.hid h1
  have HG := Lib.hid hg
  clear h1 hg
  obtain ⟨z, hz⟩ : ∃ z : ByteArray, z = ⟨t.toArray⟩ := ⟨_, rfl⟩
  have hzs : z.size = t.length := by rw [hz]; rfl
  have hzg : ∀ (k : Nat) (h : k < z.size), z[k] = t[k]'(by omega) := fun k h => by subst hz; rfl
  rw [← hz]
  clear hz
  have HZG := Lib.hid hzg
  clear hzg
  go_wp2_with fail
  go_loop [4, 5] (fun v i => ∃ (z n : Int), -1 ≤ z ∧ z < t.length ∧ i = .int .i64 z ∧ v = .int .i64 n ∧ 0 ≤ n ∧ n < 281474976710656 ∧ Hid (numGo (t.take (z + 1).toNat).reverse n = numGo t.reverse 0)) (fun _ i => (intOf i + 1).toNat)
  case atStart => exact ⟨_, _, by omega, by omega, rfl, rfl, by decide, by decide, Lib.hid (by rw [List.take_of_length_le (by omega)])⟩
  case round =>
    obtain ⟨i, n, hi1, hi2, rfl, rfl, hn0, hn1, hR⟩ := hrel
    by_cases hi0 : 0 ≤ i
    · obtain ⟨k, rfl⟩ : ∃ k : Nat, i = k := ⟨i.toNat, by omega⟩
      have hk : k < t.length := by omega
      have hR2 := numGo_cons t k hk n
      rw [show ((k : Int) + 1).toNat = k + 1 from by omega] at hR
      have HR := Lib.hid (hR2.symm.trans hR.out)
      have hkz : (k : Int) < (z.size : Int) := by omega
      clear hR hR2
      by_cases hbig : 1099511627776 ≤ n
      · have d1 : decide (1099511627776 ≤ n) = true := decide_eq_true hbig
        go_wp2_with fail
        go_ret
        exact ⟨by rw [← HR.out, if_pos hbig]; rfl, H1.out, HG.out⟩
      · have d1 : decide (1099511627776 ≤ n) = false := decide_eq_false hbig
        have hz' := HZG.out k (by omega)
        have hb := t[k].toNat_lt
        go_wp2_with fail
        go_round
        case rel =>
          refine ⟨(k : Int) - 1, n * 256 + (t[k].toNat : Int), by omega, by omega, rfl, ?_, by omega, by omega, Lib.hid ?_⟩
          · rw [shl_or n _ hn0 (by omega) hb]
          · rw [show ((k : Int) - 1 + 1).toNat = k from by omega]
            rw [← HR.out, if_neg hbig]
        case measure => simp [intOf]
    · have hi : i = -1 := by omega
      subst hi
      go_wp2_with fail
      go_ret
      exact ⟨by rw [← hR.out]; rfl, H1.out, HG.out⟩

theorem grown_trans {a b c : World} {row : Option Nat} (h : a.grownBy b row) (k : b.grownBy c row) : a.grownBy c row := h.trans k

set_option maxRecDepth 100000 in
set_option maxHeartbeats 1000000 in
theorem cutShort_any (c : Nat) (x : Cs) (w : World) (h : IsCut w c x) (hs : x.1.length ≤ 9223372036854775807) :
    Calls Try.prog 74 #[.pointer (some ⟨c, 0, none⟩)] w fun e w' => e = .returned (.string ⟨(shortF x).1.toArray⟩) ∧ IsCut w' c (shortF x).2 ∧ w.grownBy w' (some c) := by
  have HT := Lib.hid (text_any c x 1 w h hs)
  have hle := textF_len x 1
  have hok : (textF x 1).2.2 = false → (textF x 1).1.length = 1 := fun hb => by
    obtain ⟨_, h2, h3⟩ := textF_ok hb
    rw [h3]
    show (x.1.take 1).length = 1
    rw [List.length_take]
    omega
  rw [shortF]
  generalize textF x 1 = t at hle HT hok
  obtain ⟨t, s, b⟩ := t
  simp only at HT hle hok ⊢
  have HS := Lib.hid (Nat.le_trans hle hs)
  clear h hs hle
  cases b with
  | true =>
    clear hok
    rw [if_pos rfl]
    go_enter Try.func74, Try.ntmps74
    go_wp2_with fail
    refine HT.out.mono ?_
    rintro e w1 ⟨rfl, h1, hg⟩
    have H1 := Lib.hid h1
    have HG := Lib.hid hg
    have c1 := h1.c1
    clear HT h1 hg
    go_wp2_with fail
    go_ret
    exact ⟨rfl, H1.out, HG.out⟩
  | false =>
    rw [if_neg (by simp)]
    have hl := hok rfl
    obtain ⟨k, rfl⟩ : ∃ k, t = [k] := by
      match t, hl with
      | [k], _ => exact ⟨k, rfl⟩
    clear hl hok
    simp only [List.headD_cons]
    obtain ⟨z, hz⟩ : ∃ z : ByteArray, z = ⟨[k].toArray⟩ := ⟨_, rfl⟩
    have hzs : (0 : Int) < (z.size : Int) := by rw [hz]; exact Int.one_pos
    have hz0 : ∀ h : 0 < z.size, z[0] = k := fun h => by subst hz; rfl
    rw [← hz] at HT
    clear hz
    have hk := k.toNat_lt
    have hz1 := hz0 (by omega)
    clear hz0
    go_enter Try.func74, Try.ntmps74
    go_wp2_with fail
    refine HT.out.mono ?_
    rintro e w1 ⟨rfl, h1, hg⟩
    have H1 := Lib.hid h1
    have HG := Lib.hid hg
    have c1 := h1.c1
    clear HT h1 hg
    go_wp2_with fail
    refine (text_any c (s, false) k.toNat w1 H1.out HS.out).mono ?_
    rintro e w2 ⟨rfl, h2, hg2⟩
    have H2 := Lib.hid h2
    have HG2 := Lib.hid hg2
    clear h2 hg2
    go_wp2_with fail
    go_ret
    exact ⟨rfl, H2.out, HG.out.trans HG2.out⟩

end Go.Proofs.Ytjggeodnoigkkaa
