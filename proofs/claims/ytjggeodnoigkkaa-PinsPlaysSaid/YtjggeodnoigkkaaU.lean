/-
  A number as eight bytes, a text behind its length, pins as bytes: what the program's three functions answer.
-/
import Derived.Test.YtjggeodnoigkkaaT
namespace Go.Proofs.Ytjggeodnoigkkaa
open Go.RowKit Go.Maps Go.Shelf Go.Proofs.YtjggeodnoigkkaaM

def byteI (n : Int) (j : Nat) : Int := n / 2 ^ (8 * j) % 256
def eightB (n : Int) : Bs := (List.range 8).map fun j => UInt8.ofNat (byteI n j).toNat

set_option maxRecDepth 100000 in
set_option maxHeartbeats 1000000 in
theorem eight_any (n : Int) (w : World) : Calls Try.prog 42 #[.int .i64 n] w fun e w' => e = .returned (.string ⟨(eightB n).toArray⟩) ∧ Below w.heap.size w w' := by
  obtain ⟨W, hW⟩ : ∃ W, W = w.alloc (.cells (List.replicate 8 (Value.int .u8 0)).toArray 5) := ⟨_, rfl⟩
  have hr : (Instr.makeSlice 59 (.int .i64 8) (.int .i64 8)).run Try.prog w = .ok (.slice (some ⟨w.heap.size, 0, none⟩) 8 8) W := by rw [hW]; exact make_bytes 8 (by decide) w
  have hbW := Lib.hid (show Below w.heap.size w W from by rw [hW]; exact (Below.refl _ _).alloc (Nat.le_refl _) _)
  have hc0 := Lib.hid (show ∀ j, j < 8 → W.cell? ⟨w.heap.size, j, none⟩ = some (.int .u8 0) from fun j hj => by
    rw [hW, made_cell 8 w j hj, (show ∀ j, j < 8 → (List.replicate 8 (0 : Int)).getD j 0 = 0 from by decide) j hj])
  have hz0 := Lib.hid (show ∀ j, W.frozen? ⟨w.heap.size, j, none⟩ = false from fun j => by
    rw [hW, frozen?_alloc_cells]
    simp [World.frozen?])
  clear hW
  go_enter Try.func42, Try.ntmps42
  go_wp2_with fail
  clear hr
  go_loopw [8] (fun i wr => ∃ k : Nat, k ≤ 8 ∧ i = .int .i64 k ∧ Hid (∀ j, j < 8 → wr.cell? ⟨w.heap.size, j, none⟩ = some (.int .u8 (if j < k then byteI n j else 0))) ∧ Hid (∀ j, wr.frozen? ⟨w.heap.size, j, none⟩ = false) ∧ Below w.heap.size w wr) (fun i _ => 8 - (intOf i).toNat)
  case atStart => exact ⟨0, by decide, rfl, Lib.hid fun j hj => by rw [hc0.out j hj]; simp, hz0, hbW.out⟩
  case round =>
    obtain ⟨k, hk, rfl, hc, hz, hb⟩ := hrel
    by_cases hlt : k < 8
    · have hck := hc.out k hlt
      rw [if_neg (by omega)] at hck
      have hzk := hz.out k
      have hd1 : decide ((k : Int) < 8) = true := decide_eq_true (by omega)
      have hd2 : (0 : Int) ≤ (k : Int) := by omega
      have hd3 : (k : Int) < 8 := by omega
      have hd4 : IntKind.i64.wrap (8 * (k : Int)) = 8 * (k : Int) := IntWalk.i64_in _ (by omega)
      have hd5 : (0 : Int) ≤ 8 * (k : Int) := by omega
      go_wp2_with fail
      go_roundw
      case rel =>
        refine ⟨k + 1, by omega, by go_num, Lib.hid fun j hj => ?_, Lib.hid fun j => (World.frozen?_setCell _ _ _ _).trans (hz.out j), hb.setCell (Nat.le_refl _) _⟩
        by_cases hjk : j = k
        · subst hjk
          rw [World.cell?_setCell_same _ _ _ hck, if_pos (by omega)]
          rfl
        · rw [World.cell?_setCell_other _ ⟨w.heap.size, k, none⟩ ⟨w.heap.size, j, none⟩ _ (by intro h; exact hjk (Addr.mk.inj h).2.1.symm), hc.out j hj]
          by_cases hj2 : j < k
          · rw [if_pos hj2, if_pos (by omega)]
          · rw [if_neg hj2, if_neg (by omega)]
      case measure => simp [intOf]; omega
    · have hk8 : k = 8 := by omega
      subst hk8
      have hcv := run_convert_bytes_arg (P := Try.prog) wr 59 5 Try.underlying59 Try.underlying5 w.heap.size 0 8 8 ((List.range 8).map (byteI n)) (by simp) (fun i hi => by
        rw [Nat.zero_add, hc.out i hi]
        simp [hi, List.getD_eq_getElem?_getD]) 9 Try.underlying9
      have he : strOfNums ((List.range 8).map (byteI n)) = ⟨(eightB n).toArray⟩ := by simp [strOfNums, eightB]
      rw [he] at hcv
      clear he
      obtain ⟨z, hz⟩ : ∃ z : ByteArray, z = ⟨(eightB n).toArray⟩ := ⟨_, rfl⟩
      rw [← hz] at hcv
      have HZ := Lib.hid hz
      clear hz
      go_wp2_with fail
      go_ret
      rw [← HZ.out]
      exact ⟨rfl, hb⟩

theorem cat_bs (a b : Bs) : (⟨a.toArray⟩ : ByteArray) ++ (⟨b.toArray⟩ : ByteArray) = ⟨(a ++ b).toArray⟩ := by
  apply ByteArray.ext
  simp

def shortB (s : Bs) : Bs := UInt8.ofNat (s.length % 256) :: s

set_option maxRecDepth 100000 in
theorem short_any (s : Bs) (w : World) (hs : s.length ≤ 4294967296) : Calls Try.prog 43 #[.string ⟨s.toArray⟩] w fun e w' => e = .returned (.string ⟨(shortB s).toArray⟩) ∧ Below w.heap.size w w' := by
  obtain ⟨W, hW⟩ : ∃ W, W = w.alloc (.cells #[.int .u8 ((s.length : Int) % 256)] 5) := ⟨_, rfl⟩
  have hcv := run_convert_bytes_arg (P := Try.prog) W 59 5 Try.underlying59 Try.underlying5 w.heap.size 0 1 1 [(s.length : Int) % 256] rfl (fun i hi => by
    have : i = 0 := by omega
    subst this
    rw [hW]
    simp) 9 Try.underlying9
  obtain ⟨z, hz⟩ : ∃ z : ByteArray, z = strOfNums [(s.length : Int) % 256] := ⟨_, rfl⟩
  rw [← hz] at hcv
  have hz1 : z.size = 1 := by rw [hz]; rfl
  have H := Lib.hid (show z ++ ⟨s.toArray⟩ = ⟨(shortB s).toArray⟩ from by
    rw [hz]
    exact cat_bs [_] s)
  rw [hW] at hcv
  clear hz hW
  go_enter Try.func43, Try.ntmps43
  go_wp2_with fail
  go_ret
  exact ⟨by rw [← H.out]; rfl, (Below.refl _ _).alloc (Nat.le_refl _) _⟩

end Go.Proofs.Ytjggeodnoigkkaa
