/-
  What nil pins answer to each call.
-/
import Derived.Test.YtjggeodnoigkkaaN
namespace Go.Proofs.Ytjggeodnoigkkaa
open Go.RowKit Go.Maps Go.Shelf Go.Proofs.YtjggeodnoigkkaaM

section
variable (w : World)
theorem pin_nil (s : ByteArray) (x : Int) : Calls Try.prog 18 #[.pointer none, .string s, .int .i64 x] w fun e w' => e = .returned (.int .i64 2) ∧ Below w.heap.size w w' := by
  go_enter Try.func18, Try.ntmps18
  go_wp2_with fail
  go_ret
  exact ⟨rfl, Below.refl _ _⟩
theorem clone_nil (s t : ByteArray) : Calls Try.prog 32 #[.pointer none, .string s, .string t] w fun e w' => e = .returned (.int .i64 2) ∧ Below w.heap.size w w' := by
  go_enter Try.func32, Try.ntmps32
  go_wp2_with fail
  go_ret
  exact ⟨rfl, Below.refl _ _⟩
theorem unpin_nil (s : ByteArray) : Calls Try.prog 22 #[.pointer none, .string s] w fun e w' => e = .returned (.int .i64 2) ∧ Below w.heap.size w w' := by
  go_enter Try.func22, Try.ntmps22
  go_wp2_with fail
  go_ret
  exact ⟨rfl, Below.refl _ _⟩
theorem drop_nil (A : Option Addr) (n c : Nat) : Calls Try.prog 20 #[.pointer none, .slice A n c] w fun e w' => e = .returned (.int .i64 2) ∧ Below w.heap.size w w' := by
  go_enter Try.func20, Try.ntmps20
  go_wp2_with fail
  go_ret
  exact ⟨rfl, Below.refl _ _⟩
theorem done_nil (A : Option Addr) (n c : Nat) : Calls Try.prog 17 #[.pointer none, .slice A n c] w fun e w' => e = .returned (.int .i64 2) ∧ Below w.heap.size w w' := by
  go_enter Try.func17, Try.ntmps17
  go_wp2_with fail
  go_ret
  exact ⟨rfl, Below.refl _ _⟩
theorem at_nil (s : ByteArray) : Calls Try.prog 16 #[.pointer none, .string s] w fun e w' => e = .returned (.tuple #[.int .i64 0, .int .i64 2]) ∧ Below w.heap.size w w' := by
  go_enter Try.func16, Try.ntmps16
  go_wp2_with fail
  go_ret2
  exact ⟨rfl, Below.refl _ _⟩
theorem names_nil : Calls Try.prog 15 #[.pointer none] w fun e w' => e = .returned (.slice none 0 0) ∧ Below w.heap.size w w' := by
  go_enter Try.func15, Try.ntmps15
  go_wp2_with fail
  go_ret
  exact ⟨rfl, Below.refl _ _⟩
theorem pending_nil : Calls Try.prog 14 #[.pointer none] w fun e w' => e = .returned (.slice none 0 0) ∧ Below w.heap.size w w' := by
  go_enter Try.func14, Try.ntmps14
  go_wp2_with fail
  go_ret
  exact ⟨rfl, Below.refl _ _⟩
theorem holds_nil (x : Int) : Calls Try.prog 27 #[.pointer none, .int .i64 x] w fun e w' => e = .returned (.slice none 0 0) ∧ Below w.heap.size w w' := by
  go_enter Try.func27, Try.ntmps27
  go_wp2_with fail
  go_quiet (fail)
  go_wp2_with fail
  go_ret
  exact ⟨rfl, ((Below.refl w.heap.size w).alloc (Nat.le_refl _) _).trans ⟨rfl, rfl, rfl, Nat.le_refl _, fun _ _ => rfl⟩⟩
theorem among_nil (f : Value) : Calls Try.prog 54 #[.pointer none, f] w fun e w' => e = .returned (.slice none 0 0) ∧ Below w.heap.size w w' := by
  go_enter Try.func54, Try.ntmps54
  go_wp2_with fail
  refine (names_nil _).mono ?_
  rintro e w1 ⟨rfl, hb⟩
  go_wp2_with fail
  go_loopw [5, 11] (fun v i wr => v = .slice none 0 0 ∧ i = .int .i64 0 ∧ Below w.heap.size w wr) (fun _ _ _ => 0)
  case atStart => exact ⟨rfl, rfl, hb⟩
  case round =>
    obtain ⟨rfl, rfl, hb2⟩ := hrel
    go_wp2_with fail
    go_ret
    exact ⟨rfl, hb2⟩
theorem clones_nil (s : ByteArray) : Calls Try.prog 26 #[.pointer none, .string s] w fun e w' => e = .returned (.slice none 0 0) ∧ Below w.heap.size w w' := by
  go_enter Try.func26, Try.ntmps26
  go_wp2_with fail
  refine (among_nil _ _).mono ?_
  rintro e w1 ⟨rfl, hb⟩
  go_wp2_with fail
  go_ret
  exact ⟨rfl, ((Below.refl _ _).alloc (Nat.le_refl _) _).trans (hb.mono (by rw [World.size_alloc]; omega))⟩
theorem free_nil (x : Int) : Calls Try.prog 13 #[.pointer none, .int .i64 x] w fun e w' => e = .returned (.slice none 0 0) ∧ Below w.heap.size w w' := by
  go_enter Try.func13, Try.ntmps13
  go_wp2_with fail
  refine (pending_nil _).mono ?_
  rintro e w1 ⟨rfl, hb⟩
  go_wp2_with fail
  go_loopw [5, 11] (fun v i wr => v = .slice none 0 0 ∧ i = .int .i64 0 ∧ Below w.heap.size w wr) (fun _ _ _ => 0)
  case atStart => exact ⟨rfl, rfl, hb⟩
  case round =>
    obtain ⟨rfl, rfl, hb2⟩ := hrel
    go_wp2_with fail
    go_ret
    exact ⟨rfl, hb2⟩
end

set_option maxRecDepth 100000 in
theorem does_nil (a n : Int) (s t : ByteArray) (A4 : Option Addr) (l4 c4 : Nat) (A5 : Option Addr) (l5 c5 : Nat) (w : World) :
    Calls Try.prog 12 #[.pointer none, .agg #[.int .i64 a, .string s, .string t, .int .i64 n, .slice A4 l4 c4, .slice A5 l5 c5]] w fun e w' => e = .returned (.int .i64 2) ∧ Below w.heap.size w w' := by
  obtain ⟨W, hW⟩ : ∃ W, W = w.alloc (.cells #[.int .i64 a, .string s, .string t, .int .i64 n, .slice A4 l4 c4, .slice A5 l5 c5] 32) := ⟨_, rfl⟩
  have hbW : Below w.heap.size w W := by rw [hW]; exact (Below.refl _ _).alloc (Nat.le_refl _) _
  rw [hW] at hbW
  clear hW
  by_cases a0 : a = 0
  · have b0 : (a == 0) = true := by simp [a0]
    clear a0
    go_enter Try.func12, Try.ntmps12
    go_wp2_with fail
    refine (pin_nil _ _ _).mono ?_
    rintro e w2 ⟨rfl, hb⟩
    go_wp2_with fail
    go_ret
    exact ⟨rfl, hbW.trans (hb.mono hbW.size)⟩
  by_cases a1 : a = 1
  · have b0 : (a == 0) = false := by simp [a0]
    have b1 : (a == 1) = true := by simp [a1]
    clear a0 a1
    go_enter Try.func12, Try.ntmps12
    go_wp2_with fail
    refine (clone_nil _ _ _).mono ?_
    rintro e w2 ⟨rfl, hb⟩
    go_wp2_with fail
    go_ret
    exact ⟨rfl, hbW.trans (hb.mono hbW.size)⟩
  by_cases a2 : a = 2
  · have b0 : (a == 0) = false := by simp [a0]
    have b1 : (a == 1) = false := by simp [a1]
    have b2 : (a == 2) = true := by simp [a2]
    clear a0 a1 a2
    go_enter Try.func12, Try.ntmps12
    go_wp2_with fail
    refine (unpin_nil _ _).mono ?_
    rintro e w2 ⟨rfl, hb⟩
    go_wp2_with fail
    go_ret
    exact ⟨rfl, hbW.trans (hb.mono hbW.size)⟩
  by_cases a3 : a = 3
  · have b0 : (a == 0) = false := by simp [a0]
    have b1 : (a == 1) = false := by simp [a1]
    have b2 : (a == 2) = false := by simp [a2]
    have b3 : (a == 3) = true := by simp [a3]
    clear a0 a1 a2 a3
    go_enter Try.func12, Try.ntmps12
    go_wp2_with fail
    refine (drop_nil _ _ _ _).mono ?_
    rintro e w2 ⟨rfl, hb⟩
    go_wp2_with fail
    go_ret
    exact ⟨rfl, hbW.trans (hb.mono hbW.size)⟩
  · have b0 : (a == 0) = false := by simp [a0]
    have b1 : (a == 1) = false := by simp [a1]
    have b2 : (a == 2) = false := by simp [a2]
    have b3 : (a == 3) = false := by simp [a3]
    clear a0 a1 a2 a3
    go_enter Try.func12, Try.ntmps12
    go_wp2_with fail
    refine (done_nil _ _ _ _).mono ?_
    rintro e w2 ⟨rfl, hb⟩
    go_wp2_with fail
    go_ret
    exact ⟨rfl, hbW.trans (hb.mono hbW.size)⟩

end Go.Proofs.Ytjggeodnoigkkaa
