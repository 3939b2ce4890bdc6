/-
  The laws' Op: how it is read; Few; does.
-/
import Derived.Test.YtjggeodnoigkkaaJ
import Derived.Test.YtjggeodnoigkkaaOpen
namespace Go.Proofs.Ytjggeodnoigkkaa
open Go.RowKit Go.Maps Go.Shelf Go.Proofs.YtjggeodnoigkkaaM

structure OpV where
  ask : Int
  name : Bs
  of_ : Bs
  n : Int
  drops : DM
  nums : List Int
  deriving Inhabited

def KDrop (_ : World) (x : Int × Int) (cs : List Value) : Prop := cs = [.int .i64 x.1, .int .i64 x.2]
def KOp (w : World) (o : OpV) (cs : List Value) : Prop := ∃ A4 c4 A5 c5, cs = [.int .i64 o.ask, .string ⟨o.name.toArray⟩, .string ⟨o.of_.toArray⟩, .int .i64 o.n, .slice A4 o.drops.length c4, .slice A5 o.nums.length c5] ∧
  o.name.length ≤ maxLen ∧ o.of_.length ≤ maxLen ∧ o.drops.length ≤ c4 ∧ o.nums.length ≤ c5 ∧ RdD w A4 o.drops ∧ RdI w A5 o.nums ∧ ∀ x ∈ o.nums, (Lit.int .i64 x).wf = true

theorem cells40 : Try.prog.cellsOf 40 = 2 := by kernel_rfl
theorem cells32 : Try.prog.cellsOf 32 = 6 := by kernel_rfl
theorem cells3 : Try.prog.cellsOf 3 = 1 := by kernel_rfl
theorem cells9 : Try.prog.cellsOf 9 = 1 := by kernel_rfl
theorem cells29 : Try.prog.cellsOf 29 = 1 := by kernel_rfl
theorem cells30 : Try.prog.cellsOf 30 = 1 := by kernel_rfl

theorem opens_drop : Opens Try.prog 40 KDrop := fun enc w base spare held fuel cs x h => by
  obtain ⟨xs, n, _, _, hl, hlen, hf⟩ := DataW.trod_struct Try.underlying40 h
  rw [cells40] at hl
  obtain ⟨v0, v1, rfl⟩ := len2 hl
  obtain ⟨y0, y1, rfl⟩ := len2 hlen
  have h0 : DataW.trod enc Try.prog w base spare held n 3 ((List.drop 0 [v0, v1]).take (Try.prog.cellsOf 3)) = some y0 := hf 0 _ rfl
  rw [cells3] at h0
  have h1 : DataW.trod enc Try.prog w base spare held n 3 ((List.drop 1 [v0, v1]).take (Try.prog.cellsOf 3)) = some y1 := hf 1 _ rfl
  rw [cells3] at h1
  obtain ⟨a, ha, _⟩ := opens_int Try.underlying3 enc w base spare held n _ _ h0
  obtain ⟨b, hb, _⟩ := opens_int Try.underlying3 enc w base spare held n _ _ h1
  simp at ha hb
  subst ha hb
  exact ⟨(a, b), rfl⟩

theorem opens_drops : Opens Try.prog 29 (KSl 2 KDrop) := opens_slice Try.underlying29 cells40 opens_drop
theorem opens_ints : Opens Try.prog 30 (KSl 1 (KInt .i64)) := opens_slice Try.underlying30 cells3 (opens_int Try.underlying3)

theorem add_spot (ad : Addr) (k j : Nat) : (ad.add k).add (j + 1) = ⟨(ad.add k).block, (ad.add k).off + (j + 1), none⟩ := by
  rw [Addr.add, if_neg (by omega)]

theorem KSl.drops {w : World} {l : DM} {cs : List Value} (h : KSl 2 KDrop w l cs) : ∃ A cap, cs = [.slice A l.length cap] ∧ l.length ≤ cap ∧ RdD w A l := by
  obtain ⟨A, cap, rfl, h1, _, h2⟩ := h
  refine ⟨A, cap, rfl, h1, fun k hk => ?_⟩
  obtain ⟨ad, c, rfl, hc, _, hx⟩ := h2 k hk
  have hc' : c = [.int .i64 l[k].1, .int .i64 l[k].2] := hc
  subst hc'
  have e : l.getD k (0, 0) = l[k] := by simp [List.getD_eq_getElem?_getD, hk]
  have a0 := hx 0 (by decide)
  have a1 := hx 1 (by decide)
  rw [add_spot ad (k * 2) 0] at a1
  have a0' : w.cell? (ad.add (k * 2)) = some (.int .i64 l[k].1) := a0
  refine ⟨ad, rfl, ?_, by rw [e]; exact a0, by rw [e]; exact a1⟩
  have := World.block_lt_of_cell? _ _ a0'
  rwa [add_block] at this
theorem KSl.ints {w : World} {l : List Int} {cs : List Value} (h : KSl 1 (KInt .i64) w l cs) : ∃ A cap, cs = [.slice A l.length cap] ∧ l.length ≤ cap ∧ RdI w A l ∧ ∀ x ∈ l, (Lit.int .i64 x).wf = true := by
  obtain ⟨A, cap, rfl, h1, _, h2⟩ := h
  refine ⟨A, cap, rfl, h1, fun k hk => ?_, fun x hx => ?_⟩
  · obtain ⟨ad, c, rfl, ⟨rfl, hw⟩, _, hx⟩ := h2 k hk
    have e : l.getD k 0 = l[k] := by simp [List.getD_eq_getElem?_getD, hk]
    have a0 := hx 0 (by decide)
    rw [Nat.mul_one] at a0
    have a0' : w.cell? (ad.add k) = some (.int .i64 l[k]) := a0
    refine ⟨ad, rfl, ?_, by rw [e]; exact a0⟩
    have := World.block_lt_of_cell? _ _ a0'
    rwa [add_block] at this
  · obtain ⟨k, hk, rfl⟩ := List.getElem_of_mem hx
    obtain ⟨ad, c, _, ⟨_, hw⟩, _⟩ := h2 k hk
    exact hw

theorem opens_op : Opens Try.prog 32 KOp := fun enc w base spare held fuel cs x h => by
  obtain ⟨xs, n, _, _, hl, hlen, hf⟩ := DataW.trod_struct Try.underlying32 h
  rw [cells32] at hl
  obtain ⟨v0, v1, v2, v3, v4, v5, rfl⟩ := len6 hl
  obtain ⟨y0, y1, y2, y3, y4, y5, rfl⟩ := len6 hlen
  have h0 : DataW.trod enc Try.prog w base spare held n 3 ((List.drop 0 [v0, v1, v2, v3, v4, v5]).take (Try.prog.cellsOf 3)) = some y0 := hf 0 _ rfl
  rw [cells3] at h0
  have h1 : DataW.trod enc Try.prog w base spare held n 9 ((List.drop 1 [v0, v1, v2, v3, v4, v5]).take (Try.prog.cellsOf 9)) = some y1 := hf 1 _ rfl
  rw [cells9] at h1
  have h2 : DataW.trod enc Try.prog w base spare held n 9 ((List.drop 2 [v0, v1, v2, v3, v4, v5]).take (Try.prog.cellsOf 9)) = some y2 := hf 2 _ rfl
  rw [cells9] at h2
  have h3 : DataW.trod enc Try.prog w base spare held n 3 ((List.drop 3 [v0, v1, v2, v3, v4, v5]).take (Try.prog.cellsOf 3)) = some y3 := hf 3 _ rfl
  rw [cells3] at h3
  have h4 : DataW.trod enc Try.prog w base spare held n 29 ((List.drop 4 [v0, v1, v2, v3, v4, v5]).take (Try.prog.cellsOf 29)) = some y4 := hf 4 _ rfl
  rw [cells29] at h4
  have h5 : DataW.trod enc Try.prog w base spare held n 30 ((List.drop 5 [v0, v1, v2, v3, v4, v5]).take (Try.prog.cellsOf 30)) = some y5 := hf 5 _ rfl
  rw [cells30] at h5
  obtain ⟨a0, e0, _⟩ := opens_int Try.underlying3 enc w base spare held n _ _ h0
  obtain ⟨a1, e1, w1⟩ := opens_str Try.underlying9 enc w base spare held n _ _ h1
  obtain ⟨a2, e2, w2⟩ := opens_str Try.underlying9 enc w base spare held n _ _ h2
  obtain ⟨a3, e3, _⟩ := opens_int Try.underlying3 enc w base spare held n _ _ h3
  obtain ⟨a4, k4⟩ := opens_drops enc w base spare held n _ _ h4
  obtain ⟨a5, k5⟩ := opens_ints enc w base spare held n _ _ h5
  obtain ⟨A4, c4, e4, l4, r4⟩ := KSl.drops k4
  obtain ⟨A5, c5, e5, l5, r5, w5⟩ := KSl.ints k5
  simp at e0 e1 e2 e3 e4 e5
  subst e0 e1 e2 e3 e4 e5
  exact ⟨⟨a0, a1, a2, a3, a4, a5⟩, A4, c4, A5, c5, rfl, w1, w2, l4, l5, r4, r5, w5⟩

theorem opens_ops : Opens Try.prog 22 (KSl 6 KOp) := opens_slice Try.underlying22 cells32 opens_op

end Go.Proofs.Ytjggeodnoigkkaa
