/-
  The document's answer for pins, at its place: put, Pin, Clone, Unpin (merged).
-/
import Derived.Test.YtjggeodnoigkkaaPA
import Derived.Test.YtjggeodnoigkkaaCD
namespace Go.Proofs.Ytjggeodnoigkkaa
open Go.RowKit Go.Maps Go.Shelf Go.Proofs.YtjggeodnoigkkaaM

/-- THE DOCUMENT's PINS AT BLOCK x. -/
structure RefAt (w : World) (x : Nat) (P : PM) (D : DM) (A : Option Addr) (c : Nat) (B : Option Addr) (d : Nat) : Prop where
  c0 : w.cell? ⟨x, 0, none⟩ = some (.slice A P.length c)
  c1 : w.cell? ⟨x, 1, none⟩ = some (.slice B D.length d)
  f0 : w.frozen? ⟨x, 0, none⟩ = false
  f1 : w.frozen? ⟨x, 1, none⟩ = false
  rP : RdP w A P
  rD : RdD w B D
  nA : ∀ ad, A = some ad → ad.block ≠ x
  nB : ∀ ad, B = some ad → ad.block ≠ x
  lc : P.length ≤ c
  ld : D.length ≤ d
theorem RefAt.lt {w : World} {x : Nat} {P : PM} {D : DM} {A : Option Addr} {c : Nat} {B : Option Addr} {d : Nat} (h : RefAt w x P D A c B d) : x < w.heap.size := World.block_lt_of_cell? _ _ h.c0
theorem RefAt.below {w w' : World} {x : Nat} {P : PM} {D : DM} {A : Option Addr} {c : Nat} {B : Option Addr} {d : Nat} (h : RefAt w x P D A c B d) (hb : Below w.heap.size w w') : RefAt w' x P D A c B d :=
  have hs := hb.block x h.lt
  ⟨(hb.cell (p := ⟨x, 0, none⟩) h.lt).trans h.c0, (hb.cell (p := ⟨x, 1, none⟩) h.lt).trans h.c1, (frozen_same hs).trans h.f0, (frozen_same hs).trans h.f1, h.rP.below hb, h.rD.below hb, h.nA, h.nB, h.lc, h.ld⟩
theorem RdP.keptM {K V : Type} [DecidableEq K] [MKey K] {w w' : World} {A : Option Addr} {l : PM} (h : RdP w A l) {Q : Program} {kt : TypeId} {C : Codec V} {b : Nat} {m : List (K × V)} (hd : mapIs w Q kt C b m) (hg : w.grownBy w' (some b)) : RdP w' A l := fun k hk => by
  obtain ⟨ad, e, hlt, h0, h1, h2⟩ := h k hk
  have n0 := ne_map' h0 hd
  rw [add_block] at n0
  exact ⟨ad, e, Nat.lt_of_lt_of_le hlt hg.size, hg.cell h0 (by rw [add_block]; simpa using n0), hg.cell h1 (by show some (ad.add (k * 3)).block ≠ _; rw [add_block]; simpa using n0), hg.cell h2 (by show some (ad.add (k * 3)).block ≠ _; rw [add_block]; simpa using n0)⟩
theorem RdD.keptM {K V : Type} [DecidableEq K] [MKey K] {w w' : World} {A : Option Addr} {l : DM} (h : RdD w A l) {Q : Program} {kt : TypeId} {C : Codec V} {b : Nat} {m : List (K × V)} (hd : mapIs w Q kt C b m) (hg : w.grownBy w' (some b)) : RdD w' A l := fun k hk => by
  obtain ⟨ad, e, hlt, h0, h1⟩ := h k hk
  have n0 := ne_map' h0 hd
  rw [add_block] at n0
  exact ⟨ad, e, Nat.lt_of_lt_of_le hlt hg.size, hg.cell h0 (by rw [add_block]; simpa using n0), hg.cell h1 (by show some (ad.add (k * 2)).block ≠ _; rw [add_block]; simpa using n0)⟩
theorem RefAt.keptM {K V : Type} [DecidableEq K] [MKey K] {w w' : World} {x : Nat} {P : PM} {D : DM} {A : Option Addr} {c : Nat} {B : Option Addr} {d : Nat} (h : RefAt w x P D A c B d) {Q : Program} {kt : TypeId} {C : Codec V} {b : Nat} {m : List (K × V)} (hd : mapIs w Q kt C b m) (hg : w.grownBy w' (some b)) : RefAt w' x P D A c B d :=
  have hne : some x ≠ some b := by simpa using ne_map h.c0 hd
  have hs := hg.block x h.lt hne
  ⟨hg.cell h.c0 hne, hg.cell h.c1 hne, (frozen_same hs).trans h.f0, (frozen_same hs).trans h.f1, h.rP.keptM hd hg, h.rD.keptM hd hg, h.nA, h.nB, h.lc, h.ld⟩

/-! ### rows of pins -/
theorem info94 : (Try.prog.info? 94).map (fun i => (i.zero, i.size, i.bytes)) = some (some (.agg #[.string ⟨#[]⟩, .int .i64 0, .string ⟨#[]⟩]), 3, 40) := by kernel_rfl
def Pns (w : World) (base : Nat) (v : Value) (l : PM) : Prop := w.ownsRow base 94 3 v l.length (l.flatMap pcells)
theorem pflat_len : ∀ l : PM, (l.flatMap pcells).length = l.length * 3
  | [] => rfl
  | x :: l => by rw [List.flatMap_cons, List.length_append, pflat_len l]; simp [pcells]; omega
theorem pflat_at : ∀ (l : PM) (k : Nat), k < l.length → (l.flatMap pcells)[k * 3]? = some (.string ⟨(l.getD k P0).1.toArray⟩) ∧ (l.flatMap pcells)[k * 3 + 1]? = some (.int .i64 (l.getD k P0).2.1) ∧ (l.flatMap pcells)[k * 3 + 2]? = some (.string ⟨(l.getD k P0).2.2.toArray⟩)
  | [], k, h => by simp at h
  | x :: l, 0, _ => by
    rw [List.flatMap_cons]
    exact ⟨rfl, rfl, rfl⟩
  | x :: l, k + 1, h => by
    have ih := pflat_at l k (by simpa using h)
    have e : ∀ j, (pcells x ++ l.flatMap pcells)[(k + 1) * 3 + j]? = (l.flatMap pcells)[k * 3 + j]? := fun j => by
      rw [show (k + 1) * 3 + j = (pcells x).length + (k * 3 + j) from by simp [pcells]; omega, List.getElem?_append_right (by omega)]
      congr 1
      omega
    rw [List.flatMap_cons]
    have e0 := e 0
    simp only [Nat.add_zero] at e0
    rw [e0, e 1, e 2]
    simpa using ih
theorem Pns.rd {w : World} {base : Nat} {v : Value} {l : PM} (h : Pns w base v l) : ∃ A cap, v = .slice A l.length cap ∧ l.length ≤ cap ∧ RdP w A l ∧ ∀ ad, A = some ad → base ≤ ad.block ∧ ad.block < w.heap.size := by
  rcases h.2 with ⟨hv, hx⟩ | ⟨g, cap, cur, hv, hB, hh, hc, _⟩
  · subst hv
    have hl : l = [] := List.eq_nil_of_length_eq_zero hx
    subst hl
    exact ⟨none, 0, rfl, Nat.le_refl _, fun k hk => by simp at hk, fun ad e => by cases e⟩
  · subst hv
    have hlt := (World.ownsRow.lt h g rfl).2
    refine ⟨_, cap, rfl, hc, fun k hk => ⟨_, rfl, hlt, ?_⟩, fun ad e => by cases e; exact ⟨hB, hlt⟩⟩
    have e : (⟨g, 0, none⟩ : Addr).add (k * 3) = ⟨g, k * 3, none⟩ := by unfold Addr.add; split <;> simp_all
    obtain ⟨p0, p1, p2⟩ := pflat_at l k hk
    have hl := pflat_len l
    rw [e]
    refine ⟨?_, ?_, ?_⟩
    · rw [World.ownsRow.cellAt h (k * 3) (by omega)]
      exact p0
    · show w.cell? ⟨g, k * 3 + 1, none⟩ = _
      rw [World.ownsRow.cellAt h (k * 3 + 1) (by omega)]
      exact p1
    · show w.cell? ⟨g, k * 3 + 2, none⟩ = _
      rw [World.ownsRow.cellAt h (k * 3 + 2) (by omega)]
      exact p2
theorem three_new (w : World) (x y z : Value) (t : TypeId) : ∀ j u, [x, y, z][j]? = some u → (w.alloc (.cells #[x, y, z] t)).cell? ((⟨w.heap.size, 0, none⟩ : Addr).add j) = some u := by
  intro j u h
  match j, h with
  | 0, h => simp at h; subst h; simp [Addr.add]
  | 1, h => simp at h; subst h; simp [Addr.add]
  | 2, h => simp at h; subst h; simp [Addr.add]
  | j + 3, h => simp at h
/-- 'append(out, Pin{..})'. -/
theorem wl_append3 {ops : Array Oper} {rest : List Oper} {o : Oper} {a : Act} {Q : Exit → Act → World → Prop} (w : World) (hgd : o.guard = none) (s x : Operand)
    (ho : o.op = .call { callee := .builtin .append, args := #[s, x], argTypes := #[49, 49] }) (base : Nat)
    (v : Value) (l : PM) (hs : a.eval s = v) (hown : Pns w base v l) (u : Bs × (Int × Bs)) (hx : a.eval x = .slice (some ⟨w.heap.size, 0, none⟩) 1 1)
    (hbytes : (l.length + 1) * 40 ≤ 140737488355328) (hbase : base ≤ w.heap.size)
    (h : ∀ v' w', Pns w' base v' (l ++ [u]) → Below base w w' → wpList Try.prog ops Q rest (a.put o.dst v') w') : wpList Try.prog ops Q (o :: rest) a (w.alloc (.cells #[.string ⟨u.1.toArray⟩, .int .i64 u.2.1, .string ⟨u.2.2.toArray⟩] 94)) := by
  obtain ⟨i0, hi, hz0, hz1, hz2⟩ := info_parts info94
  refine wpList_append_own (w.alloc (.cells #[.string ⟨u.1.toArray⟩, .int .i64 u.2.1, .string ⟨u.2.2.toArray⟩] 94)) hgd s x 49 ho base 94 i0 _ 3 40 Try.underlying49 hi hz0 hz1 hz2 rfl (by decide) v l.length (l.flatMap pcells) hs (hown.alloc _) ⟨w.heap.size, 0, none⟩ 1 1 (pcells u) hx rfl (three_new _ _ _ _ _) (by simp [pcells, Value.oneCell']) ?_ hbytes (by simp; omega) ?_
  · show l.length + 1 ≤ 2 ^ 63 - 1
    omega
  · intro v' w' h1 h2 h3
    refine h v' w' ?_ ?_
    · unfold Pns
      rw [List.flatMap_append, List.length_append]
      simpa using h1
    · exact ((Below.refl base w).alloc hbase _).grown h2 (by simp; omega) fun k hk => (World.ownsRow.lt hown k hk).1
theorem Pns.below {w w' : World} {base : Nat} {v : Value} {l : PM} (h : Pns w base v l) (hb : Below w.heap.size w w') : Pns w' base v l := World.ownsRow.kept h (gb hb none) (by cases v.ownBlock <;> simp)

theorem ins_step (y : Bs × (Int × Bs)) (P : PM) (k : Nat) (h : k < P.length) : insM y (P.drop k) = if (MKey.lt y.1 P[k].1 : Bool) = true then y :: P.drop k else P[k] :: insM y (P.drop (k + 1)) := by
  rw [List.drop_eq_getElem_cons h]
  conv => lhs; unfold insM

end Go.Proofs.Ytjggeodnoigkkaa

namespace Go.Proofs.Ytjggeodnoigkkaa
open Go.RowKit Go.Maps Go.Shelf Go.Proofs.YtjggeodnoigkkaaM

/-- What put has, at its loop's head. -/
structure PutAt (y : Bs × (Int × Bs)) (P : PM) (k : Nat) (done : Bool) (l : PM) : Prop where
  all : l ++ (bif done then P.drop k else insM y (P.drop k)) = insM y P
  len : l.length ≤ k + 1
theorem PutAt.start (y : Bs × (Int × Bs)) (P : PM) : PutAt y P 0 false [] := ⟨rfl, by simp⟩
theorem PutAt.plain {y : Bs × (Int × Bs)} {P : PM} {k : Nat} {l : PM} (h : PutAt y P k true l) (hk : k < P.length) (hl : l.length ≤ k + 1) : PutAt y P (k + 1) true (l ++ [P[k]]) := by
  have h1 := h.all
  refine ⟨?_, by simp; omega⟩
  rw [cond_true] at h1 ⊢
  rw [List.drop_eq_getElem_cons hk] at h1
  simpa using h1
theorem PutAt.none {y : Bs × (Int × Bs)} {P : PM} {k : Nat} {l : PM} (h : PutAt y P k false l) (hk : k < P.length) (hlt : bytesBefore y.1 P[k].1 = false) : PutAt y P (k + 1) false (l ++ [P[k]]) := by
  have h1 := h.all
  have h2 := h.len
  refine ⟨?_, by simp; omega⟩
  rw [cond_false] at h1 ⊢
  rw [ins_step y P k hk, if_neg (by rw [show (MKey.lt y.1 P[k].1 : Bool) = bytesBefore y.1 P[k].1 from rfl, hlt]; simp)] at h1
  simpa using h1
theorem PutAt.here {y : Bs × (Int × Bs)} {P : PM} {k : Nat} {l : PM} (h : PutAt y P k false l) (hl : l.length ≤ k) (hk : k < P.length) (hlt : bytesBefore y.1 P[k].1 = true) : PutAt y P (k + 1) true (l ++ [y] ++ [P[k]]) := by
  have h1 := h.all
  refine ⟨?_, by simp; omega⟩
  rw [cond_false] at h1
  rw [cond_true]
  rw [ins_step y P k hk, if_pos (by rw [show (MKey.lt y.1 P[k].1 : Bool) = bytesBefore y.1 P[k].1 from rfl, hlt]), List.drop_eq_getElem_cons hk] at h1
  simpa using h1

theorem RefAt.putP {w : World} {x : Nat} {P l : PM} {D : DM} {A : Option Addr} {c : Nat} {B : Option Addr} {d base : Nat} {v : Value} (h : RefAt w x P D A c B d) (hp : Pns w base v l) (hx : x < base) : ∃ A' c', RefAt (w.setCell ⟨x, 0, none⟩ v) x l D A' c' B d := by
  obtain ⟨A', c', rfl, hc, hr, hA⟩ := hp.rd
  have hg := grown_set w x 0 (.slice A' l.length c')
  exact ⟨A', c', World.cell?_setCell_same _ _ _ h.c0, (World.cell?_setCell_other _ ⟨x, 0, none⟩ ⟨x, 1, none⟩ _ (by intro h; cases h)).trans h.c1, (World.frozen?_setCell _ _ _ _).trans h.f0, (World.frozen?_setCell _ _ _ _).trans h.f1,
    hr.kept hg fun ad e => by have := (hA ad e).1; simp; omega, h.rD.keep hg fun ad e => by simpa using h.nB ad e, fun ad e => by have := (hA ad e).1; omega, h.nB, hc, h.ld⟩
theorem grown_of {w w1 : World} {x : Nat} {v : Value} (hb : Below w.heap.size w w1) : w.grownBy (w1.setCell ⟨x, 0, none⟩ v) (some x) := (gb hb _).trans (grown_set _ _ _ _)

set_option maxRecDepth 100000 in
set_option maxHeartbeats 4000000 in
theorem put_any (x : Nat) (P : PM) (D : DM) (A : Option Addr) (c : Nat) (B : Option Addr) (d : Nat) (y : Bs × (Int × Bs)) (w : World) (h : RefAt w x P D A c B d) (h63 : P.length ≤ 1000) :
    Calls Try.prog 69 #[.pointer (some ⟨x, 0, none⟩), .agg #[.string ⟨y.1.toArray⟩, .int .i64 y.2.1, .string ⟨y.2.2.toArray⟩]] w fun e w' => e = .returned (.tuple #[]) ∧ (∃ A' c', RefAt w' x (insM y P) D A' c' B d) ∧ w.grownBy w' (some x) := by
  obtain ⟨W, hW⟩ : ∃ W, W = w.alloc (.cells #[.string ⟨y.1.toArray⟩, .int .i64 y.2.1, .string ⟨y.2.2.toArray⟩] 94) := ⟨_, rfl⟩
  have hb0 : Below w.heap.size w W := by rw [hW]; exact (Below.refl _ _).alloc (Nat.le_refl _) _
  have hy : W.cell? ⟨w.heap.size, 0, none⟩ = some (.string ⟨y.1.toArray⟩) ∧ W.cell? ⟨w.heap.size, 1, none⟩ = some (.int .i64 y.2.1) ∧ W.cell? ⟨w.heap.size, 2, none⟩ = some (.string ⟨y.2.2.toArray⟩) ∧ w.heap.size < W.heap.size := by rw [hW]; simp
  have HR := Lib.hid (h.below hb0)
  have HY := Lib.hid hy
  have HB0 := Lib.hid hb0
  have HXL := Lib.hid h.lt
  have HP63 := Lib.hid h63
  clear hy hb0 h
  go_enter Try.func69, Try.ntmps69
  go_wp2_with fail
  rw [← hW]
  clear hW
  go_loopw [4, 5, 6] (fun v b i wr => ∃ (k : Nat) (done : Bool) (l : PM), k ≤ P.length ∧ i = .int .i64 k ∧ b = .bool done ∧ Hid (PutAt y P k done l) ∧ Hid (done = false → l.length ≤ k) ∧ Pns wr W.heap.size v l ∧ Below W.heap.size W wr) (fun _ _ i _ => P.length - (intOf i).toNat)
  case atStart => exact ⟨0, false, [], Nat.zero_le _, rfl, rfl, Lib.hid (PutAt.start y P), Lib.hid (fun _ => Nat.le_refl _), World.ownsRow_nil _ _ _ _, Below.refl _ _⟩
  case round =>
    obtain ⟨k, done, l, hk, rfl, rfl, hat, hll, hout, hb⟩ := hrel
    have hr := HR.out.below hb
    have x0 := hr.c0
    have y0 := (hb.cell (p := ⟨w.heap.size, 0, none⟩) HY.out.2.2.2).trans HY.out.1
    have y1 := (hb.cell (p := ⟨w.heap.size, 1, none⟩) HY.out.2.2.2).trans HY.out.2.1
    have y2 := (hb.cell (p := ⟨w.heap.size, 2, none⟩) HY.out.2.2.2).trans HY.out.2.2.1
    have h63 := HP63.out
    have hbs : W.heap.size ≤ wr.heap.size := hb.size
    have Hby := Lib.hid (show (l.length + 1) * 40 ≤ 140737488355328 ∧ (l.length + 1 + 1) * 40 ≤ 140737488355328 from by have := hat.out.len; omega)
    by_cases hlt : k < P.length
    · obtain ⟨ad, hA, hb1, hd0, hd1, hd2⟩ := HR.out.rP k hlt
      subst hA
      have e0 : P.getD k P0 = P[k] := by simp [List.getD_eq_getElem?_getD, hlt]
      rw [e0] at hd0 hd1 hd2
      have hc0 := (hb.cell (p := ad.add (k * 3)) (by rw [add_block]; exact hb1)).trans hd0
      have hc1 := (hb.cell (p := ⟨(ad.add (k * 3)).block, (ad.add (k * 3)).off + 1, none⟩) (by show (ad.add (k * 3)).block < _; rw [add_block]; exact hb1)).trans hd1
      have hc2 := (hb.cell (p := ⟨(ad.add (k * 3)).block, (ad.add (k * 3)).off + 2, none⟩) (by show (ad.add (k * 3)).block < _; rw [add_block]; exact hb1)).trans hd2
      clear hd0 hd1 hd2
      have hk0 : (0 : Int) ≤ (k : Int) := by omega
      have hk1 : (k : Int) < (P.length : Int) := by omega
      have hb9 := Lib.hid (fun n => hb.trans ((below_drewN wr n).mono hbs))
      have hout9 := Lib.hid (fun n => hout.below (below_drewN wr n))
      cases done with
      | true =>
        have hat2 := Lib.hid (hat.out.plain hlt hat.out.len)
        have hll2 := Lib.hid (show true = false → (l ++ [P[k]]).length ≤ k + 1 from fun e => by cases e)
        clear e0 hr hat hll hout hb
        generalize P[k] = z at hc0 hc1 hc2 hat2 hll2
        go_upto_region 6 with fail
        go_quiet (fail)
        go_wp2_with (at_builtin; refine wl_append3 _ rfl _ _ rfl W.heap.size _ _ rfl (hout9.out _) z rfl Hby.out.1 hbs ?_; intro v' w3 h1' hb3)
        go_roundw
        case rel => exact ⟨k + 1, true, _, by omega, by go_num, rfl, hat2, hll2, h1', (hb9.out _).trans hb3⟩
        case measure => simp [intOf]; omega
      | false =>
        have hgt := gt_iff P[k].1 y.1
        have hat1 := Lib.hid (fun e => hat.out.none hlt e)
        have hat3 := Lib.hid (fun e => hat.out.here (hll.out rfl) hlt e)
        have hll2 := Lib.hid (show false = false → (l ++ [P[k]]).length ≤ k + 1 from fun _ => by have := hll.out rfl; simp; omega)
        have hll3 := Lib.hid (show true = false → (l ++ [y] ++ [P[k]]).length ≤ k + 1 from fun e => by cases e)
        clear e0 hr hat hll hout hb
        generalize P[k] = z at hc0 hc1 hc2 hgt hat1 hat3 hll2 hll3
        cases e1 : Op.bytesLess z.1 y.1 with
        | true =>
          have hat2 := Lib.hid (hat1.out (by rw [hgt, e1]; rfl))
          clear hgt hat1 hat3 hll3
          go_upto_region 6 with fail
          go_quiet (fail)
          go_wp2_with (at_builtin; refine wl_append3 _ rfl _ _ rfl W.heap.size _ _ rfl (hout9.out _) z rfl Hby.out.1 hbs ?_; intro v' w3 h1' hb3)
          go_roundw
          case rel => exact ⟨k + 1, false, _, by omega, by go_num, rfl, hat2, hll2, h1', (hb9.out _).trans hb3⟩
          case measure => simp [intOf]; omega
        | false =>
          by_cases q3 : z.1 = y.1
          · have hat2 := Lib.hid (hat1.out (by rw [hgt, e1, decide_eq_true q3]; rfl))
            have f3 := eq_true q3
            have f3' : (z.1 == y.1) = true := by simpa using q3
            clear hgt hat1 hat3 hll3 q3
            go_upto_region 6 with fail
            go_quiet (fail)
            go_wp2_with (at_builtin; refine wl_append3 _ rfl _ _ rfl W.heap.size _ _ rfl (hout9.out _) z rfl Hby.out.1 hbs ?_; intro v' w3 h1' hb3)
            go_roundw
            case rel => exact ⟨k + 1, false, _, by omega, by go_num, rfl, hat2, hll2, h1', (hb9.out _).trans hb3⟩
            case measure => simp [intOf]; omega
          · have hat2 := Lib.hid (hat3.out (by rw [hgt, e1, decide_eq_false q3]; rfl))
            have f3 := eq_false q3
            have f3' : (z.1 == y.1) = false := by simpa using q3
            clear hgt hat1 hat3 hll2 q3
            go_upto_region 6 with fail
            go_quiet (fail)
            go_wp2_with (first | (at_builtin; refine wl_append3 _ rfl _ _ rfl W.heap.size _ _ rfl h1' z rfl (by rw [List.length_append]; exact Hby.out.2) hbs3 ?_; intro v'' w4 h2' hb4) | (at_builtin; refine wl_append3 _ rfl _ _ rfl W.heap.size _ _ rfl (hout9.out _) y rfl Hby.out.1 hbs ?_; intro v' w3 h1' hb3; have hxW : x < W.heap.size := Nat.lt_of_lt_of_le HXL.out HB0.out.size; have x0' := (hb3.cell (p := ⟨x, 0, none⟩) hxW).trans x0; have hc0' := (hb3.cell (p := ad.add (k * 3)) (by rw [add_block]; exact hb1)).trans hc0; have hc1' := (hb3.cell (p := ⟨(ad.add (k * 3)).block, (ad.add (k * 3)).off + 1, none⟩) (by show (ad.add (k * 3)).block < _; rw [add_block]; exact hb1)).trans hc1; have hc2' := (hb3.cell (p := ⟨(ad.add (k * 3)).block, (ad.add (k * 3)).off + 2, none⟩) (by show (ad.add (k * 3)).block < _; rw [add_block]; exact hb1)).trans hc2; have hbs3 := Nat.le_trans hbs hb3.size))
            go_roundw
            case rel => exact ⟨k + 1, true, _, by omega, by go_num, rfl, hat2, hll3, h2', ((hb9.out _).trans hb3).trans hb4⟩
            case measure => simp [intOf]; omega
    · have hke : k = P.length := by omega
      subst hke
      have hfin := hat.out.all
      rw [List.drop_length] at hfin
      have hxW := Lib.hid (Nat.lt_of_lt_of_le HXL.out HB0.out.size)
      have HR2 := Lib.hid hr
      have HB2 := Lib.hid hb
      have x1 := hr.f0
      clear hat hr hb
      cases done with
      | true =>
        rw [cond_true, List.append_nil] at hfin
        subst hfin
        obtain ⟨A', c', rfl, _⟩ := hout.rd
        have HO := Lib.hid hout
        clear hout
        go_wp2_with fail
        go_end0
        exact ⟨rfl, HR2.out.putP HO.out hxW.out, grown_of (HB0.out.trans (HB2.out.mono HB0.out.size))⟩
      | false =>
        rw [cond_false, insM] at hfin
        go_wp2_with (at_builtin; refine wl_append3 _ rfl _ _ rfl W.heap.size _ _ rfl hout y rfl Hby.out.1 hbs ?_; intro v' w3 h1' hb3; obtain ⟨A', c', rfl, _⟩ := h1'.rd; have x0' := (hb3.cell (p := ⟨x, 0, none⟩) hxW.out).trans x0; have x1' := (hb3.frozen (p := ⟨x, 0, none⟩) hxW.out).trans x1)
        go_end0
        rw [hfin] at h1'
        have hb4 := HB2.out.trans hb3
        exact ⟨rfl, (HR.out.below hb4).putP h1' hxW.out, grown_of (HB0.out.trans (hb4.mono HB0.out.size))⟩

end Go.Proofs.Ytjggeodnoigkkaa

namespace Go.Proofs.Ytjggeodnoigkkaa
open Go.RowKit Go.Maps Go.Shelf Go.Proofs.YtjggeodnoigkkaaM

theorem put_new {M : PM} {k : Bs} {v : Int × Bs} (h : hasM M k = false) : putM M k v = insM (k, v) M := by
  have hd : delM M k = M := List.filter_eq_self.2 fun y hy => by
    have : y.1 ≠ k := fun e => by
      rw [hasM, List.any_eq_false] at h
      exact h y hy (by simp [e])
    simp [this]
  rw [putM, hd]
theorem get_at {P : PM} (hr : Rising P) {k : Nat} (hk : k < P.length) : getM P P[k].1 = some P[k].2 := hr.get_of_mem (List.getElem_mem hk)

/-- What a call makes of the document's pins. -/
def RefPost (x : Nat) (B : Option Addr) (d : Nat) (D : DM) (r : Int × PM) (w : World) (e : Ending) (w' : World) : Prop :=
  e = .returned (.int .i64 r.1) ∧ (∃ A' c', RefAt w' x r.2 D A' c' B d) ∧ w.grownBy w' (some x)

set_option maxRecDepth 100000 in
set_option maxHeartbeats 2000000 in
theorem refPin_any (x : Nat) (P : PM) (D : DM) (A : Option Addr) (c : Nat) (B : Option Addr) (d : Nat) (name : Bs) (a : Int) (w : World) (h : RefAt w x P D A c B d) (h63 : P.length ≤ 1000) (n63 : name.length ≤ 9223372036854775807) :
    Calls Try.prog 44 #[.pointer (some ⟨x, 0, none⟩), .string ⟨name.toArray⟩, .int .i64 a] w (RefPost x B d D (pinF P name a) w) := by
  have x0 := h.c0
  have x1 := h.c1
  have H := Lib.hid h
  have HP63 := Lib.hid h63
  have HC := Lib.hid (place_any A B c d P.length D.length P name w rfl h.rP (by omega))
  clear h h63
  have bad : pinF P name a = (1, P) → RefPost x B d D (pinF P name a) w (.returned (.int .i64 1)) w := fun e => by
    rw [e]
    exact ⟨rfl, ⟨A, c, H.out⟩, World.grownBy.refl w _⟩
  have HBAD := Lib.hid bad
  clear bad
  by_cases q1 : name = []
  · have f4 : (name == []) = true := by simp [q1]
    have f5 := eq_true q1
    have hf : pinF P name a = (1, P) := by rw [pinF, if_pos (.inl (by rw [q1]; rfl))]
    have HF := Lib.hid (HBAD.out hf)
    clear q1 hf
    go_enter Try.func44, Try.ntmps44
    go_wp2_with fail
    go_ret
    exact HF.out
  have f4 : (name == []) = false := by simp [q1]
  have f5 := eq_false q1
  by_cases q2 : 64 < name.length
  · have d1 : decide ((64 : Int) < (name.length : Int)) = true := decide_eq_true (by omega)
    have d2 : decide (64 < name.length) = true := decide_eq_true q2
    have hf : pinF P name a = (1, P) := by rw [pinF, if_pos (.inl (by rw [rightB, decide_eq_false (p := name.length ≤ 64) (by omega)]; simp))]
    have HF := Lib.hid (HBAD.out hf)
    clear q1 q2 hf
    go_enter Try.func44, Try.ntmps44
    go_wp2_with fail
    go_ret
    exact HF.out
  have d1 : decide ((64 : Int) < (name.length : Int)) = false := decide_eq_false (by omega)
  have d2 : decide (64 < name.length) = false := decide_eq_false q2
  have hrt := (rightB_iff name).2 ⟨q1, by omega⟩
  by_cases q3 : a < 0
  · have d3 : decide (a < 0) = true := decide_eq_true q3
    have HF := Lib.hid (HBAD.out (by rw [pinF, if_pos (.inr (.inl q3))]))
    clear q1 q2 q3 hrt
    go_enter Try.func44, Try.ntmps44
    go_wp2_with fail
    go_ret
    exact HF.out
  have d3 : decide (a < 0) = false := decide_eq_false q3
  by_cases q4 : 1099511627776 ≤ a
  · have d4 : decide (1099511627776 ≤ a) = true := decide_eq_true q4
    have HF := Lib.hid (HBAD.out (by rw [pinF, if_pos (.inr (.inr q4))]))
    clear q1 q2 q3 q4 hrt
    go_enter Try.func44, Try.ntmps44
    go_wp2_with fail
    go_ret
    exact HF.out
  have d4 : decide (1099511627776 ≤ a) = false := decide_eq_false q4
  have HF := Lib.hid (show pinF P name a = if hasM P name = true then (16, P) else (0, putM P name (a, [])) from by
    rw [pinF, if_neg (by rintro (h | h | h); · rw [hrt] at h; cases h
                         · exact q3 h
                         · exact q4 h)])
  clear q1 q2 q3 q4 hrt HBAD
  go_enter Try.func44, Try.ntmps44
  go_wp2_with fail
  refine HC.out.mono ?_
  rintro e w1 ⟨r, rfl, hpl, hb1⟩
  have hh := hpl.has
  have H1 := Lib.hid (H.out.below hb1)
  have HB1 := Lib.hid hb1
  clear hpl hb1 x0 x1
  cases hm : hasM P name with
  | true =>
    have HF2 := Lib.hid (HF.out.trans (by rw [hm, if_pos rfl]))
    rw [hm] at hh
    clear hm HF
    go_wp2_with fail
    go_ret
    unfold RefPost
    rw [HF2.out]
    exact ⟨rfl, ⟨A, c, H1.out⟩, gb HB1.out _⟩
  | false =>
    have HF2 := Lib.hid (HF.out.trans (by rw [hm, if_neg (by simp), put_new hm]))
    rw [hm] at hh
    clear hm HF
    go_wp2_with fail
    refine (put_any x P D A c B d (name, (a, [])) _ H1.out HP63.out).mono ?_
    rintro e w2 ⟨rfl, hr, hg⟩
    go_wp2_with fail
    go_ret
    unfold RefPost
    rw [HF2.out]
    exact ⟨rfl, hr, (gb HB1.out _).trans hg⟩

set_option maxRecDepth 100000 in
set_option maxHeartbeats 2000000 in
theorem refClone_any (x : Nat) (P : PM) (D : DM) (A : Option Addr) (c : Nat) (B : Option Addr) (d : Nat) (name of_ : Bs) (w : World) (h : RefAt w x P D A c B d) (hr : Rising P) (h63 : P.length ≤ 1000) (n63 : name.length ≤ 9223372036854775807) :
    Calls Try.prog 45 #[.pointer (some ⟨x, 0, none⟩), .string ⟨name.toArray⟩, .string ⟨of_.toArray⟩] w (RefPost x B d D (cloneF P name of_) w) := by
  have x0 := h.c0
  have x1 := h.c1
  have H := Lib.hid h
  have HR := Lib.hid hr
  have HP63 := Lib.hid h63
  have HC := Lib.hid (place_any A B c d P.length D.length P of_ w rfl h.rP (by omega))
  have HC2 := Lib.hid fun w1 (hb : Below w.heap.size w w1) => (place_any A B c d P.length D.length P name w1 rfl (h.rP.below hb) (by omega))
  clear h h63 hr
  by_cases q1 : name = []
  · have f4 : (name == []) = true := by simp [q1]
    have f5 := eq_true q1
    have HF := Lib.hid (show cloneF P name of_ = (1, P) from by rw [cloneF, if_pos (by rw [q1]; rfl)])
    clear q1
    go_enter Try.func45, Try.ntmps45
    go_wp2_with fail
    go_ret
    unfold RefPost
    rw [HF.out]
    exact ⟨rfl, ⟨A, c, H.out⟩, World.grownBy.refl w _⟩
  have f4 : (name == []) = false := by simp [q1]
  have f5 := eq_false q1
  by_cases q2 : 64 < name.length
  · have d1 : decide ((64 : Int) < (name.length : Int)) = true := decide_eq_true (by omega)
    have d2 : decide (64 < name.length) = true := decide_eq_true q2
    have HF := Lib.hid (show cloneF P name of_ = (1, P) from by rw [cloneF, if_pos (by rw [rightB, decide_eq_false (p := name.length ≤ 64) (by omega)]; simp)])
    clear q1 q2
    go_enter Try.func45, Try.ntmps45
    go_wp2_with fail
    go_ret
    unfold RefPost
    rw [HF.out]
    exact ⟨rfl, ⟨A, c, H.out⟩, World.grownBy.refl w _⟩
  have d1 : decide ((64 : Int) < (name.length : Int)) = false := decide_eq_false (by omega)
  have d2 : decide (64 < name.length) = false := decide_eq_false q2
  have hrt := (rightB_iff name).2 ⟨q1, by omega⟩
  clear q1 q2
  go_enter Try.func45, Try.ntmps45
  go_wp2_with fail
  refine HC.out.mono ?_
  rintro e w1 ⟨r, rfl, hpl, hb1⟩
  rcases hpl with ⟨rfl, hno⟩ | ⟨k, hk, rfl, hof⟩
  · have HF := Lib.hid (show cloneF P name of_ = (15, P) from by
      have h1 := hasM_no hno
      rw [hasM_get] at h1
      rw [cloneF, if_neg (by rw [hrt]; simp)]
      cases hg : getM P of_ with
      | none => rfl
      | some v => rw [hg] at h1; cases h1)
    have H1 := Lib.hid (H.out.below hb1)
    have HB1 := Lib.hid hb1
    clear hno hb1 hrt
    go_wp2_with fail
    go_ret
    unfold RefPost
    rw [HF.out]
    exact ⟨rfl, ⟨A, c, H1.out⟩, gb HB1.out _⟩
  · have H1 := Lib.hid (H.out.below hb1)
    have hc := Lib.hid (HC2.out w1 hb1)
    have x0' := H1.out.c0
    have x1' := H1.out.c1
    have HB1 := Lib.hid hb1
    obtain ⟨y, hy⟩ : ∃ y, y = P[k] := ⟨_, rfl⟩
    have HF := Lib.hid (show cloneF P name of_ = if hasM P name = true then (16, P) else (0, putM P name (y.2.1, of_)) from by
      rw [cloneF, if_neg (by rw [hrt]; simp), ← hof, get_at HR.out hk, hy])
    have hdk : decide ((k : Int) < 0) = false := decide_eq_false (by omega)
    clear hb1 hrt x0 x1 HC HC2 hof
    go_wp2_with fail
    refine hc.out.mono ?_
    rintro e w2 ⟨r, rfl, hpl, hb2⟩
    have hh := hpl.has
    have H2 := Lib.hid (H1.out.below hb2)
    have HB2 := Lib.hid (HB1.out.trans (hb2.mono HB1.out.size))
    clear hpl hb2 x0' x1' hc
    cases hm : hasM P name with
    | true =>
      have HF2 := Lib.hid (HF.out.trans (by rw [hm, if_pos rfl]))
      rw [hm] at hh
      clear hm HF
      go_wp2_with fail
      go_ret
      unfold RefPost
      rw [HF2.out]
      exact ⟨rfl, ⟨A, c, H2.out⟩, gb HB2.out _⟩
    | false =>
      have HF2 := Lib.hid (HF.out.trans (by rw [hm, if_neg (by simp), put_new hm]))
      rw [hm] at hh
      have x0 := H2.out.c0
      obtain ⟨ad, hA, _, _, hc1, _⟩ := H2.out.rP k hk
      have e0 : P.getD k P0 = y := by simp [hy, List.getD_eq_getElem?_getD, hk]
      rw [e0] at hc1
      subst hA
      have hk0 : (0 : Int) ≤ (k : Int) := by omega
      have hk1 : (k : Int) < (P.length : Int) := by omega
      have HY := Lib.hid hy
      clear hm HF e0 hy
      go_wp2_with fail
      refine (put_any x P D (some ad) c B d (name, (y.2.1, of_)) _ H2.out HP63.out).mono ?_
      rintro e w3 ⟨rfl, hr, hg⟩
      go_wp2_with fail
      go_ret
      unfold RefPost
      rw [HF2.out]
      exact ⟨rfl, hr, (gb HB2.out _).trans hg⟩

end Go.Proofs.Ytjggeodnoigkkaa

namespace Go.Proofs.Ytjggeodnoigkkaa
open Go.RowKit Go.Maps Go.Shelf Go.Proofs.YtjggeodnoigkkaaM

theorem add_pos (a : Addr) {n : Nat} (h : 0 < n) : a.add n = ⟨a.block, a.off + n, none⟩ := by
  unfold Addr.add
  rw [if_neg (by omega)]
theorem add_off (a : Addr) (n : Nat) : (a.add n).off = a.off + n := by
  unfold Addr.add
  split
  · rename_i h; subst h; rfl
  · rfl
theorem add_add (a : Addr) (m n : Nat) : (a.add m).add n = a.add (m + n) := by
  by_cases h : n = 0
  · subst h; rfl
  · rw [add_pos (a.add m) (by omega), add_pos a (n := m + n) (by omega), add_block, add_off, Nat.add_assoc]
theorem rd_cells {w : World} {ad : Addr} {P : PM} (h : RdP w (some ad) P) (off m : Nat) (hm : off + m ≤ P.length) (j : Nat) (u : Value) (hj : (((P.drop off).take m).flatMap pcells)[j]? = some u) : w.cell? ((ad.add (off * 3)).add j) = some u := by
  have hl : ((P.drop off).take m).length = m := by rw [List.length_take, List.length_drop]; omega
  have hj3 : j < m * 3 := by
    have := (List.getElem?_eq_some_iff.1 hj).1
    rw [pflat_len, hl] at this
    exact this
  obtain ⟨q, r, hr, rfl⟩ : ∃ q r, r < 3 ∧ j = q * 3 + r := ⟨j / 3, j % 3, by omega, by omega⟩
  have hq : q < m := by omega
  obtain ⟨p0, p1, p2⟩ := pflat_at ((P.drop off).take m) q (by rw [hl]; exact hq)
  have e0 : ((P.drop off).take m).getD q P0 = P.getD (off + q) P0 := by
    simp [List.getD_eq_getElem?_getD, hq]
  rw [e0] at p0 p1 p2
  obtain ⟨ad', e, _, c0, c1, c2⟩ := h (off + q) (by omega)
  obtain rfl := Option.some.inj e
  have eb : (ad.add (off * 3)).add (q * 3) = ad.add ((off + q) * 3) := by rw [add_add, Nat.add_mul]
  have e1 : ∀ r, 0 < r → (ad.add (off * 3)).add (q * 3 + r) = ⟨(ad.add ((off + q) * 3)).block, (ad.add ((off + q) * 3)).off + r, none⟩ := fun r hr => by
    rw [add_add, add_pos _ (by omega), add_block, add_off]
    congr 1
    omega
  match r, hr with
  | 0, _ =>
    rw [Nat.add_zero] at hj ⊢
    rw [p0] at hj
    rw [eb, c0]
    exact hj
  | 1, _ =>
    rw [p1] at hj
    rw [e1 1 (by omega), c1]
    exact hj
  | 2, _ =>
    rw [p2] at hj
    rw [e1 2 (by omega), c2]
    exact hj

theorem pcells_one (l : PM) : ∀ u ∈ l.flatMap pcells, u.oneCell' = true := by
  intro u hu
  obtain ⟨x, _, hx⟩ := List.mem_flatMap.1 hu
  simp only [pcells, List.mem_cons, List.not_mem_nil, or_false] at hx
  rcases hx with rfl | rfl | rfl <;> rfl

/-- 'append(out, l[..]...)'. -/
theorem wl_appendP {ops : Array Oper} {rest : List Oper} {o : Oper} {a : Act} {Q : Exit → Act → World → Prop} (w : World) (hgd : o.guard = none) (s x : Operand)
    (ho : o.op = .call { callee := .builtin .append, args := #[s, x], argTypes := #[49, 49] }) (base : Nat)
    (v : Value) (l : PM) (hs : a.eval s = v) (hown : Pns w base v l) (ad : Addr) (m c : Nat) (ys : PM) (hys : ys.length = m) (hx : a.eval x = .slice (some ad) m c) (hcell : ∀ j u, (ys.flatMap pcells)[j]? = some u → w.cell? (ad.add j) = some u)
    (hbytes : (l.length + m) * 40 ≤ 140737488355328) (hbase : base ≤ w.heap.size)
    (h : ∀ v' w', Pns w' base v' (l ++ ys) → Below base w w' → wpList Try.prog ops Q rest (a.put o.dst v') w') : wpList Try.prog ops Q (o :: rest) a w := by
  obtain ⟨i0, hi, hz0, hz1, hz2⟩ := info_parts info94
  refine wpList_append_own w hgd s x 49 ho base 94 i0 _ 3 40 Try.underlying49 hi hz0 hz1 hz2 rfl (by decide) v l.length (l.flatMap pcells) hs hown ad m c (ys.flatMap pcells) hx (by rw [pflat_len, hys]) hcell (pcells_one ys) ?_ hbytes hbase ?_
  · show l.length + m ≤ 2 ^ 63 - 1
    omega
  · intro v' w' h1 h2 h3
    refine h v' w' ?_ ?_
    · unfold Pns
      rw [List.flatMap_append, List.length_append, hys]
      exact h1
    · exact (Below.refl base w).grown h2 hbase fun k hk => (World.ownsRow.lt hown k hk).1

theorem del_at {P : PM} (hr : Rising P) {k : Nat} (hk : k < P.length) : delM P P[k].1 = P.take k ++ P.drop (k + 1) := by
  have e : P = P.take k ++ P[k] :: P.drop (k + 1) := by rw [← List.drop_eq_getElem_cons hk, List.take_append_drop]
  have hne : ∀ j (h : j < P.length), j ≠ k → P[j].1 ≠ P[k].1 := fun j h hjk e => by
    rcases Nat.lt_or_gt_of_ne hjk with h1 | h1
    · have := List.pairwise_iff_getElem.1 hr j k h hk h1
      rw [e, MKey.irrefl] at this
      cases this
    · have := List.pairwise_iff_getElem.1 hr k j hk h h1
      rw [e, MKey.irrefl] at this
      cases this
  generalize hx : P[k] = x at hne e
  rw [delM]
  conv => lhs; rw [e]
  rw [List.filter_append, List.filter_cons_of_neg (by simp)]
  congr 1
  · refine List.filter_eq_self.2 fun y hy => ?_
    obtain ⟨j, hj, rfl⟩ := List.getElem_of_mem hy
    rw [List.length_take] at hj
    rw [List.getElem_take]
    simpa using hne j (by omega) (by omega)
  · refine List.filter_eq_self.2 fun y hy => ?_
    obtain ⟨j, hj, rfl⟩ := List.getElem_of_mem hy
    rw [List.length_drop] at hj
    rw [List.getElem_drop]
    simpa using hne (k + 1 + j) (by omega) (by omega)

set_option maxRecDepth 100000 in
set_option maxHeartbeats 2000000 in
theorem refUnpin_any (x : Nat) (P : PM) (D : DM) (A : Option Addr) (c : Nat) (B : Option Addr) (d : Nat) (name : Bs) (w : World) (h : RefAt w x P D A c B d) (hr : Rising P) (h63 : P.length ≤ 1000) :
    Calls Try.prog 46 #[.pointer (some ⟨x, 0, none⟩), .string ⟨name.toArray⟩] w (RefPost x B d D (unpinF P name) w) := by
  have x0 := h.c0
  have x1 := h.c1
  have H := Lib.hid h
  have HR := Lib.hid hr
  have HP63 := Lib.hid h63
  have HC := Lib.hid (place_any A B c d P.length D.length P name w rfl h.rP (by omega))
  have HC2 := Lib.hid fun w1 (hb : Below w.heap.size w w1) => refClones_any A B c d P.length D.length P name w1 rfl (h.rP.below hb) (by omega)
  clear h h63 hr
  go_enter Try.func46, Try.ntmps46
  go_wp2_with fail
  refine HC.out.mono ?_
  rintro e w1 ⟨r, rfl, hpl, hb1⟩
  have H1 := Lib.hid (H.out.below hb1)
  have HB1 := Lib.hid hb1
  have hc := Lib.hid (HC2.out w1 hb1)
  have x0' := H1.out.c0
  have x1' := H1.out.c1
  clear hb1 x0 x1 HC HC2
  rcases hpl with ⟨rfl, hno⟩ | ⟨k, hk, rfl, hof⟩
  · have HF := Lib.hid (show unpinF P name = (15, P) from by rw [unpinF, if_pos (hasM_no hno)])
    clear hno
    go_wp2_with fail
    go_ret
    unfold RefPost
    rw [HF.out]
    exact ⟨rfl, ⟨A, c, H1.out⟩, gb HB1.out _⟩
  · have hh : hasM P name = true := by rw [← hof]; exact hasM_at hk
    have HD := Lib.hid (show delM P name = P.take k ++ P.drop (k + 1) from by rw [← hof]; exact del_at HR.out hk)
    have hdk : decide ((k : Int) < 0) = false := decide_eq_false (by omega)
    have HH := Lib.hid hh
    clear hof hh
    go_wp2_with fail
    refine hc.out.mono ?_
    rintro e w2 ⟨v, rfl, hv, hb2⟩
    obtain ⟨A2, k2, rfl, _⟩ := hv.shape
    have H2 := Lib.hid (H1.out.below hb2)
    have HB2 := Lib.hid (HB1.out.trans (hb2.mono HB1.out.size))
    clear hv hb2 hc x0' x1'
    have x0 := H2.out.c0
    have xf := H2.out.f0
    by_cases hl : 0 < (clonesF P name).length
    · have HF := Lib.hid (show unpinF P name = (37, P) from by rw [unpinF, HH.out, if_neg (by simp), if_pos hl])
      have d1 : decide ((0 : Int) < ((clonesF P name).length : Int)) = true := decide_eq_true (by omega)
      have d2 : decide (0 < (clonesF P name).length) = true := decide_eq_true hl
      clear hl
      go_wp2_with fail
      go_ret
      unfold RefPost
      rw [HF.out]
      exact ⟨rfl, ⟨A, c, H2.out⟩, gb HB2.out _⟩
    · have HF := Lib.hid (show unpinF P name = (0, P.take k ++ P.drop (k + 1)) from by rw [unpinF, HH.out, if_neg (by simp), if_neg hl, HD.out])
      have d1 : decide ((0 : Int) < ((clonesF P name).length : Int)) = false := decide_eq_false (by omega)
      have d2 : decide (0 < (clonesF P name).length) = false := decide_eq_false hl
      clear hl
      obtain ⟨ad, hA, _⟩ := H2.out.rP k hk
      subst hA
      have hlc := H2.out.lc
      have hk0 : (0 : Int) ≤ (k : Int) := by omega
      have hk1 : (k : Int) ≤ (c : Int) := by omega
      have hown : Pns w2 w2.heap.size (.slice none 0 0) [] := World.ownsRow_nil _ _ _ _
      have HW := Lib.hid (fun j u hj => rd_cells H2.out.rP 0 k (by omega) j u hj)
      have hlk : ((P.drop 0).take k).length = k := by rw [List.length_take, List.drop_zero]; omega
      have hld : ((P.drop (k + 1)).take (P.length - (k + 1))).length = P.length - (k + 1) := by rw [List.length_take, List.length_drop]; omega
      have HLK := Lib.hid hlk
      have HLD := Lib.hid hld
      have HDR := Lib.hid (show (P.drop 0).take k ++ (P.drop (k + 1)).take (P.length - (k + 1)) = P.take k ++ P.drop (k + 1) from by rw [List.drop_zero, List.take_of_length_le (l := P.drop (k + 1)) (by rw [List.length_drop]; omega)])
      have h1000 := HP63.out
      have hk2 : ((k : Int) + 1) ≤ (P.length : Int) := by omega
      have hk3 : (0 : Int) ≤ (k : Int) + 1 := by omega
      have hk4 : ((P.length : Nat) : Int) ≤ (c : Int) := by omega
      have HKL := Lib.hid (show (k + 1) + (P.length - (k + 1)) ≤ P.length from by omega)
      clear hlk hld hk
      have HBY := Lib.hid (show (([] ++ (P.drop 0).take k).length + 0) * 40 ≤ 140737488355328 ∧ (([] ++ (P.drop 0).take k).length + (P.length - (k + 1))) * 40 ≤ 140737488355328 from by simp; omega)
      have HL1 := Lib.hid (show (([] : PM) ++ (P.drop 0).take k) ++ [] = P.take k from by simp)
      have HL2 := Lib.hid (show (([] : PM) ++ (P.drop 0).take k) ++ (P.drop (k + 1)).take (P.length - (k + 1)) = P.take k ++ P.drop (k + 1) from by rw [List.nil_append]; exact HDR.out)
      by_cases hck : c = k + 1
      · have HDN := Lib.hid (show P.drop (k + 1) = [] from List.drop_eq_nil_of_le (by omega))
        have HFA := Lib.hid (show unpinF P name = (0, P.take k) from by rw [HF.out, HDN.out, List.append_nil])
        clear HF HL2 HD HDN HDR
        generalize P.take k = R at HFA HL1
        subst hck
        go_wp2_with (first | (at_builtin; refine wl_appendP _ rfl _ _ rfl w2.heap.size _ _ rfl h1' ad 0 _ [] rfl rfl (fun j u h => by simp at h) HBY.out.1 hbs3 ?_; intro v'' w4 h2' hb4; rw [HL1.out] at h2'; obtain ⟨A', c', rfl, _⟩ := h2'.rd; have x0'' := (hb4.cell (p := ⟨x, 0, none⟩) H2.out.lt).trans x0'; have xf'' := (hb4.frozen (p := ⟨x, 0, none⟩) H2.out.lt).trans xf') | (at_builtin; refine wl_appendP _ rfl _ _ rfl w2.heap.size _ _ rfl hown ad k _ _ HLK.out rfl HW.out (by simp; omega) (Nat.le_refl _) ?_; intro v' w3 h1' hb3; have x0' := (hb3.cell (p := ⟨x, 0, none⟩) H2.out.lt).trans x0; have xf' := (hb3.frozen (p := ⟨x, 0, none⟩) H2.out.lt).trans xf; have hbs3 := hb3.size))
        go_ret
        have hb5 := hb3.trans hb4
        unfold RefPost
        rw [HFA.out]
        exact ⟨rfl, (H2.out.below hb5).putP h2' H2.out.lt, (gb HB2.out _).trans (grown_of hb5)⟩
      · clear HD HDR HL1
        generalize P.take k ++ P.drop (k + 1) = R at HF HL2
        go_wp2_with (first | (at_builtin; refine wl_appendP _ rfl _ _ rfl w2.heap.size _ _ rfl h1' (ad.add ((k + 1) * 3)) (P.length - (k + 1)) _ _ HLD.out rfl (fun j u h => rd_cells (H2.out.below hb3).rP (k + 1) (P.length - (k + 1)) HKL.out j u h) HBY.out.2 hbs3 ?_; intro v'' w4 h2' hb4; rw [HL2.out] at h2'; obtain ⟨A', c', rfl, _⟩ := h2'.rd; have x0'' := (hb4.cell (p := ⟨x, 0, none⟩) H2.out.lt).trans x0'; have xf'' := (hb4.frozen (p := ⟨x, 0, none⟩) H2.out.lt).trans xf') | (at_builtin; refine wl_appendP _ rfl _ _ rfl w2.heap.size _ _ rfl hown ad k _ _ HLK.out rfl HW.out (by simp; omega) (Nat.le_refl _) ?_; intro v' w3 h1' hb3; have x0' := (hb3.cell (p := ⟨x, 0, none⟩) H2.out.lt).trans x0; have xf' := (hb3.frozen (p := ⟨x, 0, none⟩) H2.out.lt).trans xf; have hbs3 := hb3.size))
        go_ret
        have hb5 := hb3.trans hb4
        unfold RefPost
        rw [HF.out]
        exact ⟨rfl, (H2.out.below hb5).putP h2' H2.out.lt, (gb HB2.out _).trans (grown_of hb5)⟩

end Go.Proofs.Ytjggeodnoigkkaa
