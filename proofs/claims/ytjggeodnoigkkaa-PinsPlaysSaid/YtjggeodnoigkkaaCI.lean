/-
  Pins out of bytes: Decode, by a contract.
-/
import Derived.Test.YtjggeodnoigkkaaCF
import Derived.Test.YtjggeodnoigkkaaCH
namespace Go.Proofs.Ytjggeodnoigkkaa
open Go.RowKit Go.Maps Go.Shelf Go.Proofs.YtjggeodnoigkkaaM

theorem pinsGo_keeps (n : Int) : ∀ (f : Nat) (i : Int) (x : PSt), (∀ y ∈ x.M, y.2.2.length ≤ 255) → (∀ y ∈ (pinsGo n f i x).M, y.2.2.length ≤ 255) ∧ (pinsGo n f i x).M.length ≤ x.M.length + f ∧ (pinsGo n f i x).c.1.length ≤ x.c.1.length
  | 0, _, x, h => ⟨h, Nat.le_refl _, Nat.le_refl _⟩
  | f + 1, i, x, h => by
    unfold pinsGo
    split
    · obtain ⟨h1, h2, h3⟩ := pinsGo_keeps n f (i + 1) (pinStep x) fun y hy => by
        rcases (mem_put _ _ _ _).1 hy with rfl | hy
        · exact shortF_short _
        · exact h y hy.1
      have h4 : (pinStep x).M.length ≤ x.M.length + 1 := length_put_le _ _ _
      exact ⟨h1, by omega, Nat.le_trans h3 (pinStep_len x)⟩
    · exact ⟨h, by omega, Nat.le_refl _⟩
theorem pinsR_keeps (s : Bs) : (∀ y ∈ (pinsR (s, false)).M, y.2.2.length ≤ 255) ∧ (pinsR (s, false)).M.length ≤ s.length + 1 ∧ (pinsR (s, false)).c.1.length ≤ s.length := by
  obtain ⟨h1, h2, h3⟩ := pinsGo_keeps (numF (s, false)).1 ((numF (s, false)).2.1.length + 1) 0 ⟨true, [], (numF (s, false)).2, []⟩ (fun y hy => by cases hy)
  have h4 := numF_len (s, false)
  have h4' : (numF (s, false)).2.1.length ≤ s.length := h4
  have h3' : (pinsR (s, false)).c.1.length ≤ (numF (s, false)).2.1.length := h3
  refine ⟨h1, ?_, Nat.le_trans h3' h4'⟩
  have h2' : (pinsR (s, false)).M.length ≤ 0 + ((numF (s, false)).2.1.length + 1) := h2
  omega

theorem decF_eq (s : Bs) : decF s =
    if (dropsR (pinsR (s, false)).c).c.2 = true then (10, [], [])
    else if (dropsR (pinsR (s, false)).c).c.1 ≠ [] then (11, [], [])
    else if (!pinsOk (s, false) || (!dropsOk (pinsR (s, false)).c || !rootedB (pinsR (s, false)).M)) = true then (12, [], [])
    else (0, (pinsR (s, false)).M, (dropsR (pinsR (s, false)).c).D) := rfl

/-- What Decode comes to. -/
def DecPost (s : Bs) (w : World) (e : Ending) (w' : World) : Prop :=
  Below w.heap.size w w' ∧ (((decF s).1 ≠ 0 ∧ e = .returned (.tuple #[.pointer none, .int .i64 (decF s).1])) ∨
    ((decF s).1 = 0 ∧ ∃ p bm bd, e = .returned (.tuple #[.pointer (some ⟨p, 0, none⟩), .int .i64 0]) ∧ IsPins w' p bm bd (decF s).2.1 (decF s).2.2 ∧ w.heap.size ≤ bm ∧ w.heap.size ≤ bd))

theorem IsCut.made (w : World) (s : Bs) (t : TypeId) : IsCut (w.alloc (.cells #[.string ⟨s.toArray⟩, .bool false] t)) w.heap.size (s, false) :=
  ⟨by simp, by simp, by rw [frozen?_alloc_cells]; simp [World.frozen?], by rw [frozen?_alloc_cells]; simp [World.frozen?]⟩

set_option maxRecDepth 100000 in
set_option maxHeartbeats 2000000 in
theorem decode_any (s : Bs) (w : World) (hs : s.length ≤ 100000) : Calls Try.prog 28 #[.string ⟨s.toArray⟩] w (DecPost s w) := by
  have hkeep := pinsR_keeps s
  have HD := Lib.hid (decF_eq s)
  go_enter Try.func28, Try.ntmps28
  go_wp2_with fail
  refine (new_any _).mono ?_
  rintro e w1 ⟨p, bm, bd, rfl, h1, hb1, hp, hbm, hbd⟩
  have hb8 : Below w1.heap.size w1 (w1.alloc (.cells #[.string ⟨s.toArray⟩, .bool false] 100)) := (Below.refl _ _).alloc (Nat.le_refl _) _
  have hc := IsCut.made w1 s 100
  have h2 := h1.below hb8
  have hb2 := hb1.trans (hb8.mono hb1.size)
  have hl := h1.lts
  have hl0 := h1.lt
  have NE := Lib.hid (show (p ≠ w1.heap.size ∧ bm ≠ w1.heap.size ∧ bd ≠ w1.heap.size) ∧ w.heap.size ≤ w1.heap.size ∧ w.heap.size ≤ bm ∧ w.heap.size ≤ bd from ⟨⟨by omega, by omega, by omega⟩, hb1.size, hbm, hbd⟩)
  have HC1 := Lib.hid (cutPins_any w1.heap.size p bm bd [] (s, false) _ hc h2 (show s.length ≤ 1000000 by omega) NE.out.1.1 NE.out.1.2.1 NE.out.1.2.2)
  have HC2 := Lib.hid fun w3 (hc : IsCut w3 w1.heap.size (pinsR (s, false)).c) (hp : IsPins w3 p bm bd (pinsR (s, false)).M []) => cutDrops_any w1.heap.size p bm bd (pinsR (s, false)).M (pinsR (s, false)).c w3 hc hp (Nat.le_trans hkeep.2.2 (by omega)) NE.out.1.1 NE.out.1.2.1 NE.out.1.2.2
  have HC3 := Lib.hid fun w3 (hp : IsPins w3 p bm bd (pinsR (s, false)).M (dropsR (pinsR (s, false)).c).D) => rooted_any p bm bd (pinsR (s, false)).M (dropsR (pinsR (s, false)).c).D w3 hp (Nat.le_trans hkeep.2.1 (by omega)) hkeep.1
  have HB2 := Lib.hid hb2
  generalize pinsR (s, false) = P at HC1 HC2 HC3 HD
  generalize dropsR P.c = Q at HC2 HC3 HD
  generalize pinsOk (s, false) = okP at HC1 HD
  generalize dropsOk P.c = okD at HC2 HD
  clear hb8 hc h2 hb2 hl hl0 h1 hb1 hp hbm hbd hkeep hs
  go_wp2_with fail
  refine HC1.out.mono ?_
  rintro e w3 ⟨rfl, hc3, h3, ht3⟩
  have hb3 := HB2.out.trans (ht3 w.heap.size NE.out.2.1 NE.out.2.2.1 HB2.out.size)
  clear HC1 ht3
  go_wp2_with fail
  refine (HC2.out w3 hc3 h3).mono ?_
  rintro e w4 ⟨rfl, hc4, h4, ht4⟩
  have hb4 := hb3.trans (ht4 w.heap.size NE.out.2.1 NE.out.2.2.2 hb3.size)
  clear HC2 ht4 hc3 h3 hb3
  obtain ⟨qok, qlast, ⟨qs, qb⟩, qD⟩ := Q
  simp only at hc4 h4 HC3 HD
  have c0 := hc4.c0
  have c1 := hc4.c1
  simp only at c0 c1
  have HB4 := Lib.hid hb4
  have H4 := Lib.hid h4
  clear hc4 h4 hb4
  cases qb with
  | true =>
    have hd : decF s = (10, [], []) := HD.out.trans (by rw [if_pos rfl])
    have HR := Lib.hid hd
    clear hd HD
    go_wp2_with fail
    go_ret2
    refine ⟨HB4.out, .inl ?_⟩
    rw [HR.out]
    exact ⟨by decide, rfl⟩
  | false =>
    cases qs with
    | cons b r =>
      have hd : decF s = (11, [], []) := HD.out.trans (by rw [if_neg (by simp), if_pos (by simp)])
      have HR := Lib.hid hd
      clear hd HD
      go_wp2_with fail
      go_ret2
      refine ⟨HB4.out, .inl ?_⟩
      rw [HR.out]
      exact ⟨by decide, rfl⟩
    | nil =>
      have hd := HD.out
      rw [if_neg (by simp), if_neg (by simp)] at hd
      have HR := Lib.hid hd
      clear hd HD
      cases okP with
      | false =>
        have hd := HR.out
        rw [if_pos (by simp)] at hd
        have HR2 := Lib.hid hd
        clear hd HR
        go_wp2_with fail
        go_ret2
        refine ⟨HB4.out, .inl ?_⟩
        rw [HR2.out]
        exact ⟨by decide, rfl⟩
      | true =>
        cases okD with
        | false =>
          have hd := HR.out
          rw [if_pos (by simp)] at hd
          have HR2 := Lib.hid hd
          clear hd HR
          go_wp2_with fail
          go_ret2
          refine ⟨HB4.out, .inl ?_⟩
          rw [HR2.out]
          exact ⟨by decide, rfl⟩
        | true =>
          go_wp2_with fail
          refine (HC3.out w4 H4.out).mono ?_
          rintro e w5 ⟨rfl, hb5⟩
          have hb6 := Lib.hid (HB4.out.trans (hb5.mono HB4.out.size))
          have h5 := Lib.hid (H4.out.below hb5)
          clear hb5 HC3
          cases hrt : rootedB P.M with
          | false =>
            have hd := HR.out
            rw [hrt, if_pos (by simp)] at hd
            have HR2 := Lib.hid hd
            clear hd HR
            go_wp2_with fail
            go_ret2
            refine ⟨hb6.out, .inl ?_⟩
            rw [HR2.out]
            exact ⟨by decide, rfl⟩
          | true =>
            have hd := HR.out
            rw [hrt, if_neg (by simp)] at hd
            have HR2 := Lib.hid hd
            clear hd HR
            go_wp2_with fail
            go_ret2
            refine ⟨hb6.out, .inr ?_⟩
            rw [HR2.out]
            exact ⟨rfl, p, bm, bd, rfl, h5.out, NE.out.2.2.1, NE.out.2.2.2⟩

end Go.Proofs.Ytjggeodnoigkkaa
