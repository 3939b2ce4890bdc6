/-
  PinsSafe: the plain facts.
-/
import Derived.Test.YtjggeodnoigkkaaL
namespace Go.Proofs.Ytjggeodnoigkkaa
open Go.RowKit Go.Maps Go.Shelf Go.Proofs.YtjggeodnoigkkaaM

def heldBy (M : PM) (x : Int × Int) : Bool := M.any fun y => holdsQ x.1 x.2 y.2

theorem holdsF_mem {M : PM} {D : DM} (hD : Rising D) {x : Int × Int} (hx : x ∈ D) : holdsF M D x.1 = (M.filter fun y => holdsQ x.1 x.2 y.2).map (·.1) := by
  rw [holdsF, hD.get_of_mem hx]
theorem filter_empty {α : Type} (p : α → Bool) : ∀ l : List α, (l.filter p).isEmpty = !l.any p
  | [] => rfl
  | a :: l => by
    rw [List.filter_cons, List.any_cons]
    cases p a <;> simp [filter_empty p l]
theorem held_iff {M : PM} {D : DM} (hD : Rising D) {x : Int × Int} (hx : x ∈ D) : (holdsF M D x.1).isEmpty = !heldBy M x := by
  rw [holdsF_mem hD hx, heldBy, List.isEmpty_map, filter_empty]
theorem freeQ_mem {M : PM} {D : DM} (hD : Rising D) (dur : Int) {x : Int × Int} (hx : x ∈ D) : freeQ M D dur x = (decide (x.2 ≤ dur) && !heldBy M x) := by
  rw [freeQ, held_iff hD hx]

theorem filter_split {α : Type} (q : α → Bool) (l : List α) (k : Nat) (h : k < l.length) : l.filter q = (l.take k).filter q ++ (if q l[k] then [l[k]] else []) ++ (l.drop (k + 1)).filter q := by
  conv => lhs; rw [← List.take_append_drop k l, List.drop_eq_getElem_cons h, List.filter_append, List.filter_cons]
  cases q l[k] <;> simp

theorem count_succ {α : Type} (q : α → Bool) (l : List α) (k : Nat) (h : k < l.length) : ((l.take (k + 1)).filter q).length = ((l.take k).filter q).length + if q l[k] then 1 else 0 := by
  rw [List.take_succ_eq_append_getElem h, List.filter_append, List.length_append]
  cases hq : q l[k] <;> simp [hq]

theorem rising_lt {D : DM} (hD : Rising D) {i j : Nat} (hij : i < j) (hj : j < D.length) : D[i].1 < D[j].1 := by
  have := List.pairwise_iff_getElem.1 hD i j (by omega) hj hij
  exact of_decide_eq_true this

theorem is_eq {M : PM} {D : DM} (hD : Rising D) (dur : Int) (k : Nat) (h : k < D.length) :
    (decide (((D.take k).filter (freeQ M D dur)).length < (freeF M D dur).length) && decide ((freeF M D dur).getD ((D.take k).filter (freeQ M D dur)).length 0 = D[k].1)) = freeQ M D dur D[k] := by
  have hs := filter_split (freeQ M D dur) D k h
  unfold freeF
  rw [hs]
  cases hq : freeQ M D dur D[k]
  · simp only [Bool.false_eq_true, if_false, List.append_nil, List.map_append, List.length_append, List.length_map]
    by_cases hn : ((D.drop (k + 1)).filter (freeQ M D dur)).length = 0
    · rw [hn]
      simp
    · have hne : (((D.take k).filter (freeQ M D dur)).map (·.1) ++ ((D.drop (k + 1)).filter (freeQ M D dur)).map (·.1)).getD ((D.take k).filter (freeQ M D dur)).length 0 ≠ D[k].1 := by
        rw [List.getD_eq_getElem?_getD, List.getElem?_append_right (by simp), List.length_map, Nat.sub_self]
        cases hl : (D.drop (k + 1)).filter (freeQ M D dur) with
        | nil => rw [hl] at hn; simp at hn
        | cons y r =>
          simp only [List.map_cons, List.getElem?_cons_zero, Option.getD_some]
          have hy : y ∈ (D.drop (k + 1)).filter (freeQ M D dur) := by rw [hl]; exact List.mem_cons_self
          have hy2 := (List.mem_filter.1 hy).1
          obtain ⟨i, hi, rfl⟩ := List.getElem_of_mem hy2
          rw [List.length_drop] at hi
          rw [List.getElem_drop]
          have := rising_lt hD (i := k) (j := k + 1 + i) (by omega) (by omega)
          omega
      rw [decide_eq_false hne, Bool.and_false]
  · simp only [if_true, List.map_append, List.length_append, List.length_map, List.map_cons, List.map_nil]
    have h1 : (((D.take k).filter (freeQ M D dur)).map (·.1) ++ [D[k].1] ++ ((D.drop (k + 1)).filter (freeQ M D dur)).map (·.1)).getD ((D.take k).filter (freeQ M D dur)).length 0 = D[k].1 := by
      rw [List.append_assoc, List.getD_eq_getElem?_getD, List.getElem?_append_right (by simp), List.length_map, Nat.sub_self]
      rfl
    rw [decide_eq_true h1, Bool.and_true]
    exact decide_eq_true (by simp; omega)

theorem atF_mem {M : PM} (hM : Rising M) {x : Bs × (Int × Bs)} (hx : x ∈ M) : atF M x.1 = (x.2.1, 0) := by
  rw [atF, hM.get_of_mem hx]

theorem done_held {M : PM} {D : DM} (hD : Rising D) {x : Int × Int} (hx : x ∈ D) (h : heldBy M x = true) : doneF M D [x.1] = (37, D) := by
  have hh : hasM D x.1 = true := by rw [hasM_get, hD.get_of_mem hx]; rfl
  have hl : (holdsF M D x.1).length > 0 := by
    have := held_iff (M := M) hD hx
    rw [h] at this
    cases hz : holdsF M D x.1 with
    | nil => rw [hz] at this; simp at this
    | cons a l => simp
  have e : doneErr M D [] x.1 = 37 := by rw [doneErr, if_neg (by simp [hh]), if_pos hl]
  have e2 : doneGo M D [] [x.1] = 37 := by rw [doneGo, e]; rfl
  rw [doneF, e2]
  rfl

theorem doesF_len (M : PM) (D : DM) (o : OpV) : (doesF M D o).2.1.length ≤ M.length + 1 ∧ (doesF M D o).2.2.length ≤ D.length + o.drops.length := by
  unfold doesF
  split
  · refine ⟨?_, by simp⟩
    show (pinF M o.name o.n).2.length ≤ _
    unfold pinF
    split
    · simp
    · split
      · simp
      · exact length_put_le _ _ _
  · split
    · refine ⟨?_, by simp⟩
      show (cloneF M o.name o.of_).2.length ≤ _
      unfold cloneF
      split
      · simp
      · split
        · simp
        · split
          · simp
          · exact length_put_le _ _ _
    · split
      · refine ⟨?_, by simp⟩
        show (unpinF M o.name).2.length ≤ _
        unfold unpinF
        split
        · simp
        · split
          · simp
          · exact Nat.le_succ_of_le (length_del_le _ _)
      · split
        · refine ⟨by simp, ?_⟩
          show (dropF D o.drops).2.length ≤ _
          unfold dropF
          split
          · simp
          · split
            · simp
            · exact putAll_len _ _
        · refine ⟨by simp, ?_⟩
          show (doneF M D o.nums).2.length ≤ _
          unfold doneF
          split
          · have : ∀ (l : List Int) (D : DM), (delAll D l).length ≤ D.length := fun l => by
              induction l with
              | nil => intro D; exact Nat.le_refl _
              | cons a l ih => intro D; exact Nat.le_trans (ih _) (length_del_le _ _)
            exact Nat.le_add_right_of_le (this _ _)
          · simp

end Go.Proofs.Ytjggeodnoigkkaa
