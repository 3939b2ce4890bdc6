/-
  PinsOrder: the plain law: the order of pins, and of drops, does not count.
-/
import Derived.Test.YtjggeodnoigkkaaX
namespace Go.Proofs.Ytjggeodnoigkkaa
open Go.RowKit Go.Maps Go.Shelf Go.Proofs.YtjggeodnoigkkaaM

/-! ### pins -/
def nm (i : Nat) : Bs := [UInt8.ofNat ((97 + i) % 256)]
theorem nm_inj {i j : Nat} (hi : i < 20) (hj : j < 20) (h : nm i = nm j) : i = j := by
  simp only [nm, List.cons.injEq, and_true] at h
  have := congrArg UInt8.toNat h
  simp only [UInt8.toNat_ofNat'] at this
  omega
def okB (x : Int) : Bool := decide (0 ≤ x) && decide (x < 1099511627776)

structure PinsOf (a : List Int) (S : Nat → Prop) (M : PM) : Prop where
  rise : Rising M
  get : ∀ k v, getM M k = some v ↔ ∃ i, S i ∧ i < a.length ∧ k = nm i ∧ okB (a.getD i 0) = true ∧ v = (a.getD i 0, [])

theorem pinF_nm (M : PM) (i : Nat) (x : Int) : pinF M (nm i) x = if okB x = true then (if hasM M (nm i) = true then (16, M) else (0, putM M (nm i) (x, []))) else (1, M) := by
  have hr : rightB (nm i) = true := by simp [rightB, nm]
  unfold pinF
  rw [hr]
  by_cases h : okB x = true
  · rw [if_pos h, if_neg]
    simp only [okB, Bool.and_eq_true, decide_eq_true_eq] at h
    rintro (h1 | h1 | h1)
    · cases h1
    · omega
    · omega
  · rw [if_neg h, if_pos]
    simp only [okB, Bool.and_eq_true, decide_eq_true_eq] at h
    right
    omega

theorem PinsOf.step {a : List Int} {S : Nat → Prop} {M : PM} (h : PinsOf a S M) (i : Nat) (hi : i < a.length) (ha : a.length ≤ 20) (hS : ¬ S i) : PinsOf a (fun j => S j ∨ j = i) (pinF M (nm i) (a.getD i 0)).2 := by
  rw [pinF_nm]
  by_cases hok : okB (a.getD i 0) = true
  · have hh : hasM M (nm i) = false := by
      rw [hasM_get]
      cases hg : getM M (nm i) with
      | none => rfl
      | some v =>
        obtain ⟨j, hj, hj2, e, _⟩ := (h.get _ _).1 hg
        have := nm_inj (by omega) (by omega) e
        subst this
        exact absurd hj hS
    rw [if_pos hok, hh, if_neg (by simp)]
    refine ⟨h.rise.put _ _, fun k v => ?_⟩
    rw [getM_put]
    by_cases hk : nm i = k
    · rw [if_pos hk]
      constructor
      · intro e
        cases e
        exact ⟨i, .inr rfl, hi, hk.symm, hok, rfl⟩
      · rintro ⟨j, _, hj2, e, _, rfl⟩
        have := nm_inj (by omega) (by omega) (hk.trans e)
        subst this
        rfl
    · rw [if_neg hk, h.get]
      constructor
      · rintro ⟨j, hj, r⟩
        exact ⟨j, .inl hj, r⟩
      · rintro ⟨j, hj | rfl, hj2, e, r⟩
        · exact ⟨j, hj, hj2, e, r⟩
        · exact absurd e.symm hk
  · rw [if_neg hok]
    refine ⟨h.rise, fun k v => ?_⟩
    rw [h.get]
    constructor
    · rintro ⟨j, hj, r⟩
      exact ⟨j, .inl hj, r⟩
    · rintro ⟨j, hj | rfl, hj2, e, ho, r⟩
      · exact ⟨j, hj, hj2, e, ho, r⟩
      · exact absurd ho hok

theorem PinsOf.nil (a : List Int) {S : Nat → Prop} (h : ∀ i, i < a.length → ¬ S i) : PinsOf a S [] :=
  ⟨List.Pairwise.nil, fun k v => ⟨fun e => (by cases e), fun ⟨i, hi, hl, _⟩ => absurd hi (h i hl)⟩⟩
theorem PinsOf.eq {a : List Int} {S T : Nat → Prop} {M N : PM} (h : PinsOf a S M) (h' : PinsOf a T N) (e : ∀ i, i < a.length → (S i ↔ T i)) : M = N := by
  refine h.rise.ext h'.rise fun k => ?_
  have : ∀ v, getM M k = some v ↔ getM N k = some v := fun v => by
    rw [h.get, h'.get]
    constructor <;> rintro ⟨i, h1, h2, r⟩
    · exact ⟨i, (e i h2).1 h1, h2, r⟩
    · exact ⟨i, (e i h2).2 h1, h2, r⟩
  cases h1 : getM M k with
  | some v => exact ((this v).1 h1).symm
  | none =>
    cases h2 : getM N k with
    | none => rfl
    | some v => rw [(this v).2 h2] at h1; cases h1
theorem PinsOf.of {a : List Int} {S T : Nat → Prop} {M : PM} (h : PinsOf a S M) (e : ∀ i, S i ↔ T i) : PinsOf a T M := by
  have : S = T := funext fun i => propext (e i)
  rwa [← this]
theorem PinsOf.plain {a : List Int} {S : Nat → Prop} {M : PM} (h : PinsOf a S M) : ∀ x ∈ M, x.2.2 = [] ∧ x.1.length = 1 := fun x hx => by
  obtain ⟨i, _, _, e1, _, e⟩ := (h.get _ _).1 (h.rise.get_of_mem hx)
  rw [e, e1]
  exact ⟨rfl, rfl⟩

/-- Pins that are no clones go one by one. -/
theorem clonesF_plain {M : PM} (h : ∀ x ∈ M, x.2.2 = []) (name : Bs) : clonesF M name = [] := by
  rw [clonesF, List.map_eq_nil_iff, List.filter_eq_nil_iff]
  intro x hx
  simp only [clonesQ, h x hx]
  cases name <;> simp
theorem unpin_first {x : Bs × (Int × Bs)} {M : PM} (hr : Rising (x :: M)) (h : ∀ y ∈ x :: M, y.2.2 = []) : unpinF (x :: M) x.1 = (0, M) := by
  have hh : hasM (x :: M) x.1 = true := by simp [hasM]
  rw [unpinF, hh, if_neg (by simp), clonesF_plain h, if_neg (by simp)]
  have : delM (x :: M) x.1 = M := by
    rw [delM, List.filter_cons_of_neg (by simp)]
    refine List.filter_eq_self.2 fun y hy => ?_
    have h1 := (List.pairwise_cons.1 hr).1 y hy
    have : y.1 ≠ x.1 := fun e => by
      rw [e, MKey.irrefl] at h1
      cases h1
    simp [this]
  rw [this]

/-! ### drops -/
theorem dropF_one (D : DM) (x : Int × Int) : dropF D [x] = if mayB x = true then (if hasM D x.1 = true then (16, D) else (0, putM D x.1 x.2)) else (1, D) := by
  unfold dropF
  cases hm : mayB x
  · simp [hm]
  · cases hh : hasM D x.1 <;> simp [hm, clashAt, hh, putAll, List.range_succ]

def dropAll (l : DM) : DM := l.foldl (fun D x => (dropF D [x]).2) []
theorem dropAll_succ (l : DM) (k : Nat) (h : k < l.length) : dropAll (l.take (k + 1)) = (dropF (dropAll (l.take k)) [l[k]]).2 := by
  unfold dropAll
  rw [List.take_succ_eq_append_getElem h, List.foldl_append]
  rfl
def firstB (l : DM) (k : Nat) (x : Int × Int) : Bool := (l.take k).all fun y => !(decide (y.1 = x.1) && mayB y)

def doneK (l : DM) : Nat → List Int
  | 0 => []
  | k + 1 => doneK l k ++ if (dropF (dropAll (l.take k)) [l.getD k (0, 0)]).1 = 0 then [(l.getD k (0, 0)).1] else []

structure DropsOk (l : DM) (k : Nat) (D : DM) : Prop where
  rise : Rising D
  may : ∀ x ∈ D, mayB x = true
  has : ∀ s, hasM D s = (l.take k).any fun y => decide (y.1 = s) && mayB y
  len : (doneK l k).length = D.length
  nodup : (doneK l k).Nodup
  mem : ∀ s, s ∈ doneK l k ↔ hasM D s = true

theorem hasM_put (D : DM) (k s : Int) (v : Int) : hasM (putM D k v) s = (decide (k = s) || hasM D s) := by
  rw [hasM_get, hasM_get, getM_put]
  by_cases h : k = s <;> simp [h]

theorem drops_ok (l : DM) : ∀ k, k ≤ l.length → DropsOk l k (dropAll (l.take k))
  | 0, _ => ⟨List.Pairwise.nil, fun x hx => (by cases hx), fun s => rfl, rfl, List.nodup_nil, fun s => by simp [doneK, dropAll, hasM]⟩
  | k + 1, hk => by
    have ih := drops_ok l k (by omega)
    have hlt : k < l.length := by omega
    have hx : l.getD k (0, 0) = l[k] := by simp [List.getD_eq_getElem?_getD, hlt]
    have hany : ∀ p : Int × Int → Bool, (l.take (k + 1)).any p = ((l.take k).any p || p l[k]) := fun p => by
      rw [List.take_succ_eq_append_getElem hlt, List.any_append]
      simp
    rw [dropAll_succ l k hlt]
    generalize hD : dropAll (l.take k) = D at ih
    have hd : doneK l (k + 1) = doneK l k ++ if (dropF D [l[k]]).1 = 0 then [l[k].1] else [] := by rw [doneK, hx, hD]
    generalize l[k] = x at hany hd
    rw [dropF_one] at hd ⊢
    cases hm : mayB x
    · rw [hm, if_neg (by simp), List.append_nil] at hd
      rw [if_neg (by simp)]
      exact ⟨ih.rise, ih.may, fun s => by rw [hany, ih.has, hm]; simp, by rw [hd]; exact ih.len, by rw [hd]; exact ih.nodup, fun s => by rw [hd]; exact ih.mem s⟩
    · rw [hm, if_pos rfl] at hd
      rw [if_pos rfl]
      cases hh : hasM D x.1
      · rw [hh, if_pos (by simp)] at hd
        rw [if_neg (by simp)]
        have hdel : delM D x.1 = D := List.filter_eq_self.2 fun y hy => by
          have : y.1 ≠ x.1 := fun e => by
            rw [← e, hasM_get, ih.rise.get_of_mem hy] at hh
            cases hh
          simp [this]
        have hnot : x.1 ∉ doneK l k := fun h => by
          rw [ih.mem, hh] at h
          cases h
        refine ⟨ih.rise.put _ _, fun y hy => ?_, fun s => ?_, ?_, ?_, fun s => ?_⟩
        · rcases (mem_put _ _ _ _).1 hy with rfl | hy
          · exact hm
          · exact ih.may y hy.1
        · show hasM (putM D x.1 x.2) s = _
          rw [hasM_put, hany, ih.has, hm, Bool.and_true, Bool.or_comm]
        · show _ = (putM D x.1 x.2).length
          rw [hd, List.length_append, ih.len, putM, length_ins, hdel]
          rfl
        · rw [hd]
          refine List.nodup_append.2 ⟨ih.nodup, by simp, fun a ha b hb => ?_⟩
          rw [List.mem_singleton] at hb
          rintro rfl
          exact hnot (hb ▸ ha)
        · show _ ↔ hasM (putM D x.1 x.2) s = true
          rw [hd, hasM_put, List.mem_append, List.mem_singleton, ih.mem]
          constructor
          · rintro (h | h)
            · simp [h]
            · simp [h]
          · intro h
            rcases Bool.or_eq_true_iff.1 h with h | h
            · exact .inr (of_decide_eq_true h).symm
            · exact .inl h
      · rw [hh, if_neg (by simp), List.append_nil] at hd
        rw [if_pos rfl]
        refine ⟨ih.rise, ih.may, fun s => ?_, by rw [hd]; exact ih.len, by rw [hd]; exact ih.nodup, fun s => by rw [hd]; exact ih.mem s⟩
        show hasM D s = _
        rw [hany, ← ih.has, hm, Bool.and_true]
        by_cases hs : x.1 = s
        · rw [← hs, hh]; rfl
        · simp [hs]

theorem first_iff {l : DM} {k : Nat} {D : DM} (h : DropsOk l k D) (x : Int × Int) : firstB l k x = !hasM D x.1 := by
  rw [h.has, firstB]
  generalize l.take k = t
  induction t with
  | nil => rfl
  | cons y t ih => rw [List.all_cons, List.any_cons, ih, Bool.not_or]

/-! ### all goes -/
theorem freeF_all {D : DM} (h : ∀ x ∈ D, mayB x = true) : freeF [] D 1099511627776 = D.map (·.1) := by
  rw [freeF, List.filter_eq_self.2]
  intro x hx
  have := h x hx
  simp only [mayB, Bool.and_eq_true, decide_eq_true_eq] at this
  rw [freeQ, decide_eq_true (by omega), Bool.true_and, holdsF]
  cases getM D x.1 <;> simp

theorem hasM_del (D : DM) (k s : Int) : hasM (delM D k) s = (!decide (k = s) && hasM D s) := by
  rw [hasM_get, hasM_get, getM_del]
  by_cases h : k = s <;> simp [h]
theorem hasM_delAll : ∀ (l : List Int) (D : DM) (s : Int), hasM (delAll D l) s = true → s ∉ l ∧ hasM D s = true
  | [], D, s, h => ⟨by simp, h⟩
  | x :: l, D, s, h => by
    obtain ⟨h1, h2⟩ := hasM_delAll l (delM D x) s h
    rw [hasM_del, Bool.and_eq_true] at h2
    refine ⟨?_, h2.2⟩
    rw [List.mem_cons, not_or]
    exact ⟨fun e => by simp [e] at h2, h1⟩

theorem doneGo_nil (D : DM) : ∀ (l pre : List Int), (∀ s ∈ l, hasM D s = true) → (pre ++ l).Nodup → doneGo [] D pre l = 0
  | [], _, _, _ => rfl
  | x :: r, pre, h, hn => by
    have he : doneErr [] D pre x = 0 := by
      have h1 := h x (by simp)
      have hp : (pre.any fun y => decide (y = x)) = false := by
        rw [List.any_eq_false]
        intro y hy e
        rw [decide_eq_true_eq] at e
        subst e
        exact (List.nodup_append.1 hn).2.2 y hy y (by simp) rfl
      have hh : holdsF [] D x = [] := by
        rw [holdsF]
        cases getM D x <;> simp
      rw [doneErr, h1, if_neg (by simp), hh, if_neg (by simp), hp, if_neg (by simp)]
    rw [doneGo, if_pos he]
    exact doneGo_nil D r (pre ++ [x]) (fun s hs => h s (by simp [hs])) (by simpa using hn)

theorem done_all {l : DM} {k : Nat} {D : DM} (h : DropsOk l k D) : doneF [] D (doneK l k) = (0, []) := by
  rw [doneF, if_pos (doneGo_nil D _ [] (fun s hs => (h.mem s).1 hs) h.nodup)]
  have : delAll D (doneK l k) = [] := by
    cases hd : delAll D (doneK l k) with
    | nil => rfl
    | cons y t =>
      have h1 : hasM (delAll D (doneK l k)) y.1 = true := by rw [hd]; simp [hasM]
      obtain ⟨h2, h3⟩ := hasM_delAll _ _ _ h1
      exact absurd ((h.mem _).2 h3) h2
  rw [this]

end Go.Proofs.Ytjggeodnoigkkaa
