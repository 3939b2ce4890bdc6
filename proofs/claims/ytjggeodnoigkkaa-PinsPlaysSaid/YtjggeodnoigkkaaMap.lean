/-
  Finite maps as rising lists of keys and values, and what the model's reading of a Go map makes of them. No program in sight.
-/
import Derived.Maps.OwnSet
import Derived.Maps.Ext
import Derived.Sort.KeysCollected
import Derived.Lib.SlKeysI
namespace Go.Proofs.YtjggeodnoigkkaaM
open Go.Maps

abbrev Bs := List UInt8

/-- A kind of keys: how one reads, and their order. -/
class MKey (K : Type) [DecidableEq K] where
  kl : K → Lit
  lt : K → K → Bool
  same : ∀ a b, (kl a).sameKey (kl b) = decide (a = b)
  bef : ∀ a b, (kl a).before (kl b) = lt a b
  isKey : ∀ a, WideAt.IsKeyLit (kl a)
  irrefl : ∀ a, lt a a = false
  trans : ∀ a b c, lt a b = true → lt b c = true → lt a c = true
  total : ∀ a b, a ≠ b → lt a b = true ∨ lt b a = true

theorem bb_irrefl : ∀ a : Bs, bytesBefore a a = false
  | [] => rfl
  | a :: r => by simp [bytesBefore, bb_irrefl r]
theorem bb_trans : ∀ a b c : Bs, bytesBefore a b = true → bytesBefore b c = true → bytesBefore a c = true
  | [], [], _, h, _ => by simp [bytesBefore] at h
  | [], _ :: _, [], _, h => by simp [bytesBefore] at h
  | [], _ :: _, _ :: _, _, _ => by simp [bytesBefore]
  | _ :: _, [], _, h, _ => by simp [bytesBefore] at h
  | _ :: _, _ :: _, [], _, h => by simp [bytesBefore] at h
  | a :: r, b :: s, c :: t, h, h' => by
    simp only [bytesBefore, Bool.or_eq_true, decide_eq_true_eq, Bool.and_eq_true, beq_iff_eq] at h h' ⊢
    rcases h with h | ⟨rfl, h⟩
    · rcases h' with h' | ⟨rfl, h'⟩
      · exact .inl (UInt8.lt_trans h h')
      · exact .inl h
    · rcases h' with h' | ⟨rfl, h'⟩
      · exact .inl h'
      · exact .inr ⟨rfl, bb_trans r s t h h'⟩
theorem bb_total : ∀ a b : Bs, a ≠ b → bytesBefore a b = true ∨ bytesBefore b a = true
  | [], [], h => absurd rfl h
  | [], _ :: _, _ => .inl rfl
  | _ :: _, [], _ => .inr rfl
  | a :: r, b :: s, h => by
    simp only [bytesBefore, Bool.or_eq_true, decide_eq_true_eq, Bool.and_eq_true, beq_iff_eq]
    by_cases e : a = b
    · subst e
      have hr : r ≠ s := fun e => h (by rw [e])
      rcases bb_total r s hr with h1 | h1
      · exact .inl (.inr ⟨rfl, h1⟩)
      · exact .inr (.inr ⟨rfl, h1⟩)
    · rcases Nat.lt_or_gt_of_ne (fun h2 : a.toNat = b.toNat => e (UInt8.toNat_inj.1 h2)) with h1 | h1
      · exact .inl (.inl (UInt8.lt_iff_toNat_lt.2 h1))
      · exact .inr (.inl (UInt8.lt_iff_toNat_lt.2 h1))

instance : MKey Bs where
  kl := Lit.string
  lt := bytesBefore
  same a b := by simp [Lit.sameKey, Bool.beq_eq_decide_eq]
  bef _ _ := rfl
  isKey _ := trivial
  irrefl := bb_irrefl
  trans := bb_trans
  total := bb_total

instance : MKey Int where
  kl := Lit.int .i64
  lt a b := decide (a < b)
  same a b := by simp [Lit.sameKey]
  bef _ _ := rfl
  isKey _ := trivial
  irrefl a := by simp
  trans a b c h h' := by simp at *; omega
  total a b h := by simp; omega

section
variable {K V : Type} [DecidableEq K]

def hasM (m : List (K × V)) (k : K) : Bool := m.any fun p => decide (p.1 = k)
def getM : List (K × V) → K → Option V
  | [], _ => none
  | p :: m, k => if p.1 = k then some p.2 else getM m k
def delM (m : List (K × V)) (k : K) : List (K × V) := m.filter fun p => !decide (p.1 = k)
theorem hasM_get (m : List (K × V)) (k : K) : hasM m k = (getM m k).isSome := by
  induction m with
  | nil => rfl
  | cons p m ih =>
    unfold hasM at *
    simp only [List.any_cons, getM, ih]
    by_cases h : p.1 = k <;> simp [h]

theorem getM_del (m : List (K × V)) (k k' : K) : getM (delM m k) k' = if k = k' then none else getM m k' := by
  induction m with
  | nil => simp [delM, getM]
  | cons p m ih =>
    unfold delM at *
    by_cases h : p.1 = k
    · rw [List.filter_cons_of_neg (by simp [h])]
      rw [ih]
      simp only [getM]
      by_cases e : k = k'
      · simp [e]
      · simp [e, h]
    · rw [List.filter_cons_of_pos (by simp [h])]
      simp only [getM, ih]
      by_cases e : k = k'
      · subst e; simp [h]
      · simp [e]

theorem mem_del (m : List (K × V)) (k : K) (p : K × V) : p ∈ delM m k ↔ p ∈ m ∧ p.1 ≠ k := by
  unfold delM
  rw [List.mem_filter]
  simp

theorem mem_of_get {m : List (K × V)} {k : K} {v : V} (h : getM m k = some v) : (k, v) ∈ m := by
  induction m with
  | nil => cases h
  | cons y r ih =>
    simp only [getM] at h
    split at h
    · rename_i e
      cases h
      subst e
      exact List.mem_cons_self
    · exact List.mem_cons_of_mem _ (ih h)

theorem length_del_le (m : List (K × V)) (k : K) : (delM m k).length ≤ m.length := List.length_filter_le _ _

variable [MKey K]

def insM (x : K × V) : List (K × V) → List (K × V)
  | [] => [x]
  | y :: r => if MKey.lt x.1 y.1 then x :: y :: r else y :: insM x r
def putM (m : List (K × V)) (k : K) (v : V) : List (K × V) := insM (k, v) (delM m k)
def Rising (m : List (K × V)) : Prop := m.Pairwise fun p q => MKey.lt p.1 q.1 = true

theorem getM_ins (x : K × V) (k : K) : ∀ m : List (K × V), (x.1 ≠ k ∨ ∀ p ∈ m, p.1 ≠ k) → getM (insM x m) k = if x.1 = k then some x.2 else getM m k
  | [], _ => rfl
  | y :: r, h => by
    unfold insM
    split
    · rfl
    · have ih := getM_ins x k r (h.imp id fun h p hp => h p (List.mem_cons_of_mem _ hp))
      simp only [getM, ih]
      by_cases e : x.1 = k
      · have hy : y.1 ≠ k := by rcases h with h | h; exact absurd e h; exact h y (by simp)
        simp [e, hy]
      · simp [e]

theorem getM_put (m : List (K × V)) (k k' : K) (v : V) : getM (putM m k v) k' = if k = k' then some v else getM m k' := by
  unfold putM
  rw [getM_ins (k, v) k' _ (by
    by_cases e : k = k'
    · exact .inr fun p hp => e ▸ ((mem_del m k p).1 hp).2
    · exact .inl e), getM_del]
  by_cases e : k = k' <;> simp [e]

theorem mem_ins (x p : K × V) : ∀ m : List (K × V), p ∈ insM x m ↔ p = x ∨ p ∈ m
  | [] => by simp [insM]
  | y :: r => by
    unfold insM
    split
    · simp
    · simp only [List.mem_cons, mem_ins x p r]
      constructor
      · rintro (h | h | h) <;> simp [h]
      · rintro (h | h | h) <;> simp [h]

theorem mem_put (m : List (K × V)) (k : K) (v : V) (p : K × V) : p ∈ putM m k v ↔ p = (k, v) ∨ p ∈ m ∧ p.1 ≠ k := by
  unfold putM
  rw [mem_ins, mem_del]

theorem Rising.del {m : List (K × V)} (h : Rising m) (k : K) : Rising (delM m k) := List.Pairwise.filter _ h

theorem Rising.ins {m : List (K × V)} (h : Rising m) (x : K × V) (hx : ∀ p ∈ m, p.1 ≠ x.1) : Rising (insM x m) := by
  induction m with
  | nil => exact List.pairwise_singleton _ _
  | cons y r ih =>
    have h1 : ∀ p ∈ r, MKey.lt y.1 p.1 = true := fun p hp => List.rel_of_pairwise_cons h hp
    have h2 := List.Pairwise.of_cons h
    unfold insM
    split
    · rename_i hlt
      refine List.pairwise_cons.2 ⟨fun p hp => ?_, h⟩
      rcases List.mem_cons.1 hp with rfl | hp
      · exact hlt
      · exact MKey.trans _ _ _ hlt (h1 _ hp)
    · rename_i hlt
      refine List.pairwise_cons.2 ⟨fun p hp => ?_, ih h2 fun p hp => hx p (List.mem_cons_of_mem _ hp)⟩
      rcases (mem_ins x p r).1 hp with rfl | hp
      · rcases MKey.total _ _ (hx y (by simp)) with h | h
        · exact h
        · exact absurd h hlt
      · exact h1 _ hp

theorem Rising.put {m : List (K × V)} (h : Rising m) (k : K) (v : V) : Rising (putM m k v) := (h.del k).ins (k, v) fun p hp => ((mem_del m k p).1 hp).2

theorem Rising.get_of_mem {m : List (K × V)} (h : Rising m) {p : K × V} (hp : p ∈ m) : getM m p.1 = some p.2 := by
  induction m with
  | nil => cases hp
  | cons y r ih =>
    have h1 : ∀ p ∈ r, MKey.lt y.1 p.1 = true := fun p hp => List.rel_of_pairwise_cons h hp
    have h2 := List.Pairwise.of_cons h
    simp only [getM]
    rcases List.mem_cons.1 hp with rfl | hp
    · simp
    · have := h1 _ hp
      have hne : y.1 ≠ p.1 := fun e => by rw [e, MKey.irrefl] at this; cases this
      simp [hne, ih h2 hp]

theorem Rising.get_iff {m : List (K × V)} (h : Rising m) (k : K) (v : V) : getM m k = some v ↔ (k, v) ∈ m := ⟨mem_of_get, fun hp => h.get_of_mem hp⟩

/-- Two rising maps that say the same are one. -/
theorem Rising.ext {m m' : List (K × V)} (h : Rising m) (h' : Rising m') (e : ∀ k, getM m k = getM m' k) : m = m' := by
  induction m generalizing m' with
  | nil =>
    cases m' with
    | nil => rfl
    | cons p r =>
      have := e p.1
      simp [getM] at this
  | cons p r ih =>
    cases m' with
    | nil =>
      have := e p.1
      simp [getM] at this
    | cons q s =>
      have hp := (h'.get_iff p.1 p.2).1 (by rw [← e]; simp [getM])
      have hq := (h.get_iff q.1 q.2).1 (by rw [e]; simp [getM])
      have h1 : ∀ x ∈ r, MKey.lt p.1 x.1 = true := fun x hx => List.rel_of_pairwise_cons h hx
      have h2 : ∀ x ∈ s, MKey.lt q.1 x.1 = true := fun x hx => List.rel_of_pairwise_cons h' hx
      have hpq : p = q := by
        rcases List.mem_cons.1 hp with hp | hp
        · exact hp
        · rcases List.mem_cons.1 hq with hq | hq
          · exact hq.symm
          · have a := h2 _ hp
            have b := h1 _ hq
            have := MKey.trans _ _ _ a b
            rw [MKey.irrefl] at this
            cases this
      subst hpq
      rw [ih (List.Pairwise.of_cons h) (List.Pairwise.of_cons h') fun k => ?_]
      have he := e k
      simp only [getM] at he
      by_cases hk : p.1 = k
      · subst hk
        have no : ∀ {t : List (K × V)}, Rising (p :: t) → getM t p.1 = none := fun {t} ht => by
          cases hg : getM t p.1 with
          | none => rfl
          | some v =>
            have := List.rel_of_pairwise_cons ht (mem_of_get hg)
            simp [MKey.irrefl] at this
        rw [no h, no h']
      · simpa [hk] using he

theorem length_ins (x : K × V) : ∀ m : List (K × V), (insM x m).length = m.length + 1
  | [] => rfl
  | y :: r => by
    unfold insM
    split
    · rfl
    · simp [length_ins x r]
theorem length_put_le (m : List (K × V)) (k : K) (v : V) : (putM m k v).length ≤ m.length + 1 := by
  unfold putM
  rw [length_ins]
  have := length_del_le m k
  omega

/-! ### the model's reading -/
variable (ev : V → DataW Unit)
def toD (m : List (K × V)) : DataW Unit := .map (m.map fun p => (MKey.kl p.1, ev p.2))

theorem has_toD (m : List (K × V)) (k : K) : Maps.has (toD ev m) (MKey.kl k) = hasM m k := by
  unfold toD hasM
  rw [Maps.has_eq, List.any_map]
  congr 1
  funext p
  exact MKey.same _ _

theorem atKey_toD (m : List (K × V)) (k : K) (z : DataW Unit) : (toD ev m).atKey (MKey.kl k) z = match getM m k with | some v => ev v | none => z := by
  unfold toD DataW.atKey
  simp only
  induction m with
  | nil => rfl
  | cons p m ih =>
    simp only [List.map_cons, List.find?_cons, MKey.same, getM]
    by_cases h : p.1 = k
    · simp [h]
    · simp only [h, decide_false, if_false]
      exact ih

theorem del_toD (m : List (K × V)) (k : K) : (toD ev m).del (MKey.kl k) = toD ev (delM m k) := by
  unfold toD DataW.del delM
  simp only [DataW.map.injEq]
  rw [List.filter_map]
  congr 1
  congr 1
  funext p
  simp [MKey.same]

theorem insert_toD (x : K × V) : ∀ m : List (K × V), DataW.insert (MKey.kl x.1, ev x.2) (m.map fun p => (MKey.kl p.1, ev p.2)) = (insM x m).map fun p => (MKey.kl p.1, ev p.2)
  | [] => rfl
  | y :: r => by
    unfold insM
    simp only [List.map_cons, DataW.insert, MKey.bef]
    split
    · rfl
    · simp [insert_toD x r]

theorem put_toD (m : List (K × V)) (k : K) (v : V) : (toD ev m).put (MKey.kl k) (ev v) = toD ev (putM m k v) := by
  have h := del_toD ev m k
  unfold toD DataW.del at h
  simp only [DataW.map.injEq] at h
  unfold toD DataW.put
  simp only
  rw [h]
  congr 1
  exact insert_toD ev (k, v) (delM m k)

theorem size_toD (m : List (K × V)) : Maps.size (toD ev m) = m.length := by
  unfold toD
  rw [Maps.size_eq, List.length_map]
end

theorem strKeys_toD {V : Type} (ev : V → DataW Unit) (m : List (Bs × V)) : strKeys (toD ev m) = m.map (·.1) := by
  unfold toD strKeys
  simp only [List.map_map]
  rfl
theorem intKeys_toD {V : Type} (ev : V → DataW Unit) (m : List (Int × V)) : intKeys (toD ev m) = m.map (·.1) := by
  unfold toD intKeys
  simp only [List.map_map]
  rfl

theorem bb_lt : ∀ a b : Bs, bytesBefore a b = true → a < b
  | [], [], h => by simp [bytesBefore] at h
  | [], _ :: _, _ => List.nil_lt_cons _ _
  | _ :: _, [], h => by simp [bytesBefore] at h
  | a :: r, b :: s, h => by
    simp only [bytesBefore, Bool.or_eq_true, decide_eq_true_eq, Bool.and_eq_true, beq_iff_eq] at h
    rw [List.cons_lt_cons_iff]
    rcases h with h | ⟨h, h'⟩
    · exact .inl h
    · exact .inr ⟨h, bb_lt r s h'⟩

theorem keys_sorted_s {V : Type} {m : List (Bs × V)} (h : Rising m) {ss : List Bs} (hp : ss.Perm (m.map (·.1))) : ss.mergeSort (fun x y => decide (x ≤ y)) = m.map (·.1) := by
  have e : ss.mergeSort leB = (m.map (·.1)).mergeSort leB := mergeSort_of_perm hp
  refine Eq.trans e ?_
  refine List.mergeSort_of_pairwise ?_
  rw [List.pairwise_map]
  refine h.imp fun {a b} hab => ?_
  have := bb_lt a.1 b.1 hab
  simpa [leB] using List.le_of_lt this
theorem keys_sorted_i {V : Type} {m : List (Int × V)} (h : Rising m) {ss : List Int} (hp : ss.Perm (m.map (·.1))) : ss.mergeSort (fun x y => decide (x ≤ y)) = m.map (·.1) := by
  have e : ss.mergeSort leI = (m.map (·.1)).mergeSort leI := mergeSort_of_perm_i hp
  refine Eq.trans e ?_
  refine List.mergeSort_of_pairwise ?_
  rw [List.pairwise_map]
  refine h.imp fun {a b} hab => ?_
  have hab' : a.1 < b.1 := of_decide_eq_true hab
  simp [leI]
  omega

end Go.Proofs.YtjggeodnoigkkaaM
