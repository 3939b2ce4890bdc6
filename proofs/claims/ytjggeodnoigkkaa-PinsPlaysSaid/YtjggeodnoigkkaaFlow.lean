/-
  A region that draws its order, by its flow of values: each operation is shown once, from what those that it waits for have given; no order is gone over.
-/
import Derived.Orders
import Derived.RegionTactic
import Derived.WalkKit
import Derived.KernelRfl
namespace Go.Proofs.YtjggeodnoigkkaaM
open Go.RowKit

/-- The slots that a region writes. -/
def dsts (ops : Array Oper) : List Nat := ops.toList.filterMap (·.dst)

/-- a is a0 but for the slots that the region writes. -/
structure Agree (ops : Array Oper) (a0 a : Act) : Prop where
  defers : a.defers = a0.defers
  size : a.tmps.size = a0.tmps.size
  same : ∀ s, s ∉ dsts ops → a.eval (.tmp s) = a0.eval (.tmp s)

/-- What operation j has given is as R says. -/
def Given (ops : Array Oper) (R : Nat → Value → World → Prop) (a : Act) (w : World) (j : Nat) : Prop :=
  ∀ o d, ops[j]? = some o → o.dst = some d → R j (a.eval (.tmp d)) w

/-- The form of a region that the law asks for, all of it closed. -/
def flowB (ops : Array Oper) (n : Nat) : Bool :=
  (List.range ops.size).all (fun i => match ops[i]? with
    | some o => o.after.all (fun e => !Region.binds .any e || decide (e.on < i))
    | none => true) && decide (dsts ops).Nodup && (dsts ops).all (fun d => decide (d < n))

theorem eval_put_self {a : Act} {d : Nat} {v : Value} (h : d < a.tmps.size) : (a.put (some d) v).eval (.tmp d) = v := by
  simp [Act.put, Act.eval, Array.getD_eq_getD_getElem?, h]
theorem eval_put_other {a : Act} {d s : Nat} {v : Value} (h : s ≠ d) : (a.put (some d) v).eval (.tmp s) = a.eval (.tmp s) := by
  simp [Act.put, Act.eval, Array.getD_eq_getD_getElem?, Ne.symm h]

theorem mem_dsts {ops : Array Oper} {j d : Nat} {o : Oper} (ho : ops[j]? = some o) (hd : o.dst = some d) : d ∈ dsts ops := by
  unfold dsts
  rw [List.mem_filterMap]
  exact ⟨o, by rw [Array.mem_toList_iff]; exact Array.mem_of_getElem? ho, hd⟩

theorem dsts_inj {ops : Array Oper} (hn : (dsts ops).Nodup) {i j d : Nat} {oi oj : Oper} (hi : ops[i]? = some oi) (hj : ops[j]? = some oj) (di : oi.dst = some d) (dj : oj.dst = some d) : i = j := by
  obtain ⟨l⟩ := ops
  simp only [dsts, List.getElem?_toArray] at hn hi hj
  induction l generalizing i j with
  | nil => simp at hi
  | cons o l ih =>
    have hmem : ∀ {k : Nat} {o' : Oper}, l[k]? = some o' → o'.dst = some d → d ∈ l.filterMap (·.dst) := fun h h' => List.mem_filterMap.2 ⟨_, List.mem_of_getElem? h, h'⟩
    cases i with
    | zero =>
      cases j with
      | zero => rfl
      | succ j =>
        simp at hi hj
        subst hi
        rw [List.filterMap_cons, di] at hn
        exact absurd (hmem hj dj) (List.nodup_cons.1 hn).1
    | succ i =>
      cases j with
      | zero =>
        simp at hi hj
        subst hj
        rw [List.filterMap_cons, dj] at hn
        exact absurd (hmem hi di) (List.nodup_cons.1 hn).1
      | succ j =>
        simp at hi hj
        rw [ih ?_ hi hj]
        rw [List.filterMap_cons] at hn
        split at hn
        · exact hn
        · exact (List.nodup_cons.1 hn).2

theorem ready_iff {ops : Array Oper} {listed : Array Bool} {i : Nat} : i ∈ Region.ready .any ops listed ↔ i < ops.size ∧ listed.getD i true = false ∧ ∃ o, ops[i]? = some o ∧ ∀ e ∈ o.after, Region.binds .any e = true → listed.getD e.on false = true := by
  unfold Region.ready
  rw [List.mem_filter, List.mem_range]
  constructor
  · rintro ⟨h1, h2⟩
    simp only [Bool.and_eq_true, Bool.not_eq_true'] at h2
    obtain ⟨h2, h3⟩ := h2
    refine ⟨h1, h2, ?_⟩
    cases ho : ops[i]? with
    | none => rw [ho] at h3; simp at h3
    | some o =>
      rw [ho] at h3
      refine ⟨o, rfl, fun e he hb => ?_⟩
      have := Array.all_eq_true_iff_forall_mem.1 h3 e he
      simpa [hb] using this
  · rintro ⟨h1, h2, o, ho, h3⟩
    refine ⟨h1, ?_⟩
    simp only [Bool.and_eq_true, Bool.not_eq_true']
    refine ⟨h2, ?_⟩
    rw [ho]
    refine Array.all_eq_true_iff_forall_mem.2 fun e he => ?_
    cases hb : Region.binds .any e
    · rfl
    · simpa using h3 e he hb

theorem count_set : ∀ (l : List Bool) (i : Nat) (h : i < l.length), l[i] = false → ((l.set i true).filter (!·)).length + 1 = (l.filter (!·)).length
  | [], i, h, _ => by simp at h
  | b :: l, 0, _, hb => by
    have hb' : b = false := hb
    subst hb'
    simp
  | b :: l, i + 1, h, hb => by
    have ih := count_set l i (by simpa using h) (by simpa using hb)
    rw [List.set_cons_succ]
    cases b <;> simp <;> omega

variable {P : Program} {ops : Array Oper} {Q : Exit → Act → World → Prop}

theorem wp_region_flow {id : Nat} {a0 : Act} {w0 : World} (hm : P.follows .mixedOrders = true) (hB : flowB ops a0.tmps.size = true)
    (J : World → Prop) (R : Nat → Value → World → Prop) (Le : World → World → Prop) (hJ : J w0.drew) (hLe : ∀ j v w w', Le w w' → R j v w → R j v w')
    (hstep : ∀ (i : Nat) (o : Oper), ops[i]? = some o → ∀ a w, J w → Agree ops a0 a → (∀ e ∈ o.after, Region.binds .any e = true → Given ops R a w e.on) → ∀ K : Act → World → Prop, (∀ v w', J w' → Le w w' → R i v w' → K (a.put o.dst v) w') →
      if Region.wanted o (yielded ops a.tmps) = true then Oper.wp P o a w K Q else K (a.put o.dst undef) w)
    (hfin : ∀ a w, J w → Agree ops a0 a → (∀ j, Given ops R a w j) → Q .normal a w) : (Code.region id ops true).wp P Q a0 w0 := by
  unfold flowB at hB
  simp only [Bool.and_eq_true, decide_eq_true_eq] at hB
  obtain ⟨⟨hB1, hnd⟩, hB3⟩ := hB
  have hback : ∀ (i : Nat) (o : Oper), ops[i]? = some o → ∀ e ∈ o.after, Region.binds .any e = true → e.on < i := fun i o ho e he hb => by
    have hi : i < ops.size := (Array.getElem?_eq_some_iff.1 ho).1
    have h1 := List.all_eq_true.1 hB1 i (List.mem_range.2 hi)
    rw [ho] at h1
    have h2 := Array.all_eq_true_iff_forall_mem.1 h1 e he
    simpa [hb] using h2
  have hlt : ∀ (j : Nat) (o : Oper) (d : Nat), ops[j]? = some o → o.dst = some d → d < a0.tmps.size := fun j o d ho hd => of_decide_eq_true (List.all_eq_true.1 hB3 d (mem_dsts ho hd))
  refine wp_region_any hm ?_
  have key : ∀ (fuel : Nat) (listed : Array Bool) (a : Act) (w : World), listed.size = ops.size → (listed.toList.filter (!·)).length ≤ fuel → J w → Agree ops a0 a → (∀ j, listed.getD j false = true → Given ops R a w j) →
      wpAny P .any ops Q fuel listed a w := by
    intro fuel
    induction fuel with
    | zero =>
      intro listed a w hs hf hj ha hg
      have hall : ∀ j, j < ops.size → listed.getD j false = true := fun j hjl => by
        rw [Nat.le_zero, List.length_eq_zero_iff, List.filter_eq_nil_iff] at hf
        have := hf listed[j] (by rw [Array.mem_toList_iff]; exact Array.getElem_mem (by omega))
        rw [Array.getD_eq_getD_getElem?, Array.getElem?_eq_getElem (by omega)]
        simpa using this
      unfold wpAny
      refine ⟨?_, hfin a w hj ha fun j => ?_⟩
      · rw [List.eq_nil_iff_forall_not_mem]
        intro i hi
        obtain ⟨h1, h2, _⟩ := ready_iff.1 hi
        have h3 := hall i h1
        rw [Array.getD_eq_getD_getElem?, Array.getElem?_eq_getElem (by omega)] at h2 h3
        simp at h2 h3
        rw [h2] at h3
        cases h3
      · intro o d ho
        exact hg j (hall j (Array.getElem?_eq_some_iff.1 ho).1) o d ho
    | succ fuel ih =>
      intro listed a w hs hf hj ha hg
      unfold wpAny
      refine ⟨fun hr => hfin a w hj ha fun j => ?_, fun i hi => ?_⟩
      · have hall : ∀ j, j < ops.size → listed.getD j false = true := by
          intro j
          induction j using Nat.strongRecOn with
          | ind j ihj =>
            intro hjl
            cases hc : listed.getD j false
            · have : j ∈ Region.ready .any ops listed := by
                refine ready_iff.2 ⟨hjl, ?_, ops[j], Array.getElem?_eq_getElem hjl, fun e he hb => ?_⟩
                · rw [Array.getD_eq_getD_getElem?, Array.getElem?_eq_getElem (by omega)] at hc ⊢
                  simpa using hc
                · have hlt' := hback j _ (Array.getElem?_eq_getElem hjl) e he hb
                  exact ihj e.on hlt' (by omega)
              rw [hr] at this
              cases this
            · rfl
        intro o d ho
        exact hg j (hall j (Array.getElem?_eq_some_iff.1 ho).1) o d ho
      · obtain ⟨h1, h2, o, ho, h3⟩ := ready_iff.1 hi
        refine wpOp_step ho fun K' hK' => ?_
        have hcons : ∀ v w', J w' → Le w w' → R i v w' → K' (a.put o.dst v) w' := fun v w' hj' hle hr => by
          refine hK' _ _ (ih _ _ _ (by simpa using hs) ?_ hj' ?_ ?_)
          · have hi' : i < listed.size := by omega
            have hlf : listed[i] = false := by
              rw [Array.getD_eq_getD_getElem?, Array.getElem?_eq_getElem hi'] at h2
              simpa using h2
            have : ((listed.setIfInBounds i true).toList.filter (!·)).length + 1 = (listed.toList.filter (!·)).length := by
              obtain ⟨l⟩ := listed
              rw [List.setIfInBounds_toArray]
              exact count_set l i (by simpa using hi') (by simpa using hlf)
            omega
          · cases hd : o.dst with
            | none => exact ⟨ha.defers, ha.size, ha.same⟩
            | some d =>
              refine ⟨ha.defers, by simp [Act.put, ha.size], fun s hs' => ?_⟩
              rw [eval_put_other (fun e => hs' (by rw [e]; exact mem_dsts ho hd))]
              exact ha.same s hs'
          · intro j hjl o' d' ho' hd'
            by_cases hji : j = i
            · subst hji
              rw [ho] at ho'
              cases ho'
              rw [hd', eval_put_self (by rw [ha.size]; exact hlt _ _ _ ho hd')]
              exact hr
            · have hjl' : listed.getD j false = true := by
                rw [Array.getD_eq_getD_getElem?, Array.getElem?_setIfInBounds_ne (fun e => hji e.symm)] at hjl
                rw [Array.getD_eq_getD_getElem?]
                exact hjl
              have hold := hLe _ _ _ _ hle (hg j hjl' o' d' ho' hd')
              cases hd : o.dst with
              | none => exact hold
              | some d =>
                rw [eval_put_other (fun e => hji (dsts_inj hnd ho' ho hd' (by rw [hd, e])))]
                exact hold
        exact hstep i o ho a w hj ha (fun e he hb => hg _ (h3 e he hb)) K' hcons
  refine key _ _ _ _ (by simp) ?_ hJ ⟨rfl, rfl, fun _ _ => rfl⟩ fun j hjl => ?_
  · exact Nat.le_trans (List.length_filter_le _ _) (by simp)
  · rw [Array.getD_eq_getD_getElem?] at hjl
    by_cases h : j < ops.size
    · simp [h] at hjl
    · simp [h] at hjl

/-! ### for use -/
/-- S holds of each operation, at its place. -/
def AllAt (S : Nat → Oper → Prop) : Nat → List Oper → Prop
  | _, [] => True
  | k, o :: l => S k o ∧ AllAt S (k + 1) l
theorem AllAt.get {S : Nat → Oper → Prop} : ∀ {l : List Oper} {k : Nat}, AllAt S k l → ∀ i o, l[i]? = some o → S (k + i) o
  | [], _, _, i, o, h => by simp at h
  | x :: l, k, hl, 0, o, h => by
    simp at h
    subst h
    exact hl.1
  | x :: l, k, hl, i + 1, o, h => by
    have := AllAt.get hl.2 i o (by simpa using h)
    rw [show k + 1 + i = k + (i + 1) from by omega] at this
    exact this

theorem Agree.at_ {ops : Array Oper} {a0 a : Act} (h : Agree ops a0 a) (s : Nat) (hs : (dsts ops).contains s = false) : a.eval (.tmp s) = a0.eval (.tmp s) :=
  h.same s (by simpa using hs)
theorem Agree.lt {ops : Array Oper} {a0 a : Act} (h : Agree ops a0 a) (d : Nat) (hd : decide (d < a0.tmps.size) = true) : d < a.tmps.size := by
  rw [h.size]
  exact of_decide_eq_true hd

theorem eval_get {a : Act} {s : Nat} {v : Value} (h : a.eval (.tmp s) = v) : a.tmps[s]?.getD undef = v := by
  rw [← h]
  simp [Act.eval]

/-- A frame, slot by slot. -/
def Fr (a : Act) : Nat → List Value → Prop
  | _, [] => True
  | k, v :: l => a.tmps[k]?.getD undef = v ∧ Fr a (k + 1) l
theorem Fr.get {a : Act} : ∀ {l : List Value} {k : Nat}, Fr a k l → ∀ i (h : i < l.length), a.tmps[k + i]?.getD undef = l[i]
  | [], _, _, i, h => by simp at h
  | v :: l, k, hf, 0, _ => hf.1
  | v :: l, k, hf, i + 1, h => by
    have := Fr.get hf.2 i (by simpa using h)
    rw [show k + 1 + i = k + (i + 1) from by omega] at this
    exact this
theorem act_of {a : Act} {l : List Value} {d : List Deferred} (hf : Fr a 0 l) (hs : a.tmps.size = l.length) (hd : a.defers = d) : a = ⟨l.toArray, d⟩ := by
  obtain ⟨tmps, defers⟩ := a
  have hd' : defers = d := hd
  subst hd'
  congr 1
  refine Array.ext (by simpa using hs) fun i h1 h2 => ?_
  have := hf.get i (by simpa using h2)
  simp [h1] at this
  simpa using this

/-- One operation's duty. -/
def Duty (P : Program) (ops : Array Oper) (Q : Exit → Act → World → Prop) (a0 : Act) (J : World → Prop) (R : Nat → Value → World → Prop) (Le : World → World → Prop) (i : Nat) (o : Oper) : Prop :=
  ∀ a w, J w → Agree ops a0 a → (∀ e ∈ o.after, Region.binds .any e = true → Given ops R a w e.on) → ∀ K : Act → World → Prop, (∀ v w', J w' → Le w w' → R i v w' → K (a.put o.dst v) w') →
    if Region.wanted o (yielded ops a.tmps) = true then Oper.wp P o a w K Q else K (a.put o.dst undef) w

theorem wp_flow {id : Nat} {a0 : Act} {w0 : World} {l : List Oper} (hm : P.follows .mixedOrders = true) (hB : flowB l.toArray a0.tmps.size = true)
    (J : World → Prop) (R : Nat → Value → World → Prop) (Le : World → World → Prop) (hJ : J w0.drew) (hLe : ∀ j v w w', Le w w' → R j v w → R j v w')
    (hstep : AllAt (Duty P l.toArray Q a0 J R Le) 0 l)
    (hfin : ∀ a w, J w → Agree l.toArray a0 a → (∀ j, Given l.toArray R a w j) → Q .normal a w) : (Code.region id l.toArray true).wp P Q a0 w0 :=
  wp_region_flow hm hB J R Le hJ hLe (fun i o ho => by
    have := hstep.get i o (by simpa using ho)
    rw [Nat.zero_add] at this
    exact this) hfin

theorem given_at {R : Nat → Value → World → Prop} {a : Act} {w : World} {o oj : Oper} {d : Nat} (hD : ∀ e ∈ o.after, Region.binds .any e = true → Given ops R a w e.on) (j : Nat)
    (h : o.after.toList.any (fun e => Region.binds .any e && e.on == j) = true) (hj : ops[j]? = some oj) (hd : oj.dst = some d) : R j (a.eval (.tmp d)) w := by
  obtain ⟨e, he, h⟩ := List.any_eq_true.1 h
  simp only [Bool.and_eq_true, beq_iff_eq] at h
  have := hD _ (Array.mem_toList_iff.1 he) h.1
  rw [h.2] at this
  exact this oj d hj hd

section
variable {a : Act} {w : World} {o og : Oper} {K : Act → World → Prop} {y : Nat → Option Bool}
theorem duty_plain (hg : o.guard = none) (h : Oper.wp P o a w K Q) : if Region.wanted o y = true then Oper.wp P o a w K Q else K (a.put o.dst undef) w := by
  rw [if_pos (by simp [Region.wanted, hg])]
  exact h
theorem yielded_bool {g d : Nat} {b : Bool} (hog : ops[g]? = some og) (hd : og.dst = some d) (hs : d < a.tmps.size) (hv : a.eval (.tmp d) = .bool b) : yielded ops a.tmps g = some b := by
  unfold yielded
  have : a.tmps[d]? = some (.bool b) := by
    rw [Array.getElem?_eq_getElem hs]
    simp [Act.eval, Array.getD_eq_getD_getElem?, hs] at hv
    rw [hv]
  simp [hog, hd, this]
theorem duty_yes {g d : Nat} {b : Bool} (hg : o.guard = some (g, b)) (hog : ops[g]? = some og) (hd : og.dst = some d) (hs : d < a.tmps.size) (hv : a.eval (.tmp d) = .bool b) (h : Oper.wp P o a w K Q) :
    if Region.wanted o (yielded ops a.tmps) = true then Oper.wp P o a w K Q else K (a.put o.dst undef) w := by
  rw [if_pos (by simp [Region.wanted, hg, yielded_bool hog hd hs hv])]
  exact h
theorem duty_no {g d : Nat} {b : Bool} (hg : o.guard = some (g, !b)) (hog : ops[g]? = some og) (hd : og.dst = some d) (hs : d < a.tmps.size) (hv : a.eval (.tmp d) = .bool b) (h : K (a.put o.dst undef) w) :
    if Region.wanted o (yielded ops a.tmps) = true then Oper.wp P o a w K Q else K (a.put o.dst undef) w := by
  rw [if_neg (by simp [Region.wanted, hg, yielded_bool hog hd hs hv])]
  exact h
theorem wp_value {v : Value} {w' : World} (h : (execOp a.eval o).run P w = .ok (.value v) w') (hK : K (a.put o.dst v) w') : Oper.wp P o a w K Q := by
  unfold Oper.wp
  rw [h]
  exact hK
theorem wp_enter {f : FuncId} {args : Array Value} {w' : World} (h : (execOp a.eval o).run P w = .ok (.enter f args) w') (hc : Calls P f args w' fun e w'' => ∃ v, e = .returned v ∧ K (a.put o.dst v) w'') : Oper.wp P o a w K Q := by
  unfold Oper.wp
  rw [h]
  refine hc.mono ?_
  rintro e w'' ⟨v, rfl, hk⟩
  exact hk
end

end Go.Proofs.YtjggeodnoigkkaaM
