/-
  A region that draws its order, by its flow of values: the law of YtjggeodnoigkkaaFlow2, with what is true of the world told by which operations are done.
-/
import Derived.Test.YtjggeodnoigkkaaFlow2
namespace Go.Proofs.YtjggeodnoigkkaaM
open Go.RowKit
variable {P : Program} {ops : Array Oper} {Q : Exit → Act → World → Prop}

def done_ (L : Nat → Bool) (i : Nat) : Nat → Bool := fun j => if j = i then true else L j
/-- When operation i is met: it is not done; what it waits for is; what waits for it is not. -/
structure Timed (ops : Array Oper) (L : Nat → Bool) (i : Nat) (o : Oper) : Prop where
  self : L i = false
  ahead : ∀ e ∈ o.after, Region.binds .any e = true → L e.on = true
  behind : ∀ (i' : Nat) (o' : Oper), ops[i']? = some o' → o'.after.toList.any (fun e => Region.binds .any e && e.on == i) = true → L i' = false
theorem Timed.yes {L : Nat → Bool} {i : Nat} {o : Oper} (h : Timed ops L i o) (j : Nat) (hj : o.after.toList.any (fun e => Region.binds .any e && e.on == j) = true) : L j = true := by
  obtain ⟨e, he, h'⟩ := List.any_eq_true.1 hj
  simp only [Bool.and_eq_true, beq_iff_eq] at h'
  have := h.ahead _ (Array.mem_toList_iff.1 he) h'.1
  rwa [h'.2] at this
theorem Timed.no {L : Nat → Bool} {i : Nat} {o : Oper} (h : Timed ops L i o) (i' : Nat) {o' : Oper} (ho : ops[i']? = some o') (he : o'.after.toList.any (fun e => Region.binds .any e && e.on == i) = true) : L i' = false := h.behind i' o' ho he

theorem listed_done (listed : Array Bool) (i : Nat) (h : i < listed.size) : (fun j => (listed.setIfInBounds i true).getD j false) = done_ (fun j => listed.getD j false) i := by
  funext j
  unfold done_
  by_cases hj : j = i
  · subst hj
    rw [if_pos rfl, Array.getD_eq_getD_getElem?, Array.getElem?_setIfInBounds_self_of_lt h]
    rfl
  · rw [if_neg hj, Array.getD_eq_getD_getElem?, Array.getElem?_setIfInBounds_ne (fun e => hj e.symm), ← Array.getD_eq_getD_getElem?]
theorem listed_none (n : Nat) : (fun j => (Array.replicate n false).getD j false) = fun _ => false := by
  funext j
  rw [Array.getD_eq_getD_getElem?]
  by_cases h : j < n <;> simp [h]

theorem wp_region_flow3 {id : Nat} {a0 : Act} {w0 : World} (hm : P.follows .mixedOrders = true) (hB : flowB ops a0.tmps.size = true)
    (J : (Nat → Bool) → World → Prop) (R : Nat → Value → World → Prop) (Le : World → World → Prop) (hJ : J (fun _ => false) w0.drew) (hLe : ∀ j v w w', Le w w' → R j v w → R j v w')
    (hstep : ∀ (i : Nat) (o : Oper), ops[i]? = some o → ∀ L a w, J L w → Agree ops a0 a → Unwritten ops a0 a i → Timed ops L i o → (∀ e ∈ o.after, Region.binds .any e = true → Given ops R a w e.on) → ∀ K : Act → World → Prop, (∀ v w', J (done_ L i) w' → Le w w' → R i v w' → K (a.put o.dst v) w') →
      if Region.wanted o (yielded ops a.tmps) = true then Oper.wp P o a w K Q else K (a.put o.dst undef) w)
    (hfin : ∀ L a w, J L w → (∀ j, j < ops.size → L j = true) → Agree ops a0 a → (∀ j, Given ops R a w j) → Q .normal a w) : (Code.region id ops true).wp P Q a0 w0 := by
  unfold flowB at hB
  simp only [Bool.and_eq_true, decide_eq_true_eq] at hB
  obtain ⟨⟨hB1, hnd⟩, hB3⟩ := hB
  have hback : ∀ (i : Nat) (o : Oper), ops[i]? = some o → ∀ e ∈ o.after, Region.binds .any e = true → e.on < i := fun i o ho e he hb => by
    have hi : i < ops.size := (Array.getElem?_eq_some_iff.1 ho).1
    have h1 := List.all_eq_true.1 hB1 i (List.mem_range.2 hi)
    rw [ho] at h1
    have h2 := Array.all_eq_true_iff_forall_mem.1 h1 e he
    simpa [hb] using h2
  have hlt : ∀ (j : Nat) (o : Oper) (d : Nat), ops[j]? = some o → o.dst = some d → d < a0.tmps.size := fun j o d ho hd => of_decide_eq_true (List.all_eq_true.1 hB3 d (mem_dsts ho hd))
  refine wp_region_any hm ?_
  have key : ∀ (fuel : Nat) (listed : Array Bool) (a : Act) (w : World), listed.size = ops.size → (listed.toList.filter (!·)).length ≤ fuel → J (fun j => listed.getD j false) w → Agree ops a0 a → (∀ j, listed.getD j false = true → Given ops R a w j) → (∀ j o' d, ops[j]? = some o' → o'.dst = some d → listed.getD j false = false → a.eval (.tmp d) = a0.eval (.tmp d)) → (∀ j o', ops[j]? = some o' → listed.getD j false = true → ∀ e ∈ o'.after, Region.binds .any e = true → listed.getD e.on false = true) →
      wpAny P .any ops Q fuel listed a w := by
    intro fuel
    induction fuel with
    | zero =>
      intro listed a w hs hf hj ha hg hun hcl
      have hall : ∀ j, j < ops.size → listed.getD j false = true := fun j hjl => by
        rw [Nat.le_zero, List.length_eq_zero_iff, List.filter_eq_nil_iff] at hf
        have := hf listed[j] (by rw [Array.mem_toList_iff]; exact Array.getElem_mem (by omega))
        rw [Array.getD_eq_getD_getElem?, Array.getElem?_eq_getElem (by omega)]
        simpa using this
      unfold wpAny
      refine ⟨?_, hfin _ a w hj hall ha fun j => ?_⟩
      · rw [List.eq_nil_iff_forall_not_mem]
        intro i hi
        obtain ⟨h1, h2, _⟩ := ready_iff.1 hi
        have h3 := hall i h1
        rw [Array.getD_eq_getD_getElem?, Array.getElem?_eq_getElem (by omega)] at h2 h3
        simp at h2 h3
        rw [h2] at h3
        cases h3
      · intro o d ho
        exact hg j (hall j (Array.getElem?_eq_some_iff.1 ho).1) o d ho
    | succ fuel ih =>
      intro listed a w hs hf hj ha hg hun hcl
      unfold wpAny
      refine ⟨fun hr => ?_, fun i hi => ?_⟩
      · have hall : ∀ j, j < ops.size → listed.getD j false = true := by
          intro j
          induction j using Nat.strongRecOn with
          | ind j ihj =>
            intro hjl
            cases hc : listed.getD j false
            · have : j ∈ Region.ready .any ops listed := by
                refine ready_iff.2 ⟨hjl, ?_, ops[j], Array.getElem?_eq_getElem hjl, fun e he hb => ?_⟩
                · rw [Array.getD_eq_getD_getElem?, Array.getElem?_eq_getElem (by omega)] at hc ⊢
                  simpa using hc
                · have hlt' := hback j _ (Array.getElem?_eq_getElem hjl) e he hb
                  exact ihj e.on hlt' (by omega)
              rw [hr] at this
              cases this
            · rfl
        refine hfin _ a w hj hall ha fun j => ?_
        intro o d ho
        exact hg j (hall j (Array.getElem?_eq_some_iff.1 ho).1) o d ho
      · obtain ⟨h1, h2, o, ho, h3⟩ := ready_iff.1 hi
        refine wpOp_step ho fun K' hK' => ?_
        have hcons : ∀ v w', J (done_ (fun j => listed.getD j false) i) w' → Le w w' → R i v w' → K' (a.put o.dst v) w' := fun v w' hj' hle hr => by
          refine hK' _ _ (ih _ _ _ (by simpa using hs) ?_ (by rw [listed_done listed i (by omega)]; exact hj') ?_ ?_ ?_ ?_)
          · have hi' : i < listed.size := by omega
            have hlf : listed[i] = false := by
              rw [Array.getD_eq_getD_getElem?, Array.getElem?_eq_getElem hi'] at h2
              simpa using h2
            have : ((listed.setIfInBounds i true).toList.filter (!·)).length + 1 = (listed.toList.filter (!·)).length := by
              obtain ⟨l⟩ := listed
              rw [List.setIfInBounds_toArray]
              exact count_set l i (by simpa using hi') (by simpa using hlf)
            omega
          · cases hd : o.dst with
            | none => exact ⟨ha.defers, ha.size, ha.same⟩
            | some d =>
              refine ⟨ha.defers, by simp [Act.put, ha.size], fun s hs' => ?_⟩
              rw [eval_put_other (fun e => hs' (by rw [e]; exact mem_dsts ho hd))]
              exact ha.same s hs'
          · intro j hjl o' d' ho' hd'
            by_cases hji : j = i
            · subst hji
              rw [ho] at ho'
              cases ho'
              rw [hd', eval_put_self (by rw [ha.size]; exact hlt _ _ _ ho hd')]
              exact hr
            · have hjl' : listed.getD j false = true := by
                rw [Array.getD_eq_getD_getElem?, Array.getElem?_setIfInBounds_ne (fun e => hji e.symm)] at hjl
                rw [Array.getD_eq_getD_getElem?]
                exact hjl
              have hold := hLe _ _ _ _ hle (hg j hjl' o' d' ho' hd')
              cases hd : o.dst with
              | none => exact hold
              | some d =>
                rw [eval_put_other (fun e => hji (dsts_inj hnd ho' ho hd' (by rw [hd, e])))]
                exact hold
          · intro j o' d' ho' hd' hjl
            have hji : j ≠ i := fun e => by
              subst e
              rw [Array.getD_eq_getD_getElem?, Array.getElem?_setIfInBounds_self_of_lt (by omega)] at hjl
              simp at hjl
            rw [Array.getD_eq_getD_getElem?, Array.getElem?_setIfInBounds_ne (fun e => hji e.symm), ← Array.getD_eq_getD_getElem?] at hjl
            have hold := hun j o' d' ho' hd' hjl
            cases hd : o.dst with
            | none => exact hold
            | some d =>
              rw [eval_put_other (fun e => hji (dsts_inj hnd ho' ho hd' (by rw [hd, e])))]
              exact hold
          · intro j o' ho' hjl e he hb
            have hlift : ∀ k, listed.getD k false = true → (listed.setIfInBounds i true).getD k false = true := fun k hk => by
              by_cases hki : k = i
              · subst hki
                rw [Array.getD_eq_getD_getElem?, Array.getElem?_setIfInBounds_self_of_lt (by omega)]
                rfl
              · rw [Array.getD_eq_getD_getElem?, Array.getElem?_setIfInBounds_ne (fun e => hki e.symm), ← Array.getD_eq_getD_getElem?]
                exact hk
            by_cases hji : j = i
            · subst hji
              rw [ho] at ho'
              cases ho'
              exact hlift _ (h3 e he hb)
            · rw [Array.getD_eq_getD_getElem?, Array.getElem?_setIfInBounds_ne (fun e => hji e.symm), ← Array.getD_eq_getD_getElem?] at hjl
              exact hlift _ (hcl j o' ho' hjl e he hb)
        have hU : Unwritten ops a0 a i := fun i' o' d' ho' hd' he => by
          obtain ⟨e, he1, he2⟩ := List.any_eq_true.1 he
          simp only [Bool.and_eq_true, beq_iff_eq] at he2
          refine hun i' o' d' ho' hd' ?_
          cases hc : listed.getD i' false
          · rfl
          · have := hcl i' o' ho' hc e (Array.mem_toList_iff.1 he1) he2.1
            rw [he2.2] at this
            rw [Array.getD_eq_getD_getElem?, Array.getElem?_eq_getElem (by omega)] at h2 this
            simp at h2 this
            rw [h2] at this
            cases this
        have hT : Timed ops (fun j => listed.getD j false) i o := ⟨by
          rw [Array.getD_eq_getD_getElem?, Array.getElem?_eq_getElem (by omega)] at h2 ⊢
          simpa using h2, h3, fun i' o' ho' he => by
          obtain ⟨e, he1, he2⟩ := List.any_eq_true.1 he
          simp only [Bool.and_eq_true, beq_iff_eq] at he2
          cases hc : listed.getD i' false
          · rfl
          · have := hcl i' o' ho' hc e (Array.mem_toList_iff.1 he1) he2.1
            rw [he2.2] at this
            rw [Array.getD_eq_getD_getElem?, Array.getElem?_eq_getElem (by omega)] at h2 this
            simp at h2 this
            rw [h2] at this
            cases this⟩
        exact hstep i o ho _ a w hj ha hU hT (fun e he hb => hg _ (h3 e he hb)) K' hcons
  refine key _ _ _ _ (by simp) ?_ (by rw [listed_none]; exact hJ) ⟨rfl, rfl, fun _ _ => rfl⟩ (fun j hjl => ?_) (fun _ _ _ _ _ _ => rfl) (fun j o' _ hjl => ?_)
  · exact Nat.le_trans (List.length_filter_le _ _) (by simp)
  · rw [Array.getD_eq_getD_getElem?] at hjl
    by_cases h : j < ops.size
    · simp [h] at hjl
    · simp [h] at hjl
  · rw [Array.getD_eq_getD_getElem?] at hjl
    by_cases h : j < ops.size
    · simp [h] at hjl
    · simp [h] at hjl

/-- One operation's duty. -/
def Duty3 (P : Program) (ops : Array Oper) (Q : Exit → Act → World → Prop) (a0 : Act) (J : (Nat → Bool) → World → Prop) (R : Nat → Value → World → Prop) (Le : World → World → Prop) (i : Nat) (o : Oper) : Prop :=
  ∀ L a w, J L w → Agree ops a0 a → Unwritten ops a0 a i → Timed ops L i o → (∀ e ∈ o.after, Region.binds .any e = true → Given ops R a w e.on) → ∀ K : Act → World → Prop, (∀ v w', J (done_ L i) w' → Le w w' → R i v w' → K (a.put o.dst v) w') →
    if Region.wanted o (yielded ops a.tmps) = true then Oper.wp P o a w K Q else K (a.put o.dst undef) w

theorem wp_flow3 {id : Nat} {a0 : Act} {w0 : World} {l : List Oper} (hm : P.follows .mixedOrders = true) (hB : flowB l.toArray a0.tmps.size = true)
    (J : (Nat → Bool) → World → Prop) (R : Nat → Value → World → Prop) (Le : World → World → Prop) (hJ : J (fun _ => false) w0.drew) (hLe : ∀ j v w w', Le w w' → R j v w → R j v w')
    (hstep : AllAt (Duty3 P l.toArray Q a0 J R Le) 0 l)
    (hfin : ∀ L a w, J L w → (∀ j, j < l.toArray.size → L j = true) → Agree l.toArray a0 a → (∀ j, Given l.toArray R a w j) → Q .normal a w) : (Code.region id l.toArray true).wp P Q a0 w0 :=
  wp_region_flow3 hm hB J R Le hJ hLe (fun i o ho => by
    have := hstep.get i o (by simpa using ho)
    rw [Nat.zero_add] at this
    exact this) hfin

end Go.Proofs.YtjggeodnoigkkaaM
