/-
  Pins out of bytes: the drops, what is rooted, and the two laws: Decode of Encode, Encode of Decode. No program in sight.
-/
import Derived.Test.YtjggeodnoigkkaaCA
namespace Go.Proofs.Ytjggeodnoigkkaa
open Go.RowKit Go.Maps Go.Shelf Go.Proofs.YtjggeodnoigkkaaM

structure DSt where
  ok : Bool
  last : Int
  c : Cs
  D : DM
def dropStep (x : DSt) : DSt :=
  ⟨x.ok && (mayB ((numF x.c).1, (numF (numF x.c).2).1) && decide (x.last < (numF x.c).1)), (numF x.c).1, (numF (numF x.c).2).2, putM x.D (numF x.c).1 (numF (numF x.c).2).1⟩
def dropsGo (n : Int) : Nat → Int → DSt → DSt
  | 0, _, x => x
  | f + 1, i, x => if (n < 0 ∨ i < n) ∧ x.c.2 = false then dropsGo n f (i + 1) (dropStep x) else x
def dropsR (c : Cs) : DSt := dropsGo (numF c).1 ((numF c).2.1.length + 1) 0 ⟨true, 0, (numF c).2, []⟩
def dropsOk (c : Cs) : Bool := (dropsR c).ok && decide (0 ≤ (numF c).1)

theorem dropStep_len (x : DSt) : (dropStep x).c.1.length ≤ x.c.1.length := Nat.le_trans (numF_len _) (numF_len _)
theorem dropStep_ok {x : DSt} (h : (dropStep x).c.2 = false) : x.c.2 = false ∧ (dropStep x).c.1.length + 16 ≤ x.c.1.length := by
  obtain ⟨h1, h2, h3, _⟩ := numF_ok (c := (numF x.c).2) h
  obtain ⟨h4, h5, h6, _⟩ := numF_ok h1
  refine ⟨h4, ?_⟩
  have : (dropStep x).c = (numF (numF x.c).2).2 := rfl
  rw [h6] at h2 h3
  have h2' : 8 ≤ (x.c.1.drop 8).length := h2
  rw [this, h6, h3]
  show ((x.c.1.drop 8).drop 8).length + 16 ≤ _
  rw [List.length_drop] at h2'
  rw [List.length_drop, List.length_drop]
  omega

theorem insI_last (x : Int × Int) : ∀ m : DM, (∀ p ∈ m, p.1 < x.1) → insM x m = m ++ [x]
  | [], _ => rfl
  | y :: r, h => by
    have h1 : (MKey.lt x.1 y.1 : Bool) ≠ true := fun e => by
      have e' : x.1 < y.1 := of_decide_eq_true e
      have := h y (by simp)
      omega
    rw [insM, if_neg h1, insI_last x r fun p hp => h p (List.mem_cons_of_mem _ hp)]
    rfl
theorem putI_last (x : Int × Int) (m : DM) (h : ∀ p ∈ m, p.1 < x.1) : putM m x.1 x.2 = m ++ [x] := by
  have hd : delM m x.1 = m := List.filter_eq_self.2 fun y hy => by
    have h1 := h y hy
    have : y.1 ≠ x.1 := by omega
    simp [this]
  rw [putM, hd]
  exact insI_last x m h

theorem mayB_iff (x : Int × Int) : mayB x = true ↔ 1 ≤ x.1 ∧ x.1 < x.2 ∧ x.2 < 1099511627776 := by
  unfold mayB
  simp only [Bool.and_eq_true, decide_eq_true_eq]

theorem dropStep_app (x : Int × Int) (s : Bs) (last : Int) (m : DM) (hx : mayB x = true) (hl : last < x.1) (hm : ∀ p ∈ m, p.1 < x.1) : dropStep ⟨true, last, (dropX x ++ s, false), m⟩ = ⟨true, x.1, (s, false), m ++ [x]⟩ := by
  obtain ⟨m1, m2, m3⟩ := (mayB_iff x).1 hx
  have h1 : numF (dropX x ++ s, false) = (x.1, (eightB x.2 ++ s, false)) := by
    have := numF_app x.1 (eightB x.2 ++ s) (by omega) (by omega)
    rwa [show eightB x.1 ++ (eightB x.2 ++ s) = dropX x ++ s from by simp [dropX, List.append_assoc]] at this
  have h2 := numF_app x.2 s (by omega) m3
  unfold dropStep
  simp only [h1, h2]
  rw [show ((x.1, x.2) : Int × Int) = x from rfl, hx, putI_last x m hm]
  simp [hl]

theorem dropsGo_app (tail : Bs) : ∀ (rest pre : DM) (last : Int) (f : Nat), (∀ x ∈ rest, mayB x = true) → Rising (pre ++ rest) → (∀ x ∈ rest, last < x.1) → (rest.flatMap dropX ++ tail).length < f →
    ∃ last', dropsGo ((pre ++ rest).length : Nat) f (pre.length : Nat) ⟨true, last, (rest.flatMap dropX ++ tail, false), pre⟩ = ⟨true, last', (tail, false), pre ++ rest⟩
  | [], pre, last, f, _, _, _, hf => by
    obtain ⟨f, rfl⟩ : ∃ g, f = g + 1 := ⟨f - 1, by omega⟩
    refine ⟨last, ?_⟩
    rw [dropsGo, if_neg (by simp)]
    simp
  | x :: rest, pre, last, f, hok, hr, hl, hf => by
    obtain ⟨f, rfl⟩ : ∃ g, f = g + 1 := ⟨f - 1, by omega⟩
    have hx := hok x (by simp)
    have hr' := List.pairwise_append.1 hr
    have hpre : ∀ p ∈ pre, p.1 < x.1 := fun p hp => of_decide_eq_true (hr'.2.2 p hp x (by simp))
    have hs : (x :: rest).flatMap dropX ++ tail = dropX x ++ (rest.flatMap dropX ++ tail) := by rw [List.flatMap_cons, List.append_assoc]
    rw [hs] at hf ⊢
    have hstep := dropStep_app x (rest.flatMap dropX ++ tail) last pre hx (hl x (by simp)) hpre
    have e : pre ++ x :: rest = (pre ++ [x]) ++ rest := by simp
    obtain ⟨last', ih⟩ := dropsGo_app tail rest (pre ++ [x]) x.1 f (fun y hy => hok y (by simp [hy])) (by rw [← e]; exact hr) (fun y hy => of_decide_eq_true (List.rel_of_pairwise_cons hr'.2.1 hy)) (by
      rw [List.length_append] at hf
      have : 0 < (dropX x).length := by simp [dropX, eightB_len]
      omega)
    refine ⟨last', ?_⟩
    rw [dropsGo, if_pos ⟨.inr (by simp only [List.length_append, List.length_cons]; omega), rfl⟩, hstep, e]
    rw [← ih]
    congr 1
    simp
theorem dropsR_app (D : DM) (tail : Bs) (hok : ∀ x ∈ D, mayB x = true) (hr : Rising D) (hn : D.length < 1099511627776) : ∃ last', dropsR (eightB D.length ++ (D.flatMap dropX ++ tail), false) = ⟨true, last', (tail, false), D⟩ ∧ dropsOk (eightB D.length ++ (D.flatMap dropX ++ tail), false) = true := by
  have h1 := numF_app D.length (D.flatMap dropX ++ tail) (by omega) (by omega)
  obtain ⟨last', h2⟩ := dropsGo_app tail D [] 0 ((D.flatMap dropX ++ tail).length + 1) hok hr (fun x hx => by
    have := ((mayB_iff _).1 (hok x hx)).1
    omega) (by omega)
  simp only [List.nil_append, List.length_nil] at h2
  refine ⟨last', ?_, ?_⟩
  · rw [dropsR, h1]
    exact h2
  · rw [dropsOk, dropsR, h1]
    simp only
    rw [show dropsGo (D.length : Int) ((D.flatMap dropX ++ tail).length + 1) 0 ⟨true, 0, (D.flatMap dropX ++ tail, false), []⟩ = _ from h2]
    simp

theorem dropsGo_inv (n : Int) : ∀ (f : Nat) (x : DSt) (i : Nat), i = x.D.length → (i : Int) ≤ n ∨ n < 0 → x.c.1.length < f ∨ x.c.2 = true → (∀ p ∈ x.D, p.1 ≤ x.last) → (dropsGo n f i x).ok = true → (dropsGo n f i x).c.2 = false →
    x.ok = true ∧ x.c.2 = false ∧ ∃ rest, (dropsGo n f i x).D = x.D ++ rest ∧ x.c.1 = rest.flatMap dropX ++ (dropsGo n f i x).c.1 ∧ ((dropsGo n f i x).D.length : Int) = n ∧ ∀ y ∈ rest, mayB y = true
  | 0, x, i, hi, hn, hf, hlast, h1, h2 => by
    rcases hf with hf | hf
    · omega
    · rw [dropsGo, hf] at h2
      cases h2
  | f + 1, x, i, hi, hn, hf, hlast, h1, h2 => by
    unfold dropsGo at h1 h2 ⊢
    by_cases hc : (n < 0 ∨ (i : Int) < n) ∧ x.c.2 = false
    · rw [if_pos hc] at h1 h2 ⊢
      have hcast : (i : Int) + 1 = ((i + 1 : Nat) : Int) := by omega
      rw [hcast] at h1 h2 ⊢
      by_cases hok : (dropStep x).ok = true
      · have hb := hok
        simp only [dropStep, Bool.and_eq_true, decide_eq_true_eq] at hb
        obtain ⟨b0, b1, b2⟩ := hb
        have hput : (dropStep x).D = x.D ++ [((numF x.c).1, (numF (numF x.c).2).1)] := putI_last ((numF x.c).1, (numF (numF x.c).2).1) x.D fun p hp => by
          have := hlast p hp
          show p.1 < (numF x.c).1
          omega
        obtain ⟨g1, g2, rest, g3, g4, g5, g6⟩ := dropsGo_inv n f (dropStep x) (i + 1) (by rw [hput, List.length_append, hi]; rfl) (by omega) (by
          by_cases hb : (dropStep x).c.2 = true
          · exact .inr hb
          · have := (dropStep_ok (x := x) (by simpa using hb)).2
            rcases hf with hf | hf
            · exact .inl (by omega)
            · rw [hc.2] at hf
              cases hf) (fun p hp => by
          rw [hput, List.mem_append, List.mem_singleton] at hp
          show p.1 ≤ (numF x.c).1
          rcases hp with hp | rfl
          · have := hlast p hp
            omega
          · exact Int.le_refl _) h1 h2
        obtain ⟨m1, m2, m3⟩ := (mayB_iff _).1 b1
        simp only at m1 m2 m3
        have hn1 : (numF (numF x.c).2).2.2 = false := g2
        obtain ⟨n1, _⟩ := numF_ok hn1
        have e2 := numF_inv hn1 (by omega)
        have e1 := numF_inv n1 (by omega)
        refine ⟨b0, hc.2, ((numF x.c).1, (numF (numF x.c).2).1) :: rest, ?_, ?_, g5, ?_⟩
        · rw [g3, hput]
          simp
        · rw [List.flatMap_cons, List.append_assoc, ← g4]
          have e4 : (dropStep x).c.1 = (numF (numF x.c).2).2.1 := rfl
          rw [e4, dropX, List.append_assoc, ← e2, ← e1]
        · intro y hy
          rcases List.mem_cons.1 hy with rfl | hy
          · exact b1
          · exact g6 y hy
      · exfalso
        have hmono : ∀ (f : Nat) (i : Int) (y : DSt), y.ok = false → (dropsGo n f i y).ok = false := fun f => by
          induction f with
          | zero => exact fun _ _ h => h
          | succ f ih =>
            intro i y h
            unfold dropsGo
            split
            · exact ih _ _ (by simp [dropStep, h])
            · exact h
        rw [hmono f _ _ (by simpa using hok)] at h1
        cases h1
    · rw [if_neg hc] at h1 h2 ⊢
      have : ¬ (n < 0 ∨ (i : Int) < n) := fun e => hc ⟨e, h2⟩
      exact ⟨h1, h2, [], by simp, by simp, by omega, by simp⟩
theorem dropsGo_bad (n : Int) : ∀ (f : Nat) (i : Int) (x : DSt), x.c.2 = true → (dropsGo n f i x) = x
  | 0, _, _, _ => rfl
  | f + 1, i, x, h => by rw [dropsGo, if_neg (by simp [h])]
theorem dropsR_first {c : Cs} (h2 : (dropsR c).c.2 = false) : (numF c).2.2 = false := by
  cases hb : (numF c).2.2
  · rfl
  · unfold dropsR at h2
    rw [dropsGo_bad _ _ _ _ hb] at h2
    simp only [hb] at h2
    cases h2
theorem dropsR_inv {c : Cs} (h1 : dropsOk c = true) (h2 : (dropsR c).c.2 = false) :
    c.2 = false ∧ c.1 = eightB (dropsR c).D.length ++ ((dropsR c).D.flatMap dropX ++ (dropsR c).c.1) ∧ (∀ x ∈ (dropsR c).D, mayB x = true) := by
  have hb := dropsR_first h2
  rw [dropsOk, Bool.and_eq_true, decide_eq_true_eq] at h1
  unfold dropsR at h1 h2 ⊢
  obtain ⟨_, _, rest, g3, g4, g5, g6⟩ := dropsGo_inv (numF c).1 ((numF c).2.1.length + 1) ⟨true, 0, (numF c).2, []⟩ 0 rfl (.inl h1.2) (.inl (Nat.lt_succ_self _)) (fun p hp => by cases hp) h1.1 h2
  have e := numF_inv hb h1.2
  simp only [List.nil_append] at g3
  rw [Int.natCast_zero] at g3 g4 g5
  refine ⟨(numF_ok hb).1, ?_, fun x hx => g6 x (by rw [← g3]; exact hx)⟩
  rw [g5, g3, ← g4]
  exact e

/-! ### rooted -/
def chainGo (M : PM) : Nat → Int × Bs → Bool
  | f, x => if x.2 = [] then true else match f, getM M x.2 with
    | 0, _ => false
    | _, none => false
    | f + 1, some up => decide (up.1 = x.1) && chainGo M f up
def rootedB (M : PM) : Bool := M.all fun x => chainGo M M.length x.2

/-! ### all of it -/
def decF (s : Bs) : Int × PM × DM :=
  if (dropsR (pinsR (s, false)).c).c.2 = true then (10, [], [])
  else if (dropsR (pinsR (s, false)).c).c.1 ≠ [] then (11, [], [])
  else if (!pinsOk (s, false) || (!dropsOk (pinsR (s, false)).c || !rootedB (pinsR (s, false)).M)) = true then (12, [], [])
  else (0, (pinsR (s, false)).M, (dropsR (pinsR (s, false)).c).D)

theorem decF_back {s : Bs} (hs : s.length < 1099511627776) (h : (decF s).1 = 0) : encB (decF s).2.1 (decF s).2.2 = s := by
  unfold decF at h ⊢
  split at h
  · simp at h
  · rename_i c1
    rw [if_neg c1]
    split at h
    · simp at h
    · rename_i c2
      rw [if_neg c2]
      split at h
      · simp at h
      · rename_i c3
        rw [if_neg c3]
        simp only [Bool.or_eq_true, Bool.not_eq_true', not_or, Bool.not_eq_false] at c3
        obtain ⟨p1, p2, _⟩ := c3
        obtain ⟨d1, d2, _⟩ := dropsR_inv p2 (by simpa using c1)
        obtain ⟨e1, _⟩ := pinsR_inv s hs p1 d1
        have c2' : (dropsR (pinsR (s, false)).c).c.1 = [] := by simpa using c2
        rw [c2', List.append_nil] at d2
        rw [encB, List.append_assoc, ← d2, ← e1]

/-- Pins that calls made. -/
def Born : PM → Prop
  | [] => True
  | x :: L => (x.2.2 = [] ∨ ∃ y ∈ L, y.1 = x.2.2 ∧ y.2.1 = x.2.1) ∧ Born L
structure Made (M : PM) (D : DM) : Prop where
  riseM : Rising M
  riseD : Rising D
  okM : ∀ x ∈ M, PinOk x
  okD : ∀ x ∈ D, mayB x = true
  born : ∃ L : PM, L.Perm M ∧ Born L

theorem chain_more (M : PM) : ∀ (f g : Nat) (x : Int × Bs), f ≤ g → chainGo M f x = true → chainGo M g x = true
  | f, g, x, hfg, h => by
    unfold chainGo at h ⊢
    by_cases hx : x.2 = []
    · rw [if_pos hx]
    · rw [if_neg hx] at h ⊢
      match f, g, getM M x.2, h with
      | f + 1, g + 1, some up, h =>
        simp only [Bool.and_eq_true] at h ⊢
        exact ⟨h.1, chain_more M f g up (by omega) h.2⟩
theorem chain_born {M : PM} (hr : Rising M) : ∀ (L : PM), (∀ x ∈ L, x ∈ M) → Born L → ∀ x ∈ L, chainGo M L.length x.2 = true
  | [], _, _, x, hx => by cases hx
  | z :: L, hL, hb, x, hx => by
    have ih := chain_born hr L (fun y hy => hL y (List.mem_cons_of_mem _ hy)) hb.2
    rcases List.mem_cons.1 hx with rfl | hx
    · unfold chainGo
      split
      · rfl
      · rename_i hne
        rcases hb.1 with e | ⟨y, hy, e1, e2⟩
        · exact absurd e hne
        · have hg := hr.get_of_mem (hL y (List.mem_cons_of_mem _ hy))
          rw [e1] at hg
          rw [hg]
          simp only [List.length_cons, Bool.and_eq_true, decide_eq_true_eq]
          exact ⟨e2, ih y hy⟩
    · exact chain_more M _ _ _ (by simp) (ih x hx)
theorem Made.rooted {M : PM} {D : DM} (h : Made M D) : rootedB M = true := by
  obtain ⟨L, hp, hb⟩ := h.born
  rw [rootedB, List.all_eq_true]
  intro x hx
  have := chain_born h.riseM L (fun y hy => hp.mem_iff.1 hy) hb x (hp.mem_iff.2 hx)
  rwa [hp.length_eq] at this

theorem decF_enc {M : PM} {D : DM} (h : Made M D) (hM : M.length < 1099511627776) (hD : D.length < 1099511627776) : decF (encB M D) = (0, M, D) := by
  have e : encB M D = eightB M.length ++ (M.flatMap pinX ++ (eightB D.length ++ (D.flatMap dropX ++ []))) := by rw [encB]; simp
  obtain ⟨l1, h1, h2⟩ := pinsR_app M (eightB D.length ++ (D.flatMap dropX ++ [])) h.okM h.riseM hM
  obtain ⟨l2, h3, h4⟩ := dropsR_app D [] h.okD h.riseD hD
  rw [← e] at h1 h2
  unfold decF
  rw [h1]
  simp only
  rw [h3, h2, h4, h.rooted]
  simp

/-! ### the calls keep it -/
theorem Made.nil : Made [] [] := ⟨List.Pairwise.nil, List.Pairwise.nil, fun x hx => (by cases hx), fun x hx => (by cases hx), [], List.Perm.nil, trivial⟩
theorem ins_perm (x : Bs × (Int × Bs)) : ∀ m : PM, (insM x m).Perm (x :: m)
  | [] => List.Perm.refl _
  | y :: r => by
    unfold insM
    split
    · exact List.Perm.refl _
    · exact ((ins_perm x r).cons y).trans (List.Perm.swap x y r)
theorem put_perm {M : PM} {k : Bs} {v : Int × Bs} (h : hasM M k = false) : (putM M k v).Perm ((k, v) :: M) := by
  have hd : delM M k = M := List.filter_eq_self.2 fun y hy => by
    have : y.1 ≠ k := fun e => by
      rw [hasM, List.any_eq_false] at h
      exact h y hy (by simp [e])
    simp [this]
  rw [putM, hd]
  exact ins_perm _ _
theorem Made.put {M : PM} {D : DM} (h : Made M D) (k : Bs) (v : Int × Bs) (hk : hasM M k = false) (hx : PinOk (k, v)) (hv : v.2 = [] ∨ ∃ y ∈ M, y.1 = v.2 ∧ y.2.1 = v.1) : Made (putM M k v) D := by
  obtain ⟨L, hp, hb⟩ := h.born
  refine ⟨h.riseM.put _ _, h.riseD, fun y hy => ?_, h.okD, (k, v) :: L, (hp.cons _).trans (put_perm hk).symm, ?_, hb⟩
  · rcases (mem_put _ _ _ _).1 hy with rfl | hy
    · exact hx
    · exact h.okM y hy.1
  · rcases hv with e | ⟨y, hy, r⟩
    · exact .inl e
    · exact .inr ⟨y, hp.mem_iff.2 hy, r⟩
theorem Made.pin {M : PM} {D : DM} (h : Made M D) (name : Bs) (x : Int) : Made (pinF M name x).2 D := by
  unfold pinF
  split
  · exact h
  · rename_i c
    split
    · exact h
    · rename_i c2
      simp only [not_or, Bool.not_eq_false, Int.not_lt, Int.not_le] at c
      exact h.put _ _ (by simpa using c2) ⟨c.1, by simp, c.2.1, c.2.2⟩ (.inl rfl)
theorem Made.clone {M : PM} {D : DM} (h : Made M D) (name of_ : Bs) : Made (cloneF M name of_).2 D := by
  unfold cloneF
  split
  · exact h
  · rename_i c1
    split
    · exact h
    · rename_i x hx
      split
      · exact h
      · rename_i c2
        have hm := mem_of_get hx
        have ho := h.okM _ hm
        exact h.put _ _ (by simpa using c2) ⟨by simpa using c1, ((rightB_iff _).1 ho.name).2, ho.lo, ho.hi⟩ (.inr ⟨_, hm, rfl, rfl⟩)
theorem Born.del {name : Bs} : ∀ {L : PM}, Born L → (∀ x ∈ L, x.2.2 = name → name = []) → Born (L.filter fun p => !decide (p.1 = name))
  | [], _, _ => trivial
  | x :: L, hb, hn => by
    have ih := Born.del hb.2 fun y hy => hn y (List.mem_cons_of_mem _ hy)
    rw [List.filter_cons]
    split
    · refine ⟨?_, ih⟩
      rcases hb.1 with e | ⟨y, hy, e1, e2⟩
      · exact .inl e
      · by_cases hx : x.2.2 = []
        · exact .inl hx
        · refine .inr ⟨y, List.mem_filter.2 ⟨hy, ?_⟩, e1, e2⟩
          have : y.1 ≠ name := fun e => hx (by
            have := hn x (by simp) (e1.symm.trans e)
            rw [← e1, e, this])
          simp [this]
    · exact ih
theorem Made.unpin {M : PM} {D : DM} (h : Made M D) (name : Bs) : Made (unpinF M name).2 D := by
  unfold unpinF
  split
  · exact h
  · split
    · exact h
    · rename_i c1 c2
      obtain ⟨L, hp, hb⟩ := h.born
      have hc : clonesF M name = [] := List.eq_nil_of_length_eq_zero (by omega)
      rw [clonesF, List.map_eq_nil_iff, List.filter_eq_nil_iff] at hc
      refine ⟨h.riseM.del _, h.riseD, fun y hy => h.okM y ((mem_del _ _ _).1 hy).1, h.okD, _, hp.filter _, hb.del fun x hx e => ?_⟩
      have := hc x (hp.mem_iff.1 hx)
      simp only [clonesQ, e] at this
      simpa using this
theorem putAll_ok : ∀ (l D : DM), Rising D → (∀ x ∈ D, mayB x = true) → (∀ x ∈ l, mayB x = true) → Rising (putAll D l) ∧ ∀ x ∈ putAll D l, mayB x = true
  | [], _, h, h1, _ => ⟨h, h1⟩
  | x :: l, D, h, h1, h2 => putAll_ok l (putM D x.1 x.2) (h.put _ _) (fun y hy => by
      rcases (mem_put _ _ _ _).1 hy with rfl | hy
      · exact h2 x (by simp)
      · exact h1 y hy.1) fun y hy => h2 y (List.mem_cons_of_mem _ hy)
theorem Made.drop {M : PM} {D : DM} (h : Made M D) (l : DM) : Made M (dropF D l).2 := by
  unfold dropF
  split
  · exact h
  · rename_i c1
    split
    · exact h
    · have := putAll_ok l D h.riseD h.okD fun x hx => List.all_eq_true.1 (by simpa using c1) x hx
      exact ⟨h.riseM, this.1, h.okM, this.2, h.born⟩
theorem delAll_ok : ∀ (l : List Int) (D : DM), Rising D → (∀ x ∈ D, mayB x = true) → Rising (delAll D l) ∧ ∀ x ∈ delAll D l, mayB x = true
  | [], _, h, h1 => ⟨h, h1⟩
  | x :: l, D, h, h1 => delAll_ok l (delM D x) (h.del _) fun y hy => h1 y ((mem_del _ _ _).1 hy).1
theorem Made.done {M : PM} {D : DM} (h : Made M D) (l : List Int) : Made M (doneF M D l).2 := by
  unfold doneF
  split
  · have := delAll_ok l D h.riseD h.okD
    exact ⟨h.riseM, this.1, h.okM, this.2, h.born⟩
  · exact h
theorem Made.does {M : PM} {D : DM} (h : Made M D) (o : OpV) : Made (doesF M D o).2.1 (doesF M D o).2.2 := by
  unfold doesF
  split
  · exact h.pin _ _
  · split
    · exact h.clone _ _
    · split
      · exact h.unpin _
      · split
        · exact h.drop _
        · exact h.done _

end Go.Proofs.Ytjggeodnoigkkaa
