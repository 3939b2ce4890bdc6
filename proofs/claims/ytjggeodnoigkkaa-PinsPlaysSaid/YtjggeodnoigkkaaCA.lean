/-
  Pins out of bytes: what the program's Decode answers, and that it undoes Encode, and Encode it. No program in sight.
-/
import Derived.Test.YtjggeodnoigkkaaOA
namespace Go.Proofs.Ytjggeodnoigkkaa
open Go.RowKit Go.Maps Go.Shelf Go.Proofs.YtjggeodnoigkkaaM

/-! ### what is cut off -/
abbrev Cs := Bs × Bool
def textF (c : Cs) (n : Nat) : Bs × Cs := if (c.2 || decide (c.1.length < n)) = true then ([], (c.1, true)) else (c.1.take n, (c.1.drop n, false))
def numGo : List UInt8 → Int → Int
  | [], n => n
  | b :: r, n => if 1099511627776 ≤ n then -1 else numGo r (n * 256 + (b.toNat : Int))
def numF (c : Cs) : Int × Cs := (numGo (textF c 8).1.reverse 0, (textF c 8).2)
def shortF (c : Cs) : Bs × Cs := if (textF c 1).2.2 = true then ([], (textF c 1).2) else textF (textF c 1).2 ((textF c 1).1.headD 0).toNat

theorem textF_ok {c : Cs} {n : Nat} (h : (textF c n).2.2 = false) : c.2 = false ∧ n ≤ c.1.length ∧ textF c n = (c.1.take n, (c.1.drop n, false)) := by
  unfold textF at h ⊢
  by_cases hc : (c.2 || decide (c.1.length < n)) = true
  · rw [if_pos hc] at h
    cases h
  · rw [if_neg hc]
    simp only [Bool.or_eq_true, decide_eq_true_eq, not_or, Bool.not_eq_true] at hc
    exact ⟨hc.1, by omega, rfl⟩
theorem textF_len (c : Cs) (n : Nat) : (textF c n).2.1.length ≤ c.1.length := by
  unfold textF
  split
  · exact Nat.le_refl _
  · show (c.1.drop n).length ≤ _
    rw [List.length_drop]
    omega
theorem textF_app (t s : Bs) : textF (t ++ s, false) t.length = (t, (s, false)) := by
  unfold textF
  rw [if_neg (by simp)]
  simp
theorem textF_short (c : Cs) (n : Nat) : (textF c n).1.length ≤ n := by
  unfold textF
  split
  · simp
  · rw [List.length_take]
    omega

theorem numGo_range : ∀ (l : List UInt8) (n : Int), 0 ≤ n → n < 281474976710656 → -1 ≤ numGo l n ∧ numGo l n < 281474976710656
  | [], n, h0, h1 => ⟨by unfold numGo; omega, h1⟩
  | b :: r, n, h0, h1 => by
    unfold numGo
    split
    · exact ⟨by omega, by omega⟩
    · have := b.toNat_lt
      exact numGo_range r _ (by omega) (by omega)
theorem numF_range (c : Cs) : -1 ≤ (numF c).1 ∧ (numF c).1 < 281474976710656 := numGo_range _ _ (by decide) (by decide)
theorem numF_len (c : Cs) : (numF c).2.1.length ≤ c.1.length := textF_len _ _
theorem numF_ok {c : Cs} (h : (numF c).2.2 = false) : c.2 = false ∧ 8 ≤ c.1.length ∧ (numF c).2 = (c.1.drop 8, false) ∧ (numF c).1 = numGo (c.1.take 8).reverse 0 := by
  obtain ⟨h1, h2, h3⟩ := textF_ok h
  exact ⟨h1, h2, by rw [numF, h3], by rw [numF, h3]⟩
theorem shortF_len (c : Cs) : (shortF c).2.1.length ≤ c.1.length := by
  unfold shortF
  split
  · exact textF_len _ _
  · exact Nat.le_trans (textF_len _ _) (textF_len _ _)
theorem shortF_short (c : Cs) : (shortF c).1.length ≤ 255 := by
  unfold shortF
  split
  · simp
  · have := ((textF c 1).1.headD 0).toNat_lt
    exact Nat.le_trans (textF_short _ _) (by omega)
theorem shortF_ok {c : Cs} (h : (shortF c).2.2 = false) : c.2 = false ∧ (shortF c).2.1.length + 1 ≤ c.1.length ∧ c.1 = shortB (shortF c).1 ++ (shortF c).2.1 := by
  unfold shortF at h ⊢
  by_cases hc : (textF c 1).2.2 = true
  · rw [if_pos hc, hc] at h
    cases h
  · rw [if_neg hc] at h ⊢
    obtain ⟨h1, h2, h3⟩ := textF_ok (by simpa using hc)
    rw [h3] at h ⊢
    obtain ⟨h4, h5, h6⟩ := textF_ok h
    rw [h6]
    obtain ⟨s, b⟩ := c
    cases s with
    | nil => simp at h2
    | cons x s =>
      simp only [List.take_succ_cons, List.take_zero, List.headD_cons, List.drop_succ_cons, List.drop_zero] at h5 ⊢
      refine ⟨h1, by rw [List.length_drop, List.length_cons]; omega, ?_⟩
      have hl : (s.take x.toNat).length = x.toNat := by rw [List.length_take]; omega
      have hx := x.toNat_lt
      rw [shortB, hl, Nat.mod_eq_of_lt hx, UInt8.ofNat_toNat, List.cons_append, List.take_append_drop]
theorem shortF_app (b s : Bs) (hb : b.length ≤ 255) : shortF (shortB b ++ s, false) = (b, (s, false)) := by
  have h1 : textF (shortB b ++ s, false) 1 = ([UInt8.ofNat (b.length % 256)], (b ++ s, false)) := textF_app [UInt8.ofNat (b.length % 256)] (b ++ s)
  have h2 : (UInt8.ofNat (b.length % 256)).toNat = b.length := by
    rw [UInt8.toNat_ofNat']
    omega
  rw [shortF, h1, if_neg (by simp)]
  simp only [List.headD_cons, h2]
  exact textF_app b s

/-! ### eight bytes -/
def valGo : List UInt8 → Int → Int
  | [], n => n
  | b :: r, n => valGo r (n * 256 + (b.toNat : Int))
theorem valGo_ge : ∀ (l : List UInt8) (n : Int), 0 ≤ n → n ≤ valGo l n
  | [], _, _ => Int.le_refl _
  | b :: r, n, h => by
    have := valGo_ge r (n * 256 + (b.toNat : Int)) (by omega)
    unfold valGo
    omega
theorem numGo_val : ∀ (l : List UInt8) (n : Int), 0 ≤ n → valGo l n < 1099511627776 → numGo l n = valGo l n
  | [], _, _, _ => rfl
  | b :: r, n, h0, h1 => by
    have h2 := valGo_ge (b :: r) n h0
    unfold numGo
    rw [if_neg (by omega)]
    exact numGo_val r _ (by omega) h1
theorem numGo_eq : ∀ (l : List UInt8) (n : Int), 0 ≤ n → 0 ≤ numGo l n → numGo l n = valGo l n
  | [], _, _, _ => rfl
  | b :: r, n, h0, h1 => by
    unfold numGo at h1 ⊢
    split
    · rename_i h
      rw [if_pos h] at h1
      omega
    · rename_i h
      rw [if_neg h] at h1
      exact numGo_eq r _ (by omega) h1
theorem eightB_list (n : Int) : eightB n = [UInt8.ofNat (n / 1 % 256).toNat, UInt8.ofNat (n / 256 % 256).toNat, UInt8.ofNat (n / 65536 % 256).toNat, UInt8.ofNat (n / 16777216 % 256).toNat, UInt8.ofNat (n / 4294967296 % 256).toNat, UInt8.ofNat (n / 1099511627776 % 256).toNat, UInt8.ofNat (n / 281474976710656 % 256).toNat, UInt8.ofNat (n / 72057594037927936 % 256).toNat] := rfl
theorem u8_mod (k : Int) : ((UInt8.ofNat (k % 256).toNat).toNat : Int) = k % 256 := by
  rw [UInt8.toNat_ofNat']
  omega
theorem val_eight (n : Int) (h0 : 0 ≤ n) (h1 : n < 1099511627776) : valGo (eightB n).reverse 0 = n := by
  rw [eightB_list]
  simp only [List.reverse_cons, List.reverse_nil, List.nil_append, List.cons_append, valGo, u8_mod]
  omega
theorem eight_val (t : Bs) (ht : t.length = 8) : eightB (valGo t.reverse 0) = t := by
  match t, ht with
  | [a, b, c, d, e, f, g, h], _ =>
    have ha := a.toNat_lt
    have hb := b.toNat_lt
    have hc := c.toNat_lt
    have hd := d.toNat_lt
    have he := e.toNat_lt
    have hf := f.toNat_lt
    have hg := g.toNat_lt
    have hh := h.toNat_lt
    rw [eightB_list]
    simp only [List.reverse_cons, List.reverse_nil, List.nil_append, List.cons_append, valGo, List.cons.injEq, and_true]
    refine ⟨?_, ?_, ?_, ?_, ?_, ?_, ?_, ?_⟩ <;> (refine UInt8.toNat_inj.1 ?_; rw [UInt8.toNat_ofNat']; omega)
theorem eightB_len (n : Int) : (eightB n).length = 8 := by simp [eightB]
theorem numF_app (n : Int) (s : Bs) (h0 : 0 ≤ n) (h1 : n < 1099511627776) : numF (eightB n ++ s, false) = (n, (s, false)) := by
  have h := textF_app (eightB n) s
  rw [eightB_len] at h
  rw [numF, h]
  simp only
  rw [numGo_val _ _ (by decide) (by rw [val_eight n h0 h1]; exact h1), val_eight n h0 h1]
theorem numF_inv {c : Cs} (h : (numF c).2.2 = false) (h0 : 0 ≤ (numF c).1) : c.1 = eightB (numF c).1 ++ (numF c).2.1 := by
  obtain ⟨_, h2, h3, h4⟩ := numF_ok h
  rw [h4] at h0
  rw [h3, h4, numGo_eq _ _ (by decide) h0, eight_val _ (by rw [List.length_take]; omega), List.take_append_drop]

/-! ### the pins -/
structure PSt where
  ok : Bool
  last : Bs
  c : Cs
  M : PM
def pinStep (x : PSt) : PSt :=
  ⟨x.ok && (rightB (shortF x.c).1 && (decide ((shortF (shortF x.c).2).1.length ≤ 64) && (bytesBefore x.last (shortF x.c).1 && (decide (0 ≤ (numF (shortF (shortF x.c).2).2).1) && decide ((numF (shortF (shortF x.c).2).2).1 < 1099511627776))))),
    (shortF x.c).1, (numF (shortF (shortF x.c).2).2).2, putM x.M (shortF x.c).1 ((numF (shortF (shortF x.c).2).2).1, (shortF (shortF x.c).2).1)⟩
def pinsGo (n : Int) : Nat → Int → PSt → PSt
  | 0, _, x => x
  | f + 1, i, x => if (n < 0 ∨ i < n) ∧ x.c.2 = false then pinsGo n f (i + 1) (pinStep x) else x
def pinsR (c : Cs) : PSt := pinsGo (numF c).1 ((numF c).2.1.length + 1) 0 ⟨true, [], (numF c).2, []⟩
def pinsOk (c : Cs) : Bool := (pinsR c).ok && decide (0 ≤ (numF c).1)

theorem pinStep_len (x : PSt) : (pinStep x).c.1.length ≤ x.c.1.length := Nat.le_trans (numF_len _) (Nat.le_trans (shortF_len _) (shortF_len _))
theorem pinStep_ok {x : PSt} (h : (pinStep x).c.2 = false) : x.c.2 = false ∧ (pinStep x).c.1.length + 10 ≤ x.c.1.length := by
  obtain ⟨h1, h2, h3, _⟩ := numF_ok (c := (shortF (shortF x.c).2).2) h
  obtain ⟨h4, h5, _⟩ := shortF_ok h1
  obtain ⟨h6, h7, _⟩ := shortF_ok h4
  refine ⟨h6, ?_⟩
  have : (pinStep x).c = (numF (shortF (shortF x.c).2).2).2 := rfl
  rw [this, h3]
  show ((shortF (shortF x.c).2).2.1.drop 8).length + 10 ≤ _
  rw [List.length_drop]
  omega

structure PinOk (x : Bs × (Int × Bs)) : Prop where
  name : rightB x.1 = true
  of_ : x.2.2.length ≤ 64
  lo : 0 ≤ x.2.1
  hi : x.2.1 < 1099511627776
theorem rightB_iff (s : Bs) : rightB s = true ↔ s ≠ [] ∧ s.length ≤ 64 := by
  unfold rightB
  cases s <;> simp

theorem ins_last (x : Bs × (Int × Bs)) : ∀ m : PM, (∀ p ∈ m, bytesBefore p.1 x.1 = true) → insM x m = m ++ [x]
  | [], _ => rfl
  | y :: r, h => by
    have h1 : (MKey.lt x.1 y.1 : Bool) ≠ true := fun e => by
      have := MKey.trans _ _ _ e (h y (by simp))
      rw [MKey.irrefl] at this
      cases this
    rw [insM, if_neg h1, ins_last x r fun p hp => h p (List.mem_cons_of_mem _ hp)]
    rfl
theorem put_last (x : Bs × (Int × Bs)) (m : PM) (h : ∀ p ∈ m, bytesBefore p.1 x.1 = true) : putM m x.1 x.2 = m ++ [x] := by
  have hd : delM m x.1 = m := List.filter_eq_self.2 fun y hy => by
    have h1 := h y hy
    have : y.1 ≠ x.1 := fun e => by
      rw [e] at h1
      have := MKey.irrefl x.1
      rw [show (MKey.lt x.1 x.1 : Bool) = bytesBefore x.1 x.1 from rfl, h1] at this
      cases this
    simp [this]
  rw [putM, hd]
  exact ins_last x m h

theorem pinStep_app (x : Bs × (Int × Bs)) (s last : Bs) (m : PM) (hx : PinOk x) (hl : bytesBefore last x.1 = true) (hm : ∀ p ∈ m, bytesBefore p.1 x.1 = true) : pinStep ⟨true, last, (pinX x ++ s, false), m⟩ = ⟨true, x.1, (s, false), m ++ [x]⟩ := by
  have h1 : shortF (pinX x ++ s, false) = (x.1, (shortB x.2.2 ++ (eightB x.2.1 ++ s), false)) := by
    have := shortF_app x.1 (shortB x.2.2 ++ (eightB x.2.1 ++ s)) (by have := ((rightB_iff _).1 hx.name).2; omega)
    rwa [show shortB x.1 ++ (shortB x.2.2 ++ (eightB x.2.1 ++ s)) = pinX x ++ s from by simp [pinX, List.append_assoc]] at this
  have h2 := shortF_app x.2.2 (eightB x.2.1 ++ s) (by have := hx.of_; omega)
  have h3 := numF_app x.2.1 s hx.lo hx.hi
  unfold pinStep
  simp only [h1, h2, h3, hx.name, hl, hx.of_, hx.lo, hx.hi, decide_true, Bool.and_self]
  rw [show ((x.2.1, x.2.2) : Int × Bs) = x.2 from rfl, put_last x m hm]

theorem pinsGo_app (tail : Bs) : ∀ (rest pre : PM) (last : Bs) (f : Nat), (∀ x ∈ rest, PinOk x) → Rising (pre ++ rest) → (∀ x ∈ rest, bytesBefore last x.1 = true) → (rest.flatMap pinX ++ tail).length < f →
    ∃ last', pinsGo ((pre ++ rest).length : Nat) f (pre.length : Nat) ⟨true, last, (rest.flatMap pinX ++ tail, false), pre⟩ = ⟨true, last', (tail, false), pre ++ rest⟩
  | [], pre, last, f, _, _, _, hf => by
    obtain ⟨f, rfl⟩ : ∃ g, f = g + 1 := ⟨f - 1, by omega⟩
    refine ⟨last, ?_⟩
    rw [pinsGo, if_neg (by simp)]
    simp
  | x :: rest, pre, last, f, hok, hr, hl, hf => by
    obtain ⟨f, rfl⟩ : ∃ g, f = g + 1 := ⟨f - 1, by omega⟩
    have hx := hok x (by simp)
    have hr' := List.pairwise_append.1 hr
    have hpre : ∀ p ∈ pre, bytesBefore p.1 x.1 = true := fun p hp => hr'.2.2 p hp x (by simp)
    have hs : (x :: rest).flatMap pinX ++ tail = pinX x ++ (rest.flatMap pinX ++ tail) := by rw [List.flatMap_cons, List.append_assoc]
    rw [hs] at hf ⊢
    have hstep := pinStep_app x (rest.flatMap pinX ++ tail) last pre hx (hl x (by simp)) hpre
    have e : pre ++ x :: rest = (pre ++ [x]) ++ rest := by simp
    obtain ⟨last', ih⟩ := pinsGo_app tail rest (pre ++ [x]) x.1 f (fun y hy => hok y (by simp [hy])) (by rw [← e]; exact hr) (fun y hy => List.rel_of_pairwise_cons hr'.2.1 hy) (by
      rw [List.length_append] at hf
      have : 0 < (pinX x).length := by simp [pinX, shortB]
      omega)
    refine ⟨last', ?_⟩
    rw [pinsGo, if_pos ⟨.inr (by simp only [List.length_append, List.length_cons]; omega), rfl⟩, hstep, e]
    rw [← ih]
    congr 1
    simp
theorem pinsR_app (M : PM) (tail : Bs) (hok : ∀ x ∈ M, PinOk x) (hr : Rising M) (hn : M.length < 1099511627776) : ∃ last', pinsR (eightB M.length ++ (M.flatMap pinX ++ tail), false) = ⟨true, last', (tail, false), M⟩ ∧ pinsOk (eightB M.length ++ (M.flatMap pinX ++ tail), false) = true := by
  have h1 := numF_app M.length (M.flatMap pinX ++ tail) (by omega) (by omega)
  obtain ⟨last', h2⟩ := pinsGo_app tail M [] [] ((M.flatMap pinX ++ tail).length + 1) hok hr (fun x hx => by
    have := ((rightB_iff _).1 (hok x hx).name).1
    cases h : x.1 with
    | nil => exact absurd h this
    | cons => rfl) (by omega)
  simp only [List.nil_append, List.length_nil] at h2
  refine ⟨last', ?_, ?_⟩
  · rw [pinsR, h1]
    exact h2
  · rw [pinsOk, pinsR, h1]
    simp only
    rw [show pinsGo (M.length : Int) ((M.flatMap pinX ++ tail).length + 1) 0 ⟨true, [], (M.flatMap pinX ++ tail, false), []⟩ = _ from h2]
    simp

/-- What went well tells the bytes. -/
theorem pinsGo_inv (n : Int) : ∀ (f : Nat) (x : PSt) (i : Nat), i = x.M.length → (i : Int) ≤ n ∨ n < 0 → x.c.1.length < f ∨ x.c.2 = true → (∀ p ∈ x.M, p.1 = x.last ∨ bytesBefore p.1 x.last = true) → (pinsGo n f i x).ok = true → (pinsGo n f i x).c.2 = false →
    x.ok = true ∧ x.c.2 = false ∧ ∃ rest, (pinsGo n f i x).M = x.M ++ rest ∧ x.c.1 = rest.flatMap pinX ++ (pinsGo n f i x).c.1 ∧ ((pinsGo n f i x).M.length : Int) = n ∧ ∀ y ∈ rest, PinOk y
  | 0, x, i, hi, hn, hf, hlast, h1, h2 => by
    rcases hf with hf | hf
    · omega
    · rw [pinsGo, hf] at h2
      cases h2
  | f + 1, x, i, hi, hn, hf, hlast, h1, h2 => by
    unfold pinsGo at h1 h2 ⊢
    by_cases hc : (n < 0 ∨ (i : Int) < n) ∧ x.c.2 = false
    · rw [if_pos hc] at h1 h2 ⊢
      have hcast : (i : Int) + 1 = ((i + 1 : Nat) : Int) := by omega
      rw [hcast] at h1 h2 ⊢
      -- the step's map
      by_cases hok : (pinStep x).ok = true
      · have hok' := hok
        have hb := hok
        simp only [pinStep, Bool.and_eq_true, decide_eq_true_eq] at hb
        obtain ⟨b0, b1, b2, b3, b4, b5⟩ := hb
        have hput : (pinStep x).M = x.M ++ [((shortF x.c).1, ((numF (shortF (shortF x.c).2).2).1, (shortF (shortF x.c).2).1))] := put_last ((shortF x.c).1, ((numF (shortF (shortF x.c).2).2).1, (shortF (shortF x.c).2).1)) x.M fun p hp => by
          rcases hlast p hp with e | e
          · rw [e]; exact b3
          · exact bb_trans _ _ _ e b3
        obtain ⟨g1, g2, rest, g3, g4, g5, g6⟩ := pinsGo_inv n f (pinStep x) (i + 1) (by rw [hput, List.length_append, hi]; rfl) (by omega) (by
          by_cases hb : (pinStep x).c.2 = true
          · exact .inr hb
          · have := (pinStep_ok (x := x) (by simpa using hb)).2
            rcases hf with hf | hf
            · exact .inl (by omega)
            · rw [hc.2] at hf
              cases hf) (fun p hp => by
          rw [hput, List.mem_append, List.mem_singleton] at hp
          rcases hp with hp | rfl
          · right
            rcases hlast p hp with e | e
            · rw [e]; exact b3
            · exact bb_trans _ _ _ e b3
          · exact .inl rfl) h1 h2
        have hn1 : (numF (shortF (shortF x.c).2).2).2.2 = false := g2
        obtain ⟨n1, _⟩ := numF_ok hn1
        obtain ⟨n2, _, e2⟩ := shortF_ok n1
        obtain ⟨n3, _, e1⟩ := shortF_ok n2
        have e3 := numF_inv hn1 b4
        refine ⟨b0, hc.2, ((shortF x.c).1, ((numF (shortF (shortF x.c).2).2).1, (shortF (shortF x.c).2).1)) :: rest, ?_, ?_, g5, ?_⟩
        · rw [g3, hput]
          simp
        · rw [List.flatMap_cons, List.append_assoc, ← g4]
          have e4 : (pinStep x).c.1 = (numF (shortF (shortF x.c).2).2).2.1 := rfl
          rw [e4, pinX, List.append_assoc, List.append_assoc, ← e3, ← e2, ← e1]
        · intro y hy
          rcases List.mem_cons.1 hy with rfl | hy
          · exact ⟨b1, b2, b4, b5⟩
          · exact g6 y hy
      · exfalso
        have hmono : ∀ (f : Nat) (i : Int) (y : PSt), y.ok = false → (pinsGo n f i y).ok = false := fun f => by
          induction f with
          | zero => exact fun _ _ h => h
          | succ f ih =>
            intro i y h
            unfold pinsGo
            split
            · exact ih _ _ (by simp [pinStep, h])
            · exact h
        rw [hmono f _ _ (by simpa using hok)] at h1
        cases h1
    · rw [if_neg hc] at h1 h2 ⊢
      have : ¬ (n < 0 ∨ (i : Int) < n) := fun e => hc ⟨e, h2⟩
      exact ⟨h1, h2, [], by simp, by simp, by omega, by simp⟩

theorem pinsGo_bad (n : Int) : ∀ (f : Nat) (i : Int) (x : PSt), x.c.2 = true → (pinsGo n f i x) = x
  | 0, _, _, _ => rfl
  | f + 1, i, x, h => by rw [pinsGo, if_neg (by simp [h])]

theorem pinsR_inv (s : Bs) (_hs : s.length < 1099511627776) (h1 : pinsOk (s, false) = true) (h2 : (pinsR (s, false)).c.2 = false) :
    s = eightB (pinsR (s, false)).M.length ++ ((pinsR (s, false)).M.flatMap pinX ++ (pinsR (s, false)).c.1) ∧ (∀ x ∈ (pinsR (s, false)).M, PinOk x) := by
  rw [pinsOk, Bool.and_eq_true, decide_eq_true_eq] at h1
  unfold pinsR at h1 h2 ⊢
  have hb : (numF (s, false)).2.2 = false := by
    cases hb : (numF (s, false)).2.2
    · rfl
    · rw [pinsGo_bad _ _ _ _ hb] at h2
      simp only [hb] at h2
      cases h2
  obtain ⟨_, _, rest, g3, g4, g5, g6⟩ := pinsGo_inv (numF (s, false)).1 ((numF (s, false)).2.1.length + 1) ⟨true, [], (numF (s, false)).2, []⟩ 0 rfl (.inl h1.2) (.inl (Nat.lt_succ_self _)) (fun p hp => by cases hp) h1.1 h2
  have e := numF_inv hb h1.2
  simp only [List.nil_append] at g3
  rw [Int.natCast_zero] at g3 g4 g5
  refine ⟨?_, fun x hx => g6 x (by rw [← g3]; exact hx)⟩
  rw [g5, g3, ← g4]
  exact e

end Go.Proofs.Ytjggeodnoigkkaa
