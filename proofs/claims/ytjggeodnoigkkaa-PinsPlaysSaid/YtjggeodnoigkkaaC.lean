/-
  Package pins: the closures of Clones and Holds; among; Clones; Holds.
-/
import Derived.Test.YtjggeodnoigkkaaB
import Derived.LoopTactic
namespace Go.Proofs.Ytjggeodnoigkkaa
open Go.RowKit Go.Maps Go.Proofs.YtjggeodnoigkkaaM

def clonesQ (name : Bs) (x : Int × Bs) : Bool := decide (x.2 = name) && !name.isEmpty
def holdsQ (seq by_ : Int) (x : Int × Bs) : Bool := decide (seq ≤ x.1) && decide (x.1 < by_)

set_option maxHeartbeats 400000 in
theorem clones1 (a : Int) (s name : Bs) (c : Nat) (w : World) (hc : w.cell? ⟨c, 0, none⟩ = some (.string ⟨name.toArray⟩)) :
    Calls Try.prog 55 #[.agg #[.int .i64 a, .string ⟨s.toArray⟩], .pointer (some ⟨c, 0, none⟩)] w fun e w' => e = .returned (.bool (clonesQ name (a, s))) ∧ Below w.heap.size w w' := by
  have hlt : c < w.heap.size := World.block_lt_of_cell? _ _ hc
  go_enter Try.func55, Try.ntmps55
  go_wp2
  · go_ret
    exact ⟨by simp [clonesQ, *], (Below.refl _ _).alloc (Nat.le_refl _) _⟩
  · go_ret
    exact ⟨by simp [clonesQ, *], (Below.refl _ _).alloc (Nat.le_refl _) _⟩

set_option maxHeartbeats 400000 in
theorem holds1 (a : Int) (s : Bs) (seq by_ : Int) (c d : Nat) (w : World) (hc : w.cell? ⟨c, 0, none⟩ = some (.int .i64 seq)) (hd : w.cell? ⟨d, 0, none⟩ = some (.int .i64 by_)) :
    Calls Try.prog 56 #[.agg #[.int .i64 a, .string ⟨s.toArray⟩], .pointer (some ⟨c, 0, none⟩), .pointer (some ⟨d, 0, none⟩)] w fun e w' => e = .returned (.bool (holdsQ seq by_ (a, s))) ∧ Below w.heap.size w w' := by
  have hlt : c < w.heap.size := World.block_lt_of_cell? _ _ hc
  have hlt2 : d < w.heap.size := World.block_lt_of_cell? _ _ hd
  go_enter Try.func56, Try.ntmps56
  go_wp2
  · go_ret
    have e : decide (seq ≤ a) = true := decide_eq_true (by assumption)
    exact ⟨by simp [holdsQ, e], (Below.refl _ _).alloc (Nat.le_refl _) _⟩
  · go_ret
    have e : decide (seq ≤ a) = false := decide_eq_false (by omega)
    exact ⟨by simp [holdsQ, e], (Below.refl _ _).alloc (Nat.le_refl _) _⟩

/-- What a row of strings is, as the walk sees it. -/
theorem Strs.shape {w : World} {base : Nat} {v : Value} {l : List Bs} (h : Strs w base v l) : ∃ A cap, v = .slice A l.length cap ∧ ∀ k, k < l.length → ∃ g, A = some ⟨g, 0, none⟩ ∧ g < w.heap.size ∧ w.cell? ⟨g, k, none⟩ = some (.string ⟨(l.getD k []).toArray⟩) := by
  have hrow := h.1
  rcases hrow.2 with ⟨hv, hx⟩ | ⟨g, cap, cur, hv, _⟩
  · subst hv
    have hl : l = [] := by simpa using hx
    subst hl
    exact ⟨none, 0, rfl, fun k hk => by simp at hk⟩
  · subst hv
    refine ⟨_, cap, rfl, fun k hk => ⟨g, rfl, (hrow.lt g rfl).2, ?_⟩⟩
    rw [hrow.cellAt k (by simpa using hk)]
    simp [hk, encStr, List.getD_eq_getElem?_getD]

theorem Strs.below {w w' : World} {base : Nat} {v : Value} {l : List Bs} (h : Strs w base v l) (hb : Below w.heap.size w w') : Strs w' base v l :=
  ⟨h.1.kept (gb hb none) (by cases v.ownBlock <;> simp), h.2⟩
theorem Ints.below {w w' : World} {base : Nat} {v : Value} {l : List Int} (h : Ints w base v l) (hb : Below w.heap.size w w') : Ints w' base v l :=
  ⟨h.1.kept (gb hb none) (by cases v.ownBlock <;> simp), h.2⟩

/-- 'append(out, x)' of one element of one cell. -/
theorem wl_append1 {ops : Array Oper} {rest : List Oper} {o : Oper} {a : Act} {Q : Exit → Act → World → Prop} (w : World) (hgd : o.guard = none) (s x : Operand) (t : TypeId)
    (ho : o.op = .call { callee := .builtin .append, args := #[s, x], argTypes := #[t, t] }) (base e : Nat) (z : Value) (bytes : Nat) (ht : Try.prog.underlying t = some (.slice e)) (hinfo : (Try.prog.info? e).map (fun i => (i.zero, i.size, i.bytes)) = some (some z, 1, bytes)) (hzs : z.cells.size = 1)
    (v : Value) (xs : List Value) (hs : a.eval s = v) (hown : w.ownsRow base e 1 v xs.length xs) (u : Value) (hu : u.oneCell' = true) (hx : a.eval x = .slice (some ⟨w.heap.size, 0, none⟩) 1 1)
    (hbytes : (xs.length + 1) * bytes ≤ 140737488355328) (hb16 : 1 ≤ bytes) (hbase : base ≤ w.heap.size)
    (h : ∀ v' w', w'.ownsRow base e 1 v' (xs ++ [u]).length (xs ++ [u]) → v' ≠ .slice none 0 0 → Below base w w' → wpList Try.prog ops Q rest (a.put o.dst v') w') : wpList Try.prog ops Q (o :: rest) a (w.alloc (.cells #[u] e)) := by
  obtain ⟨i0, hi, hz0, hz1, hz2⟩ := info_parts hinfo
  have hle : (xs.length + 1) ≤ (xs.length + 1) * bytes := Nat.le_mul_of_pos_right _ hb16
  refine wpList_append_own (w.alloc (.cells #[u] e)) hgd s x t ho base e i0 z 1 bytes ht hi hz0 hz1 hz2 hzs (by decide) v xs.length xs hs (hown.alloc _) ⟨w.heap.size, 0, none⟩ 1 1 [u] hx rfl (cell_one_new _ _ _) (by simpa using hu) ?_ hbytes (by simp; omega) ?_
  · show xs.length + 1 ≤ 2 ^ 63 - 1
    omega
  · intro v' w' h1 h2 h3
    refine h v' w' (by rw [List.length_append]; exact h1) (fun hv => by have := h3.1 hv; simp at this) ?_
    exact ((Below.refl base w).alloc hbase _).grown h2 (by simp; omega) fun k hk => (hown.lt k hk).1

theorem PMap.key_len {w : World} {b : Nat} {M : PM} (h : PMap w b M) : ∀ x ∈ M, x.1.length ≤ maxLen := by
  intro x hx
  obtain ⟨es, he, hk⟩ := h.2.keysOf
  have : (MKey.kl x.1, pinC.ev x.2) ∈ es := by
    have : toD pinC.ev M = .map es := he
    unfold toD at this
    cases this
    exact List.mem_map_of_mem hx
  obtain ⟨v, hv⟩ := hk _ this
  obtain ⟨y, _, e, hy⟩ := Maps.keyOf_str Try.underlying9 hv
  cases e
  exact hy
theorem DMap.key_wf {w : World} {b : Nat} {M : DM} (h : DMap w b M) : ∀ x ∈ M, (Lit.int .i64 x.1).wf = true := by
  intro x hx
  obtain ⟨es, he, hk⟩ := h.2.keysOf
  have : (MKey.kl x.1, intC.ev x.2) ∈ es := by
    have : toD intC.ev M = .map es := he
    unfold toD at this
    cases this
    exact List.mem_map_of_mem hx
  obtain ⟨v, hv⟩ := hk _ this
  obtain ⟨y, _, e, hy⟩ := Maps.keyOf_i64 Try.underlying3 hv
  cases e
  exact hy

/-- 'm[name]' at a name that is there. -/
theorem PMap.at_mem {w : World} {b : Nat} {M : PM} (h : PMap w b M) (x : Bs × (Int × Bs)) (hx : x ∈ M) :
    (Instr.lookup 69 (.map (some b)) (.string ⟨x.1.toArray⟩) false).run Try.prog w = .ok (.agg #[.int .i64 x.2.1, .string ⟨x.2.2.toArray⟩]) w := by
  have hkey : keyOf Try.prog 9 (.string ⟨x.1.toArray⟩) = some (.string x.1) := WideMaps.keyOf_string_mk Try.underlying9 (s := ⟨x.1.toArray⟩) (h.key_len x hx)
  have := h.look (string_keyed Try.underlying9) Try.underlying69 (zero84 _) (key := x.1) hkey
  rw [h.1.get_of_mem hx] at this
  exact this
theorem DMap.at_mem {w : World} {b : Nat} {M : DM} (h : DMap w b M) (x : Int × Int) (hx : x ∈ M) :
    (Instr.lookup 74 (.map (some b)) (.int .i64 x.1) false).run Try.prog w = .ok (.int .i64 x.2) w := by
  have hkey := keyOf_int_mk Try.underlying3 (h.key_wf x hx)
  have := h.look (int_keyed Try.underlying3) Try.underlying74 (zero3 _) (key := x.1) hkey
  rw [h.1.get_of_mem hx] at this
  exact this

theorem take_keep {α β : Type} (f : α → β) (p : α → Bool) (l : List α) (k : Nat) (h : k < l.length) (hp : p l[k] = true) : ((l.take (k + 1)).filter p).map f = ((l.take k).filter p).map f ++ [f l[k]] := by
  rw [List.take_succ_eq_append_getElem h, List.filter_append, List.map_append]
  simp [hp]
theorem take_drop {α β : Type} (f : α → β) (p : α → Bool) (l : List α) (k : Nat) (h : k < l.length) (hp : p l[k] = false) : ((l.take (k + 1)).filter p).map f = ((l.take k).filter p).map f := by
  rw [List.take_succ_eq_append_getElem h, List.filter_append, List.map_append]
  simp [hp]
theorem filter_len {α β : Type} (f : α → β) (p : α → Bool) (l : List α) (k : Nat) : (((l.take k).filter p).map f).length ≤ k := by
  rw [List.length_map]
  exact Nat.le_trans (List.length_filter_le _ _) (List.length_take_le _ _)

theorem info9 : (Try.prog.info? 9).map (fun i => (i.zero, i.size, i.bytes)) = some (some (.string ⟨#[]⟩), 1, 16) := by kernel_rfl

set_option maxRecDepth 100000 in
set_option maxHeartbeats 1000000 in
theorem among_any (p bm bd : Nat) (M : PM) (D : DM) (f : Nat) (lb : Array Value) (q : Int × Bs → Bool) (w : World) (h : IsPins w p bm bd M D) (hsz : M.length * 16 ≤ 140737488355328)
    (hf : ∀ (x : Int × Bs) (W : World), Below w.heap.size w W → Calls Try.prog f (#[.agg #[.int .i64 x.1, .string ⟨x.2.toArray⟩]] ++ lb) W fun e w' => e = .returned (.bool (q x)) ∧ Below W.heap.size W w')
    (eg : ∀ args W, (callFunc f args).run Try.prog W = .ok (.enter f args) W) :
    Calls Try.prog 54 #[.pointer (some ⟨p, 0, none⟩), .func (.func f) #[] lb] w fun e w' => ∃ v, e = .returned v ∧ Strs w' w.heap.size v ((M.filter fun x => q x.2).map (·.1)) ∧ Below w.heap.size w w' := by
  have H := Lib.hid hf
  clear hf
  go_enter Try.func54, Try.ntmps54
  go_wp2_with fail
  refine (names_any _ _ _ _ _ _ h hsz).mono ?_
  rintro e w1 ⟨v, rfl, hs, hb⟩
  have h1 := h.below hb
  obtain ⟨A, cap, rfl, hcell⟩ := hs.shape
  go_wp2_with fail
  obtain ⟨i0, hi, hz0, hz1, hz2⟩ := info_parts info9
  have hlen := Lib.hid (show (M.map (·.1)).length * 16 ≤ 140737488355328 from by rw [List.length_map]; exact hsz)
  have hcell' := Lib.hid hcell
  have hm63 := Lib.hid (show M.length ≤ 9223372036854775807 from by omega)
  clear hcell hsz
  go_loopw [5, 7, 11] (fun v _ i wr => ∃ k : Nat, k ≤ M.length ∧ i = .int .i64 k ∧ Strs wr w1.heap.size v (((M.take k).filter fun x => q x.2).map (·.1)) ∧ Below w1.heap.size w1 wr) (fun _ _ i _ => M.length - (intOf i).toNat)
  case atStart => exact ⟨0, Nat.zero_le _, rfl, ⟨World.ownsRow_nil _ _ _ _, by simp⟩, Below.refl _ _⟩
  case round =>
    obtain ⟨k, hk, rfl, hout, hbk⟩ := hrel
    have hr := h1.below hbk
    have c0 := hr.c0
    have h63 := hm63.out
    by_cases hlt : k < M.length
    · obtain ⟨g, rfl, hg1, hcx⟩ := hcell'.out k (by simpa using hlt)
      obtain ⟨y, hy⟩ : ∃ y, y = M[k] := ⟨_, rfl⟩
      have hcx' : wr.cell? ⟨g, k, none⟩ = some (.string ⟨y.1.toArray⟩) := by
        have e : (M.map (·.1)).getD k [] = y.1 := by simp [hy, List.getD_eq_getElem?_getD, hlt]
        rw [← e]
        exact (hbk.cell (p := ⟨g, k, none⟩) hg1).trans hcx
      have hlk := hr.m.at_mem y (by rw [hy]; exact List.getElem_mem _)
      have HY := Lib.hid hy
      clear hy hcx
      go_wp2_with fail
      refine (H.out y.2 wr (hb.trans (hbk.mono hb.size))).mono ?_
      rintro e w2 ⟨rfl, hb2⟩
      cases hq : q y.2
      · have hq' := Lib.hid (take_drop (·.1) (fun x => q x.2) M k hlt (by rw [← HY.out]; exact hq))
        go_wp2_with fail
        go_roundw
        case rel => exact ⟨k + 1, by omega, by go_num, by rw [hq'.out]; exact hout.below hb2, hbk.trans (hb2.mono hbk.size)⟩
        case measure => simp [intOf]; omega
      · have hq' := Lib.hid (take_keep (·.1) (fun x => q x.2) M k hlt (by rw [← HY.out]; exact hq))
        have hfl := filter_len (·.1) (fun x => q x.2) M k
        have hout2 := hout.below hb2
        have hrow : w2.ownsRow w1.heap.size 9 1 u5 ((((M.take k).filter fun x => q x.2).map (·.1)).map encStr).length ((((M.take k).filter fun x => q x.2).map (·.1)).map encStr) := by rw [List.length_map]; exact hout2.1
        have hby : (((((M.take k).filter fun x => q x.2).map (·.1)).map encStr).length + 1) * 16 ≤ 140737488355328 := by
          have := hlen.out
          rw [List.length_map] at this ⊢
          omega
        have hsz2 := hb2.size
        have hsz1 := hbk.size
        have hbs : w1.heap.size ≤ w2.heap.size := by omega
        have Hrow := Lib.hid hrow
        have Hby := Lib.hid hby
        clear hrow hby hout hout2
        go_wp2_with (at_builtin; refine wl_append1 _ rfl _ _ 35 rfl w1.heap.size 9 (.string ⟨#[]⟩) 16 Try.underlying35 info9 rfl _ _ rfl Hrow.out (.string ⟨y.1.toArray⟩) rfl rfl Hby.out (by decide) hbs ?_; intro v' w3 h1' hnn hb3)
        go_roundw
        case rel =>
          refine ⟨k + 1, by omega, by go_num, ?_, (hbk.trans (hb2.mono hbk.size)).trans hb3⟩
          rw [hq'.out, ← HY.out]
          have e : ((((M.take k).filter fun x => q x.2).map (·.1)) ++ [y.1]).map encStr = ((((M.take k).filter fun x => q x.2).map (·.1)).map encStr) ++ [.string ⟨y.1.toArray⟩] := by rw [List.map_append]; rfl
          refine ⟨?_, ?_⟩
          · rw [e, ← List.length_map (f := encStr), e]
            exact h1'
          · exact ⟨fun h => absurd h hnn, fun h => by simp at h⟩
        case measure => simp [intOf]; omega
    · have hke : k = M.length := by omega
      have Hke := Lib.hid hke
      clear hke
      go_wp2_with fail
      go_ret
      rw [Hke.out, List.take_length] at hout
      exact ⟨_, rfl, ⟨ownsRow_base_a hout.1 hb.size, hout.2⟩, hb.trans (hbk.mono hb.size)⟩

end Go.Proofs.Ytjggeodnoigkkaa
