/-
  Package pins: Pending, Free.
-/
import Derived.Test.YtjggeodnoigkkaaD
namespace Go.Proofs.Ytjggeodnoigkkaa
open Go.RowKit Go.Maps Go.Shelf Go.Proofs.YtjggeodnoigkkaaM

def dcells (x : Int × Int) : List Value := [.int .i64 x.1, .int .i64 x.2]
/-- A row of the call's own that holds drops. -/
def Drps (w : World) (base : Nat) (v : Value) (l : DM) : Prop := w.ownsRow base 40 2 v l.length (l.flatMap dcells) ∧ (v = .slice none 0 0 ↔ l = [])

theorem info3 : (Try.prog.info? 3).map (fun i => (i.zero, i.size, i.bytes)) = some (some (.int .i64 0), 1, 8) := by kernel_rfl
theorem info40 : (Try.prog.info? 40).map (fun i => (i.zero, i.size, i.bytes)) = some (some (.agg #[.int .i64 0, .int .i64 0]), 2, 16) := by kernel_rfl

theorem Drps.below {w w' : World} {base : Nat} {v : Value} {l : DM} (h : Drps w base v l) (hb : Below w.heap.size w w') : Drps w' base v l :=
  ⟨h.1.kept (gb hb none) (by cases v.ownBlock <;> simp), h.2⟩

theorem flat_len : ∀ l : DM, (l.flatMap dcells).length = l.length * 2
  | [] => rfl
  | x :: l => by rw [List.flatMap_cons, List.length_append, flat_len l]; simp [dcells]; omega
theorem flat_at : ∀ (l : DM) (k : Nat), k < l.length → (l.flatMap dcells)[k * 2]? = some (.int .i64 (l.getD k (0, 0)).1) ∧ (l.flatMap dcells)[k * 2 + 1]? = some (.int .i64 (l.getD k (0, 0)).2)
  | [], k, h => by simp at h
  | x :: l, 0, _ => by simp [dcells]
  | x :: l, k + 1, h => by
    have := flat_at l k (by simpa using h)
    rw [List.flatMap_cons]
    have e1 : (k + 1) * 2 = (dcells x).length + k * 2 := by simp [dcells]; omega
    have e2 : (k + 1) * 2 + 1 = (dcells x).length + (k * 2 + 1) := by simp [dcells]; omega
    refine ⟨?_, ?_⟩
    · rw [e1, List.getElem?_append_right (by omega)]
      simpa using this.1
    · rw [e2, List.getElem?_append_right (by omega)]
      simpa using this.2

theorem Drps.shape {w : World} {base : Nat} {v : Value} {l : DM} (h : Drps w base v l) : ∃ A cap, v = .slice A l.length cap ∧ ∀ k, k < l.length → ∃ g, A = some ⟨g, 0, none⟩ ∧ g < w.heap.size ∧
    w.cell? ⟨g, k * 2, none⟩ = some (.int .i64 (l.getD k (0, 0)).1) ∧ w.cell? ⟨g, k * 2 + 1, none⟩ = some (.int .i64 (l.getD k (0, 0)).2) := by
  have hrow := h.1
  rcases hrow.2 with ⟨hv, hx⟩ | ⟨g, cap, cur, hv, _⟩
  · subst hv
    have hl : l = [] := h.2.1 rfl
    subst hl
    exact ⟨none, 0, rfl, fun k hk => by simp at hk⟩
  · subst hv
    refine ⟨_, cap, rfl, fun k hk => ⟨g, rfl, (hrow.lt g rfl).2, ?_, ?_⟩⟩
    · rw [hrow.cellAt (k * 2) (by omega)]
      exact (flat_at l k hk).1
    · rw [hrow.cellAt (k * 2 + 1) (by omega)]
      exact (flat_at l k hk).2
theorem Ints.shape {w : World} {base : Nat} {v : Value} {l : List Int} (h : Ints w base v l) : ∃ A cap, v = .slice A l.length cap ∧ ∀ k, k < l.length → ∃ g, A = some ⟨g, 0, none⟩ ∧ g < w.heap.size ∧ w.cell? ⟨g, k, none⟩ = some (.int .i64 (l.getD k 0)) := by
  have hrow := h.1
  rcases hrow.2 with ⟨hv, hx⟩ | ⟨g, cap, cur, hv, _⟩
  · subst hv
    have hl : l = [] := by simpa using hx
    subst hl
    exact ⟨none, 0, rfl, fun k hk => by simp at hk⟩
  · subst hv
    refine ⟨_, cap, rfl, fun k hk => ⟨g, rfl, (hrow.lt g rfl).2, ?_⟩⟩
    rw [hrow.cellAt k (by simpa using hk)]
    simp [hk, encZ, List.getD_eq_getElem?_getD]

theorem two_new (w : World) (x y : Value) (t : TypeId) : ∀ j u, [x, y][j]? = some u → (w.alloc (.cells #[x, y] t)).cell? ((⟨w.heap.size, 0, none⟩ : Addr).add j) = some u := by
  intro j u h
  match j, h with
  | 0, h => simp at h; subst h; simp [Addr.add]
  | 1, h => simp at h; subst h; simp [Addr.add]
  | j + 2, h => simp at h

/-- 'append(out, Drop{x, y})'. -/
theorem wl_append2 {ops : Array Oper} {rest : List Oper} {o : Oper} {a : Act} {Q : Exit → Act → World → Prop} (w : World) (hgd : o.guard = none) (s x : Operand)
    (ho : o.op = .call { callee := .builtin .append, args := #[s, x], argTypes := #[29, 29] }) (base : Nat)
    (v : Value) (l : DM) (hs : a.eval s = v) (hown : Drps w base v l) (u : Int × Int) (hx : a.eval x = .slice (some ⟨w.heap.size, 0, none⟩) 1 1)
    (hbytes : (l.length + 1) * 16 ≤ 140737488355328) (hbase : base ≤ w.heap.size)
    (h : ∀ v' w', Drps w' base v' (l ++ [u]) → Below base w w' → wpList Try.prog ops Q rest (a.put o.dst v') w') : wpList Try.prog ops Q (o :: rest) a (w.alloc (.cells #[.int .i64 u.1, .int .i64 u.2] 40)) := by
  obtain ⟨i0, hi, hz0, hz1, hz2⟩ := info_parts info40
  refine wpList_append_own (w.alloc (.cells #[.int .i64 u.1, .int .i64 u.2] 40)) hgd s x 29 ho base 40 i0 _ 2 16 Try.underlying29 hi hz0 hz1 hz2 rfl (by decide) v l.length (l.flatMap dcells) hs (hown.1.alloc _) ⟨w.heap.size, 0, none⟩ 1 1 (dcells u) hx rfl (two_new _ _ _ _) (by simp [dcells, Value.oneCell']) ?_ hbytes (by simp; omega) ?_
  · show l.length + 1 ≤ 2 ^ 63 - 1
    omega
  · intro v' w' h1 h2 h3
    refine h v' w' ⟨?_, fun hv => ?_, fun hv => by simp at hv⟩ ?_
    · rw [List.flatMap_append, List.length_append]
      simpa using h1
    · have := h3.1 hv
      simp at this
    · exact ((Below.refl base w).alloc hbase _).grown h2 (by simp; omega) fun k hk => (hown.1.lt k hk).1

/-- 'append(out, n)'. -/
theorem wl_append_i {ops : Array Oper} {rest : List Oper} {o : Oper} {a : Act} {Q : Exit → Act → World → Prop} (w : World) (hgd : o.guard = none) (s x : Operand)
    (ho : o.op = .call { callee := .builtin .append, args := #[s, x], argTypes := #[30, 30] }) (base : Nat)
    (v : Value) (l : List Int) (hs : a.eval s = v) (hown : Ints w base v l) (u : Int) (hx : a.eval x = .slice (some ⟨w.heap.size, 0, none⟩) 1 1)
    (hbytes : (l.length + 1) * 8 ≤ 140737488355328) (hbase : base ≤ w.heap.size)
    (h : ∀ v' w', Ints w' base v' (l ++ [u]) → Below base w w' → wpList Try.prog ops Q rest (a.put o.dst v') w') : wpList Try.prog ops Q (o :: rest) a (w.alloc (.cells #[.int .i64 u] 3)) := by
  refine wl_append1 w hgd s x 30 ho base 3 (.int .i64 0) 8 Try.underlying30 info3 rfl v (l.map encZ) hs (by rw [List.length_map]; exact hown.1) (.int .i64 u) rfl hx (by rw [List.length_map]; exact hbytes) (by decide) hbase fun v' w' h1 h2 h3 => ?_
  refine h v' w' ⟨?_, fun hv => absurd hv h2, fun hv => by simp at hv⟩ h3
  have e : (l ++ [u]).map encZ = l.map encZ ++ [.int .i64 u] := by rw [List.map_append]; rfl
  rw [e, ← List.length_map (f := encZ), e]
  exact h1
theorem wl_append_s {ops : Array Oper} {rest : List Oper} {o : Oper} {a : Act} {Q : Exit → Act → World → Prop} (w : World) (hgd : o.guard = none) (s x : Operand)
    (ho : o.op = .call { callee := .builtin .append, args := #[s, x], argTypes := #[35, 35] }) (base : Nat)
    (v : Value) (l : List Bs) (hs : a.eval s = v) (hown : Strs w base v l) (u : Bs) (hx : a.eval x = .slice (some ⟨w.heap.size, 0, none⟩) 1 1)
    (hbytes : (l.length + 1) * 16 ≤ 140737488355328) (hbase : base ≤ w.heap.size)
    (h : ∀ v' w', Strs w' base v' (l ++ [u]) → Below base w w' → wpList Try.prog ops Q rest (a.put o.dst v') w') : wpList Try.prog ops Q (o :: rest) a (w.alloc (.cells #[.string ⟨u.toArray⟩] 9)) := by
  refine wl_append1 w hgd s x 35 ho base 9 (.string ⟨#[]⟩) 16 Try.underlying35 info9 rfl v (l.map encStr) hs (by rw [List.length_map]; exact hown.1) (.string ⟨u.toArray⟩) rfl hx (by rw [List.length_map]; exact hbytes) (by decide) hbase fun v' w' h1 h2 h3 => ?_
  refine h v' w' ⟨?_, fun hv => absurd hv h2, fun hv => by simp at hv⟩ h3
  have e : (l ++ [u]).map encStr = l.map encStr ++ [.string ⟨u.toArray⟩] := by rw [List.map_append]; rfl
  rw [e, ← List.length_map (f := encStr), e]
  exact h1

set_option maxRecDepth 100000 in
set_option maxHeartbeats 1000000 in
theorem pending_any (p bm bd : Nat) (M : PM) (D : DM) (w : World) (h : IsPins w p bm bd M D) (hsz : D.length * 16 ≤ 140737488355328) :
    Calls Try.prog 14 #[.pointer (some ⟨p, 0, none⟩)] w fun e w' => ∃ v, e = .returned v ∧ Drps w' w.heap.size v D ∧ Below w.heap.size w w' := by
  have c1 := h.c1
  go_enter Try.func14, Try.ntmps14
  go_wp2_with fail
  refine (keys_i _ _ _ h.d (by omega)).mono ?_
  rintro e w1 ⟨v, rfl, hs, hb⟩
  have h1 := h.below hb
  obtain ⟨A, cap, rfl, hcell⟩ := hs.shape
  go_wp2_with fail
  have hcell' := Lib.hid hcell
  have hm63 := Lib.hid (show D.length ≤ 9223372036854775807 from by omega)
  have Hsz := Lib.hid hsz
  clear hcell hsz c1
  go_loopw [3, 5, 15] (fun v _ i wr => ∃ k : Nat, k ≤ D.length ∧ i = .int .i64 k ∧ Drps wr w1.heap.size v (D.take k) ∧ Below w1.heap.size w1 wr) (fun _ _ i _ => D.length - (intOf i).toNat)
  case atStart => exact ⟨0, Nat.zero_le _, rfl, ⟨World.ownsRow_nil _ _ _ _, by simp⟩, Below.refl _ _⟩
  case round =>
    obtain ⟨k, hk, rfl, hout, hbk⟩ := hrel
    have hr := h1.below hbk
    have c1 := hr.c1
    have h63 := hm63.out
    by_cases hlt : k < D.length
    · obtain ⟨g, rfl, hg1, hcx⟩ := hcell'.out k (by simpa using hlt)
      obtain ⟨y, hy⟩ : ∃ y, y = D[k] := ⟨_, rfl⟩
      have hcx' : wr.cell? ⟨g, k, none⟩ = some (.int .i64 y.1) := by
        have e : (D.map (·.1)).getD k 0 = y.1 := by simp [hy, List.getD_eq_getElem?_getD, hlt]
        rw [← e]
        exact (hbk.cell (p := ⟨g, k, none⟩) hg1).trans hcx
      have hlk := hr.d.at_mem y (by rw [hy]; exact List.getElem_mem _)
      have HY := Lib.hid hy
      clear hy hcx
      have Hby := Lib.hid (show ((D.take k).length + 1) * 16 ≤ 140737488355328 from by have := Hsz.out; rw [List.length_take]; omega)
      have hbs : w1.heap.size ≤ wr.heap.size := hbk.size
      go_wp2_with (at_builtin; refine wl_append2 _ rfl _ _ rfl w1.heap.size _ _ rfl hout y rfl Hby.out hbs ?_; intro v' w3 h1' hb3)
      go_roundw
      case rel =>
        refine ⟨k + 1, by omega, by go_num, ?_, hbk.trans hb3⟩
        rw [List.take_succ_eq_append_getElem hlt, ← HY.out]
        exact h1'
      case measure => simp [intOf]; omega
    · have hke : k = D.length := by omega
      have Hke := Lib.hid hke
      clear hke
      go_wp2_with fail
      go_ret
      rw [Hke.out, List.take_length] at hout
      exact ⟨_, rfl, ⟨ownsRow_base_a hout.1 hb.size, hout.2⟩, hb.trans (hbk.mono hb.size)⟩

def freeQ (M : PM) (D : DM) (dur : Int) (x : Int × Int) : Bool := decide (x.2 ≤ dur) && (holdsF M D x.1).isEmpty
def freeF (M : PM) (D : DM) (dur : Int) : List Int := (D.filter (freeQ M D dur)).map (·.1)

set_option maxRecDepth 100000 in
set_option maxHeartbeats 1000000 in
theorem free_any (p bm bd : Nat) (M : PM) (D : DM) (dur : Int) (w : World) (h : IsPins w p bm bd M D) (hsz : D.length * 16 ≤ 140737488355328) (hszM : M.length * 16 ≤ 140737488355328) :
    Calls Try.prog 13 #[.pointer (some ⟨p, 0, none⟩), .int .i64 dur] w fun e w' => ∃ v, e = .returned v ∧ Ints w' w.heap.size v (freeF M D dur) ∧ Below w.heap.size w w' := by
  go_enter Try.func13, Try.ntmps13
  go_wp2_with fail
  refine (pending_any _ _ _ _ _ _ h hsz).mono ?_
  rintro e w1 ⟨v, rfl, hs, hb⟩
  have h1 := h.below hb
  obtain ⟨A, cap, rfl, hcell⟩ := hs.shape
  go_wp2_with fail
  have hcell' := Lib.hid hcell
  have hm63 := Lib.hid (show D.length ≤ 9223372036854775807 from by omega)
  have Hsz := Lib.hid hsz
  have HszM := Lib.hid hszM
  clear hcell hsz hszM
  go_loopw [5, 7, 11] (fun v _ i wr => ∃ k : Nat, k ≤ D.length ∧ i = .int .i64 k ∧ Ints wr w1.heap.size v (((D.take k).filter (freeQ M D dur)).map (·.1)) ∧ Below w1.heap.size w1 wr) (fun _ _ i _ => D.length - (intOf i).toNat)
  case atStart => exact ⟨0, Nat.zero_le _, rfl, ⟨World.ownsRow_nil _ _ _ _, by simp⟩, Below.refl _ _⟩
  case round =>
    obtain ⟨k, hk, rfl, hout, hbk⟩ := hrel
    have hr := h1.below hbk
    have h63 := hm63.out
    by_cases hlt : k < D.length
    · obtain ⟨g, rfl, hg1, hcx, hcx2⟩ := hcell'.out k (by simpa using hlt)
      obtain ⟨y, hy⟩ : ∃ y, y = D[k] := ⟨_, rfl⟩
      have e : D.getD k (0, 0) = y := by simp [hy, List.getD_eq_getElem?_getD, hlt]
      rw [e] at hcx hcx2
      have hca := (hbk.cell (p := ⟨g, k * 2, none⟩) hg1).trans hcx
      have hcb := (hbk.cell (p := ⟨g, k * 2 + 1, none⟩) hg1).trans hcx2
      have hwf := hr.d.key_wf y (by rw [hy]; exact List.getElem_mem _)
      have HY := Lib.hid hy
      clear hy hcx hcx2 e
      have hbs : w1.heap.size ≤ wr.heap.size := hbk.size
      by_cases hd : y.2 ≤ dur
      · have hb0 : Below wr.heap.size wr (wr.alloc (.cells #[.int .i64 y.1, .int .i64 y.2] 40)) := (Below.refl _ _).alloc (Nat.le_refl _) _
        have hr0 := hr.below hb0
        go_wp2_with fail
        refine (holds_any _ _ _ _ _ _ _ hr0 HszM.out hwf).mono ?_
        rintro e w2 ⟨v2, rfl, hv2, hb2⟩
        have hcs : w2.cell? ⟨wr.heap.size, 0, none⟩ = some (.int .i64 y.1) := (hb2.cell (by simp)).trans (by simp)
        have hlt2 : wr.heap.size < w2.heap.size := by have := hb2.size; simp at this; omega
        obtain ⟨A2, cap2, rfl, _⟩ := hv2.shape
        have hb3 : Below wr.heap.size wr w2 := hb0.trans (hb2.mono (by simp))
        cases hH : holdsF M D y.1 with
        | nil =>
          have hq := Lib.hid (take_keep (·.1) (freeQ M D dur) D k hlt (by rw [← HY.out]; simp [freeQ, hd, hH]))
          have hfl := filter_len (·.1) (freeQ M D dur) D k
          have Hby := Lib.hid (show ((((D.take k).filter (freeQ M D dur)).map (·.1)).length + 1) * 8 ≤ 140737488355328 from by have := Hsz.out; omega)
          have hout2 := hout.below hb3
          clear hfl
          go_wp2_with (at_builtin; refine wl_append_i _ rfl _ _ rfl w1.heap.size _ _ rfl hout2 y.1 rfl Hby.out (by omega) ?_; intro v' w3 h1' hb4)
          go_roundw
          case rel =>
            refine ⟨k + 1, by omega, by go_num, ?_, (hbk.trans (hb3.mono hbs)).trans hb4⟩
            rw [hq.out, ← HY.out]
            exact h1'
          case measure => simp [intOf]; omega
        | cons a l =>
          have hq := Lib.hid (take_drop (·.1) (freeQ M D dur) D k hlt (by rw [← HY.out]; simp [freeQ, hH]))
          have hlen : decide (((a :: l).length : Int) = 0) = false := by simp; omega
          go_wp2_with fail
          go_roundw
          case rel => exact ⟨k + 1, by omega, by go_num, by rw [hq.out]; exact hout.below hb3, hbk.trans (hb3.mono hbs)⟩
          case measure => simp [intOf]; omega
      · have hq := Lib.hid (take_drop (·.1) (freeQ M D dur) D k hlt (by rw [← HY.out]; simp [freeQ, hd]))
        have hd' : dur < y.2 := by omega
        have hb0 : Below wr.heap.size wr (wr.alloc (.cells #[.int .i64 y.1, .int .i64 y.2] 40)) := (Below.refl _ _).alloc (Nat.le_refl _) _
        go_wp2_with fail
        go_roundw
        case rel => exact ⟨k + 1, by omega, by go_num, by rw [hq.out]; exact hout.below hb0, hbk.trans (hb0.mono hbs)⟩
        case measure => simp [intOf]; omega
    · have hke : k = D.length := by omega
      have Hke := Lib.hid hke
      clear hke
      go_wp2_with fail
      go_ret
      rw [Hke.out, List.take_length] at hout
      exact ⟨_, rfl, ⟨ownsRow_base_a hout.1 hb.size, hout.2⟩, hb.trans (hbk.mono hb.size)⟩

end Go.Proofs.Ytjggeodnoigkkaa
