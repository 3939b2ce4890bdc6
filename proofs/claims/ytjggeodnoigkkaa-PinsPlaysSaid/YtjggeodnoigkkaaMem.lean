/-
  A Go map in memory as a finite map (YtjggeodnoigkkaaMap), and the walk's laws for it. No program in sight.
-/
import Derived.Test.YtjggeodnoigkkaaMap
import Derived.Maps.OwnOps
import Derived.WalkKit
namespace Go.Proofs.YtjggeodnoigkkaaM
open Go.Maps Go.RowKit

/-- How elements lie in memory, and how they read. -/
structure Codec (V : Type) where
  enc : V → Value
  ev : V → DataW Unit
  enc_inj : ∀ a b, enc a = enc b → a = b
  ev_inj : ∀ a b, ev a = ev b → a = b

open Classical in
noncomputable def Codec.R {V : Type} (C : Codec V) (v : Value) : Option (DataW Unit × List MemPlace) :=
  if h : ∃ x, v = C.enc x then some (C.ev (Classical.choose h), []) else none

theorem Codec.R_enc {V : Type} (C : Codec V) (x : V) : C.R (C.enc x) = some (C.ev x, []) := by
  have h : ∃ y, C.enc x = C.enc y := ⟨x, rfl⟩
  unfold Codec.R
  rw [dif_pos h]
  have := C.enc_inj _ _ (Classical.choose_spec h)
  rw [← this]

theorem Codec.R_inv {V : Type} (C : Codec V) {v : Value} {x : V} {ps : List MemPlace} (h : C.R v = some (C.ev x, ps)) : v = C.enc x := by
  unfold Codec.R at h
  split at h
  · rename_i hx
    have e := C.ev_inj _ _ (congrArg Prod.fst (Option.some.inj h))
    rw [← e]
    exact Classical.choose_spec hx
  · cases h

theorem ownsMap_tight {H : Type} {P : Program} {k : TypeId} {R : Value → Option (DataW H × List MemPlace)} {w : World} {b n : Nat} {D : DataW H} (h : w.ownsMap P k R b n D) : w.ownsMap P k R b (Maps.size D) D := by
  obtain ⟨es, clock, hb, F, hs, rfl⟩ := h
  refine ⟨es, clock, hb, F, ?_, rfl⟩
  simp [Maps.size, length_sorted]

section
variable {K V : Type} [DecidableEq K] [MKey K]

/-- BLOCK b OF w IS A MAP THAT HOLDS m. -/
def mapIs (w : World) (P : Program) (kt : TypeId) (C : Codec V) (b : Nat) (m : List (K × V)) : Prop :=
  Rising m ∧ w.ownsMap P kt C.R b m.length (toD C.ev m)

variable {P : Program} {kt : TypeId} {C : Codec V} {b : Nat} {m : List (K × V)} {w : World}

theorem mapIs_made (w : World) (P : Program) (kt : TypeId) (C : Codec V) : mapIs (K := K) (w.alloc (.map #[] 0)) P kt C w.heap.size [] :=
  ⟨List.Pairwise.nil, World.ownsMap_made w P kt C.R⟩

theorem mapIs.lt (h : mapIs w P kt C b m) : b < w.heap.size := h.2.lt

theorem mapIs.kept {w' : World} {row : Option Nat} (h : mapIs w P kt C b m) (hg : w.grownBy w' row) (hne : some b ≠ row) : mapIs w' P kt C b m := ⟨h.1, h.2.kept hg hne⟩
theorem mapIs.alloc (h : mapIs w P kt C b m) (o : Obj) : mapIs (w.alloc o) P kt C b m := ⟨h.1, h.2.alloc o⟩
theorem mapIs.below {w' : World} {B : Nat} (h : mapIs w P kt C b m) (hb : Below B w w') (hB : b < B) : mapIs w' P kt C b m := by
  obtain ⟨es, clock, hx, F, hs, hD⟩ := h.2
  exact ⟨h.1, es, clock, (hb.block b hB).trans hx, F, hs, hD⟩
theorem mapIs.setCell (h : mapIs w P kt C b m) {a : Addr} (ha : b ≠ a.block) (u : Value) : mapIs (w.setCell a u) P kt C b m := ⟨h.1, h.2.setCell ha u⟩

theorem mapIs_of {n : Nat} (hr : Rising m) (h : w.ownsMap P kt C.R b n (toD C.ev m)) : mapIs w P kt C b m := by
  have := ownsMap_tight h
  rw [size_toD] at this
  exact ⟨hr, this⟩

/-- 'm[k]' as an equation on the run. -/
theorem mapIs.look {t et : TypeId} (h : mapIs w P kt C b m) (K' : Keyed P kt) (ht : P.underlying t = some (.map kt et)) {z : V} (hz : (zeroValue et).run P w = .ok (C.enc z) w) {key : K} {kv : Value} (hkey : keyOf P kt kv = some (MKey.kl key)) :
    (Instr.lookup t (.map (some b)) kv false).run P w = .ok (C.enc ((getM m key).getD z)) w := by
  obtain ⟨v, ps, hrun, hv⟩ := h.2.lookup K' ht hz (C.R_enc z) hkey
  have e : (toD C.ev m).atKey (MKey.kl key) (C.ev z) = C.ev ((getM m key).getD z) := by
    rw [atKey_toD]
    cases getM m key <;> rfl
  rw [e] at hv
  rw [C.R_inv hv] at hrun
  exact hrun

variable (w) {ops : Array Oper} {rest : List Oper} {o : Oper} {a : Act} {Q : Exit → Act → World → Prop}

/-- 'v, ok := m[k]'. -/
theorem wl_lookup_ok (hg : o.guard = none) (om ox : Operand) (t : TypeId) (hop : o.op = Op.lookup t om ox true) (kt et : TypeId) (K' : Keyed P kt) (ht : P.underlying t = some (.map kt et))
    (C : Codec V) (z : V) (hz : (zeroValue et).run P w = .ok (C.enc z) w) (b : Nat) (m : List (K × V)) (hm : a.eval om = .map (some b)) (h : mapIs w P kt C b m) (key : K) (kv : Value) (hx : a.eval ox = kv) (hkey : keyOf P kt kv = some (MKey.kl key))
    (hK : wpList P ops Q rest (a.put o.dst (.tuple #[C.enc ((getM m key).getD z), .bool (hasM m key)])) w) : wpList P ops Q (o :: rest) a w := by
  refine wpList_lookup_own_ok w hg om ox t hop kt et K' ht C.R hz (C.ev z) [] (C.R_enc z) b m.length (toD C.ev m) hm h.2 kv _ hx hkey fun v ps hv => ?_
  rw [has_toD]
  have e : (toD C.ev m).atKey (MKey.kl key) (C.ev z) = C.ev ((getM m key).getD z) := by
    rw [atKey_toD]
    cases getM m key <;> rfl
  rw [e] at hv
  rw [C.R_inv hv]
  exact hK

/-- 'm[k]'. -/
theorem wl_lookup (hg : o.guard = none) (om ox : Operand) (t : TypeId) (hop : o.op = Op.lookup t om ox false) (kt et : TypeId) (K' : Keyed P kt) (ht : P.underlying t = some (.map kt et))
    (C : Codec V) (z : V) (hz : (zeroValue et).run P w = .ok (C.enc z) w) (b : Nat) (m : List (K × V)) (hm : a.eval om = .map (some b)) (h : mapIs w P kt C b m) (key : K) (kv : Value) (hx : a.eval ox = kv) (hkey : keyOf P kt kv = some (MKey.kl key))
    (hK : wpList P ops Q rest (a.put o.dst (C.enc ((getM m key).getD z))) w) : wpList P ops Q (o :: rest) a w := by
  refine wpList_plain hg fun K1 hK1 => ?_
  obtain ⟨v, ps, hrun, hv⟩ := h.2.lookup K' ht hz (C.R_enc z) hkey
  have e : (toD C.ev m).atKey (MKey.kl key) (C.ev z) = C.ev ((getM m key).getD z) := by
    rw [atKey_toD]
    cases getM m key <;> rfl
  rw [e] at hv
  have ev := C.R_inv hv
  subst ev
  unfold Oper.wp
  simp [execOp, hop, hm, hx, hrun, Result.andThen]
  exact hK1 _ _ hK

/-- 'm[k] = v'. -/
theorem wl_update (hg : o.guard = none) (om ox ov : Operand) (t : TypeId) (hop : o.op = Op.mapUpdate t om ox ov) (kt et : TypeId) (K' : Keyed P kt) (ht : P.underlying t = some (.map kt et))
    (C : Codec V) (b : Nat) (m : List (K × V)) (hm : a.eval om = .map (some b)) (h : mapIs w P kt C b m) (hn : m.length < maxLen) (key : K) (kv : Value) (hx : a.eval ox = kv) (hkey : keyOf P kt kv = some (MKey.kl key))
    (x : V) (xv : Value) (hv : a.eval ov = xv) (hxv : xv = C.enc x)
    (hK : ∀ w', mapIs w' P kt C b (putM m key x) → w.mapTurned w' b → wpList P ops Q rest (a.put o.dst undef) w') : wpList P ops Q (o :: rest) a w := by
  subst hxv
  refine wpList_mapUpdate_in w hg om ox ov t hop kt et K' ht C.R b m.length (toD C.ev m) hm h.2 hn kv _ _ hx hv hkey (C.ev x) [] (C.R_enc x) fun w' hown ht' => ?_
  rw [put_toD] at hown
  exact hK w' (mapIs_of (h.1.put key x) hown) ht'

/-- 'delete(m, k)'. -/
theorem wl_delete (hg : o.guard = none) (om ox : Operand) (t kt : TypeId) (hop : o.op = Op.call { callee := Callee.builtin Builtin.delete, args := #[om, ox], argTypes := #[t, kt] }) (et : TypeId) (K' : Keyed P kt) (ht : P.underlying t = some (.map kt et))
    (C : Codec V) (b : Nat) (m : List (K × V)) (hm : a.eval om = .map (some b)) (h : mapIs w P kt C b m) (key : K) (kv : Value) (hx : a.eval ox = kv) (hkey : keyOf P kt kv = some (MKey.kl key))
    (hK : ∀ w', mapIs w' P kt C b (delM m key) → w.mapTurned w' b → wpList P ops Q rest (a.put o.dst (.tuple #[])) w') : wpList P ops Q (o :: rest) a w := by
  refine wpList_delete_own w hg om ox t kt hop et K' ht C.R b m.length (toD C.ev m) hm h.2 kv _ hx hkey fun w' hown ht' => ?_
  rw [del_toD] at hown
  exact hK w' (mapIs_of (h.1.del key) hown) ht'

/-- 'len(m)'. -/
theorem wl_len (hg : o.guard = none) (om : Operand) (t : TypeId) (hop : o.op = Op.call { callee := Callee.builtin Builtin.len, args := #[om], argTypes := #[t] }) (kt et : TypeId) (ht : P.underlying t = some (.map kt et))
    (C : Codec V) (b : Nat) (m : List (K × V)) (hm : a.eval om = .map (some b)) (h : mapIs w P kt C b m)
    (hK : wpList P ops Q rest (a.put o.dst (.int .i64 m.length)) w) : wpList P ops Q (o :: rest) a w := by
  refine wpList_len_own w hg om t hop kt et ht C.R b m.length (toD C.ev m) hm h.2 ?_
  rw [size_toD]
  exact hK
end

end Go.Proofs.YtjggeodnoigkkaaM
