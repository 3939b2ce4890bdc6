/-
  'm[k], x = v, y': a map's entry is made (or met) first and stored to later: what the two steps make of a map in memory. No program in sight.
-/
import Derived.Test.YtjggeodnoigkkaaMem
import Derived.WideKeyEntry
namespace Go.Proofs.YtjggeodnoigkkaaM
open Go.ChangeShapes Go.WideShapes Go.MapKept Go.ChangeMaps Go.Maps Go.RowKit Go.WideElems

section
variable {K V : Type} [DecidableEq K] [MKey K]

/-- Between the two steps: block b is a map with an entry of stamp st; a store to that entry makes it the map with (key, x) put in. -/
def MidIs (w : World) (P : Program) (kt : TypeId) (C : Codec V) (b : Nat) (m : List (K × V)) (key : K) (st : Value) : Prop :=
  ∃ es clock, w.heap[b]? = some (.map es clock) ∧ ∀ (w2 : World) (t : TypeId) (x : V), w2.heap[b]? = some (.map es clock) →
    ∃ w', (Instr.entryStore t (.map (some b)) st (C.enc x)).run P w2 = .ok () w' ∧ mapIs w' P kt C b (putM m key x) ∧ w2.mapTurned w' b

variable {P : Program} {kt : TypeId} {C : Codec V} {b : Nat} {m : List (K × V)} {w : World}

theorem MidIs.lt {key : K} {st : Value} (h : MidIs w P kt C b m key st) : b < w.heap.size := by
  obtain ⟨es, clock, hb, _⟩ := h
  exact (Array.getElem?_eq_some_iff.1 hb).1
theorem MidIs.kept {w' : World} {row : Option Nat} {key : K} {st : Value} (h : MidIs w P kt C b m key st) (hg : w.grownBy w' row) (hne : some b ≠ row) : MidIs w' P kt C b m key st := by
  have hl := h.lt
  obtain ⟨es, clock, hb, r⟩ := h
  exact ⟨es, clock, (hg.block b hl hne).trans hb, r⟩
theorem MidIs.store {key : K} {st : Value} (h : MidIs w P kt C b m key st) (t : TypeId) (x : V) : ∃ w', (Instr.entryStore t (.map (some b)) st (C.enc x)).run P w = .ok () w' ∧ mapIs w' P kt C b (putM m key x) ∧ w.mapTurned w' b := by
  obtain ⟨es, clock, hb, r⟩ := h
  exact r w t x hb

theorem stamp_find {es : Array MapEntry} {j : Nat} {e0 : MapEntry} (hn : (es.toList.map (·.born)).Nodup) (h : es.toList[j]? = some e0) : es.findIdx? (fun e => ((e.born : Nat) : Int) == ((e0.born : Nat) : Int)) = some j := by
  rw [findIdx_arr]
  exact findIdx_born hn h

/-- 'v, ok := m[k]' as an equation on the run. -/
theorem mapIs.look_ok {t et : TypeId} (h : mapIs w P kt C b m) (K' : Keyed P kt) (ht : P.underlying t = some (.map kt et)) {z : V} (hz : (zeroValue et).run P w = .ok (C.enc z) w) {key : K} {kv : Value} (hkey : keyOf P kt kv = some (MKey.kl key)) :
    (Instr.lookup t (.map (some b)) kv true).run P w = .ok (.tuple #[C.enc ((getM m key).getD z), .bool (hasM m key)]) w := by
  obtain ⟨v, ps, hrun, hv⟩ := h.2.look_ok K' ht hz (C.R_enc z) hkey
  have e : (toD C.ev m).atKey (MKey.kl key) (C.ev z) = C.ev ((getM m key).getD z) := by
    rw [atKey_toD]
    cases getM m key <;> rfl
  rw [e] at hv
  rw [C.R_inv hv, has_toD] at hrun
  exact hrun

/-- The first step. -/
theorem mapIs.entry {t et : TypeId} (h : mapIs w P kt C b m) (hn : m.length < maxLen) (K' : Keyed P kt) (ht : P.underlying t = some (.map kt et)) {z : Value} (hz : ∀ u : World, (zeroValue et).run P u = .ok z u) {key : K} {kv : Value} (hkey : keyOf P kt kv = some (MKey.kl key)) :
    ∃ v0 st w', (Instr.mapEntry t (.map (some b)) kv).run P w = .ok (.tuple #[v0, st]) w' ∧ MidIs w' P kt C b m key st ∧ w.mapTurned w' b := by
  have hst : ∀ x : V, ∃ w', (Instr.mapUpdate t (.map (some b)) kv (C.enc x)).run P w = .ok () w' ∧ mapIs w' P kt C b (putM m key x) := fun x => by
    obtain ⟨w', h1, h2, _⟩ := h.2.store K' ht hn hkey (C.R_enc x)
    rw [put_toD] at h2
    exact ⟨w', h1, mapIs_of (h.1.put key x) h2⟩
  obtain ⟨es, clock, hb, F, _, _⟩ := h.2
  have hF := F.stamped
  obtain ⟨s1, s2, _⟩ := hF
  rcases K'.find w hkey es.toList F.keys with ⟨h1, h2⟩ | ⟨j, e0, h1, h2, h3⟩
  · refine ⟨z, goInt clock, setBlock w b (.map (es.push ⟨kv, z, clock⟩) (clock + 1)), ?_, ⟨es.push ⟨kv, z, clock⟩, clock + 1, heap_setBlock_same hb _, fun w2 t2 x hw2 => ?_⟩, ⟨es, clock, _, _, hb, rfl⟩⟩
    · simp [Instr.mapEntry, run_underlying ht, MapKept.run_getObj_map hb, K'.check w false hkey, h1, hz, MapKept.run_setObj_map _ hb, Result.andThen, setBlock]
    · obtain ⟨w', hu, hm⟩ := hst x
      have hidx := stamp_find (es := es.push ⟨kv, z, clock⟩) (j := es.size) (e0 := ⟨kv, z, clock⟩) (by
        rw [Array.toList_push, List.map_append]
        refine List.nodup_append.2 ⟨s2, by simp, fun a ha c hc e1 => ?_⟩
        simp only [List.map_cons, List.map_nil, List.mem_singleton] at hc
        obtain ⟨y, hy, rfl⟩ := List.mem_map.1 ha
        have := s1 y hy
        omega) (by simp)
      have hmod : (es.push ⟨kv, z, clock⟩).modify es.size (fun e => { e with val := C.enc x }) = es.push ⟨kv, C.enc x, clock⟩ := by
        apply Array.ext'
        rw [Array.toList_modify, Array.toList_push, Array.toList_push, ← Array.length_toList, modify_last]
      refine ⟨setBlock w2 b (.map (es.push ⟨kv, C.enc x, clock⟩) (clock + 1)), ?_, ?_, ⟨_, _, _, _, hw2, rfl⟩⟩
      · simp [Instr.entryStore, MapKept.run_getObj_map hw2, asInt, asIntOf, goInt, hidx, hmod, MapKept.run_setObj_map _ hw2, Result.andThen, setBlock]
      · have hu2 : (Instr.mapUpdate t (.map (some b)) kv (C.enc x)).run P w = .ok () (setBlock w b (.map (es.push ⟨kv, C.enc x, clock⟩) (clock + 1))) := by
          simp [Instr.mapUpdate, run_underlying ht, MapKept.run_getObj_map hb, K'.check w false hkey, h1, MapKept.run_setObj_map _ hb, Result.andThen, setBlock]
        rw [hu2] at hu
        cases hu
        obtain ⟨es', c', hb', r⟩ := hm.2
        exact ⟨hm.1, es', c', (by rw [heap_setBlock_same hw2]; rw [heap_setBlock_same hb] at hb'; exact hb'), r⟩
  · have hj : es[j]? = some e0 := by simpa using h2
    have hsame : es.modify j (fun e => { e with key := kv }) = es := by
      apply Array.ext'
      rw [Array.toList_modify, modify_eq_set _ _ _ _ h2]
      have : ({ e0 with key := kv } : MapEntry) = e0 := by rw [← h3]
      rw [this]
      exact set_self _ _ _ h2
    refine ⟨e0.val, goInt e0.born, setBlock w b (.map es clock), ?_, ⟨es, clock, heap_setBlock_same hb _, fun w2 t2 x hw2 => ?_⟩, ⟨es, clock, _, _, hb, rfl⟩⟩
    · simp [Instr.mapEntry, run_underlying ht, MapKept.run_getObj_map hb, K'.check w false hkey, h1, hj, h3, K'.stays w hkey, hsame, MapKept.run_setObj_map _ hb, Result.andThen, setBlock]
    · obtain ⟨w', hu, hm⟩ := hst x
      have hidx := stamp_find (es := es) s2 h2
      have hmod : es.modify j (fun e => { e with val := C.enc x }) = es.modify j (fun e' => { e' with key := kv, val := C.enc x }) := by
        apply Array.ext'
        rw [Array.toList_modify, Array.toList_modify, modify_eq_set _ _ _ _ h2, modify_eq_set _ _ _ _ h2, ← h3]
      refine ⟨setBlock w2 b (.map (es.modify j fun e' => { e' with key := kv, val := C.enc x }) clock), ?_, ?_, ⟨_, _, _, _, hw2, rfl⟩⟩
      · simp [Instr.entryStore, MapKept.run_getObj_map hw2, asInt, asIntOf, goInt, hidx, hmod, MapKept.run_setObj_map _ hw2, Result.andThen, setBlock]
      · have hu2 : (Instr.mapUpdate t (.map (some b)) kv (C.enc x)).run P w = .ok () (setBlock w b (.map (es.modify j fun e' => { e' with key := kv, val := C.enc x }) clock)) := by
          simp [Instr.mapUpdate, run_underlying ht, MapKept.run_getObj_map hb, K'.check w false hkey, h1, hj, h3, K'.stays w hkey, MapKept.run_setObj_map _ hb, Result.andThen, setBlock]
        rw [hu2] at hu
        cases hu
        obtain ⟨es', c', hb', r⟩ := hm.2
        exact ⟨hm.1, es', c', (by rw [heap_setBlock_same hw2]; rw [heap_setBlock_same hb] at hb'; exact hb'), r⟩

theorem key_once {es : Array MapEntry} {clock : Nat} (h : Stamped es clock) {i j : Nat} {a b : MapEntry} (hi : es.toList[i]? = some a) (hj : es.toList[j]? = some b) (e : a.key = b.key) : i = j := by
  have hn := List.pairwise_map.1 h.2.2
  obtain ⟨hi1, rfl⟩ := List.getElem?_eq_some_iff.1 hi
  obtain ⟨hj1, rfl⟩ := List.getElem?_eq_some_iff.1 hj
  rcases Nat.lt_trichotomy i j with h | h | h
  · exact absurd e (List.pairwise_iff_getElem.1 hn i j hi1 hj1 h)
  · exact h
  · exact absurd e.symm (List.pairwise_iff_getElem.1 hn j i hj1 hi1 h)

/-- The first step, in whatever world in which the map lies so: what it yields is told beforehand. -/
theorem mapIs.entry_in {t et : TypeId} (h : mapIs w P kt C b m) (hn : m.length < maxLen) (K' : Keyed P kt) (ht : P.underlying t = some (.map kt et)) {z : Value} (hz : ∀ u : World, (zeroValue et).run P u = .ok z u) {key : K} {kv : Value} (hkey : keyOf P kt kv = some (MKey.kl key)) :
    ∃ v0 st, ∀ W : World, W.heap[b]? = w.heap[b]? → ∃ W', (Instr.mapEntry t (.map (some b)) kv).run P W = .ok (.tuple #[v0, st]) W' ∧ MidIs W' P kt C b m key st ∧ W.mapTurned W' b := by
  have hin : ∀ W : World, W.heap[b]? = w.heap[b]? → mapIs W P kt C b m := fun W e => by
    obtain ⟨es, clock, hb, r⟩ := h.2
    exact ⟨h.1, es, clock, e.trans hb, r⟩
  obtain ⟨es, clock, hb, F, _, _⟩ := h.2
  rcases K'.find w hkey es.toList F.keys with ⟨_, h2⟩ | ⟨j, e0, _, h2, h3⟩
  · refine ⟨z, goInt clock, fun W hW => ?_⟩
    obtain ⟨v0, st, W', hrun, h4, h5⟩ := (hin W hW).entry hn K' ht hz hkey
    have hbW := hW.trans hb
    rcases K'.find W hkey es.toList F.keys with ⟨h1, _⟩ | ⟨j, e0, _, h2', h3'⟩
    · have e : (Instr.mapEntry t (.map (some b)) kv).run P W = .ok (.tuple #[z, goInt clock]) (setBlock W b (.map (es.push ⟨kv, z, clock⟩) (clock + 1))) := by
        simp [Instr.mapEntry, run_underlying ht, MapKept.run_getObj_map hbW, K'.check W false hkey, h1, hz, MapKept.run_setObj_map _ hbW, Result.andThen, setBlock]
      rw [e] at hrun
      simp only [Result.ok.injEq, Value.tuple.injEq] at hrun
      obtain ⟨e1, e2⟩ := hrun
      have e3 : goInt (clock : Int) = st := by
        have := congrArg (fun a : Array Value => a[1]?) e1
        simpa using this
      rw [e, e3]
      exact ⟨_, by rw [e2], h4, h5⟩
    · exact absurd h3' (h2 e0 (List.mem_of_getElem? h2'))
  · refine ⟨e0.val, goInt e0.born, fun W hW => ?_⟩
    obtain ⟨v0, st, W', hrun, h4, h5⟩ := (hin W hW).entry hn K' ht hz hkey
    have hbW := hW.trans hb
    rcases K'.find W hkey es.toList F.keys with ⟨_, h2'⟩ | ⟨j', e0', h1, h2', h3'⟩
    · exact absurd h3 (h2' e0 (List.mem_of_getElem? h2))
    · obtain rfl := key_once F.stamped h2 h2' (h3.trans h3'.symm)
      rw [h2] at h2'
      cases h2'
      have hj : es[j]? = some e0 := by simpa using h2
      have hsame : es.modify j (fun e => { e with key := kv }) = es := by
        apply Array.ext'
        rw [Array.toList_modify, modify_eq_set _ _ _ _ h2]
        have : ({ e0 with key := kv } : MapEntry) = e0 := by rw [← h3]
        rw [this]
        exact set_self _ _ _ h2
      have e : (Instr.mapEntry t (.map (some b)) kv).run P W = .ok (.tuple #[e0.val, goInt e0.born]) (setBlock W b (.map es clock)) := by
        simp [Instr.mapEntry, run_underlying ht, MapKept.run_getObj_map hbW, K'.check W false hkey, h1, hj, h3, K'.stays W hkey, hsame, MapKept.run_setObj_map _ hbW, Result.andThen, setBlock]
      rw [e] at hrun
      simp only [Result.ok.injEq, Value.tuple.injEq] at hrun
      obtain ⟨e1, e2⟩ := hrun
      have e3 : goInt (e0.born : Int) = st := by
        have := congrArg (fun a : Array Value => a[1]?) e1
        simpa using this
      rw [e, e3]
      exact ⟨_, by rw [e2], h4, h5⟩

theorem wp_unit {a : Act} {w' : World} {o : Oper} {Kt : Act → World → Prop} {Q : Exit → Act → World → Prop} (h : (execOp a.eval o).run P w = .ok .skip w') (hK : Kt (a.put o.dst undef) w') : Oper.wp P o a w Kt Q := by
  unfold Oper.wp
  rw [h]
  exact hK

variable (w) {ops : Array Oper} {rest : List Oper} {o : Oper} {a : Act} {Q : Exit → Act → World → Prop}

/-- The first step, as an operation of the walk. -/
theorem wl_entry (hg : o.guard = none) (om ox : Operand) (t : TypeId) (hop : o.op = Op.mapEntry t om ox) (kt et : TypeId) (K' : Keyed P kt) (ht : P.underlying t = some (.map kt et))
    (C : Codec V) {z : Value} (hz : ∀ u : World, (zeroValue et).run P u = .ok z u) (b : Nat) (m : List (K × V)) (hm : a.eval om = .map (some b)) (h : mapIs w P kt C b m) (hn : m.length < maxLen) (key : K) (kv : Value) (hx : a.eval ox = kv) (hkey : keyOf P kt kv = some (MKey.kl key))
    (hK : ∀ v0 st w', MidIs w' P kt C b m key st → w.mapTurned w' b → wpList P ops Q rest (a.put o.dst (.tuple #[v0, st])) w') : wpList P ops Q (o :: rest) a w := by
  refine wpList_plain hg fun K1 hK1 => ?_
  obtain ⟨v0, st, w', hrun, h1, h2⟩ := h.entry hn K' ht hz hkey
  unfold Oper.wp
  simp [execOp, hop, hm, hx, hrun, Result.andThen]
  exact hK1 _ _ (hK v0 st w' h1 h2)

/-- The second step. -/
theorem wl_entryStore (hg : o.guard = none) (om os ov : Operand) (t : TypeId) (hop : o.op = Op.entryStore t om os ov) (kt : TypeId) (C : Codec V) (b : Nat) (m : List (K × V)) (hm : a.eval om = .map (some b)) (key : K) (st : Value) (hs : a.eval os = st) (h : MidIs w P kt C b m key st)
    (x : V) (xv : Value) (hv : a.eval ov = xv) (hxv : xv = C.enc x)
    (hK : ∀ w', mapIs w' P kt C b (putM m key x) → w.mapTurned w' b → wpList P ops Q rest (a.put o.dst undef) w') : wpList P ops Q (o :: rest) a w := by
  subst hxv
  refine wpList_plain hg fun K1 hK1 => ?_
  obtain ⟨w', hrun, h1, h2⟩ := h.store t x
  unfold Oper.wp
  simp [execOp, hop, hm, hs, hv, hrun, Result.andThen]
  exact hK1 _ _ (hK w' h1 h2)
end

end Go.Proofs.YtjggeodnoigkkaaM
