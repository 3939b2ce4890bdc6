/-
  What an argument that can be read looks like in memory: numbers, texts, slices to any depth. No program in sight.
-/
import Derived.Test.YtjggeodnoigkkaaMem
import Derived.ChangeArms
import Derived.ChangeSlices
import Derived.Deep.Slices
import Derived.ProofKit
import Derived.OpenShut
import Derived.ShutString
import Derived.ChangeOld
import Derived.SizedLaws
namespace Go.Proofs.YtjggeodnoigkkaaM
open Go.Maps Go.RowKit Go.Deep

/-- Whatever can be read at type t is some a, as K says. -/
def Opens (P : Program) (t : TypeId) {α : Type} (K : World → α → List Value → Prop) : Prop :=
  ∀ {H : Type} (enc : TypeId × Value → H) (w : World) (base : Nat) (spare : Nat → Bool) (held : Bool) (fuel : Nat) (cs : List Value) (x : DataW H × List MemPlace),
    DataW.trod enc P w base spare held fuel t cs = some x → ∃ a, K w a cs

def KInt (k : IntKind) (_ : World) (x : Int) (cs : List Value) : Prop := cs = [.int k x] ∧ (Lit.int k x).wf = true
def KStr (_ : World) (x : Bs) (cs : List Value) : Prop := cs = [.string ⟨x.toArray⟩] ∧ x.length ≤ maxLen
/-- A slice whose elements are n cells each. -/
def KSl {α : Type} (n : Nat) (K : World → α → List Value → Prop) (w : World) (l : List α) (cs : List Value) : Prop :=
  ∃ A cap, cs = [.slice A l.length cap] ∧ l.length ≤ cap ∧ cap ≤ maxLen ∧
    ∀ k (h : k < l.length), ∃ ad c, A = some ad ∧ K w l[k] c ∧ c.length = n ∧ ∀ j, j < n → w.cell? ((ad.add (k * n)).add j) = c[j]?

theorem opens_int {P : Program} {t : TypeId} {k : IntKind} (ht : P.underlying t = some (.int k)) : Opens P t (KInt k) := fun enc w base spare held fuel cs x h => by
  obtain ⟨n, rfl, _, hw⟩ := DataW.trod_int ht h
  exact ⟨n, rfl, hw⟩
theorem opens_str {P : Program} {t : TypeId} (ht : P.underlying t = some .string) : Opens P t KStr := fun enc w base spare held fuel cs x h => by
  obtain ⟨s, rfl, _, hs⟩ := DataW.trod_string ht h
  exact ⟨s.data.toList, rfl, hs⟩
theorem opens_slice {P : Program} {t e : TypeId} {n : Nat} {α : Type} [Inhabited α] {K : World → α → List Value → Prop} (ht : P.underlying t = some (.slice e)) (hn : P.cellsOf e = n) (hK : Opens P e K) : Opens P t (KSl n K) := fun enc w base spare held fuel cs x h => by
  rcases open_slice ht h with ⟨rfl, _⟩ | ⟨a, len, cap, m, f, D, Pl, rfl, hb, hl, hm, hmm, _, hx⟩
  · exact ⟨[], none, 0, rfl, Nat.le_refl _, Nat.zero_le _, fun k hk => by simp at hk⟩
  · have hlm : len ≤ m := by rw [hmm]; split <;> omega
    obtain ⟨g, hg⟩ := choose_lt (α := α) (n := len) (p := fun i v => ∃ c, K w v c ∧ c.length = n ∧ ∀ j, j < n → w.cell? ((a.add (i * n)).add j) = c[j]?) (fun i hi => by
      obtain ⟨cs', h1, h2⟩ := hx i (by omega)
      obtain ⟨v, hv⟩ := hK enc w base spare held f cs' _ h2
      rw [hn] at h1
      obtain ⟨_, hlen, hc⟩ := World.cells?_some h1
      exact ⟨v, cs', hv, hlen, hc⟩)
    refine ⟨(List.range len).map g, some a, cap, by simp, by simpa using hl, hm, fun k hk => ?_⟩
    have hk' : k < len := by simpa using hk
    obtain ⟨c, h1, h2, h3⟩ := hg k hk'
    exact ⟨a, c, rfl, by simpa using h1, h2, h3⟩

theorem len2 {α : Type} {l : List α} (h : l.length = 2) : ∃ a b, l = [a, b] := by
  match l, h with
  | [a, b], _ => exact ⟨a, b, rfl⟩
theorem len6 {α : Type} {l : List α} (h : l.length = 6) : ∃ a b c d e f, l = [a, b, c, d, e, f] := by
  match l, h with
  | [a, b, c, d, e, f], _ => exact ⟨a, b, c, d, e, f, rfl⟩

theorem take_one {cs : List Value} {i : Nat} {v : Value} (h : (cs.drop i).take 1 = [v]) : cs[i]? = some v := by
  have : ((cs.drop i).take 1)[0]? = some v := by rw [h]; rfl
  simpa [List.getElem?_take] using this

end Go.Proofs.YtjggeodnoigkkaaM
