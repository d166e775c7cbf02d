/- How an argument that came in is opened: a slice of whatever elements reads as a list. -/
import Derived.Test.YtdndanjabknjpaaLib
import Derived.ProofKit
namespace Go.Proofs.Ytdndanjabknjpaa
open Go.RowKit Go.ChangeShapes Go.WideShapes Go.ChangeAt

section
variable {H : Type} {tok : TypeId × Value → H} {P : Program} {w : World} {base : Nat} {held : Bool}
theorem read_int {t : TypeId} {k : IntKind} {fuel : Nat} {cs : List Value} {x : DataW H × List MemPlace} (ht : P.underlying t = some (.int k)) (h : DataW.trod tok P w base (fun _ => true) held fuel t cs = some x) : ∃ n, cs = [.int k n] ∧ (Lit.int k n).wf = true := by
  obtain ⟨n, h1, _, h2⟩ := DataW.trod_int ht h
  exact ⟨n, h1, h2⟩

theorem read_slice {α : Type} [Inhabited α] {t e : TypeId} {k fuel : Nat} {cs : List Value} {x : DataW H × List MemPlace} (enc : α → List Value) (good : α → Prop)
    (ht : P.underlying t = some (.slice e)) (hk : P.cellsOf e = k) (h0 : 0 < k)
    (hel : ∀ fuel' cs' y, DataW.trod tok P w base (fun _ => true) held fuel' e cs' = some y → ∃ z, cs' = enc z ∧ good z)
    (h : DataW.trod tok P w base (fun _ => true) held fuel t cs = some x) :
    ∃ A c xs, cs = [.slice A (List.length xs) c] ∧ xs.length ≤ c ∧ c ≤ maxLen ∧ Sl k enc w A xs ∧ (∀ z ∈ xs, good z) ∧ (A = none → c = 0) := by
  rcases Go.Deep.open_slice ht h with ⟨rfl, _⟩ | ⟨a, len, cap, m, n, D, Pl, rfl, _, hl, hm, hmm, _, hx⟩
  · exact ⟨none, 0, [], rfl, Nat.le_refl _, Nat.zero_le _, Sl.nil _ _ _ _, by simp, fun _ => rfl⟩
  · rw [hk] at hx
    simp only [if_true] at hmm
    subst hmm
    obtain ⟨f, hf⟩ := Go.Deep.choose_lt (α := α) (n := len) (p := fun i z => (∃ y, w.cells? base (a.add (i * k)) k = some (enc z) ∧ y = y) ∧ good z) (fun i hi => by
      obtain ⟨cs', h1, h2⟩ := hx i (by omega)
      obtain ⟨z, rfl, hg⟩ := hel _ _ _ h2
      exact ⟨z, ⟨(0 : Nat), h1, rfl⟩, hg⟩)
    refine ⟨some a, m, (List.range len).map f, by simp, by simpa using hl, hm, ⟨by simp; unfold maxLen at hm; omega, fun hne => ?_⟩, ?_, fun h => by cases h⟩
    · have hpos : 0 < len := by
        rcases Nat.eq_zero_or_pos len with h | h
        · subst h; simp at hne
        · exact h
      obtain ⟨b, off, sp⟩ := a
      have hsp : sp = none := by
        obtain ⟨⟨_, hc, _⟩, _⟩ := hf 0 hpos
        obtain ⟨_, hl0, hcell⟩ := World.cells?_some hc
        have h1 := hcell 0 h0
        rw [Nat.zero_mul] at h1
        have h2 : (enc (f 0))[0]? = some ((enc (f 0))[0]'(by omega)) := List.getElem?_eq_getElem (by omega)
        rw [h2] at h1
        simpa [Addr.add] using World.cell?_spot h1
      subst hsp
      refine ⟨b, off, rfl, fun j hj i v hv => ?_⟩
      have hj' : j < len := by simpa using hj
      obtain ⟨⟨_, hc, _⟩, _⟩ := hf j hj'
      obtain ⟨_, hl0, hcell⟩ := World.cells?_some hc
      have hfj : ((List.range len).map f)[j]! = f j := by rw [getElem!_pos _ j (by simpa using hj')]; simp
      rw [hfj] at hv
      have hi : i < k := by
        have := (List.getElem?_eq_some_iff.1 hv).1
        omega
      have h1 := hcell i hi
      rw [hv, Go.Deep.add_add, Go.WideShapes.add_plain, ← Nat.add_assoc] at h1
      exact h1
    · intro z hz
      obtain ⟨i, hi, rfl⟩ := List.mem_map.1 hz
      exact (hf i (by simpa using hi)).2
end
end Go.Proofs.Ytdndanjabknjpaa
