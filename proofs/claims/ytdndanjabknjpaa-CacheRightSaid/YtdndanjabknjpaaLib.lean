/- Small words for slices that are read: a slice value reads as a list. -/
import Derived.WalkKit
import Derived.WalkSpells
import Derived.Deep.QuietTactic
import Derived.BigQuiet
import Derived.Deep.LoopGhost
import Derived.Deep.Slices
import Derived.Lib.Hide
import Derived.Laws.StructEq
namespace Go.Proofs.Ytdndanjabknjpaa
open Go.RowKit

/-- The slice that begins at A reads as xs: each element is k cells. -/
structure Sl {α : Type} [Inhabited α] (k : Nat) (enc : α → List Value) (w : World) (A : Option Addr) (xs : List α) : Prop where
  big : xs.length ≤ 9223372036854775807
  cell : xs ≠ [] → ∃ b off, A = some ⟨b, off, none⟩ ∧ ∀ j, j < xs.length → ∀ i v, (enc xs[j]!)[i]? = some v → w.cell? ⟨b, off + j * k + i, none⟩ = some v

section
variable {α : Type} [Inhabited α] {k : Nat} {enc : α → List Value} {w w' : World} {A : Option Addr} {xs : List α}
theorem Sl.below (h : Sl k enc w A xs) (hb : Below w.heap.size w w') : Sl k enc w' A xs :=
  ⟨h.big, fun hne => by
    obtain ⟨b, off, e, hc⟩ := h.cell hne
    exact ⟨b, off, e, fun j hj i v hv => (hb.cell (World.block_lt_of_cell? w _ (hc j hj i v hv))).trans (hc j hj i v hv)⟩⟩
theorem Sl.nil (k : Nat) (enc : α → List Value) (w : World) (A : Option Addr) : Sl k enc w A [] := ⟨by simp, fun h => absurd rfl h⟩
theorem Sl.at_ (h : Sl k enc w A xs) (j : Nat) (hj : j < xs.length) : ∃ b off, A = some ⟨b, off, none⟩ ∧ ∀ i v, (enc xs[j]!)[i]? = some v → w.cell? ⟨b, off + j * k + i, none⟩ = some v := by
  obtain ⟨b, off, e, hc⟩ := h.cell (fun e => by rw [e] at hj; simp at hj)
  exact ⟨b, off, e, hc j hj⟩

theorem flat_at {enc : α → List Value} (hk : ∀ x, (enc x).length = k) : ∀ (xs : List α) (j i : Nat) (v : Value), j < xs.length → (enc xs[j]!)[i]? = some v → (xs.flatMap enc)[j * k + i]? = some v
  | [], j, _, _, hj, _ => absurd hj (Nat.not_lt_zero _)
  | x :: xs, 0, i, v, _, hv => by
    have hi : i < (enc x).length := by
      have h : (enc x)[i]? = some v := hv
      exact (List.getElem?_eq_some_iff.1 h).1
    simp only [List.flatMap_cons, Nat.zero_mul, Nat.zero_add]
    rw [List.getElem?_append_left hi]; exact hv
  | x :: xs, j + 1, i, v, hj, hv => by
    simp only [List.flatMap_cons]
    rw [List.getElem?_append_right (by rw [hk, Nat.succ_mul]; omega), hk, show (j + 1) * k + i - k = j * k + i by rw [Nat.succ_mul]; omega]
    exact flat_at hk xs j i v (by simpa using hj) (by simpa using hv)
omit [Inhabited α] in
theorem flat_length {enc : α → List Value} (hk : ∀ x, (enc x).length = k) (xs : List α) : (xs.flatMap enc).length = xs.length * k := by
  induction xs with
  | nil => simp
  | cons x xs ih => simp [hk, ih, Nat.succ_mul]; omega

theorem flat_inv {enc : α → List Value} (hk : ∀ x, (enc x).length = k) (h0 : 0 < k) : ∀ (xs : List α) (j : Nat) (v : Value), (xs.flatMap enc)[j]? = some v → ∃ q r, j = q * k + r ∧ q < xs.length ∧ (enc xs[q]!)[r]? = some v
  | [], j, v, h => by simp at h
  | x :: xs, j, v, h => by
    simp only [List.flatMap_cons] at h
    by_cases hj : j < k
    · rw [List.getElem?_append_left (by rw [hk]; exact hj)] at h
      exact ⟨0, j, by simp, by simp, h⟩
    · rw [List.getElem?_append_right (by rw [hk]; omega), hk] at h
      obtain ⟨q, r, hq, hlt, hv⟩ := flat_inv hk h0 xs _ v h
      exact ⟨q + 1, r, by rw [Nat.succ_mul]; omega, by simpa using hlt, by simpa using hv⟩

theorem Sl.flat (h : Sl k enc w A xs) (hk : ∀ x, (enc x).length = k) (h0 : 0 < k) {ad : Addr} (e : A = some ad) (j : Nat) (u : Value) (hj : (xs.flatMap enc)[j]? = some u) : w.cell? (ad.add j) = some u := by
  obtain ⟨q, r, rfl, hlt, hv⟩ := flat_inv hk h0 xs j u hj
  obtain ⟨b, off, e', hc⟩ := h.at_ q hlt
  rw [e] at e'
  obtain rfl : ad = ⟨b, off, none⟩ := by simpa using e'
  rw [Go.WideShapes.add_plain, ← Nat.add_assoc]
  exact hc _ _ hv

/-- An owned row reads. -/
theorem Sl.own {base : Nat} {e : TypeId} {v : Value} (hk : ∀ x, (enc x).length = k) (h : w.ownsRow base e k v xs.length (xs.flatMap enc)) :
    ∃ A c, v = .slice A xs.length c ∧ xs.length ≤ c ∧ Sl k enc w A xs := by
  rcases h.2 with ⟨rfl, h0⟩ | ⟨g, cap, cur, rfl, hg, hh, hn, hm, hs, ht⟩
  · rw [h0]
    have : xs = [] := List.length_eq_zero_iff.1 h0
    subst this
    exact ⟨none, 0, rfl, Nat.le_refl _, Sl.nil _ _ _ _⟩
  · refine ⟨some ⟨g, 0, none⟩, cap, rfl, hn, ⟨by unfold maxLen at hm; omega, fun _ => ⟨g, 0, rfl, fun j hj i v hv => ?_⟩⟩⟩
    have := h.cells (g := g) (by simp [Value.ownBlock]) _ _ (flat_at hk xs j i v hj hv)
    rw [Go.WideShapes.add_plain] at this
    rw [Nat.add_assoc]; exact this

section
variable {base g n c k : Nat} {e : TypeId} {cs : List Value}
omit [Inhabited α] in
theorem own_block (h : w.ownsRow base e k (.slice (some ⟨g, 0, none⟩) n c) n cs) : base ≤ g ∧ ∃ cur, w.heap[g]? = some (.cells cur e (0, 0)) ∧ n ≤ c ∧ c ≤ maxLen ∧ cur.size = c * k ∧ cur.toList.take (n * k) = cs := by
  rcases h.2 with ⟨h0, _⟩ | ⟨g', cap, cur, hv, hb, hh, hn, hm, hs, ht⟩
  · simp at h0
  · injection hv with e1 e2 e3
    injection e1 with e1
    injection e1 with e1
    subst e1; subst e3
    exact ⟨hb, cur, hh, hn, hm, hs, ht⟩
theorem own_cell (h : w.ownsRow base e k (.slice (some ⟨g, 0, none⟩) n c) n cs) (j : Nat) (u : Value) (hu : cs[j]? = some u) : w.cell? ⟨g, j, none⟩ = some u := by
  have := h.cells (g := g) (by simp [Value.ownBlock]) _ _ hu
  rwa [Go.WideShapes.add_plain, Nat.zero_add] at this
theorem own_frozen (h : w.ownsRow base e k (.slice (some ⟨g, 0, none⟩) n c) n cs) (j : Nat) : w.frozen? ⟨g, j, none⟩ = false := by
  obtain ⟨_, cur, hh, _⟩ := own_block h
  simp [World.frozen?, hh]
theorem own_set (h : w.ownsRow base e k (.slice (some ⟨g, 0, none⟩) n c) n cs) (j : Nat) (u : Value) :
    (w.setCell ⟨g, j, none⟩ u).ownsRow base e k (.slice (some ⟨g, 0, none⟩) n c) n (cs.set j u) := by
  obtain ⟨hb, cur, hh, hn, hm, hs, ht⟩ := own_block h
  refine ⟨by rw [List.length_set]; exact h.1, .inr ⟨g, c, cur.setIfInBounds j u, rfl, hb, ?_, hn, hm, by simpa using hs, ?_⟩⟩
  · simp [World.setCell, hh, Array.getElem?_modify]
  · rw [Array.toList_setIfInBounds, List.take_set, ht]
omit [Inhabited α] in
theorem own_slice {v : Value} (h : w.ownsRow base e k v n cs) (h0 : 0 < n) : ∃ g c, v = .slice (some ⟨g, 0, none⟩) n c := by
  rcases h.2 with ⟨_, h1⟩ | ⟨g, cap, cur, hv, _⟩
  · omega
  · exact ⟨g, cap, hv⟩
omit [Inhabited α] in
theorem own_below {v : Value} (h : w.ownsRow base e k v n cs) (hb : Below w.heap.size w w') : w'.ownsRow base e k v n cs :=
  h.kept (row := none) ⟨hb.os, hb.tape, hb.output, hb.size, fun i hi _ => hb.block i hi⟩ (by cases v.ownBlock <;> simp)
end
theorem flat_set {enc : α → List Value} (hk : ∀ x, (enc x).length = k) : ∀ (xs : List α) (q r : Nat) (y : α) (u : Value), q < xs.length → r < k → enc y = (enc xs[q]!).set r u → (xs.flatMap enc).set (q * k + r) u = (xs.set q y).flatMap enc
  | [], q, _, _, _, hq, _, _ => absurd hq (Nat.not_lt_zero _)
  | x :: xs, 0, r, y, u, _, hr, hy => by
    simp only [List.flatMap_cons, Nat.zero_mul, Nat.zero_add, List.set_cons_zero]
    rw [List.set_append, if_pos (by rw [hk]; exact hr), hy]; rfl
  | x :: xs, q + 1, r, y, u, hq, hr, hy => by
    simp only [List.flatMap_cons, List.set_cons_succ]
    rw [List.set_append, if_neg (by rw [hk, Nat.succ_mul]; omega), hk, show (q + 1) * k + r - k = q * k + r by rw [Nat.succ_mul]; omega, flat_set hk xs q r y u (by simpa using hq) hr (by simpa using hy)]
end
/-- A new block's cells. -/
theorem cell_new_block (w : World) (cs : List Value) (T : TypeId) (j : Nat) (u : Value) (h : cs[j]? = some u) : (w.alloc (.cells cs.toArray T)).cell? ((⟨w.heap.size, 0, none⟩ : Addr).add j) = some u := by
  rw [Go.WideShapes.add_plain, Nat.zero_add, cell_of_row _ w.heap.size j cs.toArray T (0, 0) (heap_alloc_new w _)]
  simpa using h
theorem bdrewN {B : Nat} {w W : World} (h : Below B w W) (n : Nat) : Below B w (W.drewN n) := ⟨h.os, h.tape, h.output, h.size, h.block⟩

/-! '==' of structs, field by field. -/
section
variable {P : Program} {d : Nat} {xs ys : Array Value} {f : Field} {fs : List Field} {a b : Value} {r s : Bool} {w : World}
theorem se_last (hn : (f.name == "_") = false) (ha : (part f.type xs f.offset).run P w = .ok a w) (hb : (part f.type ys f.offset).run P w = .ok b w) (he : (Op.equalIn d f.type a b).run P w = .ok r w) : (Op.eqFields d xs ys [f]).run P w = .ok r w := by
  have hn' : f.name ≠ "_" := by simpa using hn
  simp only [Op.eqFields, if_pos hn', Sem.run_bind, ha, hb, he, Result.andThen_ok]
  cases r <;> simp
theorem se_cons (hn : (f.name == "_") = false) (ha : (part f.type xs f.offset).run P w = .ok a w) (hb : (part f.type ys f.offset).run P w = .ok b w) (he : (Op.equalIn d f.type a b).run P w = .ok r w) (hr : (Op.eqFields d xs ys fs).run P w = .ok s w) :
    (Op.eqFields d xs ys (f :: fs)).run P w = .ok (r && s) w := by
  have hn' : f.name ≠ "_" := by simpa using hn
  rw [Op.eqFields]
  simp only [if_pos hn', Sem.run_bind, ha, hb, he, Result.andThen_ok]
  cases r
  · simp
  · simpa using hr
theorem se_of {t : TypeId} {fs : Array Field} (hu : P.underlying t = some (.struct fs)) (hp : P.stoodInHeld t = false) (h : (Op.eqFields d xs ys fs.toList).run P w = .ok r w) : (Op.equalIn (d + 1) t (.agg xs) (.agg ys)).run P w = .ok r w := by
  have hf : P.fieldsOf t = fs := by simp [Program.fieldsOf, hu]
  rw [run_equalIn_struct (P := P) w d t xs ys (by rw [hf]; exact hu) hp, hf]
  exact h
end
end Go.Proofs.Ytdndanjabknjpaa
