/- More of slices that read as lists, and rows of the call's own: whose block is whose. -/
import Derived.Test.YtdndanjabknjpaaLibB
import Derived.Test.YtdndanjabknjpaaRg
import Derived.Deep.AppendLies
namespace Go.Proofs.Ytdndanjabknjpaa
open Go.RowKit
/-- A slice's block is no row's. -/
def Off {α : Type} (xs : List α) (A : Option Addr) (v : Value) : Prop := xs ≠ [] → ∀ a, A = some a → v.ownBlock ≠ some a.block
theorem Sl.lt {α : Type} [Inhabited α] {k : Nat} {enc : α → List Value} {w : World} {A : Option Addr} {xs : List α} (h : Sl k enc w A xs) (hk : ∀ x, (enc x).length = k) (h0 : 0 < k) (hne : xs ≠ []) : ∀ a, A = some a → a.block < w.heap.size := by
  intro a e
  obtain ⟨b, off, e2, hc⟩ := h.cell hne
  rw [e2] at e
  injection e with e
  subst e
  have hl : 0 < xs.length := List.length_pos_iff.2 hne
  have h2 : (enc xs[0]!)[0]? = some ((enc xs[0]!)[0]'(by rw [hk]; exact h0)) := List.getElem?_eq_getElem _
  have := World.block_lt_of_cell? _ _ (hc 0 hl 0 _ h2)
  exact this
theorem Sl.grown {α : Type} [Inhabited α] {k : Nat} {enc : α → List Value} {w w' : World} {A : Option Addr} {xs : List α} {v : Value} (h : Sl k enc w A xs) (hg : w.grownBy w' v.ownBlock) (ho : Off xs A v) : Sl k enc w' A xs :=
  ⟨h.big, fun hne => by
    obtain ⟨b, off, e, hc⟩ := h.cell hne
    refine ⟨b, off, e, fun j hj i u hu => ?_⟩
    exact hg.cell (hc j hj i u hu) (Ne.symm (ho hne ⟨b, off, none⟩ e))⟩
theorem Off.next {α : Type} [Inhabited α] {k : Nat} {enc : α → List Value} {w : World} {A : Option Addr} {xs : List α} {v v' : Value} {X : Nat} (h : Off xs A v) (hat : v'.ownBlock = v.ownBlock ∨ v'.ownBlock = some X) (hs : Sl k enc w A xs) (hk : ∀ x, (enc x).length = k) (h0 : 0 < k) (hX : w.heap.size ≤ X) : Off xs A v' := by
  intro hne a e
  rcases hat with h1 | h1 <;> rw [h1]
  · exact h hne a e
  · intro h2
    injection h2 with h2
    have := hs.lt hk h0 hne a e
    omega
theorem Off.fresh {α : Type} {xs : List α} {A : Option Addr} {v : Value} {w : World} {base e k n : Nat} {cs : List Value} (hf : ∀ a, A = some a → w.heap.size ≤ a.block) (ho : w.ownsRow base e k v n cs) : Off xs A v := by
  intro _ a e h
  have := (ho.lt _ h).2
  have := hf a e
  omega
theorem own_cap {w : World} {base e k n c : Nat} {A : Option Addr} {cs : List Value} (h : w.ownsRow base e k (.slice A n c) n cs) : n ≤ c ∧ c ≤ maxLen := by
  rcases h.2 with ⟨h0, _⟩ | ⟨g', cap, cur, hv, hb, hh, hn, hm, hs, ht⟩
  · injection h0 with e1 e2 e3
    subst e3; subst e2
    exact ⟨Nat.le_refl _, Nat.zero_le _⟩
  · injection hv with e1 e2 e3
    subst e3
    exact ⟨hn, hm⟩
theorem own_fresh {w : World} {b base e k n c : Nat} {A : Option Addr} {cs : List Value} (h : w.ownsRow base e k (.slice A n c) n cs) (hb : b ≤ base) : ∀ a, A = some a → b ≤ a.block := fun a e => by
  subst e
  have := h.lt a.block rfl
  omega

theorem own_form {w : World} {base e k n c : Nat} {A : Option Addr} {cs : List Value} (h : w.ownsRow base e k (.slice A n c) n cs) : (A = none ∧ n = 0 ∧ c = 0) ∨ ∃ G, A = some ⟨G, 0, none⟩ := by
  rcases h.2 with ⟨h0, _⟩ | ⟨g', cap, cur, hv, hb, hh, hn, hm, hs, ht⟩
  · injection h0 with e1 e2 e3
    exact .inl ⟨e1, e2, e3⟩
  · injection hv with e1 e2 e3
    exact .inr ⟨g', e1⟩
theorem wpList_as {P : Program} {ops : Array Oper} {Q : Exit → Act → World → Prop} {l : List Oper} {a : Act} {w : World} (h : True → wpList P ops Q l a w) : wpList P ops Q l a w := h trivial
theorem own_take {w : World} {base e k n n' c : Nat} {A : Option Addr} {cs : List Value} (h : w.ownsRow base e k (.slice A n c) n cs) (hn : n' ≤ n) : w.ownsRow base e k (.slice A n' c) n' (cs.take (n' * k)) := by
  obtain ⟨hl, h⟩ := h
  refine ⟨by rw [List.length_take, hl]; exact Nat.min_eq_left (Nat.mul_le_mul_right _ hn), ?_⟩
  rcases h with ⟨h0, h1⟩ | ⟨g, cap, cur, hv, hb, hh, hnc, hm, hs, ht⟩
  · injection h0 with e1 e2 e3
    subst e1; subst e2; subst e3
    obtain rfl : n' = 0 := by omega
    exact .inl ⟨rfl, by simp⟩
  · injection hv with e1 e2 e3
    subst e1; subst e3
    refine .inr ⟨g, _, cur, rfl, hb, hh, by omega, hm, hs, ?_⟩
    rw [← ht, List.take_take]
    congr 1
    exact (Nat.min_eq_left (Nat.mul_le_mul_right _ hn)).symm
theorem flat_take {α : Type} {enc : α → List Value} {k : Nat} (hk : ∀ x, (enc x).length = k) : ∀ (l : List α) (j : Nat), (l.flatMap enc).take (j * k) = (l.take j).flatMap enc
  | [], j => by simp
  | x :: l, 0 => by simp
  | x :: l, j + 1 => by
    have e : (j + 1) * k = (enc x).length + j * k := by rw [hk, Nat.succ_mul]; omega
    rw [List.flatMap_cons, e, List.take_length_add_append, flat_take hk l j]; rfl
/-- A store into another block. -/
theorem Sl.setFar {α : Type} [Inhabited α] {k : Nat} {enc : α → List Value} {w : World} {A : Option Addr} {xs : List α} {q : Addr} (h : Sl k enc w A xs) (hf : xs ≠ [] → ∀ a, A = some a → a.block ≠ q.block) (u : Value) : Sl k enc (w.setCell q u) A xs :=
  ⟨h.big, fun hne => by
    obtain ⟨b, off, e, hc⟩ := h.cell hne
    refine ⟨b, off, e, fun j hj i v hv => ?_⟩
    refine (World.cell?_setCell_other _ _ _ _ fun e2 => ?_).trans (hc j hj i v hv)
    have := hf hne ⟨b, off, none⟩ e
    rw [e2] at this
    exact this rfl⟩
/-- Two rows share no block. -/
def Apart (u v : Value) : Prop := ∀ b, u.ownBlock = some b → v.ownBlock ≠ some b
theorem Apart.symm {u v : Value} (h : Apart u v) : Apart v u := fun b h1 h2 => h b h2 h1
theorem Apart.or {u v : Value} (h : Apart u v) : v.ownBlock = none ∨ v.ownBlock ≠ u.ownBlock := by
  cases hv : v.ownBlock with
  | none => exact .inl rfl
  | some b => exact .inr fun e => h b e.symm hv
end Go.Proofs.Ytdndanjabknjpaa
