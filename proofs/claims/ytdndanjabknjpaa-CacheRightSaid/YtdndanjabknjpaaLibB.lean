/- append onto a row of the call's own, of a slice that reads as a list: nil, empty or not. -/
import Derived.Test.YtdndanjabknjpaaLib
import Derived.Maps.AppendAt
import Derived.OneCell
namespace Go.Proofs.Ytdndanjabknjpaa
open Go.RowKit

theorem append_nothing {P : Program} (w : World) (base : Nat) (t ty e : TypeId) (i : TypeInfo) (size : Nat) (ht : P.underlying t = some (.slice e)) (hi : P.info? e = some i)
    (v : Value) (n : Nat) (cs : List Value) (hown : w.ownsRow base e size v n cs) (c : Nat) : (Builtin.append_ #[t, t] ty #[v, .slice none 0 c]).run P w = .ok v w := by
  rcases hown.2 with ⟨rfl, rfl⟩ | ⟨g, cap, cur, rfl, _, _, hnc, _⟩
  · simp [Builtin.append_, run_underlying ht, sizeOf, typeInfo, hi, Builtin.lenOf, Builtin.firstCells]
  · simp [Builtin.append_, run_underlying ht, sizeOf, typeInfo, hi, Builtin.lenOf, Builtin.firstCells, hnc, storeCells]

theorem wpList_append_sl {P : Program} {α : Type} [Inhabited α] (w : World) {ops : Array Oper} {rest : List Oper} {o : Oper} {a : Act} {Q : Exit → Act → World → Prop} (hgd : o.guard = none) (s x : Operand) (t : TypeId)
    (ho : o.op = .call { callee := .builtin .append, args := #[s, x], argTypes := #[t, t] })
    (base : Nat) (e : TypeId) (i : TypeInfo) (z : Value) (size bytes : Nat) (ht : P.underlying t = some (.slice e)) (hi : P.info? e = some i) (hz : i.zero = some z)
    (hsize : i.size = size) (hby : i.bytes = bytes) (hzs : z.cells.size = size) (hsz : 0 < size)
    (v : Value) (n : Nat) (cs : List Value) (hs : a.eval s = v) (hown : w.ownsRow base e size v n cs)
    (enc : α → List Value) (hk : ∀ y, (enc y).length = size) (h1 : ∀ y, ∀ u ∈ enc y, u.oneCell' = true)
    (A : Option Addr) (m c : Nat) (ys : List α) (hx : a.eval x = .slice A m c) (hm : ys.length = m) (hr : Sl size enc w A ys)
    (h63 : n + m ≤ maxLen) (hbytes : (n + m) * bytes ≤ 140737488355328) (hbase : base ≤ w.heap.size)
    (h : ∀ v' w', w'.ownsRow base e size v' (n + m) (cs ++ ys.flatMap enc) → w.grownBy w' v.ownBlock → (v'.ownBlock = v.ownBlock ∨ v'.ownBlock = some w.heap.size) → wpList P ops Q rest (a.put o.dst v') w') : wpList P ops Q (o :: rest) a w := by
  subst hm
  cases A with
  | none =>
    have hy : ys = [] := by
      by_cases hy : ys = []
      · exact hy
      · obtain ⟨b, off, e, _⟩ := hr.cell hy
        cases e
    subst hy
    refine wpList_plain hgd fun K hK => ?_
    have hrun := append_nothing (P := P) w base t o.type e i size ht hi v n cs hown c
    unfold Oper.wp execOp
    simp only [ho, resolve, invoke, builtin, Sem.run_bind, Sem.run_pure, Result.andThen_ok, List.map_toArray, List.map_cons, List.map_nil, hs, hx]
    rw [show ([] : List α).length = 0 from rfl, hrun]
    exact hK _ _ (h v w (by simpa using hown) (World.grownBy.refl w _) (.inl rfl))
  | some ad =>
    refine wpList_append_own_at (P := P) w hgd s x t ho base e i z size bytes ht hi hz hsize hby hzs hsz v n cs hs hown ad ys.length c (ys.flatMap enc) hx (flat_length hk ys) (fun j u hj => hr.flat hk hsz rfl j u hj) (fun u hu => ?_) h63 hbytes hbase fun v' w' h2 h3 _ h5 => h v' w' h2 h3 h5
    obtain ⟨y, _, hy⟩ := List.mem_flatMap.1 hu
    exact h1 y u hy

/-- What is old stays below an append onto a row of the call's own. -/
theorem below_append {B : Nat} {w w1 w2 : World} {v : Value} {base : Nat} {e : TypeId} {k n : Nat} {cs : List Value} (hb : Below B w w1) (hg : w1.grownBy w2 v.ownBlock) (hB : B ≤ w1.heap.size) (ho : w1.ownsRow base e k v n cs) (hbase : B ≤ base) : Below B w w2 :=
  hb.grown hg hB (fun k hk => Nat.le_trans hbase (ho.lt k hk).1)
theorem own_weaken' {w : World} {b b' e k n : Nat} {v : Value} {cs : List Value} (h : w.ownsRow b e k v n cs) (hb : b' ≤ b) : w.ownsRow b' e k v n cs := by
  obtain ⟨h1, h2⟩ := h
  refine ⟨h1, ?_⟩
  rcases h2 with h2 | ⟨g, cap, cur, hv, hg, r⟩
  · exact .inl h2
  · exact .inr ⟨g, cap, cur, hv, Nat.le_trans hb hg, r⟩
/-- Rows of two element types are two. -/
theorem own_ne {w : World} {b b' e e' k k' n n' G c' : Nat} {v : Value} {cs cs' : List Value} (h : w.ownsRow b e k v n cs) (h' : w.ownsRow b' e' k' (.slice (some ⟨G, 0, none⟩) n' c') n' cs') (hne : e ≠ e') : v.ownBlock ≠ some G := by
  obtain ⟨_, cur', hh', _⟩ := own_block h'
  rcases h.2 with ⟨rfl, _⟩ | ⟨g, cap, cur, rfl, _, hh, _⟩
  · simp [Value.ownBlock]
  · intro e
    have : g = G := by simpa [Value.ownBlock] using e
    subst this
    rw [hh] at hh'
    injection hh' with hh'
    injection hh' with _ h2
    exact hne h2
theorem bnew {w : World} {T : TypeId} {cs : Array Value} : Below w.heap.size w (w.alloc (.cells cs T)) := (Below.refl _ _).alloc (Nat.le_refl _) _
/-- The beginning of a slice, and its end. -/
theorem Sl.take {α : Type} [Inhabited α] {k : Nat} {enc : α → List Value} {w : World} {A : Option Addr} {xs : List α} (h : Sl k enc w A xs) (n : Nat) : Sl k enc w A (xs.take n) :=
  ⟨by have := h.big; rw [List.length_take]; omega, fun hne => by
    have hx : xs ≠ [] := fun e => hne (by rw [e]; simp)
    obtain ⟨b, off, e, hc⟩ := h.cell hx
    refine ⟨b, off, e, fun j hj i v hv => ?_⟩
    have hj' : j < xs.length := by rw [List.length_take] at hj; omega
    rw [getElem!_pos (xs.take n) j hj, List.getElem_take, ← getElem!_pos xs j hj'] at hv
    exact hc j hj' i v hv⟩
theorem Sl.drop {α : Type} [Inhabited α] {k : Nat} {enc : α → List Value} {w : World} {b off : Nat} {xs : List α} (h : Sl k enc w (some ⟨b, off, none⟩) xs) (n : Nat) : Sl k enc w (some ⟨b, off + n * k, none⟩) (xs.drop n) :=
  ⟨by have := h.big; rw [List.length_drop]; omega, fun hne => by
    have hx : xs ≠ [] := fun e => hne (by rw [e]; simp)
    obtain ⟨b', off', e, hc⟩ := h.cell hx
    obtain ⟨rfl, rfl⟩ : b = b' ∧ off = off' := by simpa using e
    refine ⟨b, off + n * k, rfl, fun j hj i v hv => ?_⟩
    have hj' : n + j < xs.length := by rw [List.length_drop] at hj; omega
    rw [getElem!_pos (xs.drop n) j hj, List.getElem_drop, ← getElem!_pos xs (n + j) hj'] at hv
    have := hc (n + j) hj' i v hv
    rw [Nat.add_mul] at this
    rwa [show off + n * k + j * k + i = off + (n * k + j * k) + i by omega]⟩
theorem own_shape {w : World} {b e k n : Nat} {v : Value} {cs : List Value} (h : w.ownsRow b e k v n cs) : ∃ A c, v = .slice A n c := by
  rcases h.2 with ⟨rfl, rfl⟩ | ⟨g, cap, cur, hv, _⟩
  · exact ⟨none, 0, rfl⟩
  · exact ⟨_, _, hv⟩
theorem Sl.of_own {α : Type} [Inhabited α] {k : Nat} {enc : α → List Value} {w : World} {b e n c : Nat} {A : Option Addr} {xs : List α} (hk : ∀ x, (enc x).length = k) (h : w.ownsRow b e k (.slice A n c) n (xs.flatMap enc)) (hn : xs.length = n) : Sl k enc w A xs := by
  subst hn
  obtain ⟨A', c', e', _, hs⟩ := Sl.own hk h
  obtain ⟨rfl, _⟩ : A = A' ∧ c = c' := by simpa using e'
  exact hs
/-- A block that is not the row: as it was behind an append of a new block's cells. -/
theorem far_append {w w' : World} {o : Obj} {row : Option Nat} (hg : (w.alloc o).grownBy w' row) (X : Nat) (hX : X < w.heap.size) (hne : row ≠ some X) :
    (∀ j, w'.cell? ⟨X, j, none⟩ = w.cell? ⟨X, j, none⟩) ∧ (∀ j, w'.frozen? ⟨X, j, none⟩ = w.frozen? ⟨X, j, none⟩) := by
  have h : w'.heap[X]? = w.heap[X]? := (hg.block X (by simp; omega) (Ne.symm hne)).trans (Below.heap_alloc w o X hX)
  exact ⟨fun j => World.cell?_of_block (w := w) (w' := w') (a := ⟨X, j, none⟩) h, fun j => World.frozen?_of_block (w := w) (w' := w') (a := ⟨X, j, none⟩) h⟩
/-- Rows of two element types: two blocks, or none. -/
theorem own_two {w : World} {b b' e e' k k' n n' : Nat} {v v' : Value} {cs cs' : List Value} (h : w.ownsRow b e k v n cs) (h' : w.ownsRow b' e' k' v' n' cs') (hne : e ≠ e') : v.ownBlock = none ∨ v.ownBlock ≠ v'.ownBlock := by
  rcases h.2 with ⟨rfl, _⟩ | ⟨g, cap, cur, rfl, _, hh, _⟩
  · exact .inl rfl
  · refine .inr fun hk => ?_
    rcases h'.2 with ⟨rfl, _⟩ | ⟨g', cap', cur', rfl, _, hh', _⟩
    · simp [Value.ownBlock] at hk
    · have : g = g' := by simpa [Value.ownBlock] using hk
      subst this
      rw [hh] at hh'
      injection hh' with hh'
      injection hh' with _ h2
      exact hne h2
end Go.Proofs.Ytdndanjabknjpaa
