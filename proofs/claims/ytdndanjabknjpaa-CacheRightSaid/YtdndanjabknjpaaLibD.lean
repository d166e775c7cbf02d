/- Rows of the call's own, written cell by cell: copy, clear, an element set. -/
import Derived.Test.YtdndanjabknjpaaLibC
import Derived.Laws.IdiomCopy
import Derived.Lib.SliceRun
namespace Go.Proofs.Ytdndanjabknjpaa
open Go.RowKit

/-- A list with some of its places set. -/
def setAll : List Value → Nat → List Value → List Value
  | cs, _, [] => cs
  | cs, o, v :: vs => setAll (cs.set o v) (o + 1) vs
theorem setAll_length : ∀ (vs cs : List Value) (o : Nat), (setAll cs o vs).length = cs.length
  | [], _, _ => rfl
  | v :: vs, cs, o => by rw [setAll, setAll_length vs, List.length_set]
theorem setAll_at : ∀ (vs a r : List Value), vs.length ≤ r.length → setAll (a ++ r) a.length vs = a ++ vs ++ r.drop vs.length
  | [], a, r, _ => by simp [setAll]
  | v :: vs, a, [], h => by simp at h
  | v :: vs, a, x :: r, h => by
    rw [setAll]
    have e : (a ++ x :: r).set a.length v = (a ++ [v]) ++ r := by simp
    rw [e]
    have := setAll_at vs (a ++ [v]) r (by simpa using h)
    rw [List.length_append, List.length_singleton] at this
    rw [this]; simp
theorem setAll_take : ∀ (vs cs : List Value) (o m : Nat), m ≤ o → (setAll cs o vs).take m = cs.take m
  | [], _, _, _, _ => rfl
  | v :: vs, cs, o, m, h => by
    rw [setAll, setAll_take vs _ _ _ (by omega), List.take_set_of_le h]
section
variable {w : World} {base e k n c g : Nat} {cs : List Value}
theorem own_setCells : ∀ (vs cs : List Value) (w : World) (o : Nat), w.ownsRow base e k (.slice (some ⟨g, 0, none⟩) n c) n cs → (w.setCells g o vs).ownsRow base e k (.slice (some ⟨g, 0, none⟩) n c) n (setAll cs o vs)
  | [], _, _, _, h => h
  | v :: vs, cs, w, o, h => own_setCells vs (cs.set o v) (w.setCell ⟨g, o, none⟩ v) (o + 1) (own_set h o v)
theorem own_there (h : w.ownsRow base e k (.slice (some ⟨g, 0, none⟩) n c) n cs) (j : Nat) (hj : j < c * k) : (w.cell? ⟨g, j, none⟩).isSome = true := by
  obtain ⟨_, cur, hh, _, _, hs, _⟩ := own_block h
  have : j < cur.size := by omega
  simp [World.cell?, hh, this]
/-- There is room for more elements: their cells hold something. -/
theorem own_extend (h : w.ownsRow base e k (.slice (some ⟨g, 0, none⟩) n c) n cs) (m : Nat) (hm : n + m ≤ c) : ∃ ex : List Value, ex.length = m * k ∧ w.ownsRow base e k (.slice (some ⟨g, 0, none⟩) (n + m) c) (n + m) (cs ++ ex) := by
  obtain ⟨hb, cur, hh, hn, hmx, hs, ht⟩ := own_block h
  have hl := h.1
  have hle : (n + m) * k ≤ c * k := Nat.mul_le_mul_right _ hm
  have hadd : (n + m) * k = n * k + m * k := Nat.add_mul ..
  refine ⟨(cur.toList.drop (n * k)).take (m * k), ?_, ?_, .inr ⟨g, c, cur, rfl, hb, hh, hm, hmx, hs, ?_⟩⟩
  · rw [List.length_take, List.length_drop, Array.length_toList]; omega
  · rw [List.length_append, hl, List.length_take, List.length_drop, Array.length_toList]; omega
  · rw [hadd, List.take_add, ht]
end
section
variable {P : Program}
theorem run_copy_k (w : World) (dT sT ty elem : TypeId) (k b o dLen dCap : Nat) (a : Addr) (sLen sCap : Nat) (cs : List Value)
    (hu : P.underlying dT = some (.slice elem)) (hs : (P.info? elem).map (·.size) = some k) (hn : cs.length = (Nat.min sLen dLen) * k)
    (hsrc : ∀ j v, cs[j]? = some v → w.cell? (a.add j) = some v) (hc : ∀ j, j < cs.length → (w.cell? ⟨b, o + j, none⟩).isSome = true) (hf : ∀ j, j < cs.length → w.frozen? ⟨b, o + j, none⟩ = false) (h1 : ∀ v ∈ cs, v.oneCell' = true) :
    (Builtin.copy_ #[dT, sT] ty #[.slice (some ⟨b, o, none⟩) dLen dCap, .slice (some a) sLen sCap]).run P w = .ok (goInt (Nat.min sLen dLen)) (w.setCells b o cs) := by
  have hl := run_loadCells_list (P := P) w a cs hsrc
  have hst := run_storeCells_cells (P := P) b o cs 0 w (by simpa using hc) (by simpa using hf) h1
  cases hq : P.info? elem with
  | none => simp [hq] at hs
  | some i =>
    have hi : i.size = k := by simpa [hq] using hs
    simp [Builtin.copy_, run_underlying hu, Builtin.lenOf, Builtin.firstCells, sizeOf, typeInfo, hq, hi, ← hn, hl, hst]
theorem zeroCells_len (z : Array Value) (n : Nat) : (Builtin.zeroCells z n).toList.length = n * z.size := by simp [Builtin.zeroCells]
theorem zeroCells_one (z : Array Value) (n : Nat) (h : ∀ v ∈ z.toList, v.oneCell' = true) (h0 : 0 < z.size) : ∀ v ∈ (Builtin.zeroCells z n).toList, v.oneCell' = true := by
  intro v hv
  simp only [Builtin.zeroCells] at hv
  obtain ⟨j, hj, rfl⟩ := List.getElem_of_mem hv
  simp at hj ⊢
  have : j % z.size < z.size := Nat.mod_lt _ h0
  simp [this]
  exact h _ (by simp)
/-- 'clear(s)' of n elements: their cells hold the zero values. -/
theorem run_clear_k (w : World) (t e ty : TypeId) (z : Value) (k : Nat) (ht : P.underlying t = some (.slice e)) (hv : ∀ w, (zeroValue e).run P w = .ok z w) (hz : z.cells.size = k) (h0 : 0 < k) (h1 : ∀ v ∈ z.cells.toList, v.oneCell' = true) (b o n c : Nat)
    (hc : ∀ j, j < n * k → (w.cell? ⟨b, o + j, none⟩).isSome = true) (hf : ∀ j, j < n * k → w.frozen? ⟨b, o + j, none⟩ = false) :
    (Builtin.clear_ #[t] ty #[.slice (some ⟨b, o, none⟩) n c]).run P w = .ok (.tuple #[]) (w.setCells b o (Builtin.zeroCells z.cells n).toList) := by
  have hl := zeroCells_len z.cells n
  rw [hz] at hl
  have hst := run_storeCells_cells (P := P) b o (Builtin.zeroCells z.cells n).toList 0 w (by rw [hl]; simpa using hc) (by rw [hl]; simpa using hf) (zeroCells_one z.cells n h1 (by omega))
  simp only [Nat.add_zero] at hst
  cases n with
  | zero =>
    have e : (Builtin.zeroCells z.cells 0).toList = [] := List.eq_nil_of_length_eq_zero (by rw [hl]; simp)
    rw [e]
    simp [Builtin.clear_, run_underlying ht, World.setCells]
  | succ n => simp [Builtin.clear_, run_underlying ht, hv, hst]
end
theorem grown_of_below {w W W' : World} {row : Option Nat} (h : w.grownBy W row) (hb : Below W.heap.size W W') : w.grownBy W' row :=
  h.trans ⟨hb.os, hb.tape, hb.output, hb.size, fun i hi _ => hb.block i hi⟩
theorem grown_alloc {w W : World} {row : Option Nat} (h : w.grownBy W row) (o : Obj) : w.grownBy (W.alloc o) row := h.trans (World.grownBy_alloc W o row)
theorem grown_set {w W : World} {g j : Nat} (h : w.grownBy W (some g)) (u : Value) : w.grownBy (W.setCell ⟨g, j, none⟩ u) (some g) :=
  ⟨h.os, h.tape, h.output, by simpa using h.size, fun i hi hne => by
    rw [← h.block i hi hne]
    have : g ≠ i := fun e => hne (by rw [e])
    simp [World.setCell, Array.getElem?_modify, this]⟩
theorem grown_setCells {w : World} {g : Nat} : ∀ (vs : List Value) (W : World) (o : Nat), w.grownBy W (some g) → w.grownBy (W.setCells g o vs) (some g)
  | [], _, _, h => h
  | v :: vs, W, o, h => grown_setCells vs (W.setCell ⟨g, o, none⟩ v) (o + 1) (grown_set h v)
section
variable {P : Program}
theorem wpList_clear_run (w : World) {ops : Array Oper} {rest : List Oper} {o : Oper} {a : Act} {Q : Exit → Act → World → Prop} (hgd : o.guard = none) (d : Operand) (t : TypeId)
    (ho : o.op = .call { callee := .builtin .clear, args := #[d], argTypes := #[t] }) (v : Value) (hd : a.eval d = v) {v' : Value} {w' : World}
    (hr : (Builtin.clear_ #[t] o.type #[v]).run P w = .ok v' w') (h : wpList P ops Q rest (a.put o.dst v') w') : wpList P ops Q (o :: rest) a w :=
  wpList_plain hgd fun K hK => by
    unfold Oper.wp execOp
    simp only [ho, resolve, invoke, builtin, Sem.run_bind, Sem.run_pure, Result.andThen_ok, List.map_toArray, List.map_cons, List.map_nil, hd, hr]
    exact hK _ _ h
end
theorem first_hit {α : Type} [Inhabited α] (p : α → Bool) : ∀ xs : List α, (∀ j, j < xs.length → p xs[j]! = false) ∨ ∃ i, i < xs.length ∧ p xs[i]! = true ∧ ∀ j, j < i → p xs[j]! = false
  | [] => .inl fun j hj => by cases hj
  | x :: xs => by
    cases hx : p x with
    | true => exact .inr ⟨0, by simp, by simpa using hx, fun j hj => absurd hj (Nat.not_lt_zero _)⟩
    | false =>
      rcases first_hit p xs with h | ⟨i, h1, h2, h3⟩
      · refine .inl fun j hj => ?_
        cases j with
        | zero => simpa using hx
        | succ j => have := h j (by simpa using hj); simpa using this
      · refine .inr ⟨i + 1, by simpa using h1, by simpa using h2, fun j hj => ?_⟩
        cases j with
        | zero => simpa using hx
        | succ j => have := h3 j (by omega); simpa using this
end Go.Proofs.Ytdndanjabknjpaa
