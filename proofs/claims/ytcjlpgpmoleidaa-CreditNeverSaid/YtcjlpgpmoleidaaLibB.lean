/- append onto a row of the call's own, of a slice that reads as a list: nil, empty or not. -/
import Derived.Test.YtcjlpgpmoleidaaLib
import Derived.Maps.AppendAt
namespace Go.Proofs.Ytcjlpgpmoleidaa
open Go.RowKit

theorem append_nothing {P : Program} (w : World) (base : Nat) (t ty e : TypeId) (i : TypeInfo) (size : Nat) (ht : P.underlying t = some (.slice e)) (hi : P.info? e = some i)
    (v : Value) (n : Nat) (cs : List Value) (hown : w.ownsRow base e size v n cs) (c : Nat) : (Builtin.append_ #[t, t] ty #[v, .slice none 0 c]).run P w = .ok v w := by
  rcases hown.2 with ⟨rfl, rfl⟩ | ⟨g, cap, cur, rfl, _, _, hnc, _⟩
  · simp [Builtin.append_, run_underlying ht, sizeOf, typeInfo, hi, Builtin.lenOf, Builtin.firstCells]
  · simp [Builtin.append_, run_underlying ht, sizeOf, typeInfo, hi, Builtin.lenOf, Builtin.firstCells, hnc, storeCells]

theorem wpList_append_sl {P : Program} {α : Type} [Inhabited α] (w : World) {ops : Array Oper} {rest : List Oper} {o : Oper} {a : Act} {Q : Exit → Act → World → Prop} (hgd : o.guard = none) (s x : Operand) (t : TypeId)
    (ho : o.op = .call { callee := .builtin .append, args := #[s, x], argTypes := #[t, t] })
    (base : Nat) (e : TypeId) (i : TypeInfo) (z : Value) (size bytes : Nat) (ht : P.underlying t = some (.slice e)) (hi : P.info? e = some i) (hz : i.zero = some z)
    (hsize : i.size = size) (hby : i.bytes = bytes) (hzs : z.cells.size = size) (hsz : 0 < size)
    (v : Value) (n : Nat) (cs : List Value) (hs : a.eval s = v) (hown : w.ownsRow base e size v n cs)
    (enc : α → List Value) (hk : ∀ y, (enc y).length = size) (h1 : ∀ y, ∀ u ∈ enc y, u.oneCell' = true)
    (A : Option Addr) (m c : Nat) (ys : List α) (hx : a.eval x = .slice A m c) (hm : ys.length = m) (hr : Sl size enc w A ys)
    (h63 : n + m ≤ maxLen) (hbytes : (n + m) * bytes ≤ 140737488355328) (hbase : base ≤ w.heap.size)
    (h : ∀ v' w', w'.ownsRow base e size v' (n + m) (cs ++ ys.flatMap enc) → w.grownBy w' v.ownBlock → (v'.ownBlock = v.ownBlock ∨ v'.ownBlock = some w.heap.size) → wpList P ops Q rest (a.put o.dst v') w') : wpList P ops Q (o :: rest) a w := by
  subst hm
  cases A with
  | none =>
    have hy : ys = [] := by
      by_cases hy : ys = []
      · exact hy
      · obtain ⟨b, off, e, _⟩ := hr.cell hy
        cases e
    subst hy
    refine wpList_plain hgd fun K hK => ?_
    have hrun := append_nothing (P := P) w base t o.type e i size ht hi v n cs hown c
    unfold Oper.wp execOp
    simp only [ho, resolve, invoke, builtin, Sem.run_bind, Sem.run_pure, Result.andThen_ok, List.map_toArray, List.map_cons, List.map_nil, hs, hx]
    rw [show ([] : List α).length = 0 from rfl, hrun]
    exact hK _ _ (h v w (by simpa using hown) (World.grownBy.refl w _) (.inl rfl))
  | some ad =>
    refine wpList_append_own_at (P := P) w hgd s x t ho base e i z size bytes ht hi hz hsize hby hzs hsz v n cs hs hown ad ys.length c (ys.flatMap enc) hx (flat_length hk ys) (fun j u hj => hr.flat hk hsz rfl j u hj) (fun u hu => ?_) h63 hbytes hbase fun v' w' h2 h3 _ h5 => h v' w' h2 h3 h5
    obtain ⟨y, _, hy⟩ := List.mem_flatMap.1 hu
    exact h1 y u hy

/-- What is old stays below an append onto a row of the call's own. -/
theorem below_append {B : Nat} {w w1 w2 : World} {v : Value} {base : Nat} {e : TypeId} {k n : Nat} {cs : List Value} (hb : Below B w w1) (hg : w1.grownBy w2 v.ownBlock) (hB : B ≤ w1.heap.size) (ho : w1.ownsRow base e k v n cs) (hbase : B ≤ base) : Below B w w2 :=
  hb.grown hg hB (fun k hk => Nat.le_trans hbase (ho.lt k hk).1)
end Go.Proofs.Ytcjlpgpmoleidaa
