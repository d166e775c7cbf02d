/- What the walk of cache.Put uses: the state of its body, its regions. -/
import Derived.Test.YtdndanjabknjpaaS
namespace Go.Proofs.Ytdndanjabknjpaa
open Go.RowKit Go.Lib
set_option linter.unusedVariables false
attribute [local go_sem] Act.puts
theorem sl_block {g g' n d : Nat} (e : (Value.slice (some ⟨g, 0, none⟩) n d).ownBlock = some g') : g = g' := by simpa [Value.ownBlock] using e
/-- A cache that is handed back, of the call's own, beside a line and an error's number. -/
def GivesP (w : World) (r : Ca × Ln × Int) (e : Ending) (w' : World) : Prop :=
  ∃ B d, e = .returned (.tuple #[.agg #[.int .i64 r.1.sets, .int .i64 r.1.ways, .int .i64 r.1.clock, .slice B r.1.lines.length d], .agg #[.int .i64 r.2.1.addr, .int .i64 r.2.1.state, .int .u32 r.2.1.val_, .int .i64 r.2.1.used], .int .i64 r.2.2]) ∧ (∃ hs, OwnC w' w.heap.size (.slice B r.1.lines.length d) r.1.lines.length r.1.lines hs) ∧ Below w.heap.size w w'
def pushC (x : Ca) (l : List Ln) : List Ln × Ln := if (l.length : Int) = x.ways then (l.filter (fun y => !decide (y = minD l)), minD l) else (l, zeroL)
def putC (x : Ca) (t st v : Int) : Ca × Ln × Int :=
  if mayC x t = true ∧ 1 ≤ st ∧ st ≤ 4 then
    (if idxA (setOf x t) t < 0 then (⟨x.sets, x.ways, x.clock + 1, x.lines.set (t.tmod x.sets).toNat ((pushC x (setOf x t)).1 ++ [⟨t, st, v, x.clock + 1⟩])⟩, (pushC x (setOf x t)).2, 0)
      else (⟨x.sets, x.ways, x.clock + 1, x.lines.set (t.tmod x.sets).toNat ((setOf x t).set (idxA (setOf x t) t).toNat ⟨t, st, v, x.clock + 1⟩)⟩, zeroL, 0))
  else (x, zeroL, 1)
/-- Where Put stands in its body. -/
structure PutS (w : World) (W0s DX OX g n d : Nat) (x : Ca) (ls : List (List Ln)) (out : Ln) (wz : World) (hs : List Hd) : Prop where
  D : Bx wz DX [.int .i64 x.sets, .int .i64 x.ways, .int .i64 x.clock, .slice (some ⟨g, 0, none⟩) n d]
  O : Bx wz OX (Ln.enc out)
  X8 : Bx wz (w.heap.size + 1) [.int .i64 0, .int .i64 0, .int .i64 0, .slice none 0 0]
  X9 : Bx wz (w.heap.size + 2) (Ln.enc zeroL)
  own : OwnC wz W0s (.slice (some ⟨g, 0, none⟩) n d) n ls hs
  rows : ∀ j, j < n → ∀ b, hs[j]!.val.ownBlock = some b → b ≠ DX ∧ b ≠ OX
  b : Below w.heap.size w wz
  num : w.heap.size + 2 < W0s ∧ W0s ≤ DX ∧ DX < OX ∧ g ≠ DX ∧ g ≠ OX ∧ W0s ≤ g
section
variable {w wz w' : World} {W0s DX OX g n d : Nat} {x : Ca} {ls : List (List Ln)} {out : Ln} {hs : List Hd}
theorem PutS.below (h : PutS w W0s DX OX g n d x ls out wz hs) (hb : Below wz.heap.size wz w') : PutS w W0s DX OX g n d x ls out w' hs :=
  ⟨h.D.below hb, h.O.below hb, h.X8.below hb, h.X9.below hb, h.own.below hb, h.rows, h.b.trans (hb.mono h.b.size), h.num⟩
theorem Bx.kept {X : Nat} {cs : List Value} {row : Option Nat} (h : Bx wz X cs) (hg : wz.grownBy w' row) (hne : row ≠ some X) : Bx w' X cs := by
  have hk : w'.heap[X]? = wz.heap[X]? := hg.block X h.lt (Ne.symm hne)
  exact ⟨fun i v hi => (World.cell?_of_block (w := wz) (a := ⟨X, i, none⟩) hk).trans (h.cell i v hi), fun i => (World.frozen?_of_block (w := wz) (a := ⟨X, i, none⟩) hk).trans (h.froz i), Nat.lt_of_lt_of_le h.lt hg.size⟩
/-- A set is set anew. -/
theorem PutS.swap {s m c : Nat} {B : Option Addr} {l : List Ln} (h : PutS w W0s DX OX g n d x ls out wz hs) (hsn : s < n) (hg : wz.grownBy w' hs[s]!.val.ownBlock)
    (hr : w'.ownsRow W0s 32 4 (.slice B m c) m (l.flatMap Ln.enc)) (hl : l.length = m) (hb : (Value.slice B m c).ownBlock = hs[s]!.val.ownBlock ∨ (Value.slice B m c).ownBlock = none ∨ ∃ X, (Value.slice B m c).ownBlock = some X ∧ wz.heap.size ≤ X) :
    PutS w W0s DX OX g n d x (ls.set s l) out (w'.setCell ⟨g, s, none⟩ (.slice B m c)) (hs.set s ⟨B, m, c⟩) := by
  obtain ⟨n1, n2, n3, n4, n5, n6⟩ := h.num
  have lD := h.D.lt
  have lO := h.O.lt
  have hrw : ∀ b, hs[s]!.val.ownBlock = some b → b ≠ DX ∧ b ≠ OX ∧ W0s ≤ b := fun b e => ⟨(h.rows s hsn b e).1, (h.rows s hsn b e).2, ((h.own.inner s hsn).2.lt b e).1⟩
  have kp : ∀ {X : Nat} {cs : List Value}, Bx wz X cs → (∀ b, hs[s]!.val.ownBlock = some b → b ≠ X) → g ≠ X → Bx (w'.setCell ⟨g, s, none⟩ (.slice B m c)) X cs := fun hX hne hgX => (hX.kept hg (fun e => hne _ e rfl)).far hgX _ _
  refine ⟨kp h.D (fun b e => (hrw b e).1) n4, kp h.O (fun b e => (hrw b e).2.1) n5, kp h.X8 (fun b e => by have := (hrw b e).2.2; omega) (by omega), kp h.X9 (fun b e => by have := (hrw b e).2.2; omega) (by omega),
    h.own.swap hsn hg hr hl hb, fun j hj b e => ?_, (h.b.grown hg h.b.size (fun k hk => by have := (hrw k hk).2.2; omega)).setCell (p := ⟨g, s, none⟩) (by show w.heap.size ≤ g; omega) _, h.num⟩
  rw [setGet] at e
  by_cases hjs : s = j ∧ j < hs.length
  · rw [if_pos hjs] at e
    have e2 : (Value.slice B m c).ownBlock = some b := e
    rcases hb with h1 | h1 | ⟨X, h1, h2⟩
    · rw [h1] at e2; exact h.rows s hsn b e2
    · rw [h1] at e2; cases e2
    · rw [h1] at e2
      obtain rfl : X = b := by simpa using e2
      omega
  · rw [if_neg hjs] at e
    exact h.rows j hj b e
/-- What goes out is laid down. -/
theorem PutS.setO (h : PutS w W0s DX OX g n d x ls out wz hs) (y : Ln) : PutS w W0s DX OX g n d x ls y ((((wz.setCell ⟨OX, 0, none⟩ (.int .i64 y.addr)).setCell ⟨OX, 1, none⟩ (.int .i64 y.state)).setCell ⟨OX, 2, none⟩ (.int .u32 y.val_)).setCell ⟨OX, 3, none⟩ (.int .i64 y.used)) hs := by
  obtain ⟨n1, n2, n3, n4, n5, n6⟩ := h.num
  have hg : ∀ {W : World}, wz.grownBy W (some OX) → ∀ (j : Nat) (u : Value), wz.grownBy (W.setCell ⟨OX, j, none⟩ u) (some OX) := fun hw j u => grown_set hw u
  have hG := hg (hg (hg (hg (World.grownBy.refl wz _) 0 (.int .i64 y.addr)) 1 (.int .i64 y.state)) 2 (.int .u32 y.val_)) 3 (.int .i64 y.used)
  refine ⟨h.D.grown hG (by omega), ?_, h.X8.grown hG (by omega), h.X9.grown hG (by omega), h.own.keep hG (fun g' e => by rw [← sl_block e]; exact n5) (fun j hj b e => (h.rows j hj b e).2), h.rows, ?_, h.num⟩
  · exact (((h.O.set 0 (.int .i64 y.addr) (by simp [Ln.enc])).set 1 (.int .i64 y.state) (by simp [Ln.enc])).set 2 (.int .u32 y.val_) (by simp [Ln.enc])).set 3 (.int .i64 y.used) (by simp [Ln.enc])
  · exact (((h.b.setCell (p := ⟨OX, 0, none⟩) (by show w.heap.size ≤ OX; omega) _).setCell (p := ⟨OX, 1, none⟩) (by show w.heap.size ≤ OX; omega) _).setCell (p := ⟨OX, 2, none⟩) (by show w.heap.size ≤ OX; omega) _).setCell (p := ⟨OX, 3, none⟩) (by show w.heap.size ≤ OX; omega) _
/-- A line's cell is set. -/
theorem PutS.line {s k r b m c : Nat} (h : PutS w W0s DX OX g n d x ls out wz hs) (hsn : s < n) (hk : k < ls[s]!.length) (hr : r < 4) (e : hs[s]! = ⟨some ⟨b, 0, none⟩, m, c⟩) (u : Value) (y : Ln) (hy : Ln.enc y = (Ln.enc ls[s]![k]!).set r u) :
    PutS w W0s DX OX g n d x (ls.set s (ls[s]!.set k y)) out (wz.setCell ⟨b, k * 4 + r, none⟩ u) hs := by
  obtain ⟨n1, n2, n3, n4, n5, n6⟩ := h.num
  have h1 := h.rows s hsn b (by rw [e]; rfl)
  have h2 := ((h.own.inner s hsn).2.lt b (by rw [e]; rfl)).1
  exact ⟨h.D.far h1.1 _ _, h.O.far h1.2 _ _, h.X8.far (by omega) _ _, h.X9.far (by omega) _ _, h.own.line hsn hk hr e u y hy, h.rows, h.b.setCell (p := ⟨b, k * 4 + r, none⟩) (by show w.heap.size ≤ b; omega) u, h.num⟩
/-- The clock goes on. -/
theorem PutS.tick (h : PutS w W0s DX OX g n d x ls out wz hs) : PutS w W0s DX OX g n d ⟨x.sets, x.ways, x.clock + 1, x.lines⟩ ls out (wz.setCell ⟨DX, 2, none⟩ (.int .i64 (x.clock + 1))) hs := by
  obtain ⟨n1, n2, n3, n4, n5, n6⟩ := h.num
  have hG := grown_set (j := 2) (World.grownBy.refl wz (some DX)) (.int .i64 (x.clock + 1))
  exact ⟨h.D.set 2 (.int .i64 (x.clock + 1)) (by simp), h.O.far (by omega) _ _, h.X8.far (by omega) _ _, h.X9.far (by omega) _ _, h.own.keep hG (fun g' e => by rw [← sl_block e]; exact n4) (fun j hj b e => (h.rows j hj b e).1), h.rows, h.b.setCell (p := ⟨DX, 2, none⟩) (by show w.heap.size ≤ DX; omega) _, h.num⟩
theorem setSelf {α : Type} [Inhabited α] (l : List α) (i : Nat) (x : α) (hi : i < l.length) : (l.set i x)[i]! = x := by rw [setGet, if_pos ⟨rfl, hi⟩]
/-- A line is written whole, and used. -/
theorem PutS.done {s k b m c : Nat} (h : PutS w W0s DX OX g n d x ls out wz hs) (hsn : s < n) (hk : k < ls[s]!.length) (e : hs[s]! = ⟨some ⟨b, 0, none⟩, m, c⟩) (st v : Int) :
    PutS w W0s DX OX g n d ⟨x.sets, x.ways, x.clock + 1, x.lines⟩ (ls.set s (ls[s]!.set k ⟨ls[s]![k]!.addr, st, v, x.clock + 1⟩)) out ((((wz.setCell ⟨b, k * 4 + 1, none⟩ (.int .i64 st)).setCell ⟨b, k * 4 + 2, none⟩ (.int .u32 v)).setCell ⟨DX, 2, none⟩ (.int .i64 (x.clock + 1))).setCell ⟨b, k * 4 + 3, none⟩ (.int .i64 (x.clock + 1))) hs := by
  have hls : s < ls.length := by rw [h.own.num]; exact hsn
  have h1 := h.line hsn hk (show 1 < 4 by decide) e (.int .i64 st) ⟨ls[s]![k]!.addr, st, ls[s]![k]!.val_, ls[s]![k]!.used⟩ rfl
  have e1 := setSelf ls s (ls[s]!.set k ⟨ls[s]![k]!.addr, st, ls[s]![k]!.val_, ls[s]![k]!.used⟩) hls
  have f1 := setSelf ls[s]! k ⟨ls[s]![k]!.addr, st, ls[s]![k]!.val_, ls[s]![k]!.used⟩ hk
  have h2 := h1.line hsn (k := k) (by rw [e1, List.length_set]; exact hk) (show 2 < 4 by decide) e (.int .u32 v) ⟨ls[s]![k]!.addr, st, v, ls[s]![k]!.used⟩ (by rw [e1, f1]; rfl)
  rw [e1, List.set_set, List.set_set] at h2
  have e2 := setSelf ls s (ls[s]!.set k ⟨ls[s]![k]!.addr, st, v, ls[s]![k]!.used⟩) hls
  have f2 := setSelf ls[s]! k ⟨ls[s]![k]!.addr, st, v, ls[s]![k]!.used⟩ hk
  have h3 := h2.tick.line hsn (k := k) (by rw [e2, List.length_set]; exact hk) (show 3 < 4 by decide) e (.int .i64 (x.clock + 1)) ⟨ls[s]![k]!.addr, st, v, x.clock + 1⟩ (by rw [e2, f2]; rfl)
  rw [e2, List.set_set, List.set_set] at h3
  exact h3
/-- The header of one set, empty or not. -/
theorem OwnC.hdr {w : World} {base n s : Nat} {V : Value} {ls : List (List Ln)} {hs : List Hd} (h : OwnC w base V n ls hs) (hsn : s < n) : ∃ B m c, hs[s]! = ⟨B, m, c⟩ ∧ ls[s]!.length = m ∧ m ≤ c ∧ w.ownsRow base 32 4 (.slice B m c) m (ls[s]!.flatMap Ln.enc) := by
  obtain ⟨h1, h2⟩ := h.inner s hsn
  generalize hs[s]! = hd at *
  obtain ⟨A, m, c⟩ := hd
  exact ⟨A, m, c, rfl, h1.symm, (own_cap h2).1, h2⟩
theorem OwnC.cellAt {w : World} {base n s g d m c : Nat} {B : Option Addr} {ls : List (List Ln)} {hs : List Hd} (h : OwnC w base (.slice (some ⟨g, 0, none⟩) n d) n ls hs) (hsn : s < n) (e : hs[s]! = ⟨B, m, c⟩) : w.cell? ⟨g, s, none⟩ = some (.slice B m c) :=
  own_cell h.outer s _ (by have := flat_at Hd.enc_len hs s 0 (.slice B m c) (by rw [h.len]; exact hsn) (by rw [e]; rfl); simpa using this)
end
structure PhR (w0 : World) (base DX OX g bq n d m c2 s k : Nat) (l : List Ln) (mo : Ln) (hs : List Hd) (L : Nat → Bool) (u50 u51 u52 u53 u54 u55 u56 u57 u58 u49 u59 u60 u61 : Value) (wz : World) : Prop where
  b : True
  s0 : L 0 = true → u50 = .pointer (some ⟨DX, 3, none⟩)
  s1 : L 1 = true → u51 = .slice (some ⟨g, 0, none⟩) n d
  s2 : L 2 = true → u52 = .int .i64 (s : Int)
  s3 : L 3 = true → u53 = .pointer (some ⟨DX, 3, none⟩)
  s4 : L 4 = true → u54 = .slice (some ⟨g, 0, none⟩) n d
  s5 : L 5 = true → u55 = .int .i64 (s : Int)
  s6 : L 6 = true → u56 = .pointer (some ⟨g, s, none⟩)
  s7 : L 7 = true → u57 = .slice (some ⟨bq, 0, none⟩) m c2
  s8 : L 8 = true → u58 = .tuple #[.slice (some ⟨bq, 0, none⟩) k c2, .agg #[.int .i64 mo.addr, .int .i64 mo.state, .int .u32 mo.val_, .int .i64 mo.used]]
  s9 : L 9 = true → u49 = .tuple #[.slice (some ⟨bq, 0, none⟩) k c2, .agg #[.int .i64 mo.addr, .int .i64 mo.state, .int .u32 mo.val_, .int .i64 mo.used]]
  s10 : L 10 = true → u59 = .slice (some ⟨bq, 0, none⟩) k c2
  s11 : L 11 = true → u60 = .agg #[.int .i64 mo.addr, .int .i64 mo.state, .int .u32 mo.val_, .int .i64 mo.used]
  s12 : L 12 = true → u61 = .pointer (some ⟨g, s, none⟩)
  d3 : wz.cell? ⟨DX, 3, none⟩ = some (.slice (some ⟨g, 0, none⟩) n d)
  ox : Bx wz OX (Ln.enc zeroL)
  h3 : L 13 = false → wz.cell? ⟨g, s, none⟩ = some (.slice (some ⟨bq, 0, none⟩) m c2)
  fg : L 13 = false → wz.frozen? ⟨g, s, none⟩ = false
  o0 : L 8 = false → wz.ownsRow base 32 4 (.slice (some ⟨bq, 0, none⟩) m c2) m (l.flatMap Ln.enc)
  o1 : L 8 = true → L 13 = false → wz.ownsRow base 32 4 (.slice (some ⟨bq, 0, none⟩) k c2) k ((l.filter fun y => !decide (y = mo)).flatMap Ln.enc)
  g0 : L 13 = false → w0.grownBy wz (some bq)
  g1 : L 13 = true → ∃ wq, wz = wq.setCell ⟨g, s, none⟩ (.slice (some ⟨bq, 0, none⟩) k c2) ∧ w0.grownBy wq (some bq) ∧ wq.ownsRow base 32 4 (.slice (some ⟨bq, 0, none⟩) k c2) k ((l.filter fun y => !decide (y = mo)).flatMap Ln.enc)
def PhRPhi (w0 : World) (base DX OX g bq n d m c2 s k : Nat) (l : List Ln) (mo : Ln) (hs : List Hd) (L : Nat → Bool) (vs : List Value) (w' : World) : Prop :=
  ∃ u50 u51 u52 u53 u54 u55 u56 u57 u58 u49 u59 u60 u61 wz, vs = [u50, u51, u52, u53, u54, u55, u56, u57, u58, u49, u59, u60, u61] ∧ PhR w0 base DX OX g bq n d m c2 s k l mo hs L u50 u51 u52 u53 u54 u55 u56 u57 u58 u49 u59 u60 u61 wz ∧ w' = if L 14 = true then (((wz.setCell ⟨OX, 0, none⟩ (.int .i64 mo.addr)).setCell ⟨OX, 1, none⟩ (.int .i64 mo.state)).setCell ⟨OX, 2, none⟩ (.int .u32 mo.val_)).setCell ⟨OX, 3, none⟩ (.int .i64 mo.used) else wz
structure PaR (w0 : World) (base DX g n d m c2 s : Nat) (B : Option Addr) (l : List Ln) (t : Int) (L : Nat → Bool) (u62 u63 u64 u65 u66 u67 u68 u69 u70 u71 u72 u73 u74 : Value) (wz : World) : Prop where
  b : w0.grownBy wz (Value.slice B m c2).ownBlock
  s0 : L 0 = true → u62 = .pointer (some ⟨DX, 3, none⟩)
  s1 : L 1 = true → u63 = .slice (some ⟨g, 0, none⟩) n d
  s2 : L 2 = true → u64 = .int .i64 (s : Int)
  s3 : L 3 = true → u65 = .pointer (some ⟨DX, 3, none⟩)
  s4 : L 4 = true → u66 = .slice (some ⟨g, 0, none⟩) n d
  s5 : L 5 = true → u67 = .int .i64 (s : Int)
  s6 : L 6 = true → u68 = .pointer (some ⟨g, s, none⟩)
  s7 : L 7 = true → u69 = .slice B m c2
  s8 : L 8 = true → u70 = .int .i64 t
  s9 : L 9 = true → u71 = .agg #[.int .i64 t, .int .i64 0, .int .u32 0, .int .i64 0]
  s10 : L 10 = true → L 11 = false → ∃ X, u72 = .slice (some ⟨X, 0, none⟩) 1 1 ∧ X < wz.heap.size ∧ w0.heap.size ≤ X ∧ Lay wz X [.int .i64 t, .int .i64 0, .int .u32 0, .int .i64 0]
  s11 : L 11 = true → ∃ B' c', u73 = .slice B' (m + 1) c' ∧ wz.ownsRow base 32 4 (.slice B' (m + 1) c') (m + 1) (l.flatMap Ln.enc ++ [.int .i64 t, .int .i64 0, .int .u32 0, .int .i64 0]) ∧ ((Value.slice B' (m + 1) c').ownBlock = (Value.slice B m c2).ownBlock ∨ ∃ X, (Value.slice B' (m + 1) c').ownBlock = some X ∧ w0.heap.size ≤ X)
  s12 : L 12 = true → u74 = .pointer (some ⟨g, s, none⟩)
  d3 : wz.cell? ⟨DX, 3, none⟩ = some (.slice (some ⟨g, 0, none⟩) n d)
  h3 : wz.cell? ⟨g, s, none⟩ = some (.slice B m c2)
  fg : wz.frozen? ⟨g, s, none⟩ = false
  o0 : L 11 = false → wz.ownsRow base 32 4 (.slice B m c2) m (l.flatMap Ln.enc)
def PaRPhi (w0 : World) (base DX g n d m c2 s : Nat) (B : Option Addr) (l : List Ln) (t : Int) (L : Nat → Bool) (vs : List Value) (w' : World) : Prop :=
  ∃ u62 u63 u64 u65 u66 u67 u68 u69 u70 u71 u72 u73 u74 wz, vs = [u62, u63, u64, u65, u66, u67, u68, u69, u70, u71, u72, u73, u74] ∧ PaR w0 base DX g n d m c2 s B l t L u62 u63 u64 u65 u66 u67 u68 u69 u70 u71 u72 u73 u74 wz ∧ w' = if L 13 = true then wz.setCell ⟨g, s, none⟩ u73 else wz
structure OutR (w0 : World) (DX OX E1 E2 g n d : Nat) (x : Ca) (out : Ln) (L : Nat → Bool) (u99 u100 u10 : Value) (wz : World) : Prop where
  b : True
  s0 : L 0 = true → u99 = .agg #[.int .i64 x.sets, .int .i64 x.ways, .int .i64 x.clock, .slice (some ⟨g, 0, none⟩) n d]
  s1 : L 1 = true → u100 = .agg #[.int .i64 out.addr, .int .i64 out.state, .int .u32 out.val_, .int .i64 out.used]
  s4 : L 4 = true → u10 = .int .i64 0
  dd : Bx wz DX [.int .i64 x.sets, .int .i64 x.ways, .int .i64 x.clock, .slice (some ⟨g, 0, none⟩) n d]
  oo : Bx wz OX (Ln.enc out)
  x8 : L 2 = false → Bx wz E1 [.int .i64 0, .int .i64 0, .int .i64 0, .slice none 0 0]
  x9 : L 3 = false → Bx wz E2 (Ln.enc zeroL)
  m0 : L 2 = false → wz = w0
  m1 : L 2 = true → L 3 = false → wz = ((((w0.setCell ⟨E1, 0, none⟩ (.int .i64 x.sets)).setCell ⟨E1, 1, none⟩ (.int .i64 x.ways)).setCell ⟨E1, 2, none⟩ (.int .i64 x.clock)).setCell ⟨E1, 3, none⟩ (.slice (some ⟨g, 0, none⟩) n d))
  m2 : L 3 = true → wz = ((((((((w0.setCell ⟨E1, 0, none⟩ (.int .i64 x.sets)).setCell ⟨E1, 1, none⟩ (.int .i64 x.ways)).setCell ⟨E1, 2, none⟩ (.int .i64 x.clock)).setCell ⟨E1, 3, none⟩ (.slice (some ⟨g, 0, none⟩) n d)).setCell ⟨E2, 0, none⟩ (.int .i64 out.addr)).setCell ⟨E2, 1, none⟩ (.int .i64 out.state)).setCell ⟨E2, 2, none⟩ (.int .u32 out.val_)).setCell ⟨E2, 3, none⟩ (.int .i64 out.used))
def OutRPhi (w0 : World) (DX OX E1 E2 g n d : Nat) (x : Ca) (out : Ln) (L : Nat → Bool) (vs : List Value) (w' : World) : Prop :=
  ∃ u99 u100 u10 wz, vs = [u99, u100, u10] ∧ OutR w0 DX OX E1 E2 g n d x out L u99 u100 u10 wz ∧ wz = w'
end Go.Proofs.Ytdndanjabknjpaa
