/- Walks of link: Get, the way that takes a piece in. -/
import Derived.Test.YtjnpdicoopgkoaaI
namespace Go.Proofs.Ytjnpdicoopgkoaa
open Go.RowKit Go.Lib
set_option linter.unusedVariables false
attribute [local go_sem] Act.puts

/-- The loop of Get: the getter in the variable X, its lists, the result's variable. -/
structure GetL (w : World) (base X : Nat) (W : World) (nx : Int) (ea : List Pce) (ca : List Wrd) (n m : Nat) (A : Option Addr) (c : Nat) (B : Option Addr) (d : Nat) : Prop where
  x0 : W.cell? ⟨X, 0, none⟩ = some (.int .i64 nx)
  x1 : W.cell? ⟨X, 1, none⟩ = some (.slice A n c)
  x2 : W.cell? ⟨X, 2, none⟩ = some (.slice B m d)
  f0 : W.frozen? ⟨X, 0, none⟩ = false
  f1 : W.frozen? ⟨X, 1, none⟩ = false
  f2 : W.frozen? ⟨X, 2, none⟩ = false
  r0 : W.cell? ⟨w.heap.size + 1 + 1, 0, none⟩ = some (.int .i64 0)
  r1 : W.cell? ⟨w.heap.size + 1 + 1, 1, none⟩ = some (.slice none 0 0)
  r2 : W.cell? ⟨w.heap.size + 1 + 1, 2, none⟩ = some (.slice none 0 0)
  fr0 : W.frozen? ⟨w.heap.size + 1 + 1, 0, none⟩ = false
  fr1 : W.frozen? ⟨w.heap.size + 1 + 1, 1, none⟩ = false
  fr2 : W.frozen? ⟨w.heap.size + 1 + 1, 2, none⟩ = false
  hi : X < W.heap.size
  bs : w.heap.size + 1 + 1 < base
  bX : base ≤ X
  es : Sl 2 Pce.enc W A ea
  hn : ea.length = n
  hnc : n ≤ c
  hc : c ≤ 9223372036854775807
  own : W.ownsRow base 32 1 (.slice B m d) m (ca.flatMap Wrd.enc)
  hm : ca.length = m
  neC : (Value.slice B m d).ownBlock ≠ some X
  off : ∀ a, A = some a → (Value.slice B m d).ownBlock ≠ some a.block ∧ a.block ≠ X ∧ base ≤ a.block ∧ a.block < W.heap.size
  b : Below w.heap.size w W
section
variable {w W : World} {base X n m c d : Nat} {nx : Int} {ea : List Pce} {ca : List Wrd} {A B : Option Addr}
theorem GetL.drewN (h : GetL w base X W nx ea ca n m A c B d) (k : Nat) : GetL w base X (W.drewN k) nx ea ca n m A c B d :=
  ⟨h.x0, h.x1, h.x2, h.f0, h.f1, h.f2, h.r0, h.r1, h.r2, h.fr0, h.fr1, h.fr2, h.hi, h.bs, h.bX, ⟨h.es.big, h.es.cell⟩, h.hn, h.hnc, h.hc, h.own, h.hm, h.neC, h.off, bdrewN h.b k⟩
theorem GetL.drew (h : GetL w base X W nx ea ca n m A c B d) : GetL w base X W.drew nx ea ca n m A c B d :=
  ⟨h.x0, h.x1, h.x2, h.f0, h.f1, h.f2, h.r0, h.r1, h.r2, h.fr0, h.fr1, h.fr2, h.hi, h.bs, h.bX, ⟨h.es.big, h.es.cell⟩, h.hn, h.hnc, h.hc, h.own, h.hm, h.neC, h.off, h.b.drew⟩
/-- The early ones are set: another slice. -/
theorem GetL.setE (h : GetL w base X W nx ea ca n m A c B d) {A' : Option Addr} {n' c' : Nat} {ea' : List Pce} (es : Sl 2 Pce.enc W A' ea') (hn : ea'.length = n') (hnc : n' ≤ c') (hc : c' ≤ 9223372036854775807)
    (off : ∀ a, A' = some a → (Value.slice B m d).ownBlock ≠ some a.block ∧ a.block ≠ X ∧ base ≤ a.block ∧ a.block < W.heap.size) :
    GetL w base X (W.setCell ⟨X, 1, none⟩ (.slice A' n' c')) nx ea' ca n' m A' c' B d := by
  obtain ⟨x0, x1, x2, f0, f1, f2, r0, r1, r2, fr0, fr1, fr2, hi, bs, bX, _, _, _, _, own, hm, neC, _, b⟩ := h
  have hX : X ≠ w.heap.size + 1 + 1 := by omega
  exact ⟨by go_simp, by go_simp, by go_simp, by go_simp, by go_simp, by go_simp, by go_simp, by go_simp, by go_simp, by go_simp, by go_simp, by go_simp, by simpa using hi, bs, bX,
    es.setFar (q := ⟨X, 1, none⟩) (fun _ a e => (off a e).2.1) _, hn, hnc, hc, ownsRow_setCell_other (a := ⟨X, 1, none⟩) own neC _, hm, neC, by simpa using off, b.setCell (p := ⟨X, 1, none⟩) (by show w.heap.size ≤ X; omega) _⟩
theorem GetL.setN (h : GetL w base X W nx ea ca n m A c B d) (nx' : Int) : GetL w base X (W.setCell ⟨X, 0, none⟩ (.int .i64 nx')) nx' ea ca n m A c B d := by
  obtain ⟨x0, x1, x2, f0, f1, f2, r0, r1, r2, fr0, fr1, fr2, hi, bs, bX, es, hn, hnc, hc, own, hm, neC, off, b⟩ := h
  have hX : X ≠ w.heap.size + 1 + 1 := by omega
  exact ⟨by go_simp, by go_simp, by go_simp, by go_simp, by go_simp, by go_simp, by go_simp, by go_simp, by go_simp, by go_simp, by go_simp, by go_simp, by simpa using hi, bs, bX,
    es.setFar (q := ⟨X, 0, none⟩) (fun _ a e => (off a e).2.1) _, hn, hnc, hc, ownsRow_setCell_other (a := ⟨X, 0, none⟩) own neC _, hm, neC, by simpa using off, b.setCell (p := ⟨X, 0, none⟩) (by show w.heap.size ≤ X; omega) _⟩
/-- What came has grown: it is another row, and is set. -/
theorem GetL.setC (h : GetL w base X W nx ea ca n m A c B d) {W' : World} {B' : Option Addr} {m' d' : Nat} {ca' : List Wrd} (hg : W.grownBy W' (Value.slice B m d).ownBlock)
    (own' : W'.ownsRow base 32 1 (.slice B' m' d') m' (ca'.flatMap Wrd.enc)) (hm : ca'.length = m') (hat : (Value.slice B' m' d').ownBlock = (Value.slice B m d).ownBlock ∨ ∀ k, (Value.slice B' m' d').ownBlock = some k → W.heap.size ≤ k) :
    GetL w base X (W'.setCell ⟨X, 2, none⟩ (.slice B' m' d')) nx ea ca' n m' A c B' d' := by
  obtain ⟨x0, x1, x2, f0, f1, f2, r0, r1, r2, fr0, fr1, fr2, hi, bs, bX, es, hn, hnc, hc, own, _, neC, off, b⟩ := h
  have hX : X ≠ w.heap.size + 1 + 1 := by omega
  have hR : (Value.slice B m d).ownBlock ≠ some (w.heap.size + 1 + 1) := fun e => by have := (own.lt _ e).1; omega
  have hbX : W'.heap[X]? = W.heap[X]? := hg.block X hi (Ne.symm neC)
  have hbR : W'.heap[w.heap.size + 1 + 1]? = W.heap[w.heap.size + 1 + 1]? := hg.block _ (by omega) (Ne.symm hR)
  have cX := fun j => World.cell?_of_block (w := W) (w' := W') (a := ⟨X, j, none⟩) hbX
  have zX := fun j => World.frozen?_of_block (w := W) (w' := W') (a := ⟨X, j, none⟩) hbX
  have cR := fun j => World.cell?_of_block (w := W) (w' := W') (a := ⟨w.heap.size + 1 + 1, j, none⟩) hbR
  have zR := fun j => World.frozen?_of_block (w := W) (w' := W') (a := ⟨w.heap.size + 1 + 1, j, none⟩) hbR
  have hs := hg.size
  have neC' : (Value.slice B' m' d').ownBlock ≠ some X := by
    rcases hat with e | e
    · rw [e]; exact neC
    · intro e2; have := e _ e2; omega
  have off' : ∀ a, A = some a → (Value.slice B' m' d').ownBlock ≠ some a.block ∧ a.block ≠ X ∧ base ≤ a.block ∧ a.block < W'.heap.size := fun a e => by
    obtain ⟨h1, h2, h3, h4⟩ := off a e
    refine ⟨?_, h2, h3, by omega⟩
    rcases hat with e | e
    · rw [e]; exact h1
    · intro e2; have := e _ e2; omega
  have es' : Sl 2 Pce.enc W' A ea := es.grown hg (fun _ a e => (off a e).1)
  replace x0 := (cX 0).trans x0
  replace x1 := (cX 1).trans x1
  replace x2 := (cX 2).trans x2
  replace f0 := (zX 0).trans f0
  replace f1 := (zX 1).trans f1
  replace f2 := (zX 2).trans f2
  replace r0 := (cR 0).trans r0
  replace r1 := (cR 1).trans r1
  replace r2 := (cR 2).trans r2
  replace fr0 := (zR 0).trans fr0
  replace fr1 := (zR 1).trans fr1
  replace fr2 := (zR 2).trans fr2
  have b' := b.grown hg b.size (fun k hk => Nat.le_trans (by omega) (own.lt k hk).1)
  clear cX zX cR zR hbX hbR hg
  exact ⟨by go_simp, by go_simp, by go_simp, by go_simp, by go_simp, by go_simp, by go_simp, by go_simp, by go_simp, by go_simp, by go_simp, by go_simp, by simp; omega, bs, bX,
    es'.setFar (q := ⟨X, 2, none⟩) (fun _ a e => (off a e).2.1) _, hn, hnc, hc, ownsRow_setCell_other (a := ⟨X, 2, none⟩) own' neC' _, hm, neC', by simpa using off', b'.setCell (p := ⟨X, 2, none⟩) (by show w.heap.size ≤ X; omega) _⟩
theorem run_stop {nx : Int} {ea : List Pce} {ca : List Wrd} (h : ∀ x r, ea = x :: r → ¬ (x.num = nx ∧ nx < 1099511627776)) : runG nx ea ca = ⟨nx, ea, ca⟩ := by
  cases ea with
  | nil => rfl
  | cons x r => rw [runG, if_neg (h x r rfl)]
end
structure CameR (w0 : World) (base X : Nat) (A : Option Addr) (n c : Nat) (B : Option Addr) (m d : Nat) (ca : List Wrd) (bb off : Nat) (v : Int) (L : Nat → Bool) (u88 u89 u90 u91 u92 u93 u94 u95 u96 u97 : Value) (wz : World) : Prop where
  b : w0.grownBy wz (Value.slice B m d).ownBlock
  own0 : L 8 = false → wz.ownsRow base 32 1 (.slice B m d) m (ca.flatMap Wrd.enc)
  s0 : L 0 = true → u88 = .pointer (some ⟨X, 2, none⟩)
  s1 : L 1 = true → u89 = .slice B m d
  s2 : L 2 = true → u90 = .pointer (some ⟨X, 1, none⟩)
  s3 : L 3 = true → u91 = .slice A n c
  s4 : L 4 = true → u92 = .pointer (some ⟨bb, off, none⟩)
  s5 : L 5 = true → u93 = .pointer (some ⟨bb, off + 1, none⟩)
  s6 : L 6 = true → u94 = .int .u32 v
  s7 : L 7 = true → L 8 = false → ∃ Y, u95 = .slice (some ⟨Y, 0, none⟩) 1 1 ∧ Y < wz.heap.size ∧ Lay wz Y [.int .u32 v] ∧ (Value.slice B m d).ownBlock ≠ some Y
  s8 : L 8 = true → wz.ownsRow base 32 1 u96 (m + 1) (ca.flatMap Wrd.enc ++ [.int .u32 v])
  a8 : L 8 = true → u96.ownBlock = (Value.slice B m d).ownBlock ∨ ∀ k, u96.ownBlock = some k → w0.heap.size ≤ k
  s9 : L 9 = true → u97 = .pointer (some ⟨X, 2, none⟩)
def CameRPhi (w0 : World) (base X : Nat) (A : Option Addr) (n c : Nat) (B : Option Addr) (m d : Nat) (ca : List Wrd) (bb off : Nat) (v : Int) (L : Nat → Bool) (vs : List Value) (w' : World) : Prop :=
  ∃ u88 u89 u90 u91 u92 u93 u94 u95 u96 u97 wz, vs = [u88, u89, u90, u91, u92, u93, u94, u95, u96, u97] ∧ CameR w0 base X A n c B m d ca bb off v L u88 u89 u90 u91 u92 u93 u94 u95 u96 u97 wz ∧ w' = if L 10 = true then (match u97 with | .pointer (some a) => wz.setCell a u96 | _ => wz) else wz

theorem GetL.init {w W : World} {base X m d n' c' : Nat} {nx : Int} {ea : List Pce} {ca : List Wrd} {B A' : Option Addr} {v1 : Value}
    (x0 : W.cell? ⟨X, 0, none⟩ = some (.int .i64 nx)) (x1 : W.cell? ⟨X, 1, none⟩ = some v1) (x2 : W.cell? ⟨X, 2, none⟩ = some (.slice B m d))
    (f0 : W.frozen? ⟨X, 0, none⟩ = false) (f1 : W.frozen? ⟨X, 1, none⟩ = false) (f2 : W.frozen? ⟨X, 2, none⟩ = false)
    (r0 : W.cell? ⟨w.heap.size + 1 + 1, 0, none⟩ = some (.int .i64 0)) (r1 : W.cell? ⟨w.heap.size + 1 + 1, 1, none⟩ = some (.slice none 0 0)) (r2 : W.cell? ⟨w.heap.size + 1 + 1, 2, none⟩ = some (.slice none 0 0))
    (fr0 : W.frozen? ⟨w.heap.size + 1 + 1, 0, none⟩ = false) (fr1 : W.frozen? ⟨w.heap.size + 1 + 1, 1, none⟩ = false) (fr2 : W.frozen? ⟨w.heap.size + 1 + 1, 2, none⟩ = false)
    (hi : X < W.heap.size) (bs : w.heap.size + 1 + 1 < base) (bX : base ≤ X) (own : W.ownsRow base 32 1 (.slice B m d) m (ca.flatMap Wrd.enc)) (hm : ca.length = m) (neC : (Value.slice B m d).ownBlock ≠ some X) (b : Below w.heap.size w W)
    (es : Sl 2 Pce.enc W A' ea) (hn : ea.length = n') (hnc : n' ≤ c') (hc : c' ≤ 9223372036854775807)
    (off : ∀ a, A' = some a → (Value.slice B m d).ownBlock ≠ some a.block ∧ a.block ≠ X ∧ base ≤ a.block ∧ a.block < W.heap.size) :
    GetL w base X (W.setCell ⟨X, 1, none⟩ (.slice A' n' c')) nx ea ca n' m A' c' B d := by
  have hX : X ≠ w.heap.size + 1 + 1 := by omega
  exact ⟨by go_simp, by go_simp, by go_simp, by go_simp, by go_simp, by go_simp, by go_simp, by go_simp, by go_simp, by go_simp, by go_simp, by go_simp, by simpa using hi, bs, bX,
    es.setFar (q := ⟨X, 1, none⟩) (fun _ a e => (off a e).2.1) _, hn, hnc, hc, ownsRow_setCell_other (a := ⟨X, 1, none⟩) own neC _, hm, neC, by simpa using off, b.setCell (p := ⟨X, 1, none⟩) (by show w.heap.size ≤ X; omega) _⟩

set_option maxHeartbeats 16000000 in
theorem get_ok (A B : Option Addr) (c d n m : Nat) (g : Gtr) (p : Pce) (w : World) (hs : Sl 2 Pce.enc w A g.early) (hc : Sl 1 Wrd.enc w B g.came) (hn : g.early.length = n) (hm : g.came.length = m) (hn1 : n ≤ 1000000) (hm1 : m ≤ 1000000)
    (hr : gRight g = true) (hp : 0 ≤ p.num) (hp9 : p.num ≤ 9223372036854775807) (hM : g.next ≠ 1099511627776) (hl : g.next ≤ p.num) (hh : p.num < g.next + 16) (ht : thereG g.early p.num = false) :
    Calls Try.prog 7 #[.agg #[.int .i64 g.next, .slice A n c, .slice B m d], .agg #[.int .i64 p.num, .int .u32 p.val]] w (GaveG w (runG g.next (insG g.early p) g.came) (runG g.next (insG g.early p) g.came).next 0) := by
  have b0 : Below w.heap.size w (((w.alloc (.cells #[.int .i64 g.next, .slice A n c, .slice B m d] 29)).alloc (.cells #[.int .i64 p.num, .int .u32 p.val] 34)).alloc (.cells #[.int .i64 0, .slice none 0 0, .slice none 0 0] 29)).drew := ((((Below.refl _ _).alloc (Nat.le_refl _) _).alloc (by simp) _).alloc (by simp <;> omega) _).drew
  have e0 : (((w.alloc (.cells #[.int .i64 g.next, .slice A n c, .slice B m d] 29)).alloc (.cells #[.int .i64 p.num, .int .u32 p.val] 34)).alloc (.cells #[.int .i64 0, .slice none 0 0, .slice none 0 0] 29)).drew.cell? ⟨w.heap.size, 0, none⟩ = some (.int .i64 g.next) := by go_simp
  have e1 : (((w.alloc (.cells #[.int .i64 g.next, .slice A n c, .slice B m d] 29)).alloc (.cells #[.int .i64 p.num, .int .u32 p.val] 34)).alloc (.cells #[.int .i64 0, .slice none 0 0, .slice none 0 0] 29)).drew.cell? ⟨w.heap.size, 1, none⟩ = some (.slice A n c) := by go_simp
  have e2 : (((w.alloc (.cells #[.int .i64 g.next, .slice A n c, .slice B m d] 29)).alloc (.cells #[.int .i64 p.num, .int .u32 p.val] 34)).alloc (.cells #[.int .i64 0, .slice none 0 0, .slice none 0 0] 29)).drew.cell? ⟨w.heap.size, 2, none⟩ = some (.slice B m d) := by go_simp
  have p0 : (((w.alloc (.cells #[.int .i64 g.next, .slice A n c, .slice B m d] 29)).alloc (.cells #[.int .i64 p.num, .int .u32 p.val] 34)).alloc (.cells #[.int .i64 0, .slice none 0 0, .slice none 0 0] 29)).drew.cell? ⟨w.heap.size + 1, 0, none⟩ = some (.int .i64 p.num) := by go_simp
  have p1 : (((w.alloc (.cells #[.int .i64 g.next, .slice A n c, .slice B m d] 29)).alloc (.cells #[.int .i64 p.num, .int .u32 p.val] 34)).alloc (.cells #[.int .i64 0, .slice none 0 0, .slice none 0 0] 29)).drew.cell? ⟨w.heap.size + 1, 1, none⟩ = some (.int .u32 p.val) := by go_simp
  have r0 : (((w.alloc (.cells #[.int .i64 g.next, .slice A n c, .slice B m d] 29)).alloc (.cells #[.int .i64 p.num, .int .u32 p.val] 34)).alloc (.cells #[.int .i64 0, .slice none 0 0, .slice none 0 0] 29)).drew.cell? ⟨w.heap.size + 1 + 1, 0, none⟩ = some (.int .i64 0) := by go_simp
  have r1 : (((w.alloc (.cells #[.int .i64 g.next, .slice A n c, .slice B m d] 29)).alloc (.cells #[.int .i64 p.num, .int .u32 p.val] 34)).alloc (.cells #[.int .i64 0, .slice none 0 0, .slice none 0 0] 29)).drew.cell? ⟨w.heap.size + 1 + 1, 1, none⟩ = some (.slice none 0 0) := by go_simp
  have r2 : (((w.alloc (.cells #[.int .i64 g.next, .slice A n c, .slice B m d] 29)).alloc (.cells #[.int .i64 p.num, .int .u32 p.val] 34)).alloc (.cells #[.int .i64 0, .slice none 0 0, .slice none 0 0] 29)).drew.cell? ⟨w.heap.size + 1 + 1, 2, none⟩ = some (.slice none 0 0) := by go_simp
  have fr0 : (((w.alloc (.cells #[.int .i64 g.next, .slice A n c, .slice B m d] 29)).alloc (.cells #[.int .i64 p.num, .int .u32 p.val] 34)).alloc (.cells #[.int .i64 0, .slice none 0 0, .slice none 0 0] 29)).drew.frozen? ⟨w.heap.size + 1 + 1, 0, none⟩ = false := by go_simp
  have fr1 : (((w.alloc (.cells #[.int .i64 g.next, .slice A n c, .slice B m d] 29)).alloc (.cells #[.int .i64 p.num, .int .u32 p.val] 34)).alloc (.cells #[.int .i64 0, .slice none 0 0, .slice none 0 0] 29)).drew.frozen? ⟨w.heap.size + 1 + 1, 1, none⟩ = false := by go_simp
  have fr2 : (((w.alloc (.cells #[.int .i64 g.next, .slice A n c, .slice B m d] 29)).alloc (.cells #[.int .i64 p.num, .int .u32 p.val] 34)).alloc (.cells #[.int .i64 0, .slice none 0 0, .slice none 0 0] 29)).drew.frozen? ⟨w.heap.size + 1 + 1, 2, none⟩ = false := by go_simp
  have ltB : w.heap.size < (((w.alloc (.cells #[.int .i64 g.next, .slice A n c, .slice B m d] 29)).alloc (.cells #[.int .i64 p.num, .int .u32 p.val] 34)).alloc (.cells #[.int .i64 0, .slice none 0 0, .slice none 0 0] 29)).drew.heap.size := by simp <;> omega
  have ltP : w.heap.size + 1 < (((w.alloc (.cells #[.int .i64 g.next, .slice A n c, .slice B m d] 29)).alloc (.cells #[.int .i64 p.num, .int .u32 p.val] 34)).alloc (.cells #[.int .i64 0, .slice none 0 0, .slice none 0 0] 29)).drew.heap.size := by simp <;> omega
  have ltR : w.heap.size + 1 + 1 < (((w.alloc (.cells #[.int .i64 g.next, .slice A n c, .slice B m d] 29)).alloc (.cells #[.int .i64 p.num, .int .u32 p.val] 34)).alloc (.cells #[.int .i64 0, .slice none 0 0, .slice none 0 0] 29)).drew.heap.size := by simp <;> omega
  have cC := fun w1 (hb : Below (((w.alloc (.cells #[.int .i64 g.next, .slice A n c, .slice B m d] 29)).alloc (.cells #[.int .i64 p.num, .int .u32 p.val] 34)).alloc (.cells #[.int .i64 0, .slice none 0 0, .slice none 0 0] 29)).drew.heap.size (((w.alloc (.cells #[.int .i64 g.next, .slice A n c, .slice B m d] 29)).alloc (.cells #[.int .i64 p.num, .int .u32 p.val] 34)).alloc (.cells #[.int .i64 0, .slice none 0 0, .slice none 0 0] 29)).drew w1) => cloneP_any A c n g.early w1 (hs.below (b0.trans (hb.mono b0.size))) hn hn1
  have cW := fun w1 (hb : Below (((w.alloc (.cells #[.int .i64 g.next, .slice A n c, .slice B m d] 29)).alloc (.cells #[.int .i64 p.num, .int .u32 p.val] 34)).alloc (.cells #[.int .i64 0, .slice none 0 0, .slice none 0 0] 29)).drew.heap.size (((w.alloc (.cells #[.int .i64 g.next, .slice A n c, .slice B m d] 29)).alloc (.cells #[.int .i64 p.num, .int .u32 p.val] 34)).alloc (.cells #[.int .i64 0, .slice none 0 0, .slice none 0 0] 29)).drew w1) => cloneW_any B d m g.came w1 (hc.below (b0.trans (hb.mono b0.size))) hm hm1
  have cR := fun w1 (hb : Below w.heap.size w w1) => gRight_any A B c d n m g w1 (hs.below hb) hn
  obtain ⟨hg0, hg1, hnn, hge, hgl, hgs⟩ := gRight_facts hr
  have cS := fun (A' : Option Addr) (c' : Nat) w1 (h : Sl 2 Pce.enc w1 A' g.early) => search_any A' c' n g.early p.num w1 h hn hn1 hge hp hgl hp9 hgs
  rw [hr] at cR
  have zp : decide (p.num < 0) = false := decide_eq_false (by omega)
  have zM : (g.next == 1099511627776) = false := by rw [beq_eq_false_iff_ne]; exact hM
  clear hr hM hge hgl hgs hnn
  have zl : decide (p.num < g.next) = false := decide_eq_false (by omega)
  have zh : decide (g.next + 16 ≤ p.num) = false := decide_eq_false (by omega)
  have HT := Lib.hid ht
  clear hl hh ht
  have HN := Lib.hid hn
  have HM := Lib.hid hm
  clear hs hc hn hm
  go_enter Try.func7, Try.ntmps7
  go_wp2_with fail
  generalize (((w.alloc (.cells #[.int .i64 g.next, .slice A n c, .slice B m d] 29)).alloc (.cells #[.int .i64 p.num, .int .u32 p.val] 34)).alloc (.cells #[.int .i64 0, .slice none 0 0, .slice none 0 0] 29)) = W0 at *
  refine wp_region_rg (by kernel_rfl) (by kernel_rfl) [10, 11, 12, 13, 14, 15, 16, 17, 18, 7] (GetRPhi W0.drew w.heap.size A n c B m d g) ?h0 ⟨?q0, ?q1, ?q2, ?q3, ?q4, ?q5, ?q6, ?q7, ?q8, ?q9, ?q10, trivial⟩ ?hend
  case h0 => exact ⟨_, _, _, _, _, _, _, _, _, _, _, rfl, ⟨Below.refl _ _, (fun h => by cases h), (fun h => by cases h), (fun h => by cases h), (fun h => by cases h), (fun h => by cases h), (fun h => by cases h), (fun h => by cases h), (fun h => by cases h), (fun h => by cases h), (fun h => by cases h), (fun h => by cases h), (fun h => by cases h)⟩, rfl⟩
  case q0 =>
    rintro L vs w' K ⟨u10, u11, u12, u13, u14, u15, u16, u17, u18, u7, wz, rfl, φ, rfl⟩ hL hpre hcl hK G hG
    simp [Region.binds, closedFrom] at hpre hcl
    have hst : L 10 = false := by
      cases h : L 10 with
      | false => rfl
      | true => simp [h, hL] at hcl
    simp only [hst, Bool.false_eq_true, if_false] at hK hG
    have hk := hK [(.pointer (some ⟨w.heap.size, 0, none⟩)), u11, u12, u13, u14, u15, u16, u17, u18, u7] wz ⟨_, _, _, _, _, _, _, _, _, _, wz, rfl,
      { b := φ.b,
        s0 := fun _ => rfl,
        s1 := fun h0 => φ.s1 (by simpa using h0),
        s2 := fun h0 => φ.s2 (by simpa using h0),
        s3 := fun h0 => φ.s3 (by simpa using h0),
        s4 := fun h0 => φ.s4 (by simpa using h0),
        s5 := fun h0 => φ.s5 (by simpa using h0),
        s6 := fun h0 => φ.s6 (by simpa using h0),
        s7 := fun h0 => φ.s7 (by simpa using h0),
        s8 := fun h0 => φ.s8 (by simpa using h0),
        x9 := fun h0 => φ.x9 (by simpa using h0),
        d4 := fun h0 h1 => φ.d4 (by simpa using h0) (by simpa using h1),
        d7 := fun h0 h1 => φ.d7 (by simpa using h0) (by simpa using h1) }, by simp [hst]⟩
    refine hG ?_
    clear hK φ hG
    revert hk
    go_simp
    first | done | exact fun h => h
  case q1 =>
    rintro L vs w' K ⟨u10, u11, u12, u13, u14, u15, u16, u17, u18, u7, wz, rfl, φ, rfl⟩ hL hpre hcl hK G hG
    simp [Region.binds, closedFrom] at hpre hcl
    have hst : L 10 = false := by
      cases h : L 10 with
      | false => rfl
      | true => simp [h, hL] at hcl
    simp only [hst, Bool.false_eq_true, if_false] at hK hG
    obtain rfl := φ.s0 (by simp [hpre])
    have ce := (φ.b.cell (p := ⟨w.heap.size, 0, none⟩) ltB).trans e0
    have hk := hK [(.pointer (some ⟨w.heap.size, 0, none⟩)), (.int .i64 g.next), u12, u13, u14, u15, u16, u17, u18, u7] wz ⟨_, _, _, _, _, _, _, _, _, _, wz, rfl,
      { b := φ.b,
        s0 := fun h0 => φ.s0 (by simpa using h0),
        s1 := fun _ => rfl,
        s2 := fun h0 => φ.s2 (by simpa using h0),
        s3 := fun h0 => φ.s3 (by simpa using h0),
        s4 := fun h0 => φ.s4 (by simpa using h0),
        s5 := fun h0 => φ.s5 (by simpa using h0),
        s6 := fun h0 => φ.s6 (by simpa using h0),
        s7 := fun h0 => φ.s7 (by simpa using h0),
        s8 := fun h0 => φ.s8 (by simpa using h0),
        x9 := fun h0 => φ.x9 (by simpa using h0),
        d4 := fun h0 h1 => φ.d4 (by simpa using h0) (by simpa using h1),
        d7 := fun h0 h1 => φ.d7 (by simpa using h0) (by simpa using h1) }, by simp [hst]⟩
    refine hG ?_
    clear hK φ hG
    revert hk
    go_simp
    first | done | exact fun h => h
  case q2 =>
    rintro L vs w' K ⟨u10, u11, u12, u13, u14, u15, u16, u17, u18, u7, wz, rfl, φ, rfl⟩ hL hpre hcl hK G hG
    simp [Region.binds, closedFrom] at hpre hcl
    have hst : L 10 = false := by
      cases h : L 10 with
      | false => rfl
      | true => simp [h, hL] at hcl
    simp only [hst, Bool.false_eq_true, if_false] at hK hG
    have hk := hK [u10, u11, (.pointer (some ⟨w.heap.size, 1, none⟩)), u13, u14, u15, u16, u17, u18, u7] wz ⟨_, _, _, _, _, _, _, _, _, _, wz, rfl,
      { b := φ.b,
        s0 := fun h0 => φ.s0 (by simpa using h0),
        s1 := fun h0 => φ.s1 (by simpa using h0),
        s2 := fun _ => rfl,
        s3 := fun h0 => φ.s3 (by simpa using h0),
        s4 := fun h0 => φ.s4 (by simpa using h0),
        s5 := fun h0 => φ.s5 (by simpa using h0),
        s6 := fun h0 => φ.s6 (by simpa using h0),
        s7 := fun h0 => φ.s7 (by simpa using h0),
        s8 := fun h0 => φ.s8 (by simpa using h0),
        x9 := fun h0 => φ.x9 (by simpa using h0),
        d4 := fun h0 h1 => φ.d4 (by simpa using h0) (by simpa using h1),
        d7 := fun h0 h1 => φ.d7 (by simpa using h0) (by simpa using h1) }, by simp [hst]⟩
    refine hG ?_
    clear hK φ hG
    revert hk
    go_simp
    first | done | exact fun h => h
  case q3 =>
    rintro L vs w' K ⟨u10, u11, u12, u13, u14, u15, u16, u17, u18, u7, wz, rfl, φ, rfl⟩ hL hpre hcl hK G hG
    simp [Region.binds, closedFrom] at hpre hcl
    have hst : L 10 = false := by
      cases h : L 10 with
      | false => rfl
      | true => simp [h, hL] at hcl
    simp only [hst, Bool.false_eq_true, if_false] at hK hG
    obtain rfl := φ.s2 (by simp [hpre])
    have ce := (φ.b.cell (p := ⟨w.heap.size, 1, none⟩) ltB).trans e1
    have hk := hK [u10, u11, (.pointer (some ⟨w.heap.size, 1, none⟩)), (.slice A n c), u14, u15, u16, u17, u18, u7] wz ⟨_, _, _, _, _, _, _, _, _, _, wz, rfl,
      { b := φ.b,
        s0 := fun h0 => φ.s0 (by simpa using h0),
        s1 := fun h0 => φ.s1 (by simpa using h0),
        s2 := fun h0 => φ.s2 (by simpa using h0),
        s3 := fun _ => rfl,
        s4 := fun h0 => φ.s4 (by simpa using h0),
        s5 := fun h0 => φ.s5 (by simpa using h0),
        s6 := fun h0 => φ.s6 (by simpa using h0),
        s7 := fun h0 => φ.s7 (by simpa using h0),
        s8 := fun h0 => φ.s8 (by simpa using h0),
        x9 := fun h0 => φ.x9 (by simpa using h0),
        d4 := fun h0 h1 => φ.d4 (by simpa using h0) (by simpa using h1),
        d7 := fun h0 h1 => φ.d7 (by simpa using h0) (by simpa using h1) }, by simp [hst]⟩
    refine hG ?_
    clear hK φ hG
    revert hk
    go_simp
    first | done | exact fun h => h
  case q4 =>
    rintro L vs w' K ⟨u10, u11, u12, u13, u14, u15, u16, u17, u18, u7, wz, rfl, φ, rfl⟩ hL hpre hcl hK G hG
    simp [Region.binds, closedFrom] at hpre hcl
    have hst : L 10 = false := by
      cases h : L 10 with
      | false => rfl
      | true => simp [h, hL] at hcl
    simp only [hst, Bool.false_eq_true, if_false] at hK hG
    obtain rfl := φ.s3 (by simp [hpre])
    have L8 : L 8 = false := by
      cases h : L 8 with
      | false => rfl
      | true => simp [h, hL] at hcl
    refine hG (step_call wz rfl 13 #[.tmp 13] #[25] rfl #[.slice A n c] (by simp [Act.eval, Act.puts, Act.put]) (enters_of Try.func13 (by kernel_rfl) rfl) (cC wz φ.b) ?_)
    rintro e w9 ⟨v', rfl, ownN, hb9⟩
    refine ⟨v', rfl, ?_⟩
    have hk := hK [u10, u11, u12, (.slice A n c), (v'), u15, u16, u17, u18, u7] w9 ⟨_, _, _, _, _, _, _, _, _, _, w9, rfl,
      { b := φ.b.trans (hb9.mono φ.b.size),
        s0 := fun h0 => φ.s0 (by simpa using h0),
        s1 := fun h0 => φ.s1 (by simpa using h0),
        s2 := fun h0 => φ.s2 (by simpa using h0),
        s3 := fun h0 => φ.s3 (by simpa using h0),
        s4 := fun _ => own_weaken' ownN φ.b.size,
        s5 := fun h0 => φ.s5 (by simpa using h0),
        s6 := fun h0 => φ.s6 (by simpa using h0),
        s7 := fun h => own_below (φ.s7 (by simpa using h)) hb9,
        s8 := fun h => by simp [L8] at h,
        x9 := fun h => by
          obtain ⟨X, y1, y2, y3, y4⟩ := φ.x9 (by simpa using h)
          exact ⟨X, y1, y2, Nat.lt_of_lt_of_le y3 hb9.size, (hb9.block X y3).trans y4⟩,
        d4 := fun h _ X hX hE => by
          obtain ⟨X', y1, y2, y3, _⟩ := φ.x9 (by simpa using h)
          rw [hX] at y1
          obtain rfl : X = X' := by simpa using y1
          have := (ownN.lt _ hE).1
          omega,
        d7 := fun h0 h1 => φ.d7 (by simpa using h0) (by simpa using h1) }, by simp [hst]⟩
    clear hK φ hG
    revert hk
    go_simp
    first | done | exact fun h => h
  case q5 =>
    rintro L vs w' K ⟨u10, u11, u12, u13, u14, u15, u16, u17, u18, u7, wz, rfl, φ, rfl⟩ hL hpre hcl hK G hG
    simp [Region.binds, closedFrom] at hpre hcl
    have hst : L 10 = false := by
      cases h : L 10 with
      | false => rfl
      | true => simp [h, hL] at hcl
    simp only [hst, Bool.false_eq_true, if_false] at hK hG
    have hk := hK [u10, u11, u12, u13, u14, (.pointer (some ⟨w.heap.size, 2, none⟩)), u16, u17, u18, u7] wz ⟨_, _, _, _, _, _, _, _, _, _, wz, rfl,
      { b := φ.b,
        s0 := fun h0 => φ.s0 (by simpa using h0),
        s1 := fun h0 => φ.s1 (by simpa using h0),
        s2 := fun h0 => φ.s2 (by simpa using h0),
        s3 := fun h0 => φ.s3 (by simpa using h0),
        s4 := fun h0 => φ.s4 (by simpa using h0),
        s5 := fun _ => rfl,
        s6 := fun h0 => φ.s6 (by simpa using h0),
        s7 := fun h0 => φ.s7 (by simpa using h0),
        s8 := fun h0 => φ.s8 (by simpa using h0),
        x9 := fun h0 => φ.x9 (by simpa using h0),
        d4 := fun h0 h1 => φ.d4 (by simpa using h0) (by simpa using h1),
        d7 := fun h0 h1 => φ.d7 (by simpa using h0) (by simpa using h1) }, by simp [hst]⟩
    refine hG ?_
    clear hK φ hG
    revert hk
    go_simp
    first | done | exact fun h => h
  case q6 =>
    rintro L vs w' K ⟨u10, u11, u12, u13, u14, u15, u16, u17, u18, u7, wz, rfl, φ, rfl⟩ hL hpre hcl hK G hG
    simp [Region.binds, closedFrom] at hpre hcl
    have hst : L 10 = false := by
      cases h : L 10 with
      | false => rfl
      | true => simp [h, hL] at hcl
    simp only [hst, Bool.false_eq_true, if_false] at hK hG
    obtain rfl := φ.s5 (by simp [hpre])
    have ce := (φ.b.cell (p := ⟨w.heap.size, 2, none⟩) ltB).trans e2
    have hk := hK [u10, u11, u12, u13, u14, (.pointer (some ⟨w.heap.size, 2, none⟩)), (.slice B m d), u17, u18, u7] wz ⟨_, _, _, _, _, _, _, _, _, _, wz, rfl,
      { b := φ.b,
        s0 := fun h0 => φ.s0 (by simpa using h0),
        s1 := fun h0 => φ.s1 (by simpa using h0),
        s2 := fun h0 => φ.s2 (by simpa using h0),
        s3 := fun h0 => φ.s3 (by simpa using h0),
        s4 := fun h0 => φ.s4 (by simpa using h0),
        s5 := fun h0 => φ.s5 (by simpa using h0),
        s6 := fun _ => rfl,
        s7 := fun h0 => φ.s7 (by simpa using h0),
        s8 := fun h0 => φ.s8 (by simpa using h0),
        x9 := fun h0 => φ.x9 (by simpa using h0),
        d4 := fun h0 h1 => φ.d4 (by simpa using h0) (by simpa using h1),
        d7 := fun h0 h1 => φ.d7 (by simpa using h0) (by simpa using h1) }, by simp [hst]⟩
    refine hG ?_
    clear hK φ hG
    revert hk
    go_simp
    first | done | exact fun h => h
  case q7 =>
    rintro L vs w' K ⟨u10, u11, u12, u13, u14, u15, u16, u17, u18, u7, wz, rfl, φ, rfl⟩ hL hpre hcl hK G hG
    simp [Region.binds, closedFrom] at hpre hcl
    have hst : L 10 = false := by
      cases h : L 10 with
      | false => rfl
      | true => simp [h, hL] at hcl
    simp only [hst, Bool.false_eq_true, if_false] at hK hG
    obtain rfl := φ.s6 (by simp [hpre])
    have L8 : L 8 = false := by
      cases h : L 8 with
      | false => rfl
      | true => simp [h, hL] at hcl
    refine hG (step_call wz rfl 14 #[.tmp 16] #[22] rfl #[.slice B m d] (by simp [Act.eval, Act.puts, Act.put]) (enters_of Try.func14 (by kernel_rfl) rfl) (cW wz φ.b) ?_)
    rintro e w9 ⟨v', rfl, ownN, hb9⟩
    refine ⟨v', rfl, ?_⟩
    have hk := hK [u10, u11, u12, u13, u14, u15, (.slice B m d), (v'), u18, u7] w9 ⟨_, _, _, _, _, _, _, _, _, _, w9, rfl,
      { b := φ.b.trans (hb9.mono φ.b.size),
        s0 := fun h0 => φ.s0 (by simpa using h0),
        s1 := fun h0 => φ.s1 (by simpa using h0),
        s2 := fun h0 => φ.s2 (by simpa using h0),
        s3 := fun h0 => φ.s3 (by simpa using h0),
        s4 := fun h => own_below (φ.s4 (by simpa using h)) hb9,
        s5 := fun h0 => φ.s5 (by simpa using h0),
        s6 := fun h0 => φ.s6 (by simpa using h0),
        s7 := fun _ => own_weaken' ownN φ.b.size,
        s8 := fun h => by simp [L8] at h,
        x9 := fun h => by
          obtain ⟨X, y1, y2, y3, y4⟩ := φ.x9 (by simpa using h)
          exact ⟨X, y1, y2, Nat.lt_of_lt_of_le y3 hb9.size, (hb9.block X y3).trans y4⟩,
        d4 := fun h0 h1 => φ.d4 (by simpa using h0) (by simpa using h1),
        d7 := fun h _ X hX hE => by
          obtain ⟨X', y1, y2, y3, _⟩ := φ.x9 (by simpa using h)
          rw [hX] at y1
          obtain rfl : X = X' := by simpa using y1
          have := (ownN.lt _ hE).1
          omega }, by simp [hst]⟩
    clear hK φ hG
    revert hk
    go_simp
    first | done | exact fun h => h
  case q8 =>
    rintro L vs w' K ⟨u10, u11, u12, u13, u14, u15, u16, u17, u18, u7, wz, rfl, φ, rfl⟩ hL hpre hcl hK G hG
    simp [Region.binds, closedFrom] at hpre hcl
    have hst : L 10 = false := by
      cases h : L 10 with
      | false => rfl
      | true => simp [h, hL] at hcl
    simp only [hst, Bool.false_eq_true, if_false] at hK hG
    obtain rfl := φ.s1 (by simp [hpre])
    obtain ⟨A3, c3, rfl⟩ := own_shape (φ.s4 (by simp [hpre]))
    obtain ⟨B3, d3, rfl⟩ := own_shape (φ.s7 (by simp [hpre]))
    have hk := hK [u10, (.int .i64 g.next), u12, u13, (.slice A3 n c3), u15, u16, (.slice B3 m d3), (.agg #[.int .i64 g.next, .slice A3 n c3, .slice B3 m d3]), u7] wz ⟨_, _, _, _, _, _, _, _, _, _, wz, rfl,
      { b := φ.b,
        s0 := fun h0 => φ.s0 (by simpa using h0),
        s1 := fun h0 => φ.s1 (by simpa using h0),
        s2 := fun h0 => φ.s2 (by simpa using h0),
        s3 := fun h0 => φ.s3 (by simpa using h0),
        s4 := fun h0 => φ.s4 (by simpa using h0),
        s5 := fun h0 => φ.s5 (by simpa using h0),
        s6 := fun h0 => φ.s6 (by simpa using h0),
        s7 := fun h0 => φ.s7 (by simpa using h0),
        s8 := fun _ => rfl,
        x9 := fun h0 => φ.x9 (by simpa using h0),
        d4 := fun h0 h1 => φ.d4 (by simpa using h0) (by simpa using h1),
        d7 := fun h0 h1 => φ.d7 (by simpa using h0) (by simpa using h1) }, by simp [hst]⟩
    refine hG ?_
    clear hK φ hG
    revert hk
    go_simp
    first | done | exact fun h => h
  case q9 =>
    rintro L vs w' K ⟨u10, u11, u12, u13, u14, u15, u16, u17, u18, u7, wz, rfl, φ, rfl⟩ hL hpre hcl hK G hG
    simp [Region.binds, closedFrom] at hpre hcl
    have hst : L 10 = false := by
      cases h : L 10 with
      | false => rfl
      | true => simp [h, hL] at hcl
    simp only [hst, Bool.false_eq_true, if_false] at hK hG
    have hk := hK [u10, u11, u12, u13, u14, u15, u16, u17, u18, (.pointer (some ⟨wz.heap.size, 0, none⟩))] (wz.alloc (.cells #[.int .i64 0, .slice none 0 0, .slice none 0 0] 29)) ⟨_, _, _, _, _, _, _, _, _, _, (wz.alloc (.cells #[.int .i64 0, .slice none 0 0, .slice none 0 0] 29)), rfl,
      { b := φ.b.alloc φ.b.size _,
        s0 := fun h0 => φ.s0 (by simpa using h0),
        s1 := fun h0 => φ.s1 (by simpa using h0),
        s2 := fun h0 => φ.s2 (by simpa using h0),
        s3 := fun h0 => φ.s3 (by simpa using h0),
        s4 := fun h0 => (φ.s4 (by simpa using h0)).alloc _,
        s5 := fun h0 => φ.s5 (by simpa using h0),
        s6 := fun h0 => φ.s6 (by simpa using h0),
        s7 := fun h0 => (φ.s7 (by simpa using h0)).alloc _,
        s8 := fun h0 => φ.s8 (by simpa using h0),
        x9 := fun _ => ⟨wz.heap.size, rfl, φ.b.size, by simp, heap_alloc_new wz _⟩,
        d4 := fun _ h0 X hX e => by
          obtain rfl : wz.heap.size = X := by simpa using hX
          exact Nat.lt_irrefl _ ((φ.s4 (by simpa using h0)).lt _ e).2,
        d7 := fun _ h0 X hX e => by
          obtain rfl : wz.heap.size = X := by simpa using hX
          exact Nat.lt_irrefl _ ((φ.s7 (by simpa using h0)).lt _ e).2 }, by simp [hst]⟩
    refine hG ?_
    clear hK φ hG
    revert hk
    go_simp
    first | done | exact fun h => h
  case q10 =>
    rintro L vs w' K ⟨u10, u11, u12, u13, u14, u15, u16, u17, u18, u7, wz, rfl, φ, rfl⟩ hL hpre hcl hK G hG
    simp [Region.binds, closedFrom] at hpre hcl
    simp only [hL, Bool.false_eq_true, if_false] at hK hG
    obtain ⟨A3, c3, rfl⟩ := own_shape (φ.s4 (by simp [hpre]))
    obtain ⟨B3, d3, rfl⟩ := own_shape (φ.s7 (by simp [hpre]))
    obtain rfl := φ.s8 (by simp [hpre])
    obtain ⟨X, rfl, x2, x3, x4⟩ := φ.x9 (by simp [hpre])
    obtain ⟨y0, y1, y2, z0, z1, z2⟩ := cells3 x4
    have hk := hK [u10, u11, u12, u13, (.slice A3 n c3), u15, u16, (.slice B3 m d3), (.agg #[.int .i64 g.next, .slice A3 n c3, .slice B3 m d3]), (.pointer (some ⟨X, 0, none⟩))] (((wz.setCell ⟨X, 0, none⟩ (.int .i64 g.next)).setCell ⟨X, 1, none⟩ (.slice A3 n c3)).setCell ⟨X, 2, none⟩ (.slice B3 m d3)) ⟨_, _, _, _, _, _, _, _, _, _, wz, rfl,
      { b := φ.b,
        s0 := fun h0 => φ.s0 (by simpa using h0),
        s1 := fun h0 => φ.s1 (by simpa using h0),
        s2 := fun h0 => φ.s2 (by simpa using h0),
        s3 := fun h0 => φ.s3 (by simpa using h0),
        s4 := fun h0 => φ.s4 (by simpa using h0),
        s5 := fun h0 => φ.s5 (by simpa using h0),
        s6 := fun h0 => φ.s6 (by simpa using h0),
        s7 := fun h0 => φ.s7 (by simpa using h0),
        s8 := fun h0 => φ.s8 (by simpa using h0),
        x9 := fun h0 => φ.x9 (by simpa using h0),
        d4 := fun h0 h1 => φ.d4 (by simpa using h0) (by simpa using h1),
        d7 := fun h0 h1 => φ.d7 (by simpa using h0) (by simpa using h1) }, by simp [laid3]⟩
    refine hG ?_
    clear hK φ hG
    revert hk
    go_simp
    first | done | exact fun h => h
  case hend =>
    rintro vs w' ⟨u10, u11, u12, u13, u14, u15, u16, u17, u18, u7, wz, rfl, φ, rfl⟩ G hG
    have o4 := φ.s4 rfl
    have o7 := φ.s7 rfl
    have b9 := φ.b
    obtain ⟨A3, c3, rfl⟩ := own_shape o4
    obtain ⟨B3, d3, rfl⟩ := own_shape o7
    obtain ⟨X7, rfl, x2, x3, x4⟩ := φ.x9 rfl
    obtain ⟨y0, y1, y2, z0, z1, z2⟩ := cells3 x4
    have ne7 := φ.d4 rfl rfl X7 rfl
    have ne8 := φ.d7 rfl rfl X7 rfl
    clear φ
    have hst : decide (10 < 11) = true := rfl
    simp only [List.size_toArray, List.length_cons, List.length_nil, Nat.zero_add, Nat.reduceAdd, hst, if_true, laid3] at hG
    have CP := copied3 (g := g) (n := n) (m := m) (A := A3) (c := c3) (B := B3) (d := d3) y0 y1 y2 z0 z1 z2 x2 x3 o4 o7 ne7 ne8 b9
    clear hst o4 o7 b9 x2 x3 x4 y0 y1 y2 z0 z1 z2 ne7 ne8
    refine hG ?_
    clear hG
    generalize ((wz.setCell ⟨X7, 0, none⟩ (.int .i64 g.next)).setCell ⟨X7, 1, none⟩ (.slice A3 n c3)).setCell ⟨X7, 2, none⟩ (.slice B3 m d3) = w2 at *
    obtain ⟨x0, x1, x2, f0, f1, f2, lo, hi, own, ownC, ne, neC, b9⟩ := CP
    have qP : w.heap.size + 1 + 1 < X7 := Nat.lt_of_lt_of_le ltR lo
    have loS : w.heap.size + 3 ≤ W0.drew.heap.size := by omega
    replace e0 := (b9.cell (p := ⟨w.heap.size, 0, none⟩) (World.block_lt_of_cell? _ _ e0)).trans e0
    replace e1 := (b9.cell (p := ⟨w.heap.size, 1, none⟩) (World.block_lt_of_cell? _ _ e1)).trans e1
    replace e2 := (b9.cell (p := ⟨w.heap.size, 2, none⟩) (World.block_lt_of_cell? _ _ e2)).trans e2
    replace p0 := (b9.cell (p := ⟨w.heap.size + 1, 0, none⟩) (World.block_lt_of_cell? _ _ p0)).trans p0
    replace p1 := (b9.cell (p := ⟨w.heap.size + 1, 1, none⟩) (World.block_lt_of_cell? _ _ p1)).trans p1
    replace r0 := (b9.cell (p := ⟨w.heap.size + 1 + 1, 0, none⟩) (World.block_lt_of_cell? _ _ r0)).trans r0
    replace r1 := (b9.cell (p := ⟨w.heap.size + 1 + 1, 1, none⟩) (World.block_lt_of_cell? _ _ r1)).trans r1
    replace r2 := (b9.cell (p := ⟨w.heap.size + 1 + 1, 2, none⟩) (World.block_lt_of_cell? _ _ r2)).trans r2
    replace fr0 := (b9.frozen (p := ⟨w.heap.size + 1 + 1, 0, none⟩) ltR).trans fr0
    replace fr1 := (b9.frozen (p := ⟨w.heap.size + 1 + 1, 1, none⟩) ltR).trans fr1
    replace fr2 := (b9.frozen (p := ⟨w.heap.size + 1 + 1, 2, none⟩) ltR).trans fr2
    replace ltB := Nat.lt_of_lt_of_le ltB b9.size
    replace ltP := Nat.lt_of_lt_of_le ltP b9.size
    replace ltR := Nat.lt_of_lt_of_le ltR b9.size
    replace b0 := b0.trans (b9.mono b0.size)
    clear b9 cC cW
    go_wp2_with fail
    refine (cR _ b0).mono ?_
    rintro e w3 ⟨rfl, hb3⟩
    replace e0 := (hb3.cell (p := ⟨w.heap.size, 0, none⟩) (World.block_lt_of_cell? _ _ e0)).trans e0
    replace e1 := (hb3.cell (p := ⟨w.heap.size, 1, none⟩) (World.block_lt_of_cell? _ _ e1)).trans e1
    replace e2 := (hb3.cell (p := ⟨w.heap.size, 2, none⟩) (World.block_lt_of_cell? _ _ e2)).trans e2
    replace p0 := (hb3.cell (p := ⟨w.heap.size + 1, 0, none⟩) (World.block_lt_of_cell? _ _ p0)).trans p0
    replace p1 := (hb3.cell (p := ⟨w.heap.size + 1, 1, none⟩) (World.block_lt_of_cell? _ _ p1)).trans p1
    replace r0 := (hb3.cell (p := ⟨w.heap.size + 1 + 1, 0, none⟩) (World.block_lt_of_cell? _ _ r0)).trans r0
    replace r1 := (hb3.cell (p := ⟨w.heap.size + 1 + 1, 1, none⟩) (World.block_lt_of_cell? _ _ r1)).trans r1
    replace r2 := (hb3.cell (p := ⟨w.heap.size + 1 + 1, 2, none⟩) (World.block_lt_of_cell? _ _ r2)).trans r2
    replace x0 := (hb3.cell (p := ⟨X7, 0, none⟩) (World.block_lt_of_cell? _ _ x0)).trans x0
    replace x1 := (hb3.cell (p := ⟨X7, 1, none⟩) (World.block_lt_of_cell? _ _ x1)).trans x1
    replace x2 := (hb3.cell (p := ⟨X7, 2, none⟩) (World.block_lt_of_cell? _ _ x2)).trans x2
    replace fr0 := (hb3.frozen (p := ⟨w.heap.size + 1 + 1, 0, none⟩) ltR).trans fr0
    replace fr1 := (hb3.frozen (p := ⟨w.heap.size + 1 + 1, 1, none⟩) ltR).trans fr1
    replace fr2 := (hb3.frozen (p := ⟨w.heap.size + 1 + 1, 2, none⟩) ltR).trans fr2
    replace f0 := (hb3.frozen (p := ⟨X7, 0, none⟩) hi).trans f0
    replace f1 := (hb3.frozen (p := ⟨X7, 1, none⟩) hi).trans f1
    replace f2 := (hb3.frozen (p := ⟨X7, 2, none⟩) hi).trans f2
    replace ltB := Nat.lt_of_lt_of_le ltB hb3.size
    replace ltP := Nat.lt_of_lt_of_le ltP hb3.size
    replace ltR := Nat.lt_of_lt_of_le ltR hb3.size
    replace hi := Nat.lt_of_lt_of_le hi hb3.size
    replace own := own_below own hb3
    replace ownC := own_below ownC hb3
    replace b0 := b0.trans (hb3.mono b0.size)
    clear hb3 cR
    have sE0 := Sl.of_own Pce.enc_len own HN.out
    go_wp2_with fail
    refine (cS _ _ _ sE0).mono ?_
    rintro e w4 ⟨ii, hst, rfl, hb4⟩
    have HST := Lib.hid hst
    have hil := hst.le
    clear hst cS sE0
    have hpos := stands_pos HST.out
    have htt : decide (ii < g.early.length ∧ g.early[ii]!.num = p.num) = false := by rw [hpos]; exact HT.out
    rw [htt]
    clear htt
    have HINS := Lib.hid (show insG g.early p = g.early.take ii ++ p :: g.early.drop ii by rw [insG, ← hpos])
    rw [HN.out] at hil
    clear hpos
    replace e0 := (hb4.cell (p := ⟨w.heap.size, 0, none⟩) (World.block_lt_of_cell? _ _ e0)).trans e0
    replace e1 := (hb4.cell (p := ⟨w.heap.size, 1, none⟩) (World.block_lt_of_cell? _ _ e1)).trans e1
    replace e2 := (hb4.cell (p := ⟨w.heap.size, 2, none⟩) (World.block_lt_of_cell? _ _ e2)).trans e2
    replace p0 := (hb4.cell (p := ⟨w.heap.size + 1, 0, none⟩) (World.block_lt_of_cell? _ _ p0)).trans p0
    replace p1 := (hb4.cell (p := ⟨w.heap.size + 1, 1, none⟩) (World.block_lt_of_cell? _ _ p1)).trans p1
    replace r0 := (hb4.cell (p := ⟨w.heap.size + 1 + 1, 0, none⟩) (World.block_lt_of_cell? _ _ r0)).trans r0
    replace r1 := (hb4.cell (p := ⟨w.heap.size + 1 + 1, 1, none⟩) (World.block_lt_of_cell? _ _ r1)).trans r1
    replace r2 := (hb4.cell (p := ⟨w.heap.size + 1 + 1, 2, none⟩) (World.block_lt_of_cell? _ _ r2)).trans r2
    replace x0 := (hb4.cell (p := ⟨X7, 0, none⟩) (World.block_lt_of_cell? _ _ x0)).trans x0
    replace x1 := (hb4.cell (p := ⟨X7, 1, none⟩) (World.block_lt_of_cell? _ _ x1)).trans x1
    replace x2 := (hb4.cell (p := ⟨X7, 2, none⟩) (World.block_lt_of_cell? _ _ x2)).trans x2
    replace fr0 := (hb4.frozen (p := ⟨w.heap.size + 1 + 1, 0, none⟩) ltR).trans fr0
    replace fr1 := (hb4.frozen (p := ⟨w.heap.size + 1 + 1, 1, none⟩) ltR).trans fr1
    replace fr2 := (hb4.frozen (p := ⟨w.heap.size + 1 + 1, 2, none⟩) ltR).trans fr2
    replace f0 := (hb4.frozen (p := ⟨X7, 0, none⟩) hi).trans f0
    replace f1 := (hb4.frozen (p := ⟨X7, 1, none⟩) hi).trans f1
    replace f2 := (hb4.frozen (p := ⟨X7, 2, none⟩) hi).trans f2
    replace ltB := Nat.lt_of_lt_of_le ltB hb4.size
    replace ltP := Nat.lt_of_lt_of_le ltP hb4.size
    replace ltR := Nat.lt_of_lt_of_le ltR hb4.size
    replace hi := Nat.lt_of_lt_of_le hi hb4.size
    replace own := own_below own hb4
    replace ownC := own_below ownC hb4
    replace b0 := b0.trans (hb4.mono b0.size)
    clear hb4
    go_wp2_with fail
    have hX := heap_alloc_new w4 (.cells #[.int .i64 p.num, .int .u32 p.val] 34)
    have qX := hi
    have obW := own.lt
    have obC := ownC.lt
    replace e0 : (w4.alloc (.cells #[.int .i64 p.num, .int .u32 p.val] 34)).cell? ⟨w.heap.size, 0, none⟩ = some (.int .i64 g.next) := (World.cell?_alloc_lt w4 _ ⟨w.heap.size, 0, none⟩ (World.block_lt_of_cell? _ _ e0)).trans e0
    replace e1 : (w4.alloc (.cells #[.int .i64 p.num, .int .u32 p.val] 34)).cell? ⟨w.heap.size, 1, none⟩ = some (.slice A n c) := (World.cell?_alloc_lt w4 _ ⟨w.heap.size, 1, none⟩ (World.block_lt_of_cell? _ _ e1)).trans e1
    replace e2 : (w4.alloc (.cells #[.int .i64 p.num, .int .u32 p.val] 34)).cell? ⟨w.heap.size, 2, none⟩ = some (.slice B m d) := (World.cell?_alloc_lt w4 _ ⟨w.heap.size, 2, none⟩ (World.block_lt_of_cell? _ _ e2)).trans e2
    replace p0 : (w4.alloc (.cells #[.int .i64 p.num, .int .u32 p.val] 34)).cell? ⟨w.heap.size + 1, 0, none⟩ = some (.int .i64 p.num) := (World.cell?_alloc_lt w4 _ ⟨w.heap.size + 1, 0, none⟩ (World.block_lt_of_cell? _ _ p0)).trans p0
    replace p1 : (w4.alloc (.cells #[.int .i64 p.num, .int .u32 p.val] 34)).cell? ⟨w.heap.size + 1, 1, none⟩ = some (.int .u32 p.val) := (World.cell?_alloc_lt w4 _ ⟨w.heap.size + 1, 1, none⟩ (World.block_lt_of_cell? _ _ p1)).trans p1
    replace r0 : (w4.alloc (.cells #[.int .i64 p.num, .int .u32 p.val] 34)).cell? ⟨w.heap.size + 1 + 1, 0, none⟩ = some (.int .i64 0) := (World.cell?_alloc_lt w4 _ ⟨w.heap.size + 1 + 1, 0, none⟩ (World.block_lt_of_cell? _ _ r0)).trans r0
    replace r1 : (w4.alloc (.cells #[.int .i64 p.num, .int .u32 p.val] 34)).cell? ⟨w.heap.size + 1 + 1, 1, none⟩ = some (.slice none 0 0) := (World.cell?_alloc_lt w4 _ ⟨w.heap.size + 1 + 1, 1, none⟩ (World.block_lt_of_cell? _ _ r1)).trans r1
    replace r2 : (w4.alloc (.cells #[.int .i64 p.num, .int .u32 p.val] 34)).cell? ⟨w.heap.size + 1 + 1, 2, none⟩ = some (.slice none 0 0) := (World.cell?_alloc_lt w4 _ ⟨w.heap.size + 1 + 1, 2, none⟩ (World.block_lt_of_cell? _ _ r2)).trans r2
    replace x0 : (w4.alloc (.cells #[.int .i64 p.num, .int .u32 p.val] 34)).cell? ⟨X7, 0, none⟩ = some (.int .i64 g.next) := (World.cell?_alloc_lt w4 _ ⟨X7, 0, none⟩ (World.block_lt_of_cell? _ _ x0)).trans x0
    replace x1 : (w4.alloc (.cells #[.int .i64 p.num, .int .u32 p.val] 34)).cell? ⟨X7, 1, none⟩ = some (.slice A3 n c3) := (World.cell?_alloc_lt w4 _ ⟨X7, 1, none⟩ (World.block_lt_of_cell? _ _ x1)).trans x1
    replace x2 : (w4.alloc (.cells #[.int .i64 p.num, .int .u32 p.val] 34)).cell? ⟨X7, 2, none⟩ = some (.slice B3 m d3) := (World.cell?_alloc_lt w4 _ ⟨X7, 2, none⟩ (World.block_lt_of_cell? _ _ x2)).trans x2
    replace fr0 : (w4.alloc (.cells #[.int .i64 p.num, .int .u32 p.val] 34)).frozen? ⟨w.heap.size + 1 + 1, 0, none⟩ = false := (((Below.refl w4.heap.size w4).alloc (Nat.le_refl _) _).frozen (p := ⟨w.heap.size + 1 + 1, 0, none⟩) ltR).trans fr0
    replace fr1 : (w4.alloc (.cells #[.int .i64 p.num, .int .u32 p.val] 34)).frozen? ⟨w.heap.size + 1 + 1, 1, none⟩ = false := (((Below.refl w4.heap.size w4).alloc (Nat.le_refl _) _).frozen (p := ⟨w.heap.size + 1 + 1, 1, none⟩) ltR).trans fr1
    replace fr2 : (w4.alloc (.cells #[.int .i64 p.num, .int .u32 p.val] 34)).frozen? ⟨w.heap.size + 1 + 1, 2, none⟩ = false := (((Below.refl w4.heap.size w4).alloc (Nat.le_refl _) _).frozen (p := ⟨w.heap.size + 1 + 1, 2, none⟩) ltR).trans fr2
    replace f0 : (w4.alloc (.cells #[.int .i64 p.num, .int .u32 p.val] 34)).frozen? ⟨X7, 0, none⟩ = false := (((Below.refl w4.heap.size w4).alloc (Nat.le_refl _) _).frozen (p := ⟨X7, 0, none⟩) hi).trans f0
    replace f1 : (w4.alloc (.cells #[.int .i64 p.num, .int .u32 p.val] 34)).frozen? ⟨X7, 1, none⟩ = false := (((Below.refl w4.heap.size w4).alloc (Nat.le_refl _) _).frozen (p := ⟨X7, 1, none⟩) hi).trans f1
    replace f2 : (w4.alloc (.cells #[.int .i64 p.num, .int .u32 p.val] 34)).frozen? ⟨X7, 2, none⟩ = false := (((Below.refl w4.heap.size w4).alloc (Nat.le_refl _) _).frozen (p := ⟨X7, 2, none⟩) hi).trans f2
    have y0 : (w4.alloc (.cells #[.int .i64 p.num, .int .u32 p.val] 34)).cell? ⟨w4.heap.size, 0, none⟩ = some (.int .i64 p.num) := World.cell?_alloc_new (w := w4) _ _ _
    have y1 : (w4.alloc (.cells #[.int .i64 p.num, .int .u32 p.val] 34)).cell? ⟨w4.heap.size, 1, none⟩ = some (.int .u32 p.val) := World.cell?_alloc_new (w := w4) _ _ _
    have fy0 : (w4.alloc (.cells #[.int .i64 p.num, .int .u32 p.val] 34)).frozen? ⟨w4.heap.size, 0, none⟩ = false := by go_simp
    have fy1 : (w4.alloc (.cells #[.int .i64 p.num, .int .u32 p.val] 34)).frozen? ⟨w4.heap.size, 1, none⟩ = false := by go_simp
    replace ltB : _ < (w4.alloc (.cells #[.int .i64 p.num, .int .u32 p.val] 34)).heap.size := Nat.lt_of_lt_of_le ltB (by simp)
    replace ltP : _ < (w4.alloc (.cells #[.int .i64 p.num, .int .u32 p.val] 34)).heap.size := Nat.lt_of_lt_of_le ltP (by simp)
    replace ltR : _ < (w4.alloc (.cells #[.int .i64 p.num, .int .u32 p.val] 34)).heap.size := Nat.lt_of_lt_of_le ltR (by simp)
    replace hi : _ < (w4.alloc (.cells #[.int .i64 p.num, .int .u32 p.val] 34)).heap.size := Nat.lt_of_lt_of_le hi (by simp)
    replace own := own.alloc (.cells #[.int .i64 p.num, .int .u32 p.val] 34)
    replace ownC := ownC.alloc (.cells #[.int .i64 p.num, .int .u32 p.val] 34)
    replace b0 := b0.alloc b0.size (.cells #[.int .i64 p.num, .int .u32 p.val] 34)
    have ltY : w4.heap.size < (w4.alloc (.cells #[.int .i64 p.num, .int .u32 p.val] 34)).heap.size := by simp
    generalize hw_w5 : w4.alloc (.cells #[.int .i64 p.num, .int .u32 p.val] 34) = w5 at *
    clear hw_w5
    generalize w4.heap.size = PB at *
    refine (insert_any W0.drew.heap.size A3 c3 n ii g.early p PB w5 own HN.out hn1 hX (fun e => Nat.lt_irrefl _ (obW _ e).2) hil (by omega)).mono ?_
    rintro e w6 ⟨A6, c6, rfl, own6, hgrow, hat⟩
    have bw5 := hgrow.block
    have hk0 : w6.heap[w.heap.size + 1 + 1]? = w5.heap[w.heap.size + 1 + 1]? := bw5 (w.heap.size + 1 + 1) ltR (Ne.symm (fun e => by have := (obW _ e).1; omega))
    have cc0 : ∀ j, w6.cell? ⟨w.heap.size + 1 + 1, j, none⟩ = w5.cell? ⟨w.heap.size + 1 + 1, j, none⟩ := fun j => World.cell?_of_block (w := w5) (w' := w6) (a := ⟨w.heap.size + 1 + 1, j, none⟩) hk0
    have ff0 : ∀ j, w6.frozen? ⟨w.heap.size + 1 + 1, j, none⟩ = w5.frozen? ⟨w.heap.size + 1 + 1, j, none⟩ := fun j => World.frozen?_of_block (w := w5) (w' := w6) (a := ⟨w.heap.size + 1 + 1, j, none⟩) hk0
    have hk1 : w6.heap[X7]? = w5.heap[X7]? := bw5 (X7) hi (Ne.symm ne)
    have cc1 : ∀ j, w6.cell? ⟨X7, j, none⟩ = w5.cell? ⟨X7, j, none⟩ := fun j => World.cell?_of_block (w := w5) (w' := w6) (a := ⟨X7, j, none⟩) hk1
    have ff1 : ∀ j, w6.frozen? ⟨X7, j, none⟩ = w5.frozen? ⟨X7, j, none⟩ := fun j => World.frozen?_of_block (w := w5) (w' := w6) (a := ⟨X7, j, none⟩) hk1
    replace r0 := (cc0 0).trans r0
    replace fr0 := (ff0 0).trans fr0
    replace r1 := (cc0 1).trans r1
    replace fr1 := (ff0 1).trans fr1
    replace r2 := (cc0 2).trans r2
    replace fr2 := (ff0 2).trans fr2
    replace x0 := (cc1 0).trans x0
    replace f0 := (ff1 0).trans f0
    replace x1 := (cc1 1).trans x1
    replace f1 := (ff1 1).trans f1
    replace x2 := (cc1 2).trans x2
    replace f2 := (ff1 2).trans f2
    have ownC6 := ownC.kept hgrow (own_two ownC own (by decide))
    have b6 := b0.grown hgrow b0.size (fun k hk => Nat.le_trans (by omega) (obW k hk).1)
    have hsz := hgrow.size
    have hcap6 := own_cap own6
    have hE6 := Sl.of_own (xs := insG g.early p) Pce.enc_len (by rw [HINS.out]; exact own6) (by rw [HINS.out]; simp [HN.out]; omega)
    have hlen6 : (insG g.early p).length = n + 1 := by rw [HINS.out]; simp [HN.out]; omega
    have ob6 := own6.lt
    have hlt6 : ∀ a, A6 = some a → W0.drew.heap.size ≤ a.block ∧ a.block < w6.heap.size := fun a e => by subst e; exact ob6 a.block rfl
    have hX6 : ∀ a, A6 = some a → a.block ≠ X7 := fun a e e2 => by
      subst e
      rcases hat with h | h
      · rw [← e2] at ne; exact ne (h.symm.trans rfl)
      · have h1 : a.block = w5.heap.size := by simpa [Value.ownBlock] using h
        omega
    have hC6 : ∀ a, A6 = some a → (Value.slice B3 m d3).ownBlock ≠ some a.block := fun a e e2 => by
      subst e
      have h1 := own_two ownC6 own6 (by decide)
      rw [e2] at h1
      rcases h1 with h1 | h1
      · cases h1
      · exact h1 rfl


    have L0 : GetL w W0.drew.heap.size X7 (w6.setCell ⟨X7, 1, none⟩ (.slice A6 (n + 1) c6)) g.next (insG g.early p) g.came (n + 1) m A6 c6 B3 d3 := by
      refine GetL.init x0 x1 x2 f0 f1 f2 r0 r1 r2 fr0 fr1 fr2 (by omega) (by omega) lo ownC6 HM.out neC b6 hE6 hlen6 hcap6.1 (by have := hcap6.2; unfold maxLen at this; omega) (fun a e => ⟨hC6 a e, hX6 a e, (hlt6 a e).1, (hlt6 a e).2⟩)
    clear hE6 hlen6 hcap6 ob6 hlt6 hX6 hC6 ownC6 own6 hat hgrow own ownC bw5 cc0 cc1 ff0 ff1 hk0 hk1 obW obC hX y0 y1 fy0 fy1 e0 e1 e2 p0 p1 r0 r1 r2 fr0 fr1 fr2 b0 b6 ltB ltP ltR ltY
    go_wp2_with fail
    clear x0 x1 x2 f0 f1 f2
    generalize w6.setCell ⟨X7, 1, none⟩ (.slice A6 (n + 1) c6) = w7 at *
    generalize hbase : W0.drew.heap.size = base at *
    clear hbase
    generalize X7 = X at *
    go_loopg [105] (n + 2) (fun gg s105 wr => ∃ (nx : Int) (ea : List Pce) (ca : List Wrd) (n m : Nat) (A : Option Addr) (c : Nat) (B : Option Addr) (d : Nat), GetL w base X wr nx ea ca n m A c B d ∧ n ≤ gg ∧ m + n ≤ 3000000 ∧ 0 ≤ nx ∧ nx ≤ 1099511627776 ∧ Aside (runG g.next (insG g.early p) g.came = runG nx ea ca))
    case atStart => exact ⟨g.next, insG g.early p, g.came, n + 1, m, A6, c6, B3, d3, L0, by omega, by omega, hg0, hg1, rfl⟩
    case round =>
      clear L0
      obtain ⟨nx, ea, ca, n, m, A, c, B, d, L, hgg, hmn, hx0, hx1, HR⟩ := hrel
      have hLL := Lib.hid L
      obtain ⟨x0, x1, x2, f0, f1, f2, r0, r1, r2, fr0, fr1, fr2, hiX, bs, bX, es, hnL, hnc, hcc, own, hmL, neC, off, b0⟩ := L
      have HNL := Lib.hid hnL
      have HML := Lib.hid hmL
      have HOF := Lib.hid off
      clear hnL hmL off
      by_cases hlt : 0 < n
      · have hzt : decide (0 < n) = true := decide_eq_true hlt
        have hztz : decide ((0 : Int) < (n : Int)) = true := decide_eq_true (by omega)
        have hltz : (0 : Int) < (n : Int) := by omega
        obtain ⟨x, r, rfl⟩ : ∃ x r, ea = x :: r := by
          cases ea with
          | nil => have := HNL.out; simp at this; omega
          | cons x r => exact ⟨x, r, rfl⟩
        obtain ⟨bb, off, rfl, hq⟩ := es.at_ 0 (by simp)
        have q0 : wr.cell? ⟨bb, off, none⟩ = some (.int .i64 x.num) := by have := hq 0 _ rfl; simpa using this
        have q1 : wr.cell? ⟨bb, off + 1, none⟩ = some (.int .u32 x.val) := by have := hq 1 _ rfl; simpa using this
        clear hq
        by_cases hxn : x.num = nx
        · have hxb : (x.num == nx) = true := by rw [beq_iff_eq]; exact hxn
          by_cases hlim : nx < 1099511627776
          · have hlb : decide (nx < 1099511627776) = true := decide_eq_true hlim
            have hrun : runG nx (x :: r) ca = runG (nx + 1) r (ca ++ [⟨x.val⟩]) := by rw [runG, if_pos ⟨hxn, hlim⟩]
            have HS := Lib.hid hrun
            clear hrun hxn
            go_wp2_with fail
            go_quiet (fail)
            have L := (hLL.out.drewN nq).drew
            replace q1 : (wr.drewN nq).drew.cell? ⟨bb, off, none⟩ = some (.int .i64 x.num) ∧ (wr.drewN nq).drew.cell? ⟨bb, off + 1, none⟩ = some (.int .u32 x.val) := ⟨q0, q1⟩
            obtain ⟨q0, q1⟩ := q1
            clear x0 x1 x2 f0 f1 f2 r0 r1 r2 fr0 fr1 fr2 hiX bs bX es own neC b0
            obtain ⟨x0, x1, x2, f0, f1, f2, r0, r1, r2, fr0, fr1, fr2, hiX, bs, bX, es, _, _, _, ow, _, neC, offA, b0⟩ := id L
            have offB := (offA _ rfl).1
            have bXs : base ≤ (wr.drewN nq).drew.heap.size := by omega
            generalize wr.drewN nq = wq at *
            obtain ⟨i0, hi0, hz0, hz1, hz2⟩ := info_parts info32
            go_wp2_with fail
            refine wp_region_rg (by kernel_rfl) (by kernel_rfl) [88, 89, 90, 91, 92, 93, 94, 95, 96, 97] (CameRPhi wq.drew base X (some ⟨bb, off, none⟩) n c B m d ca bb off x.val) ?h0 ⟨?q0, ?q1, ?q2, ?q3, ?q4, ?q5, ?q6, ?q7, ?q8, ?q9, ?q10, trivial⟩ ?hend
            case h0 => exact ⟨_, _, _, _, _, _, _, _, _, _, _, rfl, ⟨World.grownBy.refl _ _, (fun _ => ow), (fun h => by cases h), (fun h => by cases h), (fun h => by cases h), (fun h => by cases h), (fun h => by cases h), (fun h => by cases h), (fun h => by cases h), (fun h => by cases h), (fun h => by cases h), (fun h => by cases h), (fun h => by cases h)⟩, rfl⟩
            case q0 =>
              rintro L vs w' K ⟨u88, u89, u90, u91, u92, u93, u94, u95, u96, u97, wz, rfl, φ, rfl⟩ hL hpre hcl hK G hG
              simp [Region.binds, closedFrom] at hpre hcl
              have hst : L 10 = false := by
                cases h : L 10 with
                | false => rfl
                | true => simp [h, hL] at hcl
              simp only [hst, Bool.false_eq_true, if_false] at hK hG
              have hk := hK [(.pointer (some ⟨X, 2, none⟩)), u89, u90, u91, u92, u93, u94, u95, u96, u97] wz ⟨_, _, _, _, _, _, _, _, _, _, wz, rfl,
                { b := φ.b,
                  own0 := fun h0 => φ.own0 (by simpa using h0),
                  s0 := fun _ => rfl,
                  s1 := fun h0 => φ.s1 (by simpa using h0),
                  s2 := fun h0 => φ.s2 (by simpa using h0),
                  s3 := fun h0 => φ.s3 (by simpa using h0),
                  s4 := fun h0 => φ.s4 (by simpa using h0),
                  s5 := fun h0 => φ.s5 (by simpa using h0),
                  s6 := fun h0 => φ.s6 (by simpa using h0),
                  s7 := fun h0 h1 => φ.s7 (by simpa using h0) (by simpa using h1),
                  s8 := fun h0 => φ.s8 (by simpa using h0),
                  a8 := fun h0 => φ.a8 (by simpa using h0),
                  s9 := fun h0 => φ.s9 (by simpa using h0) }, by simp [hst]⟩
              refine hG ?_
              clear hK φ hG
              revert hk
              go_simp
              first | done | exact fun h => h
            case q1 =>
              rintro L vs w' K ⟨u88, u89, u90, u91, u92, u93, u94, u95, u96, u97, wz, rfl, φ, rfl⟩ hL hpre hcl hK G hG
              simp [Region.binds, closedFrom] at hpre hcl
              have hst : L 10 = false := by
                cases h : L 10 with
                | false => rfl
                | true => simp [h, hL] at hcl
              simp only [hst, Bool.false_eq_true, if_false] at hK hG
              obtain rfl := φ.s0 (by simp [hpre])
              have cx2 := φ.b.cell (a := ⟨X, 2, none⟩) x2 (Ne.symm neC)
              have hk := hK [(.pointer (some ⟨X, 2, none⟩)), (.slice B m d), u90, u91, u92, u93, u94, u95, u96, u97] wz ⟨_, _, _, _, _, _, _, _, _, _, wz, rfl,
                { b := φ.b,
                  own0 := fun h0 => φ.own0 (by simpa using h0),
                  s0 := fun h0 => φ.s0 (by simpa using h0),
                  s1 := fun _ => rfl,
                  s2 := fun h0 => φ.s2 (by simpa using h0),
                  s3 := fun h0 => φ.s3 (by simpa using h0),
                  s4 := fun h0 => φ.s4 (by simpa using h0),
                  s5 := fun h0 => φ.s5 (by simpa using h0),
                  s6 := fun h0 => φ.s6 (by simpa using h0),
                  s7 := fun h0 h1 => φ.s7 (by simpa using h0) (by simpa using h1),
                  s8 := fun h0 => φ.s8 (by simpa using h0),
                  a8 := fun h0 => φ.a8 (by simpa using h0),
                  s9 := fun h0 => φ.s9 (by simpa using h0) }, by simp [hst]⟩
              refine hG ?_
              clear hK φ hG
              revert hk
              go_simp
              first | done | exact fun h => h
            case q2 =>
              rintro L vs w' K ⟨u88, u89, u90, u91, u92, u93, u94, u95, u96, u97, wz, rfl, φ, rfl⟩ hL hpre hcl hK G hG
              simp [Region.binds, closedFrom] at hpre hcl
              have hst : L 10 = false := by
                cases h : L 10 with
                | false => rfl
                | true => simp [h, hL] at hcl
              simp only [hst, Bool.false_eq_true, if_false] at hK hG
              have hk := hK [u88, u89, (.pointer (some ⟨X, 1, none⟩)), u91, u92, u93, u94, u95, u96, u97] wz ⟨_, _, _, _, _, _, _, _, _, _, wz, rfl,
                { b := φ.b,
                  own0 := fun h0 => φ.own0 (by simpa using h0),
                  s0 := fun h0 => φ.s0 (by simpa using h0),
                  s1 := fun h0 => φ.s1 (by simpa using h0),
                  s2 := fun _ => rfl,
                  s3 := fun h0 => φ.s3 (by simpa using h0),
                  s4 := fun h0 => φ.s4 (by simpa using h0),
                  s5 := fun h0 => φ.s5 (by simpa using h0),
                  s6 := fun h0 => φ.s6 (by simpa using h0),
                  s7 := fun h0 h1 => φ.s7 (by simpa using h0) (by simpa using h1),
                  s8 := fun h0 => φ.s8 (by simpa using h0),
                  a8 := fun h0 => φ.a8 (by simpa using h0),
                  s9 := fun h0 => φ.s9 (by simpa using h0) }, by simp [hst]⟩
              refine hG ?_
              clear hK φ hG
              revert hk
              go_simp
              first | done | exact fun h => h
            case q3 =>
              rintro L vs w' K ⟨u88, u89, u90, u91, u92, u93, u94, u95, u96, u97, wz, rfl, φ, rfl⟩ hL hpre hcl hK G hG
              simp [Region.binds, closedFrom] at hpre hcl
              have hst : L 10 = false := by
                cases h : L 10 with
                | false => rfl
                | true => simp [h, hL] at hcl
              simp only [hst, Bool.false_eq_true, if_false] at hK hG
              obtain rfl := φ.s2 (by simp [hpre])
              have cx1 := φ.b.cell (a := ⟨X, 1, none⟩) x1 (Ne.symm neC)
              have hk := hK [u88, u89, (.pointer (some ⟨X, 1, none⟩)), (.slice (some ⟨bb, off, none⟩) n c), u92, u93, u94, u95, u96, u97] wz ⟨_, _, _, _, _, _, _, _, _, _, wz, rfl,
                { b := φ.b,
                  own0 := fun h0 => φ.own0 (by simpa using h0),
                  s0 := fun h0 => φ.s0 (by simpa using h0),
                  s1 := fun h0 => φ.s1 (by simpa using h0),
                  s2 := fun h0 => φ.s2 (by simpa using h0),
                  s3 := fun _ => rfl,
                  s4 := fun h0 => φ.s4 (by simpa using h0),
                  s5 := fun h0 => φ.s5 (by simpa using h0),
                  s6 := fun h0 => φ.s6 (by simpa using h0),
                  s7 := fun h0 h1 => φ.s7 (by simpa using h0) (by simpa using h1),
                  s8 := fun h0 => φ.s8 (by simpa using h0),
                  a8 := fun h0 => φ.a8 (by simpa using h0),
                  s9 := fun h0 => φ.s9 (by simpa using h0) }, by simp [hst]⟩
              refine hG ?_
              clear hK φ hG
              revert hk
              go_simp
              first | done | exact fun h => h
            case q4 =>
              rintro L vs w' K ⟨u88, u89, u90, u91, u92, u93, u94, u95, u96, u97, wz, rfl, φ, rfl⟩ hL hpre hcl hK G hG
              simp [Region.binds, closedFrom] at hpre hcl
              have hst : L 10 = false := by
                cases h : L 10 with
                | false => rfl
                | true => simp [h, hL] at hcl
              simp only [hst, Bool.false_eq_true, if_false] at hK hG
              obtain rfl := φ.s3 (by simp [hpre])
              have hk := hK [u88, u89, u90, (.slice (some ⟨bb, off, none⟩) n c), (.pointer (some ⟨bb, off, none⟩)), u93, u94, u95, u96, u97] wz ⟨_, _, _, _, _, _, _, _, _, _, wz, rfl,
                { b := φ.b,
                  own0 := fun h0 => φ.own0 (by simpa using h0),
                  s0 := fun h0 => φ.s0 (by simpa using h0),
                  s1 := fun h0 => φ.s1 (by simpa using h0),
                  s2 := fun h0 => φ.s2 (by simpa using h0),
                  s3 := fun h0 => φ.s3 (by simpa using h0),
                  s4 := fun _ => rfl,
                  s5 := fun h0 => φ.s5 (by simpa using h0),
                  s6 := fun h0 => φ.s6 (by simpa using h0),
                  s7 := fun h0 h1 => φ.s7 (by simpa using h0) (by simpa using h1),
                  s8 := fun h0 => φ.s8 (by simpa using h0),
                  a8 := fun h0 => φ.a8 (by simpa using h0),
                  s9 := fun h0 => φ.s9 (by simpa using h0) }, by simp [hst]⟩
              refine hG ?_
              clear hK φ hG
              revert hk
              go_simp
              first | done | exact fun h => h
            case q5 =>
              rintro L vs w' K ⟨u88, u89, u90, u91, u92, u93, u94, u95, u96, u97, wz, rfl, φ, rfl⟩ hL hpre hcl hK G hG
              simp [Region.binds, closedFrom] at hpre hcl
              have hst : L 10 = false := by
                cases h : L 10 with
                | false => rfl
                | true => simp [h, hL] at hcl
              simp only [hst, Bool.false_eq_true, if_false] at hK hG
              obtain rfl := φ.s4 (by simp [hpre])
              have hk := hK [u88, u89, u90, u91, (.pointer (some ⟨bb, off, none⟩)), (.pointer (some ⟨bb, off + 1, none⟩)), u94, u95, u96, u97] wz ⟨_, _, _, _, _, _, _, _, _, _, wz, rfl,
                { b := φ.b,
                  own0 := fun h0 => φ.own0 (by simpa using h0),
                  s0 := fun h0 => φ.s0 (by simpa using h0),
                  s1 := fun h0 => φ.s1 (by simpa using h0),
                  s2 := fun h0 => φ.s2 (by simpa using h0),
                  s3 := fun h0 => φ.s3 (by simpa using h0),
                  s4 := fun h0 => φ.s4 (by simpa using h0),
                  s5 := fun _ => rfl,
                  s6 := fun h0 => φ.s6 (by simpa using h0),
                  s7 := fun h0 h1 => φ.s7 (by simpa using h0) (by simpa using h1),
                  s8 := fun h0 => φ.s8 (by simpa using h0),
                  a8 := fun h0 => φ.a8 (by simpa using h0),
                  s9 := fun h0 => φ.s9 (by simpa using h0) }, by simp [hst]⟩
              refine hG ?_
              clear hK φ hG
              revert hk
              go_simp
              first | done | exact fun h => h
            case q6 =>
              rintro L vs w' K ⟨u88, u89, u90, u91, u92, u93, u94, u95, u96, u97, wz, rfl, φ, rfl⟩ hL hpre hcl hK G hG
              simp [Region.binds, closedFrom] at hpre hcl
              have hst : L 10 = false := by
                cases h : L 10 with
                | false => rfl
                | true => simp [h, hL] at hcl
              simp only [hst, Bool.false_eq_true, if_false] at hK hG
              obtain rfl := φ.s5 (by simp [hpre])
              have cq := φ.b.cell (a := ⟨bb, off + 1, none⟩) q1 (Ne.symm offB)
              have hk := hK [u88, u89, u90, u91, u92, (.pointer (some ⟨bb, off + 1, none⟩)), (.int .u32 x.val), u95, u96, u97] wz ⟨_, _, _, _, _, _, _, _, _, _, wz, rfl,
                { b := φ.b,
                  own0 := fun h0 => φ.own0 (by simpa using h0),
                  s0 := fun h0 => φ.s0 (by simpa using h0),
                  s1 := fun h0 => φ.s1 (by simpa using h0),
                  s2 := fun h0 => φ.s2 (by simpa using h0),
                  s3 := fun h0 => φ.s3 (by simpa using h0),
                  s4 := fun h0 => φ.s4 (by simpa using h0),
                  s5 := fun h0 => φ.s5 (by simpa using h0),
                  s6 := fun _ => rfl,
                  s7 := fun h0 h1 => φ.s7 (by simpa using h0) (by simpa using h1),
                  s8 := fun h0 => φ.s8 (by simpa using h0),
                  a8 := fun h0 => φ.a8 (by simpa using h0),
                  s9 := fun h0 => φ.s9 (by simpa using h0) }, by simp [hst]⟩
              refine hG ?_
              clear hK φ hG
              revert hk
              go_simp
              first | done | exact fun h => h
            case q7 =>
              rintro L vs w' K ⟨u88, u89, u90, u91, u92, u93, u94, u95, u96, u97, wz, rfl, φ, rfl⟩ hL hpre hcl hK G hG
              simp [Region.binds, closedFrom] at hpre hcl
              have hst : L 10 = false := by
                cases h : L 10 with
                | false => rfl
                | true => simp [h, hL] at hcl
              simp only [hst, Bool.false_eq_true, if_false] at hK hG
              obtain rfl := φ.s6 (by simp [hpre])
              have L8 : L 8 = false := by
                cases h : L 8 with
                | false => rfl
                | true => simp [h, hL] at hcl
              have o0 := φ.own0 L8
              have hk := hK [u88, u89, u90, u91, u92, u93, (.int .u32 x.val), (.slice (some ⟨wz.heap.size, 0, none⟩) 1 1), u96, u97] (wz.alloc (.cells #[.int .u32 x.val] 32)) ⟨_, _, _, _, _, _, _, _, _, _, (wz.alloc (.cells #[.int .u32 x.val] 32)), rfl,
                { b := grown_alloc φ.b _,
                  own0 := fun h0 => (φ.own0 (by simpa using h0)).alloc _,
                  s0 := fun h0 => φ.s0 (by simpa using h0),
                  s1 := fun h0 => φ.s1 (by simpa using h0),
                  s2 := fun h0 => φ.s2 (by simpa using h0),
                  s3 := fun h0 => φ.s3 (by simpa using h0),
                  s4 := fun h0 => φ.s4 (by simpa using h0),
                  s5 := fun h0 => φ.s5 (by simpa using h0),
                  s6 := fun h0 => φ.s6 (by simpa using h0),
                  s7 := fun _ _ => ⟨wz.heap.size, rfl, by simp, Lay.new wz [.int .u32 x.val] 32, fun e => Nat.lt_irrefl _ (o0.lt _ e).2⟩,
                  s8 := fun h => by simp [L8] at h,
                  a8 := fun h => by simp [L8] at h,
                  s9 := fun h0 => φ.s9 (by simpa using h0) }, by simp [hst]⟩
              refine hG ?_
              clear hK φ hG
              revert hk
              go_simp
              first | done | exact fun h => h
            case q8 =>
              rintro L vs w' K ⟨u88, u89, u90, u91, u92, u93, u94, u95, u96, u97, wz, rfl, φ, rfl⟩ hL hpre hcl hK G hG
              simp [Region.binds, closedFrom] at hpre hcl
              have hst : L 10 = false := by
                cases h : L 10 with
                | false => rfl
                | true => simp [h, hL] at hcl
              simp only [hst, Bool.false_eq_true, if_false] at hK hG
              obtain rfl := φ.s1 (by simp [hpre])
              have o0 := φ.own0 hL
              obtain ⟨Y, rfl, y2, y3, y4⟩ := φ.s7 (by simp [hpre]) hL
              refine hG (step_append_own wz rfl (.tmp 89) (.tmp 95) 22 rfl base 32 i0 _ 1 4 Try.underlying22 hi0 hz0 hz1 hz2 rfl (by decide) (.slice B m d) m _ (by simp [Act.eval, Act.puts, Act.put]) o0 ⟨Y, 0, none⟩ 1 1 [.int .u32 x.val] (by simp [Act.eval, Act.puts, Act.put]) rfl y3 (by intro u hu; simp at hu; rcases hu with rfl; rfl) (by unfold maxLen; omega) (by omega) (Nat.le_trans bXs φ.b.size) ?_)
              intro v' w9 ownN hgrow hat
              have hs9 := φ.b.size
              have hk := hK [u88, (.slice B m d), u90, u91, u92, u93, u94, (.slice (some ⟨Y, 0, none⟩) 1 1), (v'), u97] w9 ⟨_, _, _, _, _, _, _, _, _, _, w9, rfl,
                { b := φ.b.trans hgrow,
                  own0 := fun h => by simp at h,
                  s0 := fun h0 => φ.s0 (by simpa using h0),
                  s1 := fun h0 => φ.s1 (by simpa using h0),
                  s2 := fun h0 => φ.s2 (by simpa using h0),
                  s3 := fun h0 => φ.s3 (by simpa using h0),
                  s4 := fun h0 => φ.s4 (by simpa using h0),
                  s5 := fun h0 => φ.s5 (by simpa using h0),
                  s6 := fun h0 => φ.s6 (by simpa using h0),
                  s7 := fun _ h => by simp at h,
                  s8 := fun _ => ownN,
                  a8 := fun _ => hat.imp id (fun e k hk => by rw [e] at hk; injection hk with hk; omega),
                  s9 := fun h0 => φ.s9 (by simpa using h0) }, by simp [hst]⟩
              clear hK φ hG
              revert hk
              go_simp
              first | done | exact fun h => h
            case q9 =>
              rintro L vs w' K ⟨u88, u89, u90, u91, u92, u93, u94, u95, u96, u97, wz, rfl, φ, rfl⟩ hL hpre hcl hK G hG
              simp [Region.binds, closedFrom] at hpre hcl
              have hst : L 10 = false := by
                cases h : L 10 with
                | false => rfl
                | true => simp [h, hL] at hcl
              simp only [hst, Bool.false_eq_true, if_false] at hK hG
              have hk := hK [u88, u89, u90, u91, u92, u93, u94, u95, u96, (.pointer (some ⟨X, 2, none⟩))] wz ⟨_, _, _, _, _, _, _, _, _, _, wz, rfl,
                { b := φ.b,
                  own0 := fun h0 => φ.own0 (by simpa using h0),
                  s0 := fun h0 => φ.s0 (by simpa using h0),
                  s1 := fun h0 => φ.s1 (by simpa using h0),
                  s2 := fun h0 => φ.s2 (by simpa using h0),
                  s3 := fun h0 => φ.s3 (by simpa using h0),
                  s4 := fun h0 => φ.s4 (by simpa using h0),
                  s5 := fun h0 => φ.s5 (by simpa using h0),
                  s6 := fun h0 => φ.s6 (by simpa using h0),
                  s7 := fun h0 h1 => φ.s7 (by simpa using h0) (by simpa using h1),
                  s8 := fun h0 => φ.s8 (by simpa using h0),
                  a8 := fun h0 => φ.a8 (by simpa using h0),
                  s9 := fun _ => rfl }, by simp [hst]⟩
              refine hG ?_
              clear hK φ hG
              revert hk
              go_simp
              first | done | exact fun h => h
            case q10 =>
              rintro L vs w' K ⟨u88, u89, u90, u91, u92, u93, u94, u95, u96, u97, wz, rfl, φ, rfl⟩ hL hpre hcl hK G hG
              simp [Region.binds, closedFrom] at hpre hcl
              simp only [hL, Bool.false_eq_true, if_false] at hK hG
              obtain rfl := φ.s9 (by simp [hpre])
              have cx2 := φ.b.cell (a := ⟨X, 2, none⟩) x2 (Ne.symm neC)
              have cf := (World.frozen?_of_block (a := ⟨X, 2, none⟩) (φ.b.block X hiX (Ne.symm neC))).trans f2
              have o8 := φ.s8 (by simp [hpre])
              obtain ⟨A8, c8, rfl⟩ := own_shape o8
              have hk := hK [u88, u89, u90, u91, u92, u93, u94, u95, (.slice A8 (m + 1) c8), (.pointer (some ⟨X, 2, none⟩))] (wz.setCell ⟨X, 2, none⟩ (.slice A8 (m + 1) c8)) ⟨_, _, _, _, _, _, _, _, _, _, wz, rfl,
                { b := φ.b,
                  own0 := fun h0 => φ.own0 (by simpa using h0),
                  s0 := fun h0 => φ.s0 (by simpa using h0),
                  s1 := fun h0 => φ.s1 (by simpa using h0),
                  s2 := fun h0 => φ.s2 (by simpa using h0),
                  s3 := fun h0 => φ.s3 (by simpa using h0),
                  s4 := fun h0 => φ.s4 (by simpa using h0),
                  s5 := fun h0 => φ.s5 (by simpa using h0),
                  s6 := fun h0 => φ.s6 (by simpa using h0),
                  s7 := fun h0 h1 => φ.s7 (by simpa using h0) (by simpa using h1),
                  s8 := fun h0 => φ.s8 (by simpa using h0),
                  a8 := fun h0 => φ.a8 (by simpa using h0),
                  s9 := fun h0 => φ.s9 (by simpa using h0) }, by simp⟩
              refine hG ?_
              clear hK φ hG
              revert hk
              go_simp
              first | done | exact fun h => h
            case hend =>
              rintro vs w' ⟨u88, u89, u90, u91, u92, u93, u94, u95, u96, u97, wz, rfl, φ, rfl⟩ G hG
              have o8 := φ.s8 rfl
              have a8 := φ.a8 rfl
              obtain rfl := φ.s9 rfl
              have g8 := φ.b
              obtain ⟨A8, c8, rfl⟩ := own_shape o8
              clear φ
              have hst : decide (10 < 11) = true := rfl
              simp only [List.size_toArray, List.length_cons, List.length_nil, Nat.zero_add, Nat.reduceAdd, hst, if_true] at hG
              have L2 := L.setC (ca' := ca ++ [⟨x.val⟩]) g8 (by simpa [List.flatMap_append, Wrd.enc] using o8) (by simp [L.hm]) a8
              clear hst o8 a8 g8 ow
              refine hG ?_
              clear hG
              generalize wz.setCell ⟨X, 2, none⟩ (.slice A8 (m + 1) c8) = w5 at *
              obtain ⟨x0, x1, x2, f0, f1, f2, r0, r1, r2, fr0, fr1, fr2, hiX, bs, bX, es, _, _, _, own, _, neC, off2, b0⟩ := id L2
              have hrl : r.length = n - 1 := by have := HNL.out; simp at this; omega
              have HRL := Lib.hid hrl
              clear hrl
              by_cases hc1 : c = 1
              · have es2 : Sl 2 Pce.enc w5 (some ⟨bb, off, none⟩) r := by
                  have : r = [] := List.length_eq_zero_iff.1 (by rw [HRL.out]; omega)
                  rw [this]; exact Sl.nil _ _ _ _
                have L3 := (L2.setE (A' := some ⟨bb, off, none⟩) (n' := n - 1) (c' := 0) (ea' := r) es2 HRL.out (by omega) (by omega) off2).setN (nx + 1)
                clear es2 L2 L
                go_wp2_with fail
                go_roundg (n - 1)
                case measure => omega
                case rel => exact ⟨nx + 1, r, ca ++ [⟨x.val⟩], n - 1, m + 1, some ⟨bb, off, none⟩, 0, A8, c8, L3, by omega, by omega, by omega, by omega, (show Aside _ from HR.out.trans HS.out)⟩
              · have es2 : Sl 2 Pce.enc w5 (some ⟨bb, off + 2, none⟩) r := by have := es.drop 1; simpa using this
                have off3 : ∀ a, (some ⟨bb, off + 2, none⟩ : Option Addr) = some a → (Value.slice A8 (m + 1) c8).ownBlock ≠ some a.block ∧ a.block ≠ X ∧ base ≤ a.block ∧ a.block < w5.heap.size := fun a e => by
                  have e2 : (⟨bb, off + 2, none⟩ : Addr) = a := Option.some.inj e
                  subst e2
                  exact off2 ⟨bb, off, none⟩ rfl
                have L3 := (L2.setE (A' := some ⟨bb, off + 2, none⟩) (n' := n - 1) (c' := c - 1) (ea' := r) es2 HRL.out (by omega) (by omega) off3).setN (nx + 1)
                clear es2 L2 L
                go_wp2_with fail
                go_roundg (n - 1)
                case measure => omega
                case rel => exact ⟨nx + 1, r, ca ++ [⟨x.val⟩], n - 1, m + 1, some ⟨bb, off + 2, none⟩, c - 1, A8, c8, L3, by omega, by omega, by omega, by omega, (show Aside _ from HR.out.trans HS.out)⟩
          · have hlb : decide (nx < 1099511627776) = false := decide_eq_false hlim
            have hst : runG nx (x :: r) ca = ⟨nx, x :: r, ca⟩ := run_stop (fun y r' e hh => hlim hh.2)
            have HS := Lib.hid hst
            clear hst hxn
            go_wp2_with fail
            go_quiet (fail)
            have LL := hLL.out.drewN nq
            clear x0 x1 x2 f0 f1 f2 r0 r1 r2 fr0 fr1 fr2 hiX bs bX es own neC b0
            obtain ⟨x0, x1, x2, f0, f1, f2, r0, r1, r2, fr0, fr1, fr2, hiX, bs, bX, es, _, _, _, own, _, neC, offA, b0⟩ := LL
            generalize wr.drewN nq = wq at *
            have fA : ∀ a, ((some ⟨bb, off, none⟩) : Option Addr) = some a → w.heap.size + 3 ≤ a.block := fun a e => by have := (offA a e).2.2.1; omega
            have fB : ∀ a, B = some a → w.heap.size + 3 ≤ a.block := fun a e => by have := (own_fresh own (Nat.le_refl _)) a e; omega
            have sC := Sl.of_own Wrd.enc_len own HML.out
            clear offA own
            go_wp2_with fail
            go_region
            go_wp2_with fail
            exact bodyPost_ret (v := .tuple #[.agg #[.int .i64 nx, .slice (some ⟨bb, off, none⟩) n c, .slice B m d], .int .i64 nx, .int .i64 0]) (by simp [results, Try.results7, go_sem, r0, r1, r2]) rfl (by rw [HR.out, HS.out]; exact gaveG_ret (g := ⟨nx, x :: r, ca⟩) HNL.out HML.out es sC fA fB b0)
        · have hxb : (x.num == nx) = false := by rw [beq_eq_false_iff_ne]; exact hxn
          have hst : runG nx (x :: r) ca = ⟨nx, x :: r, ca⟩ := run_stop (fun y r' e hh => by injection e with e1 e2; subst e1; exact hxn hh.1)
          have HS := Lib.hid hst
          clear hst hxn
          go_wp2_with fail
          go_quiet (fail)
          have LL := hLL.out.drewN nq
          clear x0 x1 x2 f0 f1 f2 r0 r1 r2 fr0 fr1 fr2 hiX bs bX es own neC b0
          obtain ⟨x0, x1, x2, f0, f1, f2, r0, r1, r2, fr0, fr1, fr2, hiX, bs, bX, es, _, _, _, own, _, neC, offA, b0⟩ := LL
          generalize wr.drewN nq = wq at *
          have fA : ∀ a, ((some ⟨bb, off, none⟩) : Option Addr) = some a → w.heap.size + 3 ≤ a.block := fun a e => by have := (offA a e).2.2.1; omega
          have fB : ∀ a, B = some a → w.heap.size + 3 ≤ a.block := fun a e => by have := (own_fresh own (Nat.le_refl _)) a e; omega
          have sC := Sl.of_own Wrd.enc_len own HML.out
          clear offA own
          go_wp2_with fail
          go_region
          go_wp2_with fail
          exact bodyPost_ret (v := .tuple #[.agg #[.int .i64 nx, .slice (some ⟨bb, off, none⟩) n c, .slice B m d], .int .i64 nx, .int .i64 0]) (by simp [results, Try.results7, go_sem, r0, r1, r2]) rfl (by rw [HR.out, HS.out]; exact gaveG_ret (g := ⟨nx, x :: r, ca⟩) HNL.out HML.out es sC fA fB b0)
      · obtain rfl : n = 0 := by omega
        have hst : runG nx ea ca = ⟨nx, ea, ca⟩ := run_stop (fun x r e => by have := HNL.out; rw [e] at this; simp at this)
        have HS := Lib.hid hst
        clear hst
        go_wp2_with fail
        go_quiet (fail)
        have LL := hLL.out.drewN nq
        clear x0 x1 x2 f0 f1 f2 r0 r1 r2 fr0 fr1 fr2 hiX bs bX es own neC b0
        obtain ⟨x0, x1, x2, f0, f1, f2, r0, r1, r2, fr0, fr1, fr2, hiX, bs, bX, es, _, _, _, own, _, neC, offA, b0⟩ := LL
        generalize wr.drewN nq = wq at *
        have fA : ∀ a, (A : Option Addr) = some a → w.heap.size + 3 ≤ a.block := fun a e => by have := (offA a e).2.2.1; omega
        have fB : ∀ a, B = some a → w.heap.size + 3 ≤ a.block := fun a e => by have := (own_fresh own (Nat.le_refl _)) a e; omega
        have sC := Sl.of_own Wrd.enc_len own HML.out
        clear offA own
        go_wp2_with fail
        go_region
        go_wp2_with fail
        exact bodyPost_ret (v := .tuple #[.agg #[.int .i64 nx, .slice A 0 c, .slice B m d], .int .i64 nx, .int .i64 0]) (by simp [results, Try.results7, go_sem, r0, r1, r2]) rfl (by rw [HR.out, HS.out]; exact gaveG_ret (g := ⟨nx, ea, ca⟩) HNL.out HML.out es sC fA fB b0)

theorem get_any (A B : Option Addr) (c d n m : Nat) (g : Gtr) (p : Pce) (w : World) (hs : Sl 2 Pce.enc w A g.early) (hc : Sl 1 Wrd.enc w B g.came) (hn : g.early.length = n) (hm : g.came.length = m) (hn1 : n ≤ 1000000) (hm1 : m ≤ 1000000) (hp9 : p.num ≤ 9223372036854775807) :
    Calls Try.prog 7 #[.agg #[.int .i64 g.next, .slice A n c, .slice B m d], .agg #[.int .i64 p.num, .int .u32 p.val]] w (GaveG w (getG g p).1 (getG g p).1.next (getG g p).2) := by
  unfold getG
  cases hr : gRight g with
  | false => exact get_bad A B c d n m g p w hs hc hn hm hn1 hm1 hr
  | true =>
    by_cases h1 : p.num < 0
    · rw [if_pos (.inr (.inl h1))]
      exact get_neg A B c d n m g p w hs hc hn hm hn1 hm1 hr h1
    · by_cases h2 : g.next = 1099511627776
      · rw [if_pos (.inr (.inr h2))]
        exact get_most A B c d n m g p w hs hc hn hm hn1 hm1 hr (by omega) h2
      · rw [if_neg (by simp only [Bool.true_eq_false, false_or]; omega)]
        by_cases h3 : p.num < g.next
        · rw [if_pos (.inl h3)]
          exact get_low A B c d n m g p w hs hc hn hm hn1 hm1 hr (by omega) hp9 h2 h3
        · by_cases h4 : g.next + 16 ≤ p.num
          · rw [if_pos (.inr (.inl h4))]
            exact get_high A B c d n m g p w hs hc hn hm hn1 hm1 hr (by omega) hp9 h2 (by omega) h4
          · cases ht : thereG g.early p.num with
            | true =>
              rw [if_pos (.inr (.inr rfl))]
              exact get_there A B c d n m g p w hs hc hn hm hn1 hm1 hr (by omega) hp9 h2 (by omega) (by omega) ht
            | false =>
              rw [if_neg (by simp only [Bool.false_eq_true, or_false]; omega)]
              exact get_ok A B c d n m g p w hs hc hn hm hn1 hm1 hr (by omega) hp9 h2 (by omega) (by omega) ht
end Go.Proofs.Ytjnpdicoopgkoaa
