/- The region of CacheLast's walk that puts a line. -/
import Derived.Test.YtdndanjabknjpaaAD
namespace Go.Proofs.Ytdndanjabknjpaa
open Go.RowKit Go.Lib

set_option linter.unusedVariables false
attribute [local go_sem] Act.puts

def tupAt : Value → Nat → Value | .tuple xs, k => xs.getD k undef | _, _ => undef
/-- A variable is no block of a cache's rows. -/
def OffC (X : Nat) (V : Value) (n : Nat) (hs : List Hd) : Prop := (∀ g, V.ownBlock = some g → g ≠ X) ∧ ∀ j, j < n → ∀ g, hs[j]!.val.ownBlock = some g → g ≠ X
section
variable {w w' : World} {base n X : Nat} {V : Value} {ls : List (List Ln)} {hs : List Hd}
theorem OffC.new (h : OwnC w base V n ls hs) (hX : w.heap.size ≤ X) : OffC X V n hs :=
  ⟨fun g e => by have := (h.outer.lt g e).2; omega, fun j hj g e => by have := ((h.inner j hj).2.lt g e).2; omega⟩
theorem OffC.old (h : OwnC w base V n ls hs) (hX : X < base) : OffC X V n hs :=
  ⟨fun g e => by have := (h.outer.lt g e).1; omega, fun j hj g e => by have := ((h.inner j hj).2.lt g e).1; omega⟩
theorem OwnC.off1 (h : OwnC w base V n ls hs) (ho : OffC X V n hs) (j : Nat) (u : Value) : OwnC (w.setCell ⟨X, j, none⟩ u) base V n ls hs := h.keep (grown_set (World.grownBy.refl w _) u) ho.1 ho.2
theorem OwnC.off4 (h : OwnC w base V n ls hs) (ho : OffC X V n hs) (u0 u1 u2 u3 : Value) : OwnC ((((w.setCell ⟨X, 0, none⟩ u0).setCell ⟨X, 1, none⟩ u1).setCell ⟨X, 2, none⟩ u2).setCell ⟨X, 3, none⟩ u3) base V n ls hs :=
  (((h.off1 ho 0 u0).off1 ho 1 u1).off1 ho 2 u2).off1 ho 3 u3
theorem Bx.far4 {cs : List Value} {Y : Nat} (h : Bx w X cs) (hne : Y ≠ X) (u0 u1 u2 u3 : Value) : Bx ((((w.setCell ⟨Y, 0, none⟩ u0).setCell ⟨Y, 1, none⟩ u1).setCell ⟨Y, 2, none⟩ u2).setCell ⟨Y, 3, none⟩ u3) X cs :=
  (((h.far hne 0 u0).far hne 1 u1).far hne 2 u2).far hne 3 u3
theorem Bx.set4 {v0 v1 v2 v3 : Value} (h : Bx w X [v0, v1, v2, v3]) (u0 u1 u2 u3 : Value) : Bx ((((w.setCell ⟨X, 0, none⟩ u0).setCell ⟨X, 1, none⟩ u1).setCell ⟨X, 2, none⟩ u2).setCell ⟨X, 3, none⟩ u3) X [u0, u1, u2, u3] :=
  (((h.set 0 u0 (by simp)).set 1 u1 (by simp)).set 2 u2 (by simp)).set 3 u3 (by simp)
theorem ptr_inj {X Y : Nat} (h : Value.pointer (some ⟨X, 0, none⟩) = .pointer (some ⟨Y, 0, none⟩)) : X = Y := by
  injection h with h; injection h with h; injection h
end
structure LaR (w0 : World) (x y : Ca) (z : Ln) (A0 : Option Addr) (n c0 ab ao am ac i : Nat) (q : Int) (L : Nat → Bool) (u56 u57 u58 u59 u60 u61 u62 u63 u64 u55 u65 u66 u67 u12 u13 u14 : Value) (wz : World) : Prop where
  b : Below w0.heap.size w0 wz
  s0 : L 0 = true → u56 = .agg #[.int .i64 x.sets, .int .i64 x.ways, .int .i64 x.clock, .slice A0 n c0]
  s1 : L 1 = true → u57 = .slice (some ⟨ab, ao, none⟩) am ac
  s2 : L 2 = true → u58 = .int .i64 (i : Int)
  s3 : L 3 = true → u59 = .pointer (some ⟨ab, ao + i, none⟩)
  s4 : L 4 = true → u60 = .int .u8 q
  s5 : L 5 = true → u61 = .int .i64 q
  s6 : L 6 = true → u62 = .int .i64 (i : Int)
  s7 : L 7 = true → u63 = .int .u32 (i : Int)
  c8 : L 8 = true → ∃ A d hs, u64 = .tuple #[.agg #[.int .i64 y.sets, .int .i64 y.ways, .int .i64 y.clock, .slice A n d], .agg #[.int .i64 z.addr, .int .i64 z.state, .int .u32 z.val_, .int .i64 z.used], .int .i64 0] ∧ OwnC wz w0.heap.size (.slice A n d) n y.lines hs ∧ (L 13 = true → ∀ X, u12 = .pointer (some ⟨X, 0, none⟩) → OffC X (.slice A n d) n hs) ∧ (L 14 = true → ∀ X, u13 = .pointer (some ⟨X, 0, none⟩) → OffC X (.slice A n d) n hs)
  s9 : L 9 = true → u55 = u64
  s10 : L 10 = true → u65 = tupAt u64 0
  s11 : L 11 = true → u66 = tupAt u64 1
  s12 : L 12 = true → u67 = tupAt u64 2
  x13 : L 13 = true → ∃ X, u12 = .pointer (some ⟨X, 0, none⟩) ∧ w0.heap.size ≤ X ∧ X < wz.heap.size
  z13 : L 13 = true → L 15 = false → ∀ X, u12 = .pointer (some ⟨X, 0, none⟩) → Bx wz X [.int .i64 0, .int .i64 0, .int .i64 0, .slice none 0 0]
  y13 : L 15 = true → ∀ X, u12 = .pointer (some ⟨X, 0, none⟩) → ∀ A d, u64 = .tuple #[.agg #[.int .i64 y.sets, .int .i64 y.ways, .int .i64 y.clock, .slice A n d], .agg #[.int .i64 z.addr, .int .i64 z.state, .int .u32 z.val_, .int .i64 z.used], .int .i64 0] → Bx wz X [.int .i64 y.sets, .int .i64 y.ways, .int .i64 y.clock, .slice A n d]
  x14 : L 14 = true → ∃ X, u13 = .pointer (some ⟨X, 0, none⟩) ∧ w0.heap.size ≤ X ∧ X < wz.heap.size
  z14 : L 14 = true → L 16 = false → ∀ X, u13 = .pointer (some ⟨X, 0, none⟩) → Bx wz X [.int .i64 0, .int .i64 0, .int .u32 0, .int .i64 0]
  ne : L 13 = true → L 14 = true → ∀ X Y, u12 = .pointer (some ⟨X, 0, none⟩) → u13 = .pointer (some ⟨Y, 0, none⟩) → X ≠ Y
  s17 : L 17 = true → u14 = tupAt u64 2
def LaRPhi (w0 : World) (x y : Ca) (z : Ln) (A0 : Option Addr) (n c0 ab ao am ac i : Nat) (q : Int) (L : Nat → Bool) (vs : List Value) (w' : World) : Prop :=
  ∃ u56 u57 u58 u59 u60 u61 u62 u63 u64 u55 u65 u66 u67 u12 u13 u14 wz, vs = [u56, u57, u58, u59, u60, u61, u62, u63, u64, u55, u65, u66, u67, u12, u13, u14] ∧ LaR w0 x y z A0 n c0 ab ao am ac i q L u56 u57 u58 u59 u60 u61 u62 u63 u64 u55 u65 u66 u67 u12 u13 u14 wz ∧ wz = w'
end Go.Proofs.Ytdndanjabknjpaa
