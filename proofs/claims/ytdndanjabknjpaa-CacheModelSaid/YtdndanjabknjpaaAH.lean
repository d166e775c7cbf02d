/- What CacheModel's walk uses: the state of its loop. -/
import Derived.Test.YtdndanjabknjpaaAF
import Derived.Test.YtdndanjabknjpaaAG
import Derived.Test.YtdndanjabknjpaaOq
namespace Go.Proofs.Ytdndanjabknjpaa
open Go.RowKit Go.Lib
set_option linter.unusedVariables false

theorem zero52 : Try.zeroCells52 = ((List.range 256).map fun _ => Value.int .u32 0).toArray := by kernel_rfl
theorem zero53 : Try.zeroCells53 = ((List.range 256).map fun _ => Value.int .i64 0).toArray := by kernel_rfl
theorem ArrF.new52 (w : World) : ArrF (w.alloc (.cells Try.zeroCells52 52)) w.heap.size 52 (fun _ => .int .u32 0) := ⟨by rw [← zero52]; exact heap_alloc_new w _⟩
theorem ArrF.new53 (w : World) : ArrF (w.alloc (.cells Try.zeroCells53 53)) w.heap.size 53 (fun _ => .int .i64 0) := ⟨by rw [← zero53]; exact heap_alloc_new w _⟩
/-- Where CacheModel's loop stands in the memory. -/
structure MS (w wl : World) (CX TX VX LX n : Nat) (x : Ca) (A0 : Option Addr) (c0 : Nat) (hs1 : List Hd) (th : Nat → Bool) (va la : Nat → Int) : Prop where
  cv : CV (fun g => g ≠ CX ∧ g ≠ TX ∧ g ≠ VX ∧ g ≠ LX) wl CX x A0 n c0 hs1
  ta : ArrF wl TX 35 (fun j => .bool (th j))
  av : ArrF wl VX 52 (fun j => .int .u32 (va j))
  al : ArrF wl LX 53 (fun j => .int .i64 (la j))
  b : Below w.heap.size w wl
  num : w.heap.size ≤ CX ∧ CX < TX ∧ TX < VX ∧ VX < LX
section
variable {w wl w' : World} {CX TX VX LX n c0 : Nat} {x : Ca} {A0 : Option Addr} {hs1 : List Hd} {th : Nat → Bool} {va la : Nat → Int}
theorem MS.below (h : MS w wl CX TX VX LX n x A0 c0 hs1 th va la) (hb : Below wl.heap.size wl w') : MS w w' CX TX VX LX n x A0 c0 hs1 th va la :=
  ⟨h.cv.below hb, h.ta.below hb, h.av.below hb, h.al.below hb, h.b.trans (hb.mono h.b.size), h.num⟩
theorem MS.alloc (h : MS w wl CX TX VX LX n x A0 c0 hs1 th va la) (o : Obj) : MS w (wl.alloc o) CX TX VX LX n x A0 c0 hs1 th va la := h.below ((Below.refl _ _).alloc (Nat.le_refl _) o)
theorem MS.setT (h : MS w wl CX TX VX LX n x A0 c0 hs1 th va la) (k : Nat) (u : Bool) : MS w (wl.setCell ⟨TX, k, none⟩ (.bool u)) CX TX VX LX n x A0 c0 hs1 (upd th k u) va la := by
  obtain ⟨n1, n2, n3, n4⟩ := h.num
  refine ⟨h.cv.far (by omega) (fun g hg => hg.2.1) _ _, (h.ta.set k (.bool u)).congr (fun j _ => ?_), h.av.far (by omega) _ _, h.al.far (by omega) _ _, h.b.setCell (p := ⟨TX, k, none⟩) (by show w.heap.size ≤ TX; omega) _, h.num⟩
  unfold upd
  split <;> rfl
theorem MS.setV (h : MS w wl CX TX VX LX n x A0 c0 hs1 th va la) (k : Nat) (u : Int) : MS w (wl.setCell ⟨VX, k, none⟩ (.int .u32 u)) CX TX VX LX n x A0 c0 hs1 th (upd va k u) la := by
  obtain ⟨n1, n2, n3, n4⟩ := h.num
  refine ⟨h.cv.far (by omega) (fun g hg => hg.2.2.1) _ _, h.ta.far (by omega) _ _, (h.av.set k (.int .u32 u)).congr (fun j _ => ?_), h.al.far (by omega) _ _, h.b.setCell (p := ⟨VX, k, none⟩) (by show w.heap.size ≤ VX; omega) _, h.num⟩
  unfold upd
  split <;> rfl
theorem MS.setL (h : MS w wl CX TX VX LX n x A0 c0 hs1 th va la) (k : Nat) (u : Int) : MS w (wl.setCell ⟨LX, k, none⟩ (.int .i64 u)) CX TX VX LX n x A0 c0 hs1 th va (upd la k u) := by
  obtain ⟨n1, n2, n3, n4⟩ := h.num
  refine ⟨h.cv.far (by omega) (fun g hg => hg.2.2.2) _ _, h.ta.far (by omega) _ _, h.av.far (by omega) _ _, (h.al.set k (.int .i64 u)).congr (fun j _ => ?_), h.b.setCell (p := ⟨LX, k, none⟩) (by show w.heap.size ≤ LX; omega) _, h.num⟩
  unfold upd
  split <;> rfl
/-- The cache is set anew, to one that a call has made since. -/
theorem MS.setC {base n' c' : Nat} {y : Ca} {A' : Option Addr} {hs' : List Hd} (h : MS w wl CX TX VX LX n x A0 c0 hs1 th va la) (ho : OwnC wl base (.slice A' n' c') n' y.lines hs') (hb : LX < base) :
    MS w ((((wl.setCell ⟨CX, 0, none⟩ (.int .i64 y.sets)).setCell ⟨CX, 1, none⟩ (.int .i64 y.ways)).setCell ⟨CX, 2, none⟩ (.int .i64 y.clock)).setCell ⟨CX, 3, none⟩ (.slice A' n' c')) CX TX VX LX n' y A' c' hs' th va la := by
  obtain ⟨n1, n2, n3, n4⟩ := h.num
  have f4 : ∀ {X : Nat} {T : TypeId} {f : Nat → Value}, ArrF wl X T f → CX ≠ X → ArrF ((((wl.setCell ⟨CX, 0, none⟩ (.int .i64 y.sets)).setCell ⟨CX, 1, none⟩ (.int .i64 y.ways)).setCell ⟨CX, 2, none⟩ (.int .i64 y.clock)).setCell ⟨CX, 3, none⟩ (.slice A' n' c')) X T f :=
    fun ha hne => (((ha.far hne 0 _).far hne 1 _).far hne 2 _).far hne 3 _
  refine ⟨CV.put h.cv.V ho (fun g hg => by omega) (by omega), f4 h.ta (by omega), f4 h.av (by omega), f4 h.al (by omega), ?_, h.num⟩
  exact (((h.b.setCell (p := ⟨CX, 0, none⟩) n1 _).setCell (p := ⟨CX, 1, none⟩) n1 _).setCell (p := ⟨CX, 2, none⟩) n1 _).setCell (p := ⟨CX, 3, none⟩) n1 _
/-- Another variable is written. -/
theorem MS.far (h : MS w wl CX TX VX LX n x A0 c0 hs1 th va la) {Y : Nat} (hY : LX < Y) (hP : ∀ g, (Value.slice A0 n c0).ownBlock = some g → g ≠ Y) (hI : ∀ j, j < n → ∀ g, hs1[j]!.val.ownBlock = some g → g ≠ Y) (j : Nat) (u : Value) :
    MS w (wl.setCell ⟨Y, j, none⟩ u) CX TX VX LX n x A0 c0 hs1 th va la := by
  obtain ⟨n1, n2, n3, n4⟩ := h.num
  exact ⟨⟨h.cv.V.far (by omega) j u, h.cv.own.keep (X := Y) (grown_set (World.grownBy.refl wl _) u) hP hI, h.cv.off, h.cv.offs⟩, h.ta.far (by omega) _ _, h.av.far (by omega) _ _, h.al.far (by omega) _ _, h.b.setCell (p := ⟨Y, j, none⟩) (by show w.heap.size ≤ Y; omega) u, h.num⟩
end
end Go.Proofs.Ytdndanjabknjpaa
