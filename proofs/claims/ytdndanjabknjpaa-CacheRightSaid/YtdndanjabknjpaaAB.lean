/- A variable that holds a cache; the walk of the laws' awake. -/
import Derived.Test.YtdndanjabknjpaaAA
namespace Go.Proofs.Ytdndanjabknjpaa
open Go.RowKit Go.Lib

set_option linter.unusedVariables false
/-- A variable that holds a cache, whose rows' blocks have a property. -/
structure CV (P : Nat → Prop) (wl : World) (X : Nat) (x : Ca) (A : Option Addr) (n c : Nat) (hs : List Hd) : Prop where
  V : Bx wl X [.int .i64 x.sets, .int .i64 x.ways, .int .i64 x.clock, .slice A n c]
  own : OwnC wl 0 (.slice A n c) n x.lines hs
  off : ∀ g, (Value.slice A n c).ownBlock = some g → P g
  offs : ∀ j, j < n → ∀ g, hs[j]!.val.ownBlock = some g → P g
section
variable {P : Nat → Prop} {wl w' : World} {X n c : Nat} {x : Ca} {A : Option Addr} {hs : List Hd}
theorem CV.below (h : CV P wl X x A n c hs) (hb : Below wl.heap.size wl w') : CV P w' X x A n c hs := ⟨h.V.below hb, h.own.below hb, h.off, h.offs⟩
theorem CV.cin (h : CV P wl X x A n c hs) : CIn wl A x.lines hs := h.own.cin
theorem CV.alloc (h : CV P wl X x A n c hs) (o : Obj) : CV P (wl.alloc o) X x A n c hs := h.below ((Below.refl _ _).alloc (Nat.le_refl _) o)
/-- Another variable is written. -/
theorem CV.far (h : CV P wl X x A n c hs) {Y : Nat} (hX : Y ≠ X) (hP : ∀ g, P g → g ≠ Y) (j : Nat) (u : Value) : CV P (wl.setCell ⟨Y, j, none⟩ u) X x A n c hs :=
  ⟨h.V.far hX j u, h.own.keep (X := Y) (grown_set (World.grownBy.refl wl _) u) (fun g e => hP g (h.off g e)) (fun j hj g e => hP g (h.offs j hj g e)), h.off, h.offs⟩
/-- The variable is set anew. -/
theorem CV.put {base n' c' : Nat} {y : Ca} {A' : Option Addr} {hs' : List Hd} {u0 u1 u2 u3 : Value} (hV : Bx wl X [u0, u1, u2, u3]) (ho : OwnC wl base (.slice A' n' c') n' y.lines hs') (hP : ∀ g, base ≤ g → P g) (hX : X < base) :
    CV P ((((wl.setCell ⟨X, 0, none⟩ (.int .i64 y.sets)).setCell ⟨X, 1, none⟩ (.int .i64 y.ways)).setCell ⟨X, 2, none⟩ (.int .i64 y.clock)).setCell ⟨X, 3, none⟩ (.slice A' n' c')) X y A' n' c' hs' := by
  refine ⟨?_, ((((ho.set hX 0 _).set hX 1 _).set hX 2 _).set hX 3 _).weaken (Nat.zero_le _), fun g e => hP g (ho.outer.lt g e).1, fun j hj g e => hP g ((ho.inner j hj).2.lt g e).1⟩
  exact (((hV.set 0 (.int .i64 y.sets) (by simp)).set 1 (.int .i64 y.ways) (by simp)).set 2 (.int .i64 y.clock) (by simp)).set 3 (.slice A' n' c') (by simp)
/-- A new variable. -/
theorem CV.new {base n' c' : Nat} {y : Ca} {A' : Option Addr} {hs' : List Hd} (ho : OwnC wl base (.slice A' n' c') n' y.lines hs') (hP : ∀ g, base ≤ g → g < wl.heap.size → P g) :
    CV P (wl.alloc (.cells #[.int .i64 y.sets, .int .i64 y.ways, .int .i64 y.clock, .slice A' n' c'] 26)) wl.heap.size y A' n' c' hs' :=
  ⟨Bx.new wl _ 26, (ho.below ((Below.refl _ _).alloc (Nat.le_refl _) _)).weaken (Nat.zero_le _), fun g e => hP g (ho.outer.lt g e).1 (ho.outer.lt g e).2, fun j hj g e => hP g ((ho.inner j hj).2.lt g e).1 ((ho.inner j hj).2.lt g e).2⟩
end
theorem GivesC.num {w : World} {f : Nat} {args : Array Value} {r : Ca × Int} {y : Ca} {k : Int} {n : Nat} (h : Calls Try.prog f args w (GivesC w r)) (hr : r = (y, k)) (hn : y.lines.length = n) :
    Calls Try.prog f args w fun e w' => ∃ B d hs, e = .returned (.tuple #[.agg #[.int .i64 y.sets, .int .i64 y.ways, .int .i64 y.clock, .slice B n d], .int .i64 k]) ∧ OwnC w' w.heap.size (.slice B n d) n y.lines hs ∧ Below w.heap.size w w' := by
  subst hr; subst hn
  exact h.mono fun e w' ⟨B, d, h1, ⟨hs, h2⟩, h3⟩ => ⟨B, d, hs, h1, h2, h3⟩
theorem GivesP.num {w : World} {f : Nat} {args : Array Value} {r : Ca × Ln × Int} {y : Ca} {z : Ln} {k : Int} {n : Nat} (h : Calls Try.prog f args w (GivesP w r)) (hr : r = (y, z, k)) (hn : y.lines.length = n) :
    Calls Try.prog f args w fun e w' => ∃ B d hs, e = .returned (.tuple #[.agg #[.int .i64 y.sets, .int .i64 y.ways, .int .i64 y.clock, .slice B n d], .agg #[.int .i64 z.addr, .int .i64 z.state, .int .u32 z.val_, .int .i64 z.used], .int .i64 k]) ∧ OwnC w' w.heap.size (.slice B n d) n y.lines hs ∧ Below w.heap.size w w' := by
  subst hr; subst hn
  exact h.mono fun e w' ⟨B, d, h1, ⟨hs, h2⟩, h3⟩ => ⟨B, d, hs, h1, h2, h3⟩

def k1 (x : Ca) : Prop := x.lines.length = 1 ∧ (∀ s, s < 1 → x.lines[s]!.length ≤ 1000000) ∧ WfC x
theorem k1_of (a : Int) (b : Int) (c : Int) (l : List Ln) (hl : l.length ≤ 2) (hw : ∀ y ∈ l, (Lit.int .i64 y.addr).wf = true) : k1 ⟨a, b, c, [l]⟩ := by
  refine ⟨rfl, fun s hs => ?_, fun s i hs hi => ?_⟩
  · obtain rfl : s = 0 := by omega
    show l.length ≤ _
    omega
  · obtain rfl : s = 0 := by simpa using hs
    have hi2 : i < l.length := hi
    show (Lit.int .i64 l[i]!.addr).wf = true
    rw [getElem!_pos l i hi2]
    exact hw _ (List.getElem_mem _)
theorem k1_0 : k1 ⟨1, 2, 0, [[]]⟩ := k1_of _ _ _ _ (by decide) (by decide)
theorem k1_1 : k1 ⟨1, 2, 1, [[⟨1, 1, 10, 1⟩]]⟩ := k1_of _ _ _ _ (by decide) (by decide)
theorem k1_2 : k1 ⟨1, 2, 2, [[⟨1, 1, 10, 1⟩, ⟨2, 1, 20, 2⟩]]⟩ := k1_of _ _ _ _ (by decide) (by decide)
theorem k1_3 : k1 ⟨1, 2, 3, [[⟨1, 1, 10, 3⟩, ⟨2, 1, 20, 2⟩]]⟩ := k1_of _ _ _ _ (by decide) (by decide)
theorem k1_4 : k1 ⟨1, 2, 4, [[⟨1, 1, 10, 3⟩, ⟨3, 2, 30, 4⟩]]⟩ := k1_of _ _ _ _ (by decide) (by decide)
theorem p1 : newC 1 2 = (⟨1, 2, 0, [[]]⟩, 0) := by decide +kernel
theorem p2 : putC (⟨1, 2, 0, [[]]⟩ : Ca) 1 1 10 = (⟨1, 2, 1, [[⟨1, 1, 10, 1⟩]]⟩, ⟨0, 0, 0, 0⟩, 0) := by decide +kernel
theorem p3 : putC (⟨1, 2, 1, [[⟨1, 1, 10, 1⟩]]⟩ : Ca) 2 1 20 = (⟨1, 2, 2, [[⟨1, 1, 10, 1⟩, ⟨2, 1, 20, 2⟩]]⟩, ⟨0, 0, 0, 0⟩, 0) := by decide +kernel
theorem p4 : useC (⟨1, 2, 2, [[⟨1, 1, 10, 1⟩, ⟨2, 1, 20, 2⟩]]⟩ : Ca) 1 = (⟨1, 2, 3, [[⟨1, 1, 10, 3⟩, ⟨2, 1, 20, 2⟩]]⟩, 0) := by decide +kernel
theorem p5 : putC (⟨1, 2, 3, [[⟨1, 1, 10, 3⟩, ⟨2, 1, 20, 2⟩]]⟩ : Ca) 3 2 30 = (⟨1, 2, 4, [[⟨1, 1, 10, 3⟩, ⟨3, 2, 30, 4⟩]]⟩, ⟨2, 1, 20, 2⟩, 0) := by decide +kernel
theorem p6 : lookC (⟨1, 2, 4, [[⟨1, 1, 10, 3⟩, ⟨3, 2, 30, 4⟩]]⟩ : Ca) 1 = (⟨1, 1, 10, 3⟩, true) := by decide +kernel
theorem p7 : rightC (⟨1, 2, 4, [[⟨1, 1, 10, 3⟩, ⟨3, 2, 30, 4⟩]]⟩ : Ca) = true := by decide +kernel

set_option maxHeartbeats 4000000 in
set_option maxRecDepth 100000 in
theorem awake_any (w : World) : Calls Try.prog 6 #[] w fun e w' => e = .returned (.bool true) ∧ Below w.heap.size w w' := by
  have c1 := fun w1 => GivesC.num (new_any 1 2 w1) p1 (n := 1) rfl
  have c2 := fun A c hs w1 (h : CIn w1 A _ hs) => GivesP.num (put_any A c 1 (⟨1, 2, 0, [[]]⟩ : Ca) hs 1 1 10 w1 h rfl (by decide) k1_0.2.1 k1_0.2.2) p2 (n := 1) rfl
  have c3 := fun A c hs w1 (h : CIn w1 A _ hs) => GivesP.num (put_any A c 1 (⟨1, 2, 1, [[⟨1, 1, 10, 1⟩]]⟩ : Ca) hs 2 1 20 w1 h rfl (by decide) k1_1.2.1 k1_1.2.2) p3 (n := 1) rfl
  have c4 := fun A c hs w1 (h : CIn w1 A _ hs) => GivesC.num (use_any A c 1 (⟨1, 2, 2, [[⟨1, 1, 10, 1⟩, ⟨2, 1, 20, 2⟩]]⟩ : Ca) hs 1 w1 h rfl (by decide) k1_2.2.1 k1_2.2.2) p4 (n := 1) rfl
  have c5 := fun A c hs w1 (h : CIn w1 A _ hs) => GivesP.num (put_any A c 1 (⟨1, 2, 3, [[⟨1, 1, 10, 3⟩, ⟨2, 1, 20, 2⟩]]⟩ : Ca) hs 3 2 30 w1 h rfl (by decide) k1_3.2.1 k1_3.2.2) p5 (n := 1) rfl
  have c6 := fun A c hs w1 (h : CIn w1 A _ hs) => look_any A c 1 (⟨1, 2, 4, [[⟨1, 1, 10, 3⟩, ⟨3, 2, 30, 4⟩]]⟩ : Ca) hs 1 w1 h rfl k1_4.2.2
  have c7 := fun A c hs w1 (h : CIn w1 A _ hs) => right_any A c 1 (⟨1, 2, 4, [[⟨1, 1, 10, 3⟩, ⟨3, 2, 30, 4⟩]]⟩ : Ca) hs w1 h rfl k1_4.2.2
  have c8 := fun A c hs w1 (h : CIn w1 A _ hs) => all_any A c 1 (⟨1, 2, 4, [[⟨1, 1, 10, 3⟩, ⟨3, 2, 30, 4⟩]]⟩ : Ca) hs w1 h rfl k1_4.2.2
  rw [p7] at c7
  rw [p6] at c6
  go_enter Try.func6, Try.ntmps6
  go_wp2_with fail
  refine (c1 _).mono ?_
  rintro e w1 ⟨B1, d1, hs1, rfl, own1, hb⟩
  have b := hb.alloc hb.size (.cells #[.int .i64 1, .int .i64 2, .int .i64 0, .slice B1 1 d1] 26)
  have hX := hb.size
  have cv : CV (fun g => g ≠ w1.heap.size) (w1.alloc (.cells #[.int .i64 1, .int .i64 2, .int .i64 0, .slice B1 1 d1] 26)) w1.heap.size (⟨1, 2, 0, [[]]⟩ : Ca) B1 1 d1 hs1 := CV.new (y := (⟨1, 2, 0, [[]]⟩ : Ca)) own1 (fun g h1 h2 => by omega)
  clear own1 hb
  have x0 := cv.V.cell 0 _ rfl
  have x1 := cv.V.cell 1 _ rfl
  have x2 := cv.V.cell 2 _ rfl
  have x3 := cv.V.cell 3 _ rfl
  have f0 := cv.V.froz 0
  have f1 := cv.V.froz 1
  have f2 := cv.V.froz 2
  have f3 := cv.V.froz 3
  have hlt := cv.V.lt
  go_wp2_with fail
  generalize w1.alloc (.cells #[.int .i64 1, .int .i64 2, .int .i64 0, .slice B1 1 d1] 26) = W1 at *
  generalize w1.heap.size = X at *
  clear c1
  refine (c2 _ _ _ _ cv.cin).mono ?_
  rintro e w2 ⟨B2, d2, hs2, rfl, own, hb⟩
  have cv2 := cv.below hb
  have b2 := b.trans (hb.mono b.size)
  clear x0 x1 x2 x3 f0 f1 f2 f3 hlt
  have cvn : CV (fun g => g ≠ X) ((((w2.setCell ⟨X, 0, none⟩ (.int .i64 1)).setCell ⟨X, 1, none⟩ (.int .i64 2)).setCell ⟨X, 2, none⟩ (.int .i64 1)).setCell ⟨X, 3, none⟩ (.slice B2 1 d2)) X (⟨1, 2, 1, [[⟨1, 1, 10, 1⟩]]⟩ : Ca) B2 1 d2 hs2 := CV.put (P := fun g => g ≠ X) (y := (⟨1, 2, 1, [[⟨1, 1, 10, 1⟩]]⟩ : Ca)) cv2.V own (fun g hg => by have := cv.V.lt; omega) cv.V.lt
  have bn := (((b2.setCell (p := ⟨X, 0, none⟩) hX (.int .i64 1)).setCell (p := ⟨X, 1, none⟩) hX (.int .i64 2)).setCell (p := ⟨X, 2, none⟩) hX (.int .i64 1)).setCell (p := ⟨X, 3, none⟩) hX (.slice B2 1 d2)
  clear cv b own
  have cv := cv2
  have x0 := cv.V.cell 0 _ rfl
  have x1 := cv.V.cell 1 _ rfl
  have x2 := cv.V.cell 2 _ rfl
  have x3 := cv.V.cell 3 _ rfl
  have f0 := cv.V.froz 0
  have f1 := cv.V.froz 1
  have f2 := cv.V.froz 2
  have f3 := cv.V.froz 3
  have hlt := cv.V.lt
  go_wp2_with fail
  replace cv := cvn.alloc (.cells #[.int .i64 0, .int .i64 0, .int .u32 0, .int .i64 0] 32)
  have b := bn.alloc bn.size (.cells #[.int .i64 0, .int .i64 0, .int .u32 0, .int .i64 0] 32)
  have hXl := cv2.V.lt
  clear cvn bn cv2 b2 hb x0 x1 x2 x3 f0 f1 f2 f3 hlt
  generalize ((((w2.setCell ⟨X, 0, none⟩ (.int .i64 1)).setCell ⟨X, 1, none⟩ (.int .i64 2)).setCell ⟨X, 2, none⟩ (.int .i64 1)).setCell ⟨X, 3, none⟩ (.slice B2 1 d2)).alloc (.cells #[.int .i64 0, .int .i64 0, .int .u32 0, .int .i64 0] 32) = W2 at *
  clear c2
  have x0 := cv.V.cell 0 _ rfl
  have x1 := cv.V.cell 1 _ rfl
  have x2 := cv.V.cell 2 _ rfl
  have x3 := cv.V.cell 3 _ rfl
  have f0 := cv.V.froz 0
  have f1 := cv.V.froz 1
  have f2 := cv.V.froz 2
  have f3 := cv.V.froz 3
  have hlt := cv.V.lt
  go_wp2_with fail
  refine (c3 _ _ _ _ cv.cin).mono ?_
  rintro e w3 ⟨B3, d3, hs3, rfl, own, hb⟩
  have cv2 := cv.below hb
  have b2 := b.trans (hb.mono b.size)
  clear x0 x1 x2 x3 f0 f1 f2 f3 hlt
  have cvn : CV (fun g => g ≠ X) ((((w3.setCell ⟨X, 0, none⟩ (.int .i64 1)).setCell ⟨X, 1, none⟩ (.int .i64 2)).setCell ⟨X, 2, none⟩ (.int .i64 2)).setCell ⟨X, 3, none⟩ (.slice B3 1 d3)) X (⟨1, 2, 2, [[⟨1, 1, 10, 1⟩, ⟨2, 1, 20, 2⟩]]⟩ : Ca) B3 1 d3 hs3 := CV.put (P := fun g => g ≠ X) (y := (⟨1, 2, 2, [[⟨1, 1, 10, 1⟩, ⟨2, 1, 20, 2⟩]]⟩ : Ca)) cv2.V own (fun g hg => by have := cv.V.lt; omega) cv.V.lt
  have bn := (((b2.setCell (p := ⟨X, 0, none⟩) hX (.int .i64 1)).setCell (p := ⟨X, 1, none⟩) hX (.int .i64 2)).setCell (p := ⟨X, 2, none⟩) hX (.int .i64 2)).setCell (p := ⟨X, 3, none⟩) hX (.slice B3 1 d3)
  clear cv b own
  have cv := cv2
  have x0 := cv.V.cell 0 _ rfl
  have x1 := cv.V.cell 1 _ rfl
  have x2 := cv.V.cell 2 _ rfl
  have x3 := cv.V.cell 3 _ rfl
  have f0 := cv.V.froz 0
  have f1 := cv.V.froz 1
  have f2 := cv.V.froz 2
  have f3 := cv.V.froz 3
  have hlt := cv.V.lt
  go_wp2_with fail
  replace cv := cvn.alloc (.cells #[.int .i64 0, .int .i64 0, .int .u32 0, .int .i64 0] 32)
  have b := bn.alloc bn.size (.cells #[.int .i64 0, .int .i64 0, .int .u32 0, .int .i64 0] 32)
  have hXl := cv2.V.lt
  clear cvn bn cv2 b2 hb x0 x1 x2 x3 f0 f1 f2 f3 hlt
  generalize ((((w3.setCell ⟨X, 0, none⟩ (.int .i64 1)).setCell ⟨X, 1, none⟩ (.int .i64 2)).setCell ⟨X, 2, none⟩ (.int .i64 2)).setCell ⟨X, 3, none⟩ (.slice B3 1 d3)).alloc (.cells #[.int .i64 0, .int .i64 0, .int .u32 0, .int .i64 0] 32) = W3 at *
  clear c3
  have x0 := cv.V.cell 0 _ rfl
  have x1 := cv.V.cell 1 _ rfl
  have x2 := cv.V.cell 2 _ rfl
  have x3 := cv.V.cell 3 _ rfl
  have f0 := cv.V.froz 0
  have f1 := cv.V.froz 1
  have f2 := cv.V.froz 2
  have f3 := cv.V.froz 3
  have hlt := cv.V.lt
  go_wp2_with fail
  refine (c4 _ _ _ _ cv.cin).mono ?_
  rintro e w4 ⟨B4, d4, hs4, rfl, own, hb⟩
  have cv2 := cv.below hb
  have b2 := b.trans (hb.mono b.size)
  clear x0 x1 x2 x3 f0 f1 f2 f3 hlt
  have cvn : CV (fun g => g ≠ X) ((((w4.setCell ⟨X, 0, none⟩ (.int .i64 1)).setCell ⟨X, 1, none⟩ (.int .i64 2)).setCell ⟨X, 2, none⟩ (.int .i64 3)).setCell ⟨X, 3, none⟩ (.slice B4 1 d4)) X (⟨1, 2, 3, [[⟨1, 1, 10, 3⟩, ⟨2, 1, 20, 2⟩]]⟩ : Ca) B4 1 d4 hs4 := CV.put (P := fun g => g ≠ X) (y := (⟨1, 2, 3, [[⟨1, 1, 10, 3⟩, ⟨2, 1, 20, 2⟩]]⟩ : Ca)) cv2.V own (fun g hg => by have := cv.V.lt; omega) cv.V.lt
  have bn := (((b2.setCell (p := ⟨X, 0, none⟩) hX (.int .i64 1)).setCell (p := ⟨X, 1, none⟩) hX (.int .i64 2)).setCell (p := ⟨X, 2, none⟩) hX (.int .i64 3)).setCell (p := ⟨X, 3, none⟩) hX (.slice B4 1 d4)
  clear cv b own
  have cv := cv2
  have x0 := cv.V.cell 0 _ rfl
  have x1 := cv.V.cell 1 _ rfl
  have x2 := cv.V.cell 2 _ rfl
  have x3 := cv.V.cell 3 _ rfl
  have f0 := cv.V.froz 0
  have f1 := cv.V.froz 1
  have f2 := cv.V.froz 2
  have f3 := cv.V.froz 3
  have hlt := cv.V.lt
  go_wp2_with fail
  replace cv := cvn
  have b := bn
  clear cvn bn cv2 b2 hb x0 x1 x2 x3 f0 f1 f2 f3 hlt
  generalize ((((w4.setCell ⟨X, 0, none⟩ (.int .i64 1)).setCell ⟨X, 1, none⟩ (.int .i64 2)).setCell ⟨X, 2, none⟩ (.int .i64 3)).setCell ⟨X, 3, none⟩ (.slice B4 1 d4)) = W4 at *
  clear c4
  have x0 := cv.V.cell 0 _ rfl
  have x1 := cv.V.cell 1 _ rfl
  have x2 := cv.V.cell 2 _ rfl
  have x3 := cv.V.cell 3 _ rfl
  have f0 := cv.V.froz 0
  have f1 := cv.V.froz 1
  have f2 := cv.V.froz 2
  have f3 := cv.V.froz 3
  have hlt := cv.V.lt
  go_wp2_with fail
  refine (c5 _ _ _ _ cv.cin).mono ?_
  rintro e w5 ⟨B5, d5, hs5, rfl, own, hb⟩
  have cv2 := cv.below hb
  have b2 := b.trans (hb.mono b.size)
  clear x0 x1 x2 x3 f0 f1 f2 f3 hlt
  have cvn : CV (fun g => g ≠ X) ((((w5.setCell ⟨X, 0, none⟩ (.int .i64 1)).setCell ⟨X, 1, none⟩ (.int .i64 2)).setCell ⟨X, 2, none⟩ (.int .i64 4)).setCell ⟨X, 3, none⟩ (.slice B5 1 d5)) X (⟨1, 2, 4, [[⟨1, 1, 10, 3⟩, ⟨3, 2, 30, 4⟩]]⟩ : Ca) B5 1 d5 hs5 := CV.put (P := fun g => g ≠ X) (y := (⟨1, 2, 4, [[⟨1, 1, 10, 3⟩, ⟨3, 2, 30, 4⟩]]⟩ : Ca)) cv2.V own (fun g hg => by have := cv.V.lt; omega) cv.V.lt
  have bn := (((b2.setCell (p := ⟨X, 0, none⟩) hX (.int .i64 1)).setCell (p := ⟨X, 1, none⟩) hX (.int .i64 2)).setCell (p := ⟨X, 2, none⟩) hX (.int .i64 4)).setCell (p := ⟨X, 3, none⟩) hX (.slice B5 1 d5)
  clear cv b own
  have cv := cv2
  have x0 := cv.V.cell 0 _ rfl
  have x1 := cv.V.cell 1 _ rfl
  have x2 := cv.V.cell 2 _ rfl
  have x3 := cv.V.cell 3 _ rfl
  have f0 := cv.V.froz 0
  have f1 := cv.V.froz 1
  have f2 := cv.V.froz 2
  have f3 := cv.V.froz 3
  have hlt := cv.V.lt
  go_wp2_with fail
  replace cv := cvn.alloc (.cells #[.int .i64 2, .int .i64 1, .int .u32 20, .int .i64 2] 32)
  have b := bn.alloc bn.size (.cells #[.int .i64 2, .int .i64 1, .int .u32 20, .int .i64 2] 32)
  have yo := Bx.new ((((w5.setCell ⟨X, 0, none⟩ (.int .i64 1)).setCell ⟨X, 1, none⟩ (.int .i64 2)).setCell ⟨X, 2, none⟩ (.int .i64 4)).setCell ⟨X, 3, none⟩ (.slice B5 1 d5)) [.int .i64 2, .int .i64 1, .int .u32 20, .int .i64 2] 32
  have hXl := cv2.V.lt
  clear cvn bn cv2 b2 hb x0 x1 x2 x3 f0 f1 f2 f3 hlt
  rw [show ((((w5.setCell ⟨X, 0, none⟩ (.int .i64 1)).setCell ⟨X, 1, none⟩ (.int .i64 2)).setCell ⟨X, 2, none⟩ (.int .i64 4)).setCell ⟨X, 3, none⟩ (.slice B5 1 d5)).heap.size = w5.heap.size by simp] at yo
  generalize ((((w5.setCell ⟨X, 0, none⟩ (.int .i64 1)).setCell ⟨X, 1, none⟩ (.int .i64 2)).setCell ⟨X, 2, none⟩ (.int .i64 4)).setCell ⟨X, 3, none⟩ (.slice B5 1 d5)).alloc (.cells #[.int .i64 2, .int .i64 1, .int .u32 20, .int .i64 2] 32) = W5 at *
  clear c5
  have x0 := cv.V.cell 0 _ rfl
  have x1 := cv.V.cell 1 _ rfl
  have x2 := cv.V.cell 2 _ rfl
  have x3 := cv.V.cell 3 _ rfl
  have f0 := cv.V.froz 0
  have f1 := cv.V.froz 1
  have f2 := cv.V.froz 2
  have f3 := cv.V.froz 3
  have hlt := cv.V.lt
  generalize w5.heap.size = YX at *
  have y0 := yo.cell 0 _ rfl
  have y2 := yo.cell 2 _ rfl
  go_wp2_with fail
  refine (c6 _ _ _ _ cv.cin).mono ?_
  rintro e w6 ⟨rfl, hb⟩
  replace cv := (cv.below hb).alloc (.cells #[.int .i64 1, .int .i64 1, .int .u32 10, .int .i64 3] 32)
  replace yo := (yo.below hb).alloc (.cells #[.int .i64 1, .int .i64 1, .int .u32 10, .int .i64 3] 32)
  have zo := Bx.new w6 [.int .i64 1, .int .i64 1, .int .u32 10, .int .i64 3] 32
  replace b := (b.trans (hb.mono b.size)).alloc (Nat.le_trans b.size hb.size) (.cells #[.int .i64 1, .int .i64 1, .int .u32 10, .int .i64 3] 32)
  clear hb y0 y2 x0 x1 x2 x3 f0 f1 f2 f3 hlt
  have x0 := cv.V.cell 0 _ rfl
  have x1 := cv.V.cell 1 _ rfl
  have x2 := cv.V.cell 2 _ rfl
  have x3 := cv.V.cell 3 _ rfl
  have f0 := cv.V.froz 0
  have f1 := cv.V.froz 1
  have f2 := cv.V.froz 2
  have f3 := cv.V.froz 3
  have hlt := cv.V.lt
  have y0 := yo.cell 0 _ rfl
  have y2 := yo.cell 2 _ rfl
  have z2 := zo.cell 2 _ rfl
  clear c6
  go_wp2_with fail
  generalize w6.alloc (.cells #[.int .i64 1, .int .i64 1, .int .u32 10, .int .i64 3] 32) = W6 at *
  refine (c8 _ _ _ _ cv.cin).mono ?_
  rintro e w7 ⟨B8, m8, e8, l8, rfl, hl8, hp8, _, _, hb⟩
  have hm8 : m8 = 2 := by rw [← hl8, (hp8 p7).1.length_eq]; rfl
  subst hm8
  replace cv := cv.below hb
  replace b := b.trans (hb.mono b.size)
  clear hb c8 y0 y2 z2 hl8 hp8 yo zo x0 x1 x2 x3 f0 f1 f2 f3 hlt
  have x0 := cv.V.cell 0 _ rfl
  have x1 := cv.V.cell 1 _ rfl
  have x2 := cv.V.cell 2 _ rfl
  have x3 := cv.V.cell 3 _ rfl
  have f0 := cv.V.froz 0
  have f1 := cv.V.froz 1
  have f2 := cv.V.froz 2
  have f3 := cv.V.froz 3
  have hlt := cv.V.lt
  go_wp2_with fail
  refine (c7 _ _ _ _ cv.cin).mono ?_
  rintro e w8 ⟨rfl, hb⟩
  replace b := b.trans (hb.mono b.size)
  clear hb c7 cv x0 x1 x2 x3 f0 f1 f2 f3 hlt
  go_wp2_with fail
  go_ret
  exact ⟨rfl, b⟩
end Go.Proofs.Ytdndanjabknjpaa
