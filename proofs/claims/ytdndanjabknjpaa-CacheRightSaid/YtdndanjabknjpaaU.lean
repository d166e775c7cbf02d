/- The walk of cache.Put, where it refuses. -/
import Derived.Test.YtdndanjabknjpaaT
namespace Go.Proofs.Ytdndanjabknjpaa
open Go.RowKit Go.Lib

set_option linter.unusedVariables false

set_option maxHeartbeats 16000000 in
set_option maxRecDepth 100000 in
theorem put_bad0 (A : Option Addr) (c n : Nat) (x : Ca) (hs : List Hd) (t st v : Int) (w : World) (hc : CIn w A x.lines hs) (hn : x.lines.length = n) (hn1 : n ≤ 1000000) (hb : ∀ s, s < n → x.lines[s]!.length ≤ 1000000) (hwf : WfC x) (hm : mayC x t = false) :
    Calls Try.prog 8 #[.agg #[.int .i64 x.sets, .int .i64 x.ways, .int .i64 x.clock, .slice A n c], .int .i64 t, .int .i64 st, .int .u32 v] w (GivesP w (putC x t st v)) := by
  have b0 : Below w.heap.size w (((w.alloc (.cells #[.int .i64 x.sets, .int .i64 x.ways, .int .i64 x.clock, .slice A n c] 26)).alloc (.cells #[.int .i64 0, .int .i64 0, .int .i64 0, .slice none 0 0] 26)).alloc (.cells #[.int .i64 0, .int .i64 0, .int .u32 0, .int .i64 0] 32)) := (((Below.refl _ _).alloc (Nat.le_refl _) _).alloc (by simp) _).alloc (by simp; omega) _
  have X0 := ((Bx.new w [.int .i64 x.sets, .int .i64 x.ways, .int .i64 x.clock, .slice A n c] 26).alloc (.cells #[.int .i64 0, .int .i64 0, .int .i64 0, .slice none 0 0] 26)).alloc (.cells #[.int .i64 0, .int .i64 0, .int .u32 0, .int .i64 0] 32)
  have X8 := (Bx.new (w.alloc (.cells #[.int .i64 x.sets, .int .i64 x.ways, .int .i64 x.clock, .slice A n c] 26)) [.int .i64 0, .int .i64 0, .int .i64 0, .slice none 0 0] 26).alloc (.cells #[.int .i64 0, .int .i64 0, .int .u32 0, .int .i64 0] 32)
  have X9 := Bx.new ((w.alloc (.cells #[.int .i64 x.sets, .int .i64 x.ways, .int .i64 x.clock, .slice A n c] 26)).alloc (.cells #[.int .i64 0, .int .i64 0, .int .i64 0, .slice none 0 0] 26)) (Ln.enc zeroL) 32
  rw [show (w.alloc (.cells #[.int .i64 x.sets, .int .i64 x.ways, .int .i64 x.clock, .slice A n c] 26)).heap.size = w.heap.size + 1 by simp] at X8
  rw [show ((w.alloc (.cells #[.int .i64 x.sets, .int .i64 x.ways, .int .i64 x.clock, .slice A n c] 26)).alloc (.cells #[.int .i64 0, .int .i64 0, .int .i64 0, .slice none 0 0] 26)).heap.size = w.heap.size + 2 by simp] at X9
  have HC := Lib.hid (hc.below b0)
  have cD := fun w1 (h : CIn w1 A x.lines hs) => copied_any A c n x hs w1 h hn hn1 hb
  have cM := fun w1 (h : CIn w1 A x.lines hs) => may_any A c n x hs t w1 h hn hwf
  have HN := Lib.hid hn
  have HBD := Lib.hid hb
  clear hc hwf hb
  have x0 := X0.cell 0 _ rfl
  have x1 := X0.cell 1 _ rfl
  have x2 := X0.cell 2 _ rfl
  have x3 := X0.cell 3 _ rfl
  have hU : putC x t st v = (x, zeroL, 1) := by unfold putC; rw [if_neg (fun h => by rw [hm] at h; exact absurd h.1 (by decide))]
  rw [hm] at cM
  clear hm
  go_enter Try.func8, Try.ntmps8
  go_wp2_with fail
  replace X9 : Bx (((w.alloc (.cells #[.int .i64 x.sets, .int .i64 x.ways, .int .i64 x.clock, .slice A n c] 26)).alloc (.cells #[.int .i64 0, .int .i64 0, .int .i64 0, .slice none 0 0] 26)).alloc (.cells #[.int .i64 0, .int .i64 0, .int .u32 0, .int .i64 0] 32)) (w.heap.size + 2) (Ln.enc zeroL) := X9
  generalize ((w.alloc (.cells #[.int .i64 x.sets, .int .i64 x.ways, .int .i64 x.clock, .slice A n c] 26)).alloc (.cells #[.int .i64 0, .int .i64 0, .int .i64 0, .slice none 0 0] 26)).alloc (.cells #[.int .i64 0, .int .i64 0, .int .u32 0, .int .i64 0] 32) = W0 at *
  refine (cD _ HC.out).mono ?_
  rintro e w1 ⟨B, d, rfl, ⟨hs1, own1⟩, hb1⟩
  have hW1 := X9.lt
  have hltV : ∀ g, (Value.slice B n d).ownBlock = some g → g < w1.heap.size := fun g hg => (own1.outer.lt g hg).2
  have hltI : ∀ j, j < n → ∀ g, hs1[j]!.val.ownBlock = some g → g < w1.heap.size := fun j hj g hg => ((own1.inner j hj).2.lt g hg).2
  have b1 := b0.trans (hb1.mono b0.size)
  have HC1 := Lib.hid ((HC.out.below hb1).below ((Below.refl _ _).alloc (Nat.le_refl _) (.cells #[.int .i64 x.sets, .int .i64 x.ways, .int .i64 x.clock, .slice B n d] 26)))
  replace X0 := (X0.below hb1).alloc (.cells #[.int .i64 x.sets, .int .i64 x.ways, .int .i64 x.clock, .slice B n d] 26)
  replace X8 := (X8.below hb1).alloc (.cells #[.int .i64 x.sets, .int .i64 x.ways, .int .i64 x.clock, .slice B n d] 26)
  replace X9 := (X9.below hb1).alloc (.cells #[.int .i64 x.sets, .int .i64 x.ways, .int .i64 x.clock, .slice B n d] 26)
  have D := Bx.new w1 [.int .i64 x.sets, .int .i64 x.ways, .int .i64 x.clock, .slice B n d] 26
  have own2 := own1.below ((Below.refl _ _).alloc (Nat.le_refl _) (.cells #[.int .i64 x.sets, .int .i64 x.ways, .int .i64 x.clock, .slice B n d] 26))
  have b2 := b1.alloc b1.size (.cells #[.int .i64 x.sets, .int .i64 x.ways, .int .i64 x.clock, .slice B n d] 26)
  have hD0 : W0.heap.size ≤ w1.heap.size := hb1.size
  have hW0 := b0.size
  clear cD hb1 own1 b1 b0 x0 x1 x2 x3
  have x0 := X0.cell 0 _ rfl
  have x1 := X0.cell 1 _ rfl
  have x2 := X0.cell 2 _ rfl
  have x3 := X0.cell 3 _ rfl
  go_wp2_with fail
  generalize w1.alloc (.cells #[.int .i64 x.sets, .int .i64 x.ways, .int .i64 x.clock, .slice B n d] 26) = W2 at *
  generalize w1.heap.size = DX at *
  refine (cM _ HC1.out).mono ?_
  rintro e w3 ⟨rfl, hb3⟩
  replace X8 := X8.below hb3
  replace X9 := X9.below hb3
  replace D := D.below hb3
  have own3 := own2.below hb3
  have b3 := b2.trans (hb3.mono b2.size)
  clear cM hb3 own2 b2 x0 x1 x2 x3 X0
  have d0 := D.cell 0 _ rfl
  have d1 := D.cell 1 _ rfl
  have d2 := D.cell 2 _ rfl
  have d3 := D.cell 3 _ rfl
  have z0 := X8.cell 0 _ rfl
  have z1 := X8.cell 1 _ rfl
  have z2 := X8.cell 2 _ rfl
  have z3 := X8.cell 3 _ rfl
  have f0 := X8.froz 0
  have f1 := X8.froz 1
  have f2 := X8.froz 2
  have f3 := X8.froz 3
  have y0 := X9.cell 0 _ rfl
  have y1 := X9.cell 1 _ rfl
  have y2 := X9.cell 2 _ rfl
  have y3 := X9.cell 3 _ rfl
  have g0 := X9.froz 0
  have g1 := X9.froz 1
  have g2 := X9.froz 2
  have g3 := X9.froz 3
  have HU := Lib.hid hU
  have OF := Lib.hid ((((((((own3.set (X := w.heap.size + 1) (by omega) 0 (.int .i64 x.sets)).set (X := w.heap.size + 1) (by omega) 1 (.int .i64 x.ways)).set (X := w.heap.size + 1) (by omega) 2 (.int .i64 x.clock)).set (X := w.heap.size + 1) (by omega) 3 (.slice B n d)).set (X := w.heap.size + 2) (by omega) 0 (.int .i64 0)).set (X := w.heap.size + 2) (by omega) 1 (.int .i64 0)).set (X := w.heap.size + 2) (by omega) 2 (.int .u32 0)).set (X := w.heap.size + 2) (by omega) 3 (.int .i64 0))
  have BF := Lib.hid ((((((((b3.setCell (p := ⟨w.heap.size + 1, 0, none⟩) (by show w.heap.size ≤ w.heap.size + 1; omega) (.int .i64 x.sets)).setCell (p := ⟨w.heap.size + 1, 1, none⟩) (by show w.heap.size ≤ w.heap.size + 1; omega) (.int .i64 x.ways)).setCell (p := ⟨w.heap.size + 1, 2, none⟩) (by show w.heap.size ≤ w.heap.size + 1; omega) (.int .i64 x.clock)).setCell (p := ⟨w.heap.size + 1, 3, none⟩) (by show w.heap.size ≤ w.heap.size + 1; omega) (.slice B n d)).setCell (p := ⟨w.heap.size + 2, 0, none⟩) (by show w.heap.size ≤ w.heap.size + 2; omega) (.int .i64 0)).setCell (p := ⟨w.heap.size + 2, 1, none⟩) (by show w.heap.size ≤ w.heap.size + 2; omega) (.int .i64 0)).setCell (p := ⟨w.heap.size + 2, 2, none⟩) (by show w.heap.size ≤ w.heap.size + 2; omega) (.int .u32 0)).setCell (p := ⟨w.heap.size + 2, 3, none⟩) (by show w.heap.size ≤ w.heap.size + 2; omega) (.int .i64 0))
  clear own3 b3 hU
  go_wp2_with fail
  refine bodyPost_ret (v := .tuple #[.agg #[.int .i64 x.sets, .int .i64 x.ways, .int .i64 x.clock, .slice B n d], .agg #[.int .i64 0, .int .i64 0, .int .u32 0, .int .i64 0], .int .i64 1]) (by simp [results, Try.results8, go_sem, z0, z1, z2, z3, y0, y1, y2, y3]) rfl ?_
  rw [HU.out]
  show GivesP w (x, zeroL, 1) _ _
  unfold GivesP
  simp only [HN.out]
  exact ⟨B, d, rfl, ⟨hs1, OF.out.weaken hW0⟩, BF.out⟩

set_option maxHeartbeats 16000000 in
set_option maxRecDepth 100000 in
theorem put_bad1 (A : Option Addr) (c n : Nat) (x : Ca) (hs : List Hd) (t st v : Int) (w : World) (hc : CIn w A x.lines hs) (hn : x.lines.length = n) (hn1 : n ≤ 1000000) (hb : ∀ s, s < n → x.lines[s]!.length ≤ 1000000) (hwf : WfC x) (hm : mayC x t = true) (h1 : st < 1) :
    Calls Try.prog 8 #[.agg #[.int .i64 x.sets, .int .i64 x.ways, .int .i64 x.clock, .slice A n c], .int .i64 t, .int .i64 st, .int .u32 v] w (GivesP w (putC x t st v)) := by
  have b0 : Below w.heap.size w (((w.alloc (.cells #[.int .i64 x.sets, .int .i64 x.ways, .int .i64 x.clock, .slice A n c] 26)).alloc (.cells #[.int .i64 0, .int .i64 0, .int .i64 0, .slice none 0 0] 26)).alloc (.cells #[.int .i64 0, .int .i64 0, .int .u32 0, .int .i64 0] 32)) := (((Below.refl _ _).alloc (Nat.le_refl _) _).alloc (by simp) _).alloc (by simp; omega) _
  have X0 := ((Bx.new w [.int .i64 x.sets, .int .i64 x.ways, .int .i64 x.clock, .slice A n c] 26).alloc (.cells #[.int .i64 0, .int .i64 0, .int .i64 0, .slice none 0 0] 26)).alloc (.cells #[.int .i64 0, .int .i64 0, .int .u32 0, .int .i64 0] 32)
  have X8 := (Bx.new (w.alloc (.cells #[.int .i64 x.sets, .int .i64 x.ways, .int .i64 x.clock, .slice A n c] 26)) [.int .i64 0, .int .i64 0, .int .i64 0, .slice none 0 0] 26).alloc (.cells #[.int .i64 0, .int .i64 0, .int .u32 0, .int .i64 0] 32)
  have X9 := Bx.new ((w.alloc (.cells #[.int .i64 x.sets, .int .i64 x.ways, .int .i64 x.clock, .slice A n c] 26)).alloc (.cells #[.int .i64 0, .int .i64 0, .int .i64 0, .slice none 0 0] 26)) (Ln.enc zeroL) 32
  rw [show (w.alloc (.cells #[.int .i64 x.sets, .int .i64 x.ways, .int .i64 x.clock, .slice A n c] 26)).heap.size = w.heap.size + 1 by simp] at X8
  rw [show ((w.alloc (.cells #[.int .i64 x.sets, .int .i64 x.ways, .int .i64 x.clock, .slice A n c] 26)).alloc (.cells #[.int .i64 0, .int .i64 0, .int .i64 0, .slice none 0 0] 26)).heap.size = w.heap.size + 2 by simp] at X9
  have HC := Lib.hid (hc.below b0)
  have cD := fun w1 (h : CIn w1 A x.lines hs) => copied_any A c n x hs w1 h hn hn1 hb
  have cM := fun w1 (h : CIn w1 A x.lines hs) => may_any A c n x hs t w1 h hn hwf
  have HN := Lib.hid hn
  have HBD := Lib.hid hb
  clear hc hwf hb
  have x0 := X0.cell 0 _ rfl
  have x1 := X0.cell 1 _ rfl
  have x2 := X0.cell 2 _ rfl
  have x3 := X0.cell 3 _ rfl
  have hU : putC x t st v = (x, zeroL, 1) := by unfold putC; rw [if_neg (fun h => by omega)]
  rw [hm] at cM
  have q1 : decide (st < 1) = true := decide_eq_true h1
  clear hm h1
  go_enter Try.func8, Try.ntmps8
  go_wp2_with fail
  replace X9 : Bx (((w.alloc (.cells #[.int .i64 x.sets, .int .i64 x.ways, .int .i64 x.clock, .slice A n c] 26)).alloc (.cells #[.int .i64 0, .int .i64 0, .int .i64 0, .slice none 0 0] 26)).alloc (.cells #[.int .i64 0, .int .i64 0, .int .u32 0, .int .i64 0] 32)) (w.heap.size + 2) (Ln.enc zeroL) := X9
  generalize ((w.alloc (.cells #[.int .i64 x.sets, .int .i64 x.ways, .int .i64 x.clock, .slice A n c] 26)).alloc (.cells #[.int .i64 0, .int .i64 0, .int .i64 0, .slice none 0 0] 26)).alloc (.cells #[.int .i64 0, .int .i64 0, .int .u32 0, .int .i64 0] 32) = W0 at *
  refine (cD _ HC.out).mono ?_
  rintro e w1 ⟨B, d, rfl, ⟨hs1, own1⟩, hb1⟩
  have hW1 := X9.lt
  have hltV : ∀ g, (Value.slice B n d).ownBlock = some g → g < w1.heap.size := fun g hg => (own1.outer.lt g hg).2
  have hltI : ∀ j, j < n → ∀ g, hs1[j]!.val.ownBlock = some g → g < w1.heap.size := fun j hj g hg => ((own1.inner j hj).2.lt g hg).2
  have b1 := b0.trans (hb1.mono b0.size)
  have HC1 := Lib.hid ((HC.out.below hb1).below ((Below.refl _ _).alloc (Nat.le_refl _) (.cells #[.int .i64 x.sets, .int .i64 x.ways, .int .i64 x.clock, .slice B n d] 26)))
  replace X0 := (X0.below hb1).alloc (.cells #[.int .i64 x.sets, .int .i64 x.ways, .int .i64 x.clock, .slice B n d] 26)
  replace X8 := (X8.below hb1).alloc (.cells #[.int .i64 x.sets, .int .i64 x.ways, .int .i64 x.clock, .slice B n d] 26)
  replace X9 := (X9.below hb1).alloc (.cells #[.int .i64 x.sets, .int .i64 x.ways, .int .i64 x.clock, .slice B n d] 26)
  have D := Bx.new w1 [.int .i64 x.sets, .int .i64 x.ways, .int .i64 x.clock, .slice B n d] 26
  have own2 := own1.below ((Below.refl _ _).alloc (Nat.le_refl _) (.cells #[.int .i64 x.sets, .int .i64 x.ways, .int .i64 x.clock, .slice B n d] 26))
  have b2 := b1.alloc b1.size (.cells #[.int .i64 x.sets, .int .i64 x.ways, .int .i64 x.clock, .slice B n d] 26)
  have hD0 : W0.heap.size ≤ w1.heap.size := hb1.size
  have hW0 := b0.size
  clear cD hb1 own1 b1 b0 x0 x1 x2 x3
  have x0 := X0.cell 0 _ rfl
  have x1 := X0.cell 1 _ rfl
  have x2 := X0.cell 2 _ rfl
  have x3 := X0.cell 3 _ rfl
  go_wp2_with fail
  generalize w1.alloc (.cells #[.int .i64 x.sets, .int .i64 x.ways, .int .i64 x.clock, .slice B n d] 26) = W2 at *
  generalize w1.heap.size = DX at *
  refine (cM _ HC1.out).mono ?_
  rintro e w3 ⟨rfl, hb3⟩
  replace X8 := X8.below hb3
  replace X9 := X9.below hb3
  replace D := D.below hb3
  have own3 := own2.below hb3
  have b3 := b2.trans (hb3.mono b2.size)
  clear cM hb3 own2 b2 x0 x1 x2 x3 X0
  have d0 := D.cell 0 _ rfl
  have d1 := D.cell 1 _ rfl
  have d2 := D.cell 2 _ rfl
  have d3 := D.cell 3 _ rfl
  have z0 := X8.cell 0 _ rfl
  have z1 := X8.cell 1 _ rfl
  have z2 := X8.cell 2 _ rfl
  have z3 := X8.cell 3 _ rfl
  have f0 := X8.froz 0
  have f1 := X8.froz 1
  have f2 := X8.froz 2
  have f3 := X8.froz 3
  have y0 := X9.cell 0 _ rfl
  have y1 := X9.cell 1 _ rfl
  have y2 := X9.cell 2 _ rfl
  have y3 := X9.cell 3 _ rfl
  have g0 := X9.froz 0
  have g1 := X9.froz 1
  have g2 := X9.froz 2
  have g3 := X9.froz 3
  have HU := Lib.hid hU
  have OF := Lib.hid ((((((((own3.set (X := w.heap.size + 1) (by omega) 0 (.int .i64 x.sets)).set (X := w.heap.size + 1) (by omega) 1 (.int .i64 x.ways)).set (X := w.heap.size + 1) (by omega) 2 (.int .i64 x.clock)).set (X := w.heap.size + 1) (by omega) 3 (.slice B n d)).set (X := w.heap.size + 2) (by omega) 0 (.int .i64 0)).set (X := w.heap.size + 2) (by omega) 1 (.int .i64 0)).set (X := w.heap.size + 2) (by omega) 2 (.int .u32 0)).set (X := w.heap.size + 2) (by omega) 3 (.int .i64 0))
  have BF := Lib.hid ((((((((b3.setCell (p := ⟨w.heap.size + 1, 0, none⟩) (by show w.heap.size ≤ w.heap.size + 1; omega) (.int .i64 x.sets)).setCell (p := ⟨w.heap.size + 1, 1, none⟩) (by show w.heap.size ≤ w.heap.size + 1; omega) (.int .i64 x.ways)).setCell (p := ⟨w.heap.size + 1, 2, none⟩) (by show w.heap.size ≤ w.heap.size + 1; omega) (.int .i64 x.clock)).setCell (p := ⟨w.heap.size + 1, 3, none⟩) (by show w.heap.size ≤ w.heap.size + 1; omega) (.slice B n d)).setCell (p := ⟨w.heap.size + 2, 0, none⟩) (by show w.heap.size ≤ w.heap.size + 2; omega) (.int .i64 0)).setCell (p := ⟨w.heap.size + 2, 1, none⟩) (by show w.heap.size ≤ w.heap.size + 2; omega) (.int .i64 0)).setCell (p := ⟨w.heap.size + 2, 2, none⟩) (by show w.heap.size ≤ w.heap.size + 2; omega) (.int .u32 0)).setCell (p := ⟨w.heap.size + 2, 3, none⟩) (by show w.heap.size ≤ w.heap.size + 2; omega) (.int .i64 0))
  clear own3 b3 hU
  go_wp2_with fail
  refine bodyPost_ret (v := .tuple #[.agg #[.int .i64 x.sets, .int .i64 x.ways, .int .i64 x.clock, .slice B n d], .agg #[.int .i64 0, .int .i64 0, .int .u32 0, .int .i64 0], .int .i64 1]) (by simp [results, Try.results8, go_sem, z0, z1, z2, z3, y0, y1, y2, y3]) rfl ?_
  rw [HU.out]
  show GivesP w (x, zeroL, 1) _ _
  unfold GivesP
  simp only [HN.out]
  exact ⟨B, d, rfl, ⟨hs1, OF.out.weaken hW0⟩, BF.out⟩

set_option maxHeartbeats 16000000 in
set_option maxRecDepth 100000 in
theorem put_bad2 (A : Option Addr) (c n : Nat) (x : Ca) (hs : List Hd) (t st v : Int) (w : World) (hc : CIn w A x.lines hs) (hn : x.lines.length = n) (hn1 : n ≤ 1000000) (hb : ∀ s, s < n → x.lines[s]!.length ≤ 1000000) (hwf : WfC x) (hm : mayC x t = true) (h1 : ¬ st < 1) (h2 : 4 < st) :
    Calls Try.prog 8 #[.agg #[.int .i64 x.sets, .int .i64 x.ways, .int .i64 x.clock, .slice A n c], .int .i64 t, .int .i64 st, .int .u32 v] w (GivesP w (putC x t st v)) := by
  have b0 : Below w.heap.size w (((w.alloc (.cells #[.int .i64 x.sets, .int .i64 x.ways, .int .i64 x.clock, .slice A n c] 26)).alloc (.cells #[.int .i64 0, .int .i64 0, .int .i64 0, .slice none 0 0] 26)).alloc (.cells #[.int .i64 0, .int .i64 0, .int .u32 0, .int .i64 0] 32)) := (((Below.refl _ _).alloc (Nat.le_refl _) _).alloc (by simp) _).alloc (by simp; omega) _
  have X0 := ((Bx.new w [.int .i64 x.sets, .int .i64 x.ways, .int .i64 x.clock, .slice A n c] 26).alloc (.cells #[.int .i64 0, .int .i64 0, .int .i64 0, .slice none 0 0] 26)).alloc (.cells #[.int .i64 0, .int .i64 0, .int .u32 0, .int .i64 0] 32)
  have X8 := (Bx.new (w.alloc (.cells #[.int .i64 x.sets, .int .i64 x.ways, .int .i64 x.clock, .slice A n c] 26)) [.int .i64 0, .int .i64 0, .int .i64 0, .slice none 0 0] 26).alloc (.cells #[.int .i64 0, .int .i64 0, .int .u32 0, .int .i64 0] 32)
  have X9 := Bx.new ((w.alloc (.cells #[.int .i64 x.sets, .int .i64 x.ways, .int .i64 x.clock, .slice A n c] 26)).alloc (.cells #[.int .i64 0, .int .i64 0, .int .i64 0, .slice none 0 0] 26)) (Ln.enc zeroL) 32
  rw [show (w.alloc (.cells #[.int .i64 x.sets, .int .i64 x.ways, .int .i64 x.clock, .slice A n c] 26)).heap.size = w.heap.size + 1 by simp] at X8
  rw [show ((w.alloc (.cells #[.int .i64 x.sets, .int .i64 x.ways, .int .i64 x.clock, .slice A n c] 26)).alloc (.cells #[.int .i64 0, .int .i64 0, .int .i64 0, .slice none 0 0] 26)).heap.size = w.heap.size + 2 by simp] at X9
  have HC := Lib.hid (hc.below b0)
  have cD := fun w1 (h : CIn w1 A x.lines hs) => copied_any A c n x hs w1 h hn hn1 hb
  have cM := fun w1 (h : CIn w1 A x.lines hs) => may_any A c n x hs t w1 h hn hwf
  have HN := Lib.hid hn
  have HBD := Lib.hid hb
  clear hc hwf hb
  have x0 := X0.cell 0 _ rfl
  have x1 := X0.cell 1 _ rfl
  have x2 := X0.cell 2 _ rfl
  have x3 := X0.cell 3 _ rfl
  have hU : putC x t st v = (x, zeroL, 1) := by unfold putC; rw [if_neg (fun h => by omega)]
  rw [hm] at cM
  have q1 : decide (st < 1) = false := decide_eq_false h1
  have q2 : decide (4 < st) = true := decide_eq_true h2
  clear hm h1 h2
  go_enter Try.func8, Try.ntmps8
  go_wp2_with fail
  replace X9 : Bx (((w.alloc (.cells #[.int .i64 x.sets, .int .i64 x.ways, .int .i64 x.clock, .slice A n c] 26)).alloc (.cells #[.int .i64 0, .int .i64 0, .int .i64 0, .slice none 0 0] 26)).alloc (.cells #[.int .i64 0, .int .i64 0, .int .u32 0, .int .i64 0] 32)) (w.heap.size + 2) (Ln.enc zeroL) := X9
  generalize ((w.alloc (.cells #[.int .i64 x.sets, .int .i64 x.ways, .int .i64 x.clock, .slice A n c] 26)).alloc (.cells #[.int .i64 0, .int .i64 0, .int .i64 0, .slice none 0 0] 26)).alloc (.cells #[.int .i64 0, .int .i64 0, .int .u32 0, .int .i64 0] 32) = W0 at *
  refine (cD _ HC.out).mono ?_
  rintro e w1 ⟨B, d, rfl, ⟨hs1, own1⟩, hb1⟩
  have hW1 := X9.lt
  have hltV : ∀ g, (Value.slice B n d).ownBlock = some g → g < w1.heap.size := fun g hg => (own1.outer.lt g hg).2
  have hltI : ∀ j, j < n → ∀ g, hs1[j]!.val.ownBlock = some g → g < w1.heap.size := fun j hj g hg => ((own1.inner j hj).2.lt g hg).2
  have b1 := b0.trans (hb1.mono b0.size)
  have HC1 := Lib.hid ((HC.out.below hb1).below ((Below.refl _ _).alloc (Nat.le_refl _) (.cells #[.int .i64 x.sets, .int .i64 x.ways, .int .i64 x.clock, .slice B n d] 26)))
  replace X0 := (X0.below hb1).alloc (.cells #[.int .i64 x.sets, .int .i64 x.ways, .int .i64 x.clock, .slice B n d] 26)
  replace X8 := (X8.below hb1).alloc (.cells #[.int .i64 x.sets, .int .i64 x.ways, .int .i64 x.clock, .slice B n d] 26)
  replace X9 := (X9.below hb1).alloc (.cells #[.int .i64 x.sets, .int .i64 x.ways, .int .i64 x.clock, .slice B n d] 26)
  have D := Bx.new w1 [.int .i64 x.sets, .int .i64 x.ways, .int .i64 x.clock, .slice B n d] 26
  have own2 := own1.below ((Below.refl _ _).alloc (Nat.le_refl _) (.cells #[.int .i64 x.sets, .int .i64 x.ways, .int .i64 x.clock, .slice B n d] 26))
  have b2 := b1.alloc b1.size (.cells #[.int .i64 x.sets, .int .i64 x.ways, .int .i64 x.clock, .slice B n d] 26)
  have hD0 : W0.heap.size ≤ w1.heap.size := hb1.size
  have hW0 := b0.size
  clear cD hb1 own1 b1 b0 x0 x1 x2 x3
  have x0 := X0.cell 0 _ rfl
  have x1 := X0.cell 1 _ rfl
  have x2 := X0.cell 2 _ rfl
  have x3 := X0.cell 3 _ rfl
  go_wp2_with fail
  generalize w1.alloc (.cells #[.int .i64 x.sets, .int .i64 x.ways, .int .i64 x.clock, .slice B n d] 26) = W2 at *
  generalize w1.heap.size = DX at *
  refine (cM _ HC1.out).mono ?_
  rintro e w3 ⟨rfl, hb3⟩
  replace X8 := X8.below hb3
  replace X9 := X9.below hb3
  replace D := D.below hb3
  have own3 := own2.below hb3
  have b3 := b2.trans (hb3.mono b2.size)
  clear cM hb3 own2 b2 x0 x1 x2 x3 X0
  have d0 := D.cell 0 _ rfl
  have d1 := D.cell 1 _ rfl
  have d2 := D.cell 2 _ rfl
  have d3 := D.cell 3 _ rfl
  have z0 := X8.cell 0 _ rfl
  have z1 := X8.cell 1 _ rfl
  have z2 := X8.cell 2 _ rfl
  have z3 := X8.cell 3 _ rfl
  have f0 := X8.froz 0
  have f1 := X8.froz 1
  have f2 := X8.froz 2
  have f3 := X8.froz 3
  have y0 := X9.cell 0 _ rfl
  have y1 := X9.cell 1 _ rfl
  have y2 := X9.cell 2 _ rfl
  have y3 := X9.cell 3 _ rfl
  have g0 := X9.froz 0
  have g1 := X9.froz 1
  have g2 := X9.froz 2
  have g3 := X9.froz 3
  have HU := Lib.hid hU
  have OF := Lib.hid ((((((((own3.set (X := w.heap.size + 1) (by omega) 0 (.int .i64 x.sets)).set (X := w.heap.size + 1) (by omega) 1 (.int .i64 x.ways)).set (X := w.heap.size + 1) (by omega) 2 (.int .i64 x.clock)).set (X := w.heap.size + 1) (by omega) 3 (.slice B n d)).set (X := w.heap.size + 2) (by omega) 0 (.int .i64 0)).set (X := w.heap.size + 2) (by omega) 1 (.int .i64 0)).set (X := w.heap.size + 2) (by omega) 2 (.int .u32 0)).set (X := w.heap.size + 2) (by omega) 3 (.int .i64 0))
  have BF := Lib.hid ((((((((b3.setCell (p := ⟨w.heap.size + 1, 0, none⟩) (by show w.heap.size ≤ w.heap.size + 1; omega) (.int .i64 x.sets)).setCell (p := ⟨w.heap.size + 1, 1, none⟩) (by show w.heap.size ≤ w.heap.size + 1; omega) (.int .i64 x.ways)).setCell (p := ⟨w.heap.size + 1, 2, none⟩) (by show w.heap.size ≤ w.heap.size + 1; omega) (.int .i64 x.clock)).setCell (p := ⟨w.heap.size + 1, 3, none⟩) (by show w.heap.size ≤ w.heap.size + 1; omega) (.slice B n d)).setCell (p := ⟨w.heap.size + 2, 0, none⟩) (by show w.heap.size ≤ w.heap.size + 2; omega) (.int .i64 0)).setCell (p := ⟨w.heap.size + 2, 1, none⟩) (by show w.heap.size ≤ w.heap.size + 2; omega) (.int .i64 0)).setCell (p := ⟨w.heap.size + 2, 2, none⟩) (by show w.heap.size ≤ w.heap.size + 2; omega) (.int .u32 0)).setCell (p := ⟨w.heap.size + 2, 3, none⟩) (by show w.heap.size ≤ w.heap.size + 2; omega) (.int .i64 0))
  clear own3 b3 hU
  go_wp2_with fail
  refine bodyPost_ret (v := .tuple #[.agg #[.int .i64 x.sets, .int .i64 x.ways, .int .i64 x.clock, .slice B n d], .agg #[.int .i64 0, .int .i64 0, .int .u32 0, .int .i64 0], .int .i64 1]) (by simp [results, Try.results8, go_sem, z0, z1, z2, z3, y0, y1, y2, y3]) rfl ?_
  rw [HU.out]
  show GivesP w (x, zeroL, 1) _ _
  unfold GivesP
  simp only [HN.out]
  exact ⟨B, d, rfl, ⟨hs1, OF.out.weaken hW0⟩, BF.out⟩
end Go.Proofs.Ytdndanjabknjpaa
