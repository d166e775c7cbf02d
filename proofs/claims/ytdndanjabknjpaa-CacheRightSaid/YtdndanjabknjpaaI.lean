/- The walk of cache.Use. -/
import Derived.Test.YtdndanjabknjpaaH
namespace Go.Proofs.Ytdndanjabknjpaa
open Go.RowKit Go.Lib
set_option linter.unusedVariables false

/-- A cache that is handed back, of the call's own, beside an error's number. -/
def GivesC (w : World) (r : Ca × Int) (e : Ending) (w' : World) : Prop :=
  ∃ B d, e = .returned (.tuple #[.agg #[.int .i64 r.1.sets, .int .i64 r.1.ways, .int .i64 r.1.clock, .slice B r.1.lines.length d], .int .i64 r.2]) ∧ (∃ hs, OwnC w' w.heap.size (.slice B r.1.lines.length d) r.1.lines.length r.1.lines hs) ∧ Below w.heap.size w w'
def usedC (x : Ca) (s k : Nat) : Ca := ⟨x.sets, x.ways, x.clock + 1, x.lines.set s (x.lines[s]!.set k ⟨x.lines[s]![k]!.addr, x.lines[s]![k]!.state, x.lines[s]![k]!.val_, x.clock + 1⟩)⟩
def useC (x : Ca) (t : Int) : Ca × Int := if mayC x t = true then (if idxA (setOf x t) t < 0 then (x, 7) else (usedC x (t.tmod x.sets).toNat (idxA (setOf x t) t).toNat, 0)) else (x, 1)
/-- A variable of the call's own, of some cells. -/
structure Bx (w : World) (X : Nat) (cs : List Value) : Prop where
  cell : ∀ j u, cs[j]? = some u → w.cell? ⟨X, j, none⟩ = some u
  froz : ∀ j, w.frozen? ⟨X, j, none⟩ = false
  lt : X < w.heap.size
theorem Bx.below {w w' : World} {X : Nat} {cs : List Value} (h : Bx w X cs) (hb : Below w.heap.size w w') : Bx w' X cs :=
  ⟨fun j u hj => (hb.cell (p := ⟨X, j, none⟩) h.lt).trans (h.cell j u hj), fun j => (hb.frozen (p := ⟨X, j, none⟩) h.lt).trans (h.froz j), Nat.lt_of_lt_of_le h.lt hb.size⟩
theorem Bx.alloc {w : World} {X : Nat} {cs : List Value} (h : Bx w X cs) (o : Obj) : Bx (w.alloc o) X cs := h.below ((Below.refl _ _).alloc (Nat.le_refl _) o)
theorem Bx.new (w : World) (cs : List Value) (T : TypeId) : Bx (w.alloc (.cells cs.toArray T)) w.heap.size cs :=
  ⟨fun j u hj => by have := cell_new_block w cs T j u hj; rwa [Go.WideShapes.add_plain, Nat.zero_add] at this, fun j => by
    have h : (w.alloc (.cells cs.toArray T)).heap[w.heap.size]? = some (.cells cs.toArray T (0, 0)) := heap_alloc_new w _
    simp only [World.frozen?]
    rw [h]; simp, by simp⟩
theorem Bx.far {w : World} {X Y : Nat} {cs : List Value} (h : Bx w X cs) (hne : Y ≠ X) (j : Nat) (u : Value) : Bx (w.setCell ⟨Y, j, none⟩ u) X cs := by
  have hk : (w.setCell ⟨Y, j, none⟩ u).heap[X]? = w.heap[X]? := by simp [World.setCell, Array.getElem?_modify, hne]
  exact ⟨fun i v hi => (World.cell?_of_block (w := w) (a := ⟨X, i, none⟩) hk).trans (h.cell i v hi), fun i => (World.frozen?_of_block (w := w) (a := ⟨X, i, none⟩) hk).trans (h.froz i), by simpa using h.lt⟩
theorem Bx.set {w : World} {X : Nat} {cs : List Value} (h : Bx w X cs) (j : Nat) (u : Value) (hj : j < cs.length) : Bx (w.setCell ⟨X, j, none⟩ u) X (cs.set j u) := by
  refine ⟨fun i v hi => ?_, fun i => by simpa using h.froz i, by simpa using h.lt⟩
  rw [List.getElem?_set] at hi
  by_cases e : j = i
  · subst e
    rw [if_pos rfl, if_pos hj] at hi
    injection hi with hi
    subst hi
    exact World.cell?_setCell_same _ _ _ (h.cell j cs[j] (List.getElem?_eq_getElem hj))
  · rw [if_neg e] at hi
    exact (World.cell?_setCell_other _ _ _ _ (fun e2 => e (congrArg Addr.off e2))).trans (h.cell i v hi)

theorem OwnC.keep {w w' : World} {base n X : Nat} {V : Value} {ls : List (List Ln)} {hs : List Hd} (h : OwnC w base V n ls hs) (hg : w.grownBy w' (some X)) (hV : ∀ g, V.ownBlock = some g → g ≠ X) (hI : ∀ j, j < n → ∀ g, hs[j]!.val.ownBlock = some g → g ≠ X) : OwnC w' base V n ls hs :=
  ⟨h.outer.kept hg (.inr fun e => hV X e rfl), h.num, h.len, fun j hj => ⟨(h.inner j hj).1, (h.inner j hj).2.kept hg (.inr fun e => hI j hj X e rfl)⟩, h.apart⟩
theorem may_facts {x : Ca} {t : Int} (h : mayC x t = true) : rightC x = true ∧ 0 ≤ t ∧ x.clock < 1099511627776 := by
  unfold mayC at h
  simp only [Bool.and_eq_true, decide_eq_true_eq] at h
  exact h

set_option maxHeartbeats 16000000 in
theorem use_any (A : Option Addr) (c n : Nat) (x : Ca) (hs : List Hd) (t : Int) (w : World) (hc : CIn w A x.lines hs) (hn : x.lines.length = n) (hn1 : n ≤ 1000000) (hb : ∀ s, s < n → x.lines[s]!.length ≤ 1000000) (hwf : WfC x) :
    Calls Try.prog 15 #[.agg #[.int .i64 x.sets, .int .i64 x.ways, .int .i64 x.clock, .slice A n c], .int .i64 t] w (GivesC w (useC x t)) := by
  have b0 : Below w.heap.size w ((w.alloc (.cells #[.int .i64 x.sets, .int .i64 x.ways, .int .i64 x.clock, .slice A n c] 26)).alloc (.cells #[.int .i64 0, .int .i64 0, .int .i64 0, .slice none 0 0] 26)) := ((Below.refl _ _).alloc (Nat.le_refl _) _).alloc (by simp) _
  have X0 := (Bx.new w [.int .i64 x.sets, .int .i64 x.ways, .int .i64 x.clock, .slice A n c] 26).alloc (.cells #[.int .i64 0, .int .i64 0, .int .i64 0, .slice none 0 0] 26)
  have X1 := Bx.new (w.alloc (.cells #[.int .i64 x.sets, .int .i64 x.ways, .int .i64 x.clock, .slice A n c] 26)) [.int .i64 0, .int .i64 0, .int .i64 0, .slice none 0 0] 26
  rw [show (w.alloc (.cells #[.int .i64 x.sets, .int .i64 x.ways, .int .i64 x.clock, .slice A n c] 26)).heap.size = w.heap.size + 1 by simp] at X1
  have HC := Lib.hid (hc.below b0)
  have cD := fun w1 (h : CIn w1 A x.lines hs) => copied_any A c n x hs w1 h hn hn1 hb
  have cM := fun w1 (h : CIn w1 A x.lines hs) => may_any A c n x hs t w1 h hn hwf
  have HN := Lib.hid hn
  clear hc hwf hb
  have x0 := X0.cell 0 _ rfl
  have x1 := X0.cell 1 _ rfl
  have x2 := X0.cell 2 _ rfl
  have x3 := X0.cell 3 _ rfl
  go_enter Try.func15, Try.ntmps15
  go_wp2_with fail
  generalize (w.alloc (.cells #[.int .i64 x.sets, .int .i64 x.ways, .int .i64 x.clock, .slice A n c] 26)).alloc (.cells #[.int .i64 0, .int .i64 0, .int .i64 0, .slice none 0 0] 26) = W0 at *
  refine (cD _ HC.out).mono ?_
  rintro e w1 ⟨B, d, rfl, ⟨hs1, own1⟩, hb1⟩
  have hW1 := X1.lt
  have hltV : ∀ g, (Value.slice B n d).ownBlock = some g → g < w1.heap.size := fun g hg => (own1.outer.lt g hg).2
  have hltI : ∀ j, j < n → ∀ g, hs1[j]!.val.ownBlock = some g → g < w1.heap.size := fun j hj g hg => ((own1.inner j hj).2.lt g hg).2
  have b1 := b0.trans (hb1.mono b0.size)
  have HC1 := Lib.hid ((HC.out.below hb1).below ((Below.refl _ _).alloc (Nat.le_refl _) (.cells #[.int .i64 x.sets, .int .i64 x.ways, .int .i64 x.clock, .slice B n d] 26)))
  replace X0 := (X0.below hb1).alloc (.cells #[.int .i64 x.sets, .int .i64 x.ways, .int .i64 x.clock, .slice B n d] 26)
  replace X1 := (X1.below hb1).alloc (.cells #[.int .i64 x.sets, .int .i64 x.ways, .int .i64 x.clock, .slice B n d] 26)
  have D := Bx.new w1 [.int .i64 x.sets, .int .i64 x.ways, .int .i64 x.clock, .slice B n d] 26
  have own2 := own1.below ((Below.refl _ _).alloc (Nat.le_refl _) (.cells #[.int .i64 x.sets, .int .i64 x.ways, .int .i64 x.clock, .slice B n d] 26))
  have b2 := b1.alloc b1.size (.cells #[.int .i64 x.sets, .int .i64 x.ways, .int .i64 x.clock, .slice B n d] 26)
  have hD0 : W0.heap.size ≤ w1.heap.size := hb1.size
  have hW0 := b0.size
  clear cD hb1 own1 b1 b0 x0 x1 x2 x3
  have x0 := X0.cell 0 _ rfl
  have x1 := X0.cell 1 _ rfl
  have x2 := X0.cell 2 _ rfl
  have x3 := X0.cell 3 _ rfl
  go_wp2_with fail
  generalize w1.alloc (.cells #[.int .i64 x.sets, .int .i64 x.ways, .int .i64 x.clock, .slice B n d] 26) = W2 at *
  generalize w1.heap.size = DX at *
  refine (cM _ HC1.out).mono ?_
  rintro e w3 ⟨rfl, hb3⟩
  replace X1 := X1.below hb3
  replace D := D.below hb3
  have own3 := own2.below hb3
  have b3 := b2.trans (hb3.mono b2.size)
  clear cM hb3 own2 b2 x0 x1 x2 x3 X0
  have hXD : w.heap.size + 1 ≠ DX := by omega
  have d0 := D.cell 0 _ rfl
  have d1 := D.cell 1 _ rfl
  have d2 := D.cell 2 _ rfl
  have d3 := D.cell 3 _ rfl
  have z0 := X1.cell 0 _ rfl
  have z1 := X1.cell 1 _ rfl
  have z2 := X1.cell 2 _ rfl
  have z3 := X1.cell 3 _ rfl
  have f0 := X1.froz 0
  have f1 := X1.froz 1
  have f2 := X1.froz 2
  have f3 := X1.froz 3
  cases hm : mayC x t with
  | false =>
    have hU : useC x t = (x, 1) := by unfold useC; rw [if_neg (by rw [hm]; decide)]
    have HU := Lib.hid hU
    have OF := Lib.hid ((((own3.set (X := w.heap.size + 1) (by omega) 0 (.int .i64 x.sets)).set (X := w.heap.size + 1) (by omega) 1 (.int .i64 x.ways)).set (X := w.heap.size + 1) (by omega) 2 (.int .i64 x.clock)).set (X := w.heap.size + 1) (by omega) 3 (.slice B n d))
    have BF := Lib.hid ((((b3.setCell (p := ⟨w.heap.size + 1, 0, none⟩) (Nat.le_succ _) (.int .i64 x.sets)).setCell (p := ⟨w.heap.size + 1, 1, none⟩) (Nat.le_succ _) (.int .i64 x.ways)).setCell (p := ⟨w.heap.size + 1, 2, none⟩) (Nat.le_succ _) (.int .i64 x.clock)).setCell (p := ⟨w.heap.size + 1, 3, none⟩) (Nat.le_succ _) (.slice B n d))
    clear hU hm own3 b3
    go_wp2_with fail
    refine bodyPost_ret (v := .tuple #[.agg #[.int .i64 x.sets, .int .i64 x.ways, .int .i64 x.clock, .slice B n d], .int .i64 1]) (by simp [results, Try.results15, go_sem, z0, z1, z2, z3]) rfl ?_
    rw [HU.out]
    show GivesC w (x, 1) _ _
    unfold GivesC
    simp only [HN.out]
    exact ⟨B, d, rfl, ⟨hs1, OF.out.weaken hW0⟩, BF.out⟩
  | true =>
    obtain ⟨hr, ht, hclk⟩ := may_facts hm
    obtain ⟨s, hst, hsl, h0⟩ := set_of hr ht
    have hrf := right_facts hr
    have hsn : s < n := by rw [← HN.out]; exact hsl
    have cP := place_any B d n s x hs1 t w3 own3.cin HN.out hsn hst h0 hn1
    have hU : useC x t = if idxA x.lines[s]! t < 0 then (x, 7) else (usedC x s (idxA x.lines[s]! t).toNat, 0) := by
      unfold useC setOf
      rw [if_pos hm, hst, Int.toNat_natCast]
    have hclk0 : 0 ≤ x.clock := by omega
    clear hm hr hst h0 hrf
    rcases idxA_cases x.lines[s]! t with ⟨hi, hno⟩ | ⟨k, hk, hi, hka, hno⟩
    · rw [hi] at cP hU
      rw [if_pos (by omega)] at hU
      have HU := Lib.hid hU
      clear hU hi hno hsl
      go_wp2_with fail
      refine cP.mono ?_
      rintro e w4 ⟨rfl, hb4⟩
      replace X1 := X1.below hb4
      replace D := D.below hb4
      have own4 := own3.below hb4
      have b4 := b3.trans (hb4.mono b3.size)
      clear cP hb4 own3 b3 d0 d1 d2 d3 z0 z1 z2 z3 f0 f1 f2 f3
      · skip
        have d0 := D.cell 0 _ rfl
        have d1 := D.cell 1 _ rfl
        have d2 := D.cell 2 _ rfl
        have d3 := D.cell 3 _ rfl
        have z0 := X1.cell 0 _ rfl
        have z1 := X1.cell 1 _ rfl
        have z2 := X1.cell 2 _ rfl
        have z3 := X1.cell 3 _ rfl
        have f0 := X1.froz 0
        have f1 := X1.froz 1
        have f2 := X1.froz 2
        have f3 := X1.froz 3
        have OF := Lib.hid ((((own4.set (X := w.heap.size + 1) (by omega) 0 (.int .i64 x.sets)).set (X := w.heap.size + 1) (by omega) 1 (.int .i64 x.ways)).set (X := w.heap.size + 1) (by omega) 2 (.int .i64 x.clock)).set (X := w.heap.size + 1) (by omega) 3 (.slice B n d))
        have BF := Lib.hid ((((b4.setCell (p := ⟨w.heap.size + 1, 0, none⟩) (Nat.le_succ _) (.int .i64 x.sets)).setCell (p := ⟨w.heap.size + 1, 1, none⟩) (Nat.le_succ _) (.int .i64 x.ways)).setCell (p := ⟨w.heap.size + 1, 2, none⟩) (Nat.le_succ _) (.int .i64 x.clock)).setCell (p := ⟨w.heap.size + 1, 3, none⟩) (Nat.le_succ _) (.slice B n d))
        clear own4 b4
        go_wp2_with fail
        refine bodyPost_ret (v := .tuple #[.agg #[.int .i64 x.sets, .int .i64 x.ways, .int .i64 x.clock, .slice B n d], .int .i64 7]) (by simp [results, Try.results15, go_sem, z0, z1, z2, z3]) rfl ?_
        rw [HU.out]
        show GivesC w (x, 7) _ _
        unfold GivesC
        simp only [HN.out]
        exact ⟨B, d, rfl, ⟨hs1, OF.out.weaken hW0⟩, BF.out⟩
    · rw [hi] at cP hU
      rw [if_neg (by omega), Int.toNat_natCast] at hU
      have HU := Lib.hid hU
      have HK := Lib.hid hk
      clear hU hi hka hno hsl hk
      go_wp2_with fail
      refine cP.mono ?_
      rintro e w4 ⟨rfl, hb4⟩
      replace X1 := X1.below hb4
      replace D := D.below hb4
      have own4 := own3.below hb4
      have b4 := b3.trans (hb4.mono b3.size)
      clear cP hb4 own3 b3 d0 d1 d2 d3 z0 z1 z2 z3 f0 f1 f2 f3
      · obtain ⟨b, m, c2, he, hm, hmc, hbb, hbl, orow⟩ := own4.at_ hsn (by have := HK.out; omega)
        obtain ⟨g, d', eB⟩ := own_slice own4.outer (by omega)
        obtain ⟨rfl, rfl⟩ : B = some ⟨g, 0, none⟩ ∧ d = d' := by simpa using eB
        have hcell : w4.cell? ⟨g, s, none⟩ = some (.slice (some ⟨b, 0, none⟩) m c2) := own_cell own4.outer s _ (by have := flat_at Hd.enc_len hs1 s 0 (.slice (some ⟨b, 0, none⟩) m c2) (by rw [own4.len]; exact hsn) (by rw [he]; rfl); simpa using this)
        have c3 : w4.cell? ⟨b, k * 4 + 3, none⟩ = some (.int .i64 x.lines[s]![k]!.used) := own_cell orow (k * 4 + 3) _ (flat_at Ln.enc_len x.lines[s]! k 3 _ HK.out rfl)
        have hfb := own_frozen orow (k * 4 + 3)
        have hbD : b < DX := hltI s hsn b (by rw [he]; rfl)
        have hkm : (k : Int) < (m : Int) := by have := HK.out; omega
        have hsz : (s : Int) < (n : Int) := by omega
        have cU := used_any DX b (k * 4) x.clock _ w4 (D.cell 2 _ rfl) (D.froz 2) c3 hfb (by omega) hclk0 hclk
        have own5 := (own4.keep (X := DX) (grown_set (g := DX) (j := 2) (World.grownBy.refl w4 _) (.int .i64 (x.clock + 1))) (fun g hg => by have := hltV g hg; omega) (fun j hj g hg => by have := hltI j hj g hg; omega)).line hsn HK.out (show 3 < 4 by decide) he (.int .i64 (x.clock + 1)) ⟨x.lines[s]![k]!.addr, x.lines[s]![k]!.state, x.lines[s]![k]!.val_, x.clock + 1⟩ rfl
        have D5 := (D.set 2 (.int .i64 (x.clock + 1)) (by simp)).far (Y := b) (by omega) (k * 4 + 3) (.int .i64 (x.clock + 1))
        have X5 := (X1.far (Y := DX) (by omega) 2 (.int .i64 (x.clock + 1))).far (Y := b) (by omega) (k * 4 + 3) (.int .i64 (x.clock + 1))
        have B5 := (b4.setCell (p := ⟨DX, 2, none⟩) (by show w.heap.size ≤ DX; omega) (.int .i64 (x.clock + 1))).setCell (p := ⟨b, k * 4 + 3, none⟩) (by show w.heap.size ≤ b; omega) (.int .i64 (x.clock + 1))
        have d3 := D.cell 3 _ rfl
        clear orow hm he own4 b4 eB hbb hbl hfb c3
        go_wp2_with fail
        refine cU.mono ?_
        rintro e w5 ⟨rfl, hw5⟩
        rw [← hw5] at own5 D5 X5 B5
        clear cU hw5 hcell d3 D X1
        have D := D5
        have X1 := X5
        have own4 := own5
        have b4 := B5
        clear D5 X5 own5 B5
        have d0 := D.cell 0 _ rfl
        have d1 := D.cell 1 _ rfl
        have d2 := D.cell 2 _ rfl
        have d3 := D.cell 3 _ rfl
        have z0 := X1.cell 0 _ rfl
        have z1 := X1.cell 1 _ rfl
        have z2 := X1.cell 2 _ rfl
        have z3 := X1.cell 3 _ rfl
        have f0 := X1.froz 0
        have f1 := X1.froz 1
        have f2 := X1.froz 2
        have f3 := X1.froz 3
        have OF := Lib.hid ((((own4.set (X := w.heap.size + 1) (by omega) 0 (.int .i64 x.sets)).set (X := w.heap.size + 1) (by omega) 1 (.int .i64 x.ways)).set (X := w.heap.size + 1) (by omega) 2 (.int .i64 (x.clock + 1))).set (X := w.heap.size + 1) (by omega) 3 (.slice (some ⟨g, 0, none⟩) n d))
        have BF := Lib.hid ((((b4.setCell (p := ⟨w.heap.size + 1, 0, none⟩) (Nat.le_succ _) (.int .i64 x.sets)).setCell (p := ⟨w.heap.size + 1, 1, none⟩) (Nat.le_succ _) (.int .i64 x.ways)).setCell (p := ⟨w.heap.size + 1, 2, none⟩) (Nat.le_succ _) (.int .i64 (x.clock + 1))).setCell (p := ⟨w.heap.size + 1, 3, none⟩) (Nat.le_succ _) (.slice (some ⟨g, 0, none⟩) n d))
        clear own4 b4
        go_wp2_with fail
        refine bodyPost_ret (v := .tuple #[.agg #[.int .i64 x.sets, .int .i64 x.ways, .int .i64 (x.clock + 1), .slice (some ⟨g, 0, none⟩) n d], .int .i64 0]) (by simp [results, Try.results15, go_sem, z0, z1, z2, z3]) rfl ?_
        rw [HU.out]
        show GivesC w (usedC x s k, 0) _ _
        unfold GivesC usedC
        simp only [List.length_set, HN.out]
        exact ⟨some ⟨g, 0, none⟩, d, rfl, ⟨hs1, OF.out.weaken hW0⟩, BF.out⟩
end Go.Proofs.Ytdndanjabknjpaa
