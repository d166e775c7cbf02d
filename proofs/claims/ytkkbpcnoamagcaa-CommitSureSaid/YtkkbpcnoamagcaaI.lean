/- Walks of commit's laws: awake. -/
import Derived.Test.YtkkbpcnoamagcaaH
namespace Go.Proofs.Ytkkbpcnoamagcaa
open Go.RowKit Go.Lib

theorem Gave.num {w w' : World} {g : Gt} {k : Int} {e : Ending} (h : Gave w g k e w') (n m : Nat) (hn : g.held.length = n) (hm : g.out.length = m) :
    ∃ A c B d, e = .returned (.tuple #[.agg #[.slice A n c, .slice B m d], .int .i64 k]) ∧ GateIn w' A B g.held g.out ∧ Below w.heap.size w w' := by
  subst hn; subst hm; exact h
theorem call_num {w : World} {f : Nat} {args : Array Value} {r : Gt × Int} {g : Gt} {k : Int} {n m : Nat} (h : Calls Try.prog f args w (Gave w r.1 r.2)) (hr : r = (g, k)) (hn : g.held.length = n) (hm : g.out.length = m) :
    Calls Try.prog f args w fun e w' => ∃ A c B d, e = .returned (.tuple #[.agg #[.slice A n c, .slice B m d], .int .i64 k]) ∧ GateIn w' A B g.held g.out ∧ Below w.heap.size w w' := by
  subst hr
  exact h.mono fun e w' hh => hh.num n m hn hm

theorem Sl.set {α : Type} [Inhabited α] {k : Nat} {enc : α → List Value} {w : World} {A : Option Addr} {xs : List α} {q : Addr} {a : Option Addr} {n c : Nat} (h : Sl k enc w A xs) (hint : ∀ x, ∀ u ∈ enc x, ∃ kk z, u = .int kk z) (hq : w.cell? q = some (.slice a n c)) (u : Value) : Sl k enc (w.setCell q u) A xs :=
  ⟨h.big, fun hne => by
    obtain ⟨b, off, e, hc⟩ := h.cell hne
    refine ⟨b, off, e, fun j hj i v hv => ?_⟩
    have h1 := hc j hj i v hv
    obtain ⟨kk, z, rfl⟩ := hint _ v (List.mem_of_getElem? hv)
    refine (World.cell?_setCell_other _ _ _ _ fun e => ?_).trans h1
    subst e
    rw [hq] at h1
    simp at h1⟩
theorem Tld.ints (x : Tld) : ∀ u ∈ Tld.enc x, ∃ kk z, u = .int kk z := by
  intro u hu; simp [Tld.enc] at hu; rcases hu with rfl | rfl <;> exact ⟨_, _, rfl⟩
theorem Hld.ints (x : Hld) : ∀ u ∈ Hld.enc x, ∃ kk z, u = .int kk z := by
  intro u hu; simp [Hld.enc] at hu; rcases hu with rfl | rfl | rfl <;> exact ⟨_, _, rfl⟩
theorem GateIn.set {w : World} {A B a : Option Addr} {h : List Hld} {t : List Tld} {q : Addr} {n c : Nat} (g : GateIn w A B h t) (hq : w.cell? q = some (.slice a n c)) (u : Value) : GateIn (w.setCell q u) A B h t :=
  ⟨g.held.set Hld.ints hq u, g.out.set Tld.ints hq u⟩
/-- A gate's variable is set. -/
theorem gate_set {w : World} {X n m n' m' c d c' d' : Nat} {A B A' B' : Option Addr} (W : World) (hW : (w.setCell ⟨X, 0, none⟩ (.slice A' n' c')).setCell ⟨X, 1, none⟩ (.slice B' m' d') = W)
    (h0 : w.cell? ⟨X, 0, none⟩ = some (.slice A n c)) (h1 : w.cell? ⟨X, 1, none⟩ = some (.slice B m d)) (hf0 : w.frozen? ⟨X, 0, none⟩ = false) (hf1 : w.frozen? ⟨X, 1, none⟩ = false) :
    W.cell? ⟨X, 0, none⟩ = some (.slice A' n' c') ∧ W.cell? ⟨X, 1, none⟩ = some (.slice B' m' d') ∧ W.frozen? ⟨X, 0, none⟩ = false ∧ W.frozen? ⟨X, 1, none⟩ = false ∧
    (∀ A B h t, GateIn w A B h t → GateIn W A B h t) ∧ (∀ (Bz : Nat) (wz : World), Bz ≤ X → Below Bz wz w → Below Bz wz W) ∧ W.heap.size = w.heap.size ∧
    (∀ (Y j : Nat), Y ≠ X → W.cell? ⟨Y, j, none⟩ = w.cell? ⟨Y, j, none⟩ ∧ W.frozen? ⟨Y, j, none⟩ = w.frozen? ⟨Y, j, none⟩) := by
  subst hW
  have g1 : (w.setCell ⟨X, 0, none⟩ (.slice A' n' c')).cell? ⟨X, 1, none⟩ = some (.slice B m d) := (World.cell?_setCell_other _ _ _ _ (by simp)).trans h1
  refine ⟨(World.cell?_setCell_other _ _ _ _ (by simp)).trans (World.cell?_setCell_same _ _ _ h0), World.cell?_setCell_same _ _ _ g1, by go_simp, by go_simp, fun A B h t g => (g.set h0 _).set g1 _, fun Bz wz hX hb => (hb.setCell hX _).setCell hX _, by simp, fun Y j hY => ⟨?_, ?_⟩⟩
  · exact (World.cell?_setCell_far _ _ _ _ (Ne.symm hY)).trans (World.cell?_setCell_far _ _ _ _ (Ne.symm hY))
  · go_simp

set_option maxHeartbeats 2000000 in
theorem awake_any (w : World) : Calls Try.prog 6 #[] w fun e w' => e = .returned (.bool true) ∧ Below w.heap.size w w' := by
  have b : Below w.heap.size w w := Below.refl _ _
  have cT1 := fun w1 => call_num (Tell_any none none 0 0 0 0 0 ⟨[], []⟩ ⟨0, 5⟩ w1 ⟨Sl.nil _ _ _ _, Sl.nil _ _ _ _⟩ rfl rfl (by decide) (by decide)) (g := ⟨[⟨0, 5, 0⟩], []⟩) (k := 0) (n := 1) (m := 0) (by decide) rfl rfl
  have cT2 := fun A B c d w1 hg => call_num (Tell_any A B c d 1 0 1 ⟨[⟨0, 5, 0⟩], []⟩ ⟨0, 6⟩ w1 hg rfl rfl (by decide) (by decide)) (g := ⟨[⟨0, 5, 0⟩, ⟨0, 6, 1⟩], []⟩) (k := 0) (n := 2) (m := 0) (by decide) rfl rfl
  have cS := fun A B c d w1 hg => call_num (Sure_any A B c d 2 0 1 ⟨[⟨0, 5, 0⟩, ⟨0, 6, 1⟩], []⟩ w1 hg rfl rfl (by decide) (by decide)) (g := ⟨[⟨0, 6, 1⟩], [⟨0, 5⟩]⟩) (k := 0) (n := 1) (m := 1) (by decide) rfl rfl
  have cB := fun A B c d w1 hg => call_num (Back_any A B c d 1 1 1 ⟨[⟨0, 6, 1⟩], [⟨0, 5⟩]⟩ w1 hg rfl rfl (by decide) (by decide)) (g := ⟨[], [⟨0, 5⟩]⟩) (k := 0) (n := 0) (m := 1) (by decide) rfl rfl
  have cA := fun A B c d w1 hg => All_any A B c d 1 1 ⟨[⟨0, 6, 1⟩], [⟨0, 5⟩]⟩ w1 hg rfl rfl (by decide) (by decide)
  have cR := fun A B c d w1 hg => Right_any A B c d 1 1 [⟨0, 6, 1⟩] [⟨0, 5⟩] w1 hg rfl
  rw [show rightB [⟨0, 6, 1⟩] = true by decide] at cR
  go_enter Try.func6, Try.ntmps6
  go_wp2_with fail
  refine (cT1 _).mono ?_
  rintro e w1 ⟨A1, c1, B1, d1, rfl, hg1, hb1⟩
  replace b := b.trans (hb1.mono b.size)
  have szX := b.size
  clear hb1
  go_wp2_with fail
  have x0 : (w1.alloc (.cells #[.slice A1 1 c1, .slice B1 0 d1] 25)).cell? ⟨w1.heap.size, 0, none⟩ = some (.slice A1 1 c1) := World.cell?_alloc_new (w := w1) _ _ _
  have x1 : (w1.alloc (.cells #[.slice A1 1 c1, .slice B1 0 d1] 25)).cell? ⟨w1.heap.size, 1, none⟩ = some (.slice B1 0 d1) := World.cell?_alloc_new (w := w1) _ _ _
  have fx0 : (w1.alloc (.cells #[.slice A1 1 c1, .slice B1 0 d1] 25)).frozen? ⟨w1.heap.size, 0, none⟩ = false := by go_simp
  have fx1 : (w1.alloc (.cells #[.slice A1 1 c1, .slice B1 0 d1] 25)).frozen? ⟨w1.heap.size, 1, none⟩ = false := by go_simp
  replace hg1 := hg1.below ((Below.refl w1.heap.size w1).alloc (Nat.le_refl _) (.cells #[.slice A1 1 c1, .slice B1 0 d1] 25))
  replace b := b.alloc b.size (.cells #[.slice A1 1 c1, .slice B1 0 d1] 25)
  have ltX : w1.heap.size < (w1.alloc (.cells #[.slice A1 1 c1, .slice B1 0 d1] 25)).heap.size := by simp
  generalize hw_w2 : w1.alloc (.cells #[.slice A1 1 c1, .slice B1 0 d1] 25) = w2 at *
  clear hw_w2
  generalize w1.heap.size = X1 at *
  refine (cT2 _ _ _ _ _ hg1).mono ?_
  rintro e w3 ⟨A2, c2, B2, d2, rfl, hg2, hb2⟩
  replace x0 := (hb2.cell (p := ⟨X1, 0, none⟩) (World.block_lt_of_cell? _ _ x0)).trans x0
  replace x1 := (hb2.cell (p := ⟨X1, 1, none⟩) (World.block_lt_of_cell? _ _ x1)).trans x1
  replace fx0 := (hb2.frozen (p := ⟨X1, 0, none⟩) ltX).trans fx0
  replace fx1 := (hb2.frozen (p := ⟨X1, 1, none⟩) ltX).trans fx1
  replace ltX := Nat.lt_of_lt_of_le ltX hb2.size
  replace b := b.trans (hb2.mono b.size)
  clear hb2 hg1
  go_wp2_with fail
  obtain ⟨g0, g1, k0, k1, gs, bs, szs, oth⟩ := gate_set ((w3.setCell ⟨X1, 0, none⟩ (.slice A2 2 c2)).setCell ⟨X1, 1, none⟩ (.slice B2 0 d2)) rfl x0 x1 fx0 fx1
  replace b := bs _ _ szX b
  replace hg2 := gs _ _ _ _ hg2
  replace ltX := Nat.lt_of_lt_of_le ltX (Nat.le_of_eq szs.symm)
  clear x0 x1 fx0 fx1 gs bs szs oth
  have x0 := g0
  have x1 := g1
  have fx0 := k0
  have fx1 := k1
  clear g0 g1 k0 k1
  generalize ((w3.setCell ⟨X1, 0, none⟩ (.slice A2 2 c2)).setCell ⟨X1, 1, none⟩ (.slice B2 0 d2)) = w4 at *
  refine (cS _ _ _ _ _ hg2).mono ?_
  rintro e w5 ⟨A3, c3, B3, d3, rfl, hg3, hb3⟩
  replace x0 := (hb3.cell (p := ⟨X1, 0, none⟩) (World.block_lt_of_cell? _ _ x0)).trans x0
  replace x1 := (hb3.cell (p := ⟨X1, 1, none⟩) (World.block_lt_of_cell? _ _ x1)).trans x1
  replace fx0 := (hb3.frozen (p := ⟨X1, 0, none⟩) ltX).trans fx0
  replace fx1 := (hb3.frozen (p := ⟨X1, 1, none⟩) ltX).trans fx1
  replace ltX := Nat.lt_of_lt_of_le ltX hb3.size
  replace b := b.trans (hb3.mono b.size)
  clear hb3 hg2
  go_wp2_with fail
  obtain ⟨g0, g1, k0, k1, gs, bs, szs, oth⟩ := gate_set ((w5.setCell ⟨X1, 0, none⟩ (.slice A3 1 c3)).setCell ⟨X1, 1, none⟩ (.slice B3 1 d3)) rfl x0 x1 fx0 fx1
  replace b := bs _ _ szX b
  replace hg3 := gs _ _ _ _ hg3
  replace ltX := Nat.lt_of_lt_of_le ltX (Nat.le_of_eq szs.symm)
  clear x0 x1 fx0 fx1 gs bs szs oth
  have x0 := g0
  have x1 := g1
  have fx0 := k0
  have fx1 := k1
  clear g0 g1 k0 k1
  generalize ((w5.setCell ⟨X1, 0, none⟩ (.slice A3 1 c3)).setCell ⟨X1, 1, none⟩ (.slice B3 1 d3)) = w6 at *
  refine (cB _ _ _ _ _ hg3).mono ?_
  rintro e w7 ⟨A4, c4, B4, d4, rfl, hg4, hb4⟩
  replace x0 := (hb4.cell (p := ⟨X1, 0, none⟩) (World.block_lt_of_cell? _ _ x0)).trans x0
  replace x1 := (hb4.cell (p := ⟨X1, 1, none⟩) (World.block_lt_of_cell? _ _ x1)).trans x1
  replace fx0 := (hb4.frozen (p := ⟨X1, 0, none⟩) ltX).trans fx0
  replace fx1 := (hb4.frozen (p := ⟨X1, 1, none⟩) ltX).trans fx1
  replace ltX := Nat.lt_of_lt_of_le ltX hb4.size
  replace hg3 := hg3.below hb4
  replace b := b.trans (hb4.mono b.size)
  clear hb4
  have neX := ltX
  obtain ⟨bb, off, rfl, hq⟩ := hg3.out.at_ 0 (by decide)
  have q1 := hq 1 _ rfl
  simp only [Nat.zero_mul, Nat.add_zero] at q1
  have ltbb : bb < w7.heap.size := World.block_lt_of_cell? _ _ q1
  clear hq
  go_wp2_with fail
  replace x0 : (w7.alloc (.cells #[.slice A4 0 c4, .slice B4 1 d4] 25)).cell? ⟨X1, 0, none⟩ = some (.slice A3 1 c3) := (World.cell?_alloc_lt w7 _ ⟨X1, 0, none⟩ (World.block_lt_of_cell? _ _ x0)).trans x0
  replace x1 : (w7.alloc (.cells #[.slice A4 0 c4, .slice B4 1 d4] 25)).cell? ⟨X1, 1, none⟩ = some (.slice (some ⟨bb, off, none⟩) 1 d3) := (World.cell?_alloc_lt w7 _ ⟨X1, 1, none⟩ (World.block_lt_of_cell? _ _ x1)).trans x1
  replace fx0 : (w7.alloc (.cells #[.slice A4 0 c4, .slice B4 1 d4] 25)).frozen? ⟨X1, 0, none⟩ = false := (((Below.refl w7.heap.size w7).alloc (Nat.le_refl _) _).frozen (p := ⟨X1, 0, none⟩) ltX).trans fx0
  replace fx1 : (w7.alloc (.cells #[.slice A4 0 c4, .slice B4 1 d4] 25)).frozen? ⟨X1, 1, none⟩ = false := (((Below.refl w7.heap.size w7).alloc (Nat.le_refl _) _).frozen (p := ⟨X1, 1, none⟩) ltX).trans fx1
  replace ltX : _ < (w7.alloc (.cells #[.slice A4 0 c4, .slice B4 1 d4] 25)).heap.size := Nat.lt_of_lt_of_le ltX (by simp)
  replace hg3 := hg3.below ((Below.refl w7.heap.size w7).alloc (Nat.le_refl _) (.cells #[.slice A4 0 c4, .slice B4 1 d4] 25))
  replace b := b.alloc b.size (.cells #[.slice A4 0 c4, .slice B4 1 d4] 25)
  have lt5 : w7.heap.size < (w7.alloc (.cells #[.slice A4 0 c4, .slice B4 1 d4] 25)).heap.size := by simp
  generalize hw_w8 : w7.alloc (.cells #[.slice A4 0 c4, .slice B4 1 d4] 25) = w8 at *
  clear hw_w8
  generalize w7.heap.size = X5 at *
  refine (cA _ _ _ _ _ hg3).mono ?_
  rintro e w9 ⟨A6, c6, rfl, -, hb6⟩
  replace x0 := (hb6.cell (p := ⟨X1, 0, none⟩) (World.block_lt_of_cell? _ _ x0)).trans x0
  replace x1 := (hb6.cell (p := ⟨X1, 1, none⟩) (World.block_lt_of_cell? _ _ x1)).trans x1
  replace fx0 := (hb6.frozen (p := ⟨X1, 0, none⟩) ltX).trans fx0
  replace fx1 := (hb6.frozen (p := ⟨X1, 1, none⟩) ltX).trans fx1
  replace ltX := Nat.lt_of_lt_of_le ltX hb6.size
  replace lt5 := Nat.lt_of_lt_of_le lt5 hb6.size
  replace hg3 := hg3.below hb6
  replace b := b.trans (hb6.mono b.size)
  clear hb6
  go_wp2_with fail
  refine (cR _ _ _ _ _ hg3).mono ?_
  rintro e w10 ⟨rfl, hb7⟩
  replace b := b.trans (hb7.mono b.size)
  go_wp2_with fail
  go_ret
  exact ⟨rfl, b⟩
end Go.Proofs.Ytkkbpcnoamagcaa
