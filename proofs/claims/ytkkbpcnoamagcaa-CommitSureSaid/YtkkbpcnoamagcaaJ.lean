/- Walks of commit's laws: CommitOnce. -/
import Derived.Test.YtkkbpcnoamagcaaI
namespace Go.Proofs.Ytkkbpcnoamagcaa
open Go.RowKit Go.Lib

theorem sureG_len (g : Gt) (k : Int) : (sureG g k).1.held.length ≤ g.held.length ∧ (sureG g k).1.out.length ≤ g.out.length + g.held.length := by
  have := belowN_le g.held k
  unfold sureG
  split
  · simp
  · simp; omega
theorem backG_len (g : Gt) (k : Int) : (backG g k).1.held.length ≤ g.held.length ∧ (backG g k).1.out.length ≤ g.out.length := by
  unfold backG
  split
  · simp
  · simp; omega

set_option maxHeartbeats 4000000 in
theorem once_right (A B : Option Addr) (c d n m : Nat) (g : Gt) (p q : Int) (w : World) (hg : GateIn w A B g.held g.out) (hn : g.held.length = n) (hm : g.out.length = m) (hn1 : n ≤ 80) (hm1 : m ≤ 100)
    (x1 x2 y z : Gt) (k1 k2 k3 k4 : Int) (h1 : sureG g (min p q) = (x1, k1)) (h2 : sureG x1 (max p q) = (x2, k2)) (h3 : sureG g (max p q) = (y, k3)) (h4 : backG g 0 = (z, k4))
    (hr : rightB g.held = false) (hk1 : k1 = 1) :
    Calls Try.prog 5 #[.agg #[.slice A n c, .slice B m d], .int .i64 p, .int .i64 q] w fun e w' => e = .returned (.bool true) ∧ Below w.heap.size w w' := by
  have hn1z : ¬ 80 < (n : Int) := by omega
  have hm1z : ¬ 100 < (m : Int) := by omega
  have l1 := sureG_len g (min p q)
  have l2 := sureG_len x1 (max p q)
  have l3 := sureG_len g (max p q)
  have l4 := backG_len g 0
  rw [h1, hn, hm] at l1
  rw [h2] at l2
  rw [h3, hn, hm] at l3
  rw [h4, hn, hm] at l4
  obtain ⟨n1, hx1n⟩ : ∃ n1, x1.held.length = n1 := ⟨_, rfl⟩
  obtain ⟨m1, hx1m⟩ : ∃ m1, x1.out.length = m1 := ⟨_, rfl⟩
  obtain ⟨n2, hx2n⟩ : ∃ n1, x2.held.length = n1 := ⟨_, rfl⟩
  obtain ⟨m2, hx2m⟩ : ∃ m1, x2.out.length = m1 := ⟨_, rfl⟩
  obtain ⟨n3, hyn⟩ : ∃ n1, y.held.length = n1 := ⟨_, rfl⟩
  obtain ⟨m3, hym⟩ : ∃ m1, y.out.length = m1 := ⟨_, rfl⟩
  obtain ⟨n4, hzn⟩ : ∃ n1, z.held.length = n1 := ⟨_, rfl⟩
  obtain ⟨m4, hzm⟩ : ∃ m1, z.out.length = m1 := ⟨_, rfl⟩
  simp only [hx1n, hx1m, hx2n, hx2m, hyn, hym, hzn, hzm] at l1 l2 l3 l4
  have c1 := fun w1 hgg => call_num (Sure_any A B c d n m (min p q) g w1 hgg hn hm (by omega) (by omega)) h1 hx1n hx1m
  have c2 := fun A' B' c' d' w1 hgg => call_num (Sure_any A' B' c' d' n1 m1 (max p q) x1 w1 hgg hx1n hx1m (by omega) (by omega)) h2 hx2n hx2m
  have c3 := fun w1 hgg => call_num (Sure_any A B c d n m (max p q) g w1 hgg hn hm (by omega) (by omega)) h3 hyn hym
  have c4 := fun w1 hgg => call_num (Back_any A B c d n m 0 g w1 hgg hn hm (by omega) (by omega)) h4 hzn hzm
  have c5 := fun w1 hgg => Right_any A B c d n m g.held g.out w1 hgg hn
  rw [hr] at c5
  subst hk1
  have b : Below w.heap.size w (w.alloc (.cells #[.slice A n c, .slice B m d] 25)) := (Below.refl _ _).alloc (Nat.le_refl _) _
  have e0 : (w.alloc (.cells #[.slice A n c, .slice B m d] 25)).cell? ⟨w.heap.size, 0, none⟩ = some (.slice A n c) := by go_simp
  have e1 : (w.alloc (.cells #[.slice A n c, .slice B m d] 25)).cell? ⟨w.heap.size, 1, none⟩ = some (.slice B m d) := by go_simp
  have ltB : w.heap.size < (w.alloc (.cells #[.slice A n c, .slice B m d] 25)).heap.size := by simp
  replace hg := hg.below b
  go_enter Try.func5, Try.ntmps5
  go_wp2_with fail
  generalize w.alloc (.cells #[.slice A n c, .slice B m d] 25) = W0 at *
  refine (awake_any _).mono ?_
  rintro e w1 ⟨rfl, hb1⟩
  replace e0 := (hb1.cell (p := ⟨w.heap.size, 0, none⟩) (World.block_lt_of_cell? _ _ e0)).trans e0
  replace e1 := (hb1.cell (p := ⟨w.heap.size, 1, none⟩) (World.block_lt_of_cell? _ _ e1)).trans e1
  replace ltB := Nat.lt_of_lt_of_le ltB hb1.size
  replace hg := hg.below hb1
  replace b := b.trans (hb1.mono b.size)
  clear hb1
  go_wp2_with fail
  refine (c1 _ hg).mono ?_
  rintro e w2 ⟨A1, e1', B1, d1, rfl, hx1, hb2⟩
  replace e0 := (hb2.cell (p := ⟨w.heap.size, 0, none⟩) (World.block_lt_of_cell? _ _ e0)).trans e0
  replace e1 := (hb2.cell (p := ⟨w.heap.size, 1, none⟩) (World.block_lt_of_cell? _ _ e1)).trans e1
  replace ltB := Nat.lt_of_lt_of_le ltB hb2.size
  replace hg := hg.below hb2
  replace b := b.trans (hb2.mono b.size)
  clear hb2
  have szX := b.size
  have neX := Nat.ne_of_lt ltB
  go_wp2_with fail
  replace e0 : (w2.alloc (.cells #[.slice A1 n1 e1', .slice B1 m1 d1] 25)).cell? ⟨w.heap.size, 0, none⟩ = some (.slice A n c) := (World.cell?_alloc_lt w2 _ ⟨w.heap.size, 0, none⟩ (World.block_lt_of_cell? _ _ e0)).trans e0
  replace e1 : (w2.alloc (.cells #[.slice A1 n1 e1', .slice B1 m1 d1] 25)).cell? ⟨w.heap.size, 1, none⟩ = some (.slice B m d) := (World.cell?_alloc_lt w2 _ ⟨w.heap.size, 1, none⟩ (World.block_lt_of_cell? _ _ e1)).trans e1
  have x0 : (w2.alloc (.cells #[.slice A1 n1 e1', .slice B1 m1 d1] 25)).cell? ⟨w2.heap.size, 0, none⟩ = some (.slice A1 n1 e1') := World.cell?_alloc_new (w := w2) _ _ _
  have y0 : (w2.alloc (.cells #[.slice A1 n1 e1', .slice B1 m1 d1] 25)).cell? ⟨w2.heap.size, 1, none⟩ = some (.slice B1 m1 d1) := World.cell?_alloc_new (w := w2) _ _ _
  have fx0 : (w2.alloc (.cells #[.slice A1 n1 e1', .slice B1 m1 d1] 25)).frozen? ⟨w2.heap.size, 0, none⟩ = false := by go_simp
  have fy0 : (w2.alloc (.cells #[.slice A1 n1 e1', .slice B1 m1 d1] 25)).frozen? ⟨w2.heap.size, 1, none⟩ = false := by go_simp
  replace ltB : _ < (w2.alloc (.cells #[.slice A1 n1 e1', .slice B1 m1 d1] 25)).heap.size := Nat.lt_of_lt_of_le ltB (by simp)
  replace hg := hg.below ((Below.refl w2.heap.size w2).alloc (Nat.le_refl _) (.cells #[.slice A1 n1 e1', .slice B1 m1 d1] 25))
  replace hx1 := hx1.below ((Below.refl w2.heap.size w2).alloc (Nat.le_refl _) (.cells #[.slice A1 n1 e1', .slice B1 m1 d1] 25))
  replace b := b.alloc b.size (.cells #[.slice A1 n1 e1', .slice B1 m1 d1] 25)
  have ltX : w2.heap.size < (w2.alloc (.cells #[.slice A1 n1 e1', .slice B1 m1 d1] 25)).heap.size := by simp
  generalize hw_w3 : w2.alloc (.cells #[.slice A1 n1 e1', .slice B1 m1 d1] 25) = w3 at *
  clear hw_w3
  generalize w2.heap.size = X7 at *
  refine (c2 _ _ _ _ _ hx1).mono ?_
  rintro e w4 ⟨A2, e2, B2, d2, rfl, hx2, hb3⟩
  replace e0 := (hb3.cell (p := ⟨w.heap.size, 0, none⟩) (World.block_lt_of_cell? _ _ e0)).trans e0
  replace e1 := (hb3.cell (p := ⟨w.heap.size, 1, none⟩) (World.block_lt_of_cell? _ _ e1)).trans e1
  replace x0 := (hb3.cell (p := ⟨X7, 0, none⟩) (World.block_lt_of_cell? _ _ x0)).trans x0
  replace y0 := (hb3.cell (p := ⟨X7, 1, none⟩) (World.block_lt_of_cell? _ _ y0)).trans y0
  replace fx0 := (hb3.frozen (p := ⟨X7, 0, none⟩) ltX).trans fx0
  replace fy0 := (hb3.frozen (p := ⟨X7, 1, none⟩) ltX).trans fy0
  replace ltB := Nat.lt_of_lt_of_le ltB hb3.size
  replace ltX := Nat.lt_of_lt_of_le ltX hb3.size
  replace hg := hg.below hb3
  replace b := b.trans (hb3.mono b.size)
  clear hb3 hx1
  go_wp2_with fail
  obtain ⟨g0, g1, k0, k1, gs, bs, szs, oth⟩ := gate_set ((w4.setCell ⟨X7, 0, none⟩ (.slice A2 n2 e2)).setCell ⟨X7, 1, none⟩ (.slice B2 m2 d2)) rfl x0 y0 fx0 fy0
  replace b := bs _ _ szX b
  replace hx2 := gs _ _ _ _ hx2
  replace hg := gs _ _ _ _ hg
  replace ltB := Nat.lt_of_lt_of_le ltB (Nat.le_of_eq szs.symm)
  replace ltX := Nat.lt_of_lt_of_le ltX (Nat.le_of_eq szs.symm)
  replace e0 := (oth _ _ neX).1.trans e0
  replace e1 := (oth _ _ neX).1.trans e1
  clear x0 y0 fx0 fy0 gs bs szs oth
  have x0 := g0
  have y0 := g1
  have fx0 := k0
  have fy0 := k1
  clear g0 g1 k0 k1
  generalize ((w4.setCell ⟨X7, 0, none⟩ (.slice A2 n2 e2)).setCell ⟨X7, 1, none⟩ (.slice B2 m2 d2)) = w5 at *
  refine (c3 _ hg).mono ?_
  rintro e w6 ⟨A3, e3, B3, d3, rfl, hy, hb4⟩
  replace e0 := (hb4.cell (p := ⟨w.heap.size, 0, none⟩) (World.block_lt_of_cell? _ _ e0)).trans e0
  replace e1 := (hb4.cell (p := ⟨w.heap.size, 1, none⟩) (World.block_lt_of_cell? _ _ e1)).trans e1
  replace x0 := (hb4.cell (p := ⟨X7, 0, none⟩) (World.block_lt_of_cell? _ _ x0)).trans x0
  replace y0 := (hb4.cell (p := ⟨X7, 1, none⟩) (World.block_lt_of_cell? _ _ y0)).trans y0
  replace fx0 := (hb4.frozen (p := ⟨X7, 0, none⟩) ltX).trans fx0
  replace fy0 := (hb4.frozen (p := ⟨X7, 1, none⟩) ltX).trans fy0
  replace ltB := Nat.lt_of_lt_of_le ltB hb4.size
  replace ltX := Nat.lt_of_lt_of_le ltX hb4.size
  replace hg := hg.below hb4
  replace hx2 := hx2.below hb4
  replace b := b.trans (hb4.mono b.size)
  clear hb4
  go_wp2_with fail
  replace e0 : (w6.alloc (.cells #[.slice A3 n3 e3, .slice B3 m3 d3] 25)).cell? ⟨w.heap.size, 0, none⟩ = some (.slice A n c) := (World.cell?_alloc_lt w6 _ ⟨w.heap.size, 0, none⟩ (World.block_lt_of_cell? _ _ e0)).trans e0
  replace e1 : (w6.alloc (.cells #[.slice A3 n3 e3, .slice B3 m3 d3] 25)).cell? ⟨w.heap.size, 1, none⟩ = some (.slice B m d) := (World.cell?_alloc_lt w6 _ ⟨w.heap.size, 1, none⟩ (World.block_lt_of_cell? _ _ e1)).trans e1
  replace x0 : (w6.alloc (.cells #[.slice A3 n3 e3, .slice B3 m3 d3] 25)).cell? ⟨X7, 0, none⟩ = some (.slice A2 n2 e2) := (World.cell?_alloc_lt w6 _ ⟨X7, 0, none⟩ (World.block_lt_of_cell? _ _ x0)).trans x0
  replace y0 : (w6.alloc (.cells #[.slice A3 n3 e3, .slice B3 m3 d3] 25)).cell? ⟨X7, 1, none⟩ = some (.slice B2 m2 d2) := (World.cell?_alloc_lt w6 _ ⟨X7, 1, none⟩ (World.block_lt_of_cell? _ _ y0)).trans y0
  replace fx0 : (w6.alloc (.cells #[.slice A3 n3 e3, .slice B3 m3 d3] 25)).frozen? ⟨X7, 0, none⟩ = false := (((Below.refl w6.heap.size w6).alloc (Nat.le_refl _) _).frozen (p := ⟨X7, 0, none⟩) ltX).trans fx0
  replace fy0 : (w6.alloc (.cells #[.slice A3 n3 e3, .slice B3 m3 d3] 25)).frozen? ⟨X7, 1, none⟩ = false := (((Below.refl w6.heap.size w6).alloc (Nat.le_refl _) _).frozen (p := ⟨X7, 1, none⟩) ltX).trans fy0
  have x3 : (w6.alloc (.cells #[.slice A3 n3 e3, .slice B3 m3 d3] 25)).cell? ⟨w6.heap.size, 0, none⟩ = some (.slice A3 n3 e3) := World.cell?_alloc_new (w := w6) _ _ _
  have y3 : (w6.alloc (.cells #[.slice A3 n3 e3, .slice B3 m3 d3] 25)).cell? ⟨w6.heap.size, 1, none⟩ = some (.slice B3 m3 d3) := World.cell?_alloc_new (w := w6) _ _ _
  have fx3 : (w6.alloc (.cells #[.slice A3 n3 e3, .slice B3 m3 d3] 25)).frozen? ⟨w6.heap.size, 0, none⟩ = false := by go_simp
  have fy3 : (w6.alloc (.cells #[.slice A3 n3 e3, .slice B3 m3 d3] 25)).frozen? ⟨w6.heap.size, 1, none⟩ = false := by go_simp
  replace ltB : _ < (w6.alloc (.cells #[.slice A3 n3 e3, .slice B3 m3 d3] 25)).heap.size := Nat.lt_of_lt_of_le ltB (by simp)
  replace ltX : _ < (w6.alloc (.cells #[.slice A3 n3 e3, .slice B3 m3 d3] 25)).heap.size := Nat.lt_of_lt_of_le ltX (by simp)
  replace hg := hg.below ((Below.refl w6.heap.size w6).alloc (Nat.le_refl _) (.cells #[.slice A3 n3 e3, .slice B3 m3 d3] 25))
  replace hx2 := hx2.below ((Below.refl w6.heap.size w6).alloc (Nat.le_refl _) (.cells #[.slice A3 n3 e3, .slice B3 m3 d3] 25))
  replace hy := hy.below ((Below.refl w6.heap.size w6).alloc (Nat.le_refl _) (.cells #[.slice A3 n3 e3, .slice B3 m3 d3] 25))
  replace b := b.alloc b.size (.cells #[.slice A3 n3 e3, .slice B3 m3 d3] 25)
  have ltY : w6.heap.size < (w6.alloc (.cells #[.slice A3 n3 e3, .slice B3 m3 d3] 25)).heap.size := by simp
  generalize hw_w7 : w6.alloc (.cells #[.slice A3 n3 e3, .slice B3 m3 d3] 25) = w7 at *
  clear hw_w7
  generalize w6.heap.size = X10 at *
  refine (c4 _ hg).mono ?_
  rintro e w8 ⟨A4, e4, B4, d4, rfl, hz, hb5⟩
  replace e0 := (hb5.cell (p := ⟨w.heap.size, 0, none⟩) (World.block_lt_of_cell? _ _ e0)).trans e0
  replace e1 := (hb5.cell (p := ⟨w.heap.size, 1, none⟩) (World.block_lt_of_cell? _ _ e1)).trans e1
  replace x0 := (hb5.cell (p := ⟨X7, 0, none⟩) (World.block_lt_of_cell? _ _ x0)).trans x0
  replace y0 := (hb5.cell (p := ⟨X7, 1, none⟩) (World.block_lt_of_cell? _ _ y0)).trans y0
  replace x3 := (hb5.cell (p := ⟨X10, 0, none⟩) (World.block_lt_of_cell? _ _ x3)).trans x3
  replace y3 := (hb5.cell (p := ⟨X10, 1, none⟩) (World.block_lt_of_cell? _ _ y3)).trans y3
  replace fx0 := (hb5.frozen (p := ⟨X7, 0, none⟩) ltX).trans fx0
  replace fy0 := (hb5.frozen (p := ⟨X7, 1, none⟩) ltX).trans fy0
  replace fx3 := (hb5.frozen (p := ⟨X10, 0, none⟩) ltY).trans fx3
  replace fy3 := (hb5.frozen (p := ⟨X10, 1, none⟩) ltY).trans fy3
  replace ltB := Nat.lt_of_lt_of_le ltB hb5.size
  replace ltX := Nat.lt_of_lt_of_le ltX hb5.size
  replace ltY := Nat.lt_of_lt_of_le ltY hb5.size
  replace hg := hg.below hb5
  replace hx2 := hx2.below hb5
  replace hy := hy.below hb5
  replace b := b.trans (hb5.mono b.size)
  clear hb5
  go_wp2_with fail
  replace e0 : (w8.alloc (.cells #[.slice A4 n4 e4, .slice B4 m4 d4] 25)).cell? ⟨w.heap.size, 0, none⟩ = some (.slice A n c) := (World.cell?_alloc_lt w8 _ ⟨w.heap.size, 0, none⟩ (World.block_lt_of_cell? _ _ e0)).trans e0
  replace e1 : (w8.alloc (.cells #[.slice A4 n4 e4, .slice B4 m4 d4] 25)).cell? ⟨w.heap.size, 1, none⟩ = some (.slice B m d) := (World.cell?_alloc_lt w8 _ ⟨w.heap.size, 1, none⟩ (World.block_lt_of_cell? _ _ e1)).trans e1
  replace x0 : (w8.alloc (.cells #[.slice A4 n4 e4, .slice B4 m4 d4] 25)).cell? ⟨X7, 0, none⟩ = some (.slice A2 n2 e2) := (World.cell?_alloc_lt w8 _ ⟨X7, 0, none⟩ (World.block_lt_of_cell? _ _ x0)).trans x0
  replace y0 : (w8.alloc (.cells #[.slice A4 n4 e4, .slice B4 m4 d4] 25)).cell? ⟨X7, 1, none⟩ = some (.slice B2 m2 d2) := (World.cell?_alloc_lt w8 _ ⟨X7, 1, none⟩ (World.block_lt_of_cell? _ _ y0)).trans y0
  replace x3 : (w8.alloc (.cells #[.slice A4 n4 e4, .slice B4 m4 d4] 25)).cell? ⟨X10, 0, none⟩ = some (.slice A3 n3 e3) := (World.cell?_alloc_lt w8 _ ⟨X10, 0, none⟩ (World.block_lt_of_cell? _ _ x3)).trans x3
  replace y3 : (w8.alloc (.cells #[.slice A4 n4 e4, .slice B4 m4 d4] 25)).cell? ⟨X10, 1, none⟩ = some (.slice B3 m3 d3) := (World.cell?_alloc_lt w8 _ ⟨X10, 1, none⟩ (World.block_lt_of_cell? _ _ y3)).trans y3
  replace fx0 : (w8.alloc (.cells #[.slice A4 n4 e4, .slice B4 m4 d4] 25)).frozen? ⟨X7, 0, none⟩ = false := (((Below.refl w8.heap.size w8).alloc (Nat.le_refl _) _).frozen (p := ⟨X7, 0, none⟩) ltX).trans fx0
  replace fy0 : (w8.alloc (.cells #[.slice A4 n4 e4, .slice B4 m4 d4] 25)).frozen? ⟨X7, 1, none⟩ = false := (((Below.refl w8.heap.size w8).alloc (Nat.le_refl _) _).frozen (p := ⟨X7, 1, none⟩) ltX).trans fy0
  replace fx3 : (w8.alloc (.cells #[.slice A4 n4 e4, .slice B4 m4 d4] 25)).frozen? ⟨X10, 0, none⟩ = false := (((Below.refl w8.heap.size w8).alloc (Nat.le_refl _) _).frozen (p := ⟨X10, 0, none⟩) ltY).trans fx3
  replace fy3 : (w8.alloc (.cells #[.slice A4 n4 e4, .slice B4 m4 d4] 25)).frozen? ⟨X10, 1, none⟩ = false := (((Below.refl w8.heap.size w8).alloc (Nat.le_refl _) _).frozen (p := ⟨X10, 1, none⟩) ltY).trans fy3
  have x4 : (w8.alloc (.cells #[.slice A4 n4 e4, .slice B4 m4 d4] 25)).cell? ⟨w8.heap.size, 0, none⟩ = some (.slice A4 n4 e4) := World.cell?_alloc_new (w := w8) _ _ _
  have y4 : (w8.alloc (.cells #[.slice A4 n4 e4, .slice B4 m4 d4] 25)).cell? ⟨w8.heap.size, 1, none⟩ = some (.slice B4 m4 d4) := World.cell?_alloc_new (w := w8) _ _ _
  have fx4 : (w8.alloc (.cells #[.slice A4 n4 e4, .slice B4 m4 d4] 25)).frozen? ⟨w8.heap.size, 0, none⟩ = false := by go_simp
  have fy4 : (w8.alloc (.cells #[.slice A4 n4 e4, .slice B4 m4 d4] 25)).frozen? ⟨w8.heap.size, 1, none⟩ = false := by go_simp
  replace ltB : _ < (w8.alloc (.cells #[.slice A4 n4 e4, .slice B4 m4 d4] 25)).heap.size := Nat.lt_of_lt_of_le ltB (by simp)
  replace ltX : _ < (w8.alloc (.cells #[.slice A4 n4 e4, .slice B4 m4 d4] 25)).heap.size := Nat.lt_of_lt_of_le ltX (by simp)
  replace ltY : _ < (w8.alloc (.cells #[.slice A4 n4 e4, .slice B4 m4 d4] 25)).heap.size := Nat.lt_of_lt_of_le ltY (by simp)
  replace hg := hg.below ((Below.refl w8.heap.size w8).alloc (Nat.le_refl _) (.cells #[.slice A4 n4 e4, .slice B4 m4 d4] 25))
  replace hx2 := hx2.below ((Below.refl w8.heap.size w8).alloc (Nat.le_refl _) (.cells #[.slice A4 n4 e4, .slice B4 m4 d4] 25))
  replace hy := hy.below ((Below.refl w8.heap.size w8).alloc (Nat.le_refl _) (.cells #[.slice A4 n4 e4, .slice B4 m4 d4] 25))
  replace hz := hz.below ((Below.refl w8.heap.size w8).alloc (Nat.le_refl _) (.cells #[.slice A4 n4 e4, .slice B4 m4 d4] 25))
  replace b := b.alloc b.size (.cells #[.slice A4 n4 e4, .slice B4 m4 d4] 25)
  have ltZ : w8.heap.size < (w8.alloc (.cells #[.slice A4 n4 e4, .slice B4 m4 d4] 25)).heap.size := by simp
  generalize hw_w9 : w8.alloc (.cells #[.slice A4 n4 e4, .slice B4 m4 d4] 25) = w9 at *
  clear hw_w9
  generalize w8.heap.size = X12 at *
  refine (c5 _ hg).mono ?_
  rintro e w10 ⟨rfl, hb6⟩
  replace e0 := (hb6.cell (p := ⟨w.heap.size, 0, none⟩) (World.block_lt_of_cell? _ _ e0)).trans e0
  replace e1 := (hb6.cell (p := ⟨w.heap.size, 1, none⟩) (World.block_lt_of_cell? _ _ e1)).trans e1
  replace x0 := (hb6.cell (p := ⟨X7, 0, none⟩) (World.block_lt_of_cell? _ _ x0)).trans x0
  replace y0 := (hb6.cell (p := ⟨X7, 1, none⟩) (World.block_lt_of_cell? _ _ y0)).trans y0
  replace x3 := (hb6.cell (p := ⟨X10, 0, none⟩) (World.block_lt_of_cell? _ _ x3)).trans x3
  replace y3 := (hb6.cell (p := ⟨X10, 1, none⟩) (World.block_lt_of_cell? _ _ y3)).trans y3
  replace x4 := (hb6.cell (p := ⟨X12, 0, none⟩) (World.block_lt_of_cell? _ _ x4)).trans x4
  replace y4 := (hb6.cell (p := ⟨X12, 1, none⟩) (World.block_lt_of_cell? _ _ y4)).trans y4
  replace fx0 := (hb6.frozen (p := ⟨X7, 0, none⟩) ltX).trans fx0
  replace fy0 := (hb6.frozen (p := ⟨X7, 1, none⟩) ltX).trans fy0
  replace fx3 := (hb6.frozen (p := ⟨X10, 0, none⟩) ltY).trans fx3
  replace fy3 := (hb6.frozen (p := ⟨X10, 1, none⟩) ltY).trans fy3
  replace fx4 := (hb6.frozen (p := ⟨X12, 0, none⟩) ltZ).trans fx4
  replace fy4 := (hb6.frozen (p := ⟨X12, 1, none⟩) ltZ).trans fy4
  replace ltB := Nat.lt_of_lt_of_le ltB hb6.size
  replace ltX := Nat.lt_of_lt_of_le ltX hb6.size
  replace ltY := Nat.lt_of_lt_of_le ltY hb6.size
  replace ltZ := Nat.lt_of_lt_of_le ltZ hb6.size
  replace hg := hg.below hb6
  replace hx2 := hx2.below hb6
  replace hy := hy.below hb6
  replace hz := hz.below hb6
  replace b := b.trans (hb6.mono b.size)
  clear hb6
  go_wp2_with fail
  go_ret
  exact ⟨rfl, b⟩

set_option maxHeartbeats 4000000 in
theorem once_low (A B : Option Addr) (c d n m : Nat) (g : Gt) (p q : Int) (w : World) (hg : GateIn w A B g.held g.out) (hn : g.held.length = n) (hm : g.out.length = m) (hn1 : n ≤ 80) (hm1 : m ≤ 100)
    (x1 x2 y z : Gt) (k1 k2 k3 k4 : Int) (h1 : sureG g (min p q) = (x1, k1)) (h2 : sureG x1 (max p q) = (x2, k2)) (h3 : sureG g (max p q) = (y, k3)) (h4 : backG g 0 = (z, k4))
    (hr : rightB g.held = true) (hlo : min p q < 0) (hk1 : k1 = 1) :
    Calls Try.prog 5 #[.agg #[.slice A n c, .slice B m d], .int .i64 p, .int .i64 q] w fun e w' => e = .returned (.bool true) ∧ Below w.heap.size w w' := by
  have hn1z : ¬ 80 < (n : Int) := by omega
  have hm1z : ¬ 100 < (m : Int) := by omega
  have l1 := sureG_len g (min p q)
  have l2 := sureG_len x1 (max p q)
  have l3 := sureG_len g (max p q)
  have l4 := backG_len g 0
  rw [h1, hn, hm] at l1
  rw [h2] at l2
  rw [h3, hn, hm] at l3
  rw [h4, hn, hm] at l4
  obtain ⟨n1, hx1n⟩ : ∃ n1, x1.held.length = n1 := ⟨_, rfl⟩
  obtain ⟨m1, hx1m⟩ : ∃ m1, x1.out.length = m1 := ⟨_, rfl⟩
  obtain ⟨n2, hx2n⟩ : ∃ n1, x2.held.length = n1 := ⟨_, rfl⟩
  obtain ⟨m2, hx2m⟩ : ∃ m1, x2.out.length = m1 := ⟨_, rfl⟩
  obtain ⟨n3, hyn⟩ : ∃ n1, y.held.length = n1 := ⟨_, rfl⟩
  obtain ⟨m3, hym⟩ : ∃ m1, y.out.length = m1 := ⟨_, rfl⟩
  obtain ⟨n4, hzn⟩ : ∃ n1, z.held.length = n1 := ⟨_, rfl⟩
  obtain ⟨m4, hzm⟩ : ∃ m1, z.out.length = m1 := ⟨_, rfl⟩
  simp only [hx1n, hx1m, hx2n, hx2m, hyn, hym, hzn, hzm] at l1 l2 l3 l4
  have c1 := fun w1 hgg => call_num (Sure_any A B c d n m (min p q) g w1 hgg hn hm (by omega) (by omega)) h1 hx1n hx1m
  have c2 := fun A' B' c' d' w1 hgg => call_num (Sure_any A' B' c' d' n1 m1 (max p q) x1 w1 hgg hx1n hx1m (by omega) (by omega)) h2 hx2n hx2m
  have c3 := fun w1 hgg => call_num (Sure_any A B c d n m (max p q) g w1 hgg hn hm (by omega) (by omega)) h3 hyn hym
  have c4 := fun w1 hgg => call_num (Back_any A B c d n m 0 g w1 hgg hn hm (by omega) (by omega)) h4 hzn hzm
  have c5 := fun w1 hgg => Right_any A B c d n m g.held g.out w1 hgg hn
  rw [hr] at c5
  subst hk1
  have b : Below w.heap.size w (w.alloc (.cells #[.slice A n c, .slice B m d] 25)) := (Below.refl _ _).alloc (Nat.le_refl _) _
  have e0 : (w.alloc (.cells #[.slice A n c, .slice B m d] 25)).cell? ⟨w.heap.size, 0, none⟩ = some (.slice A n c) := by go_simp
  have e1 : (w.alloc (.cells #[.slice A n c, .slice B m d] 25)).cell? ⟨w.heap.size, 1, none⟩ = some (.slice B m d) := by go_simp
  have ltB : w.heap.size < (w.alloc (.cells #[.slice A n c, .slice B m d] 25)).heap.size := by simp
  replace hg := hg.below b
  go_enter Try.func5, Try.ntmps5
  go_wp2_with fail
  generalize w.alloc (.cells #[.slice A n c, .slice B m d] 25) = W0 at *
  refine (awake_any _).mono ?_
  rintro e w1 ⟨rfl, hb1⟩
  replace e0 := (hb1.cell (p := ⟨w.heap.size, 0, none⟩) (World.block_lt_of_cell? _ _ e0)).trans e0
  replace e1 := (hb1.cell (p := ⟨w.heap.size, 1, none⟩) (World.block_lt_of_cell? _ _ e1)).trans e1
  replace ltB := Nat.lt_of_lt_of_le ltB hb1.size
  replace hg := hg.below hb1
  replace b := b.trans (hb1.mono b.size)
  clear hb1
  go_wp2_with fail
  refine (c1 _ hg).mono ?_
  rintro e w2 ⟨A1, e1', B1, d1, rfl, hx1, hb2⟩
  replace e0 := (hb2.cell (p := ⟨w.heap.size, 0, none⟩) (World.block_lt_of_cell? _ _ e0)).trans e0
  replace e1 := (hb2.cell (p := ⟨w.heap.size, 1, none⟩) (World.block_lt_of_cell? _ _ e1)).trans e1
  replace ltB := Nat.lt_of_lt_of_le ltB hb2.size
  replace hg := hg.below hb2
  replace b := b.trans (hb2.mono b.size)
  clear hb2
  have szX := b.size
  have neX := Nat.ne_of_lt ltB
  go_wp2_with fail
  replace e0 : (w2.alloc (.cells #[.slice A1 n1 e1', .slice B1 m1 d1] 25)).cell? ⟨w.heap.size, 0, none⟩ = some (.slice A n c) := (World.cell?_alloc_lt w2 _ ⟨w.heap.size, 0, none⟩ (World.block_lt_of_cell? _ _ e0)).trans e0
  replace e1 : (w2.alloc (.cells #[.slice A1 n1 e1', .slice B1 m1 d1] 25)).cell? ⟨w.heap.size, 1, none⟩ = some (.slice B m d) := (World.cell?_alloc_lt w2 _ ⟨w.heap.size, 1, none⟩ (World.block_lt_of_cell? _ _ e1)).trans e1
  have x0 : (w2.alloc (.cells #[.slice A1 n1 e1', .slice B1 m1 d1] 25)).cell? ⟨w2.heap.size, 0, none⟩ = some (.slice A1 n1 e1') := World.cell?_alloc_new (w := w2) _ _ _
  have y0 : (w2.alloc (.cells #[.slice A1 n1 e1', .slice B1 m1 d1] 25)).cell? ⟨w2.heap.size, 1, none⟩ = some (.slice B1 m1 d1) := World.cell?_alloc_new (w := w2) _ _ _
  have fx0 : (w2.alloc (.cells #[.slice A1 n1 e1', .slice B1 m1 d1] 25)).frozen? ⟨w2.heap.size, 0, none⟩ = false := by go_simp
  have fy0 : (w2.alloc (.cells #[.slice A1 n1 e1', .slice B1 m1 d1] 25)).frozen? ⟨w2.heap.size, 1, none⟩ = false := by go_simp
  replace ltB : _ < (w2.alloc (.cells #[.slice A1 n1 e1', .slice B1 m1 d1] 25)).heap.size := Nat.lt_of_lt_of_le ltB (by simp)
  replace hg := hg.below ((Below.refl w2.heap.size w2).alloc (Nat.le_refl _) (.cells #[.slice A1 n1 e1', .slice B1 m1 d1] 25))
  replace hx1 := hx1.below ((Below.refl w2.heap.size w2).alloc (Nat.le_refl _) (.cells #[.slice A1 n1 e1', .slice B1 m1 d1] 25))
  replace b := b.alloc b.size (.cells #[.slice A1 n1 e1', .slice B1 m1 d1] 25)
  have ltX : w2.heap.size < (w2.alloc (.cells #[.slice A1 n1 e1', .slice B1 m1 d1] 25)).heap.size := by simp
  generalize hw_w3 : w2.alloc (.cells #[.slice A1 n1 e1', .slice B1 m1 d1] 25) = w3 at *
  clear hw_w3
  generalize w2.heap.size = X7 at *
  refine (c2 _ _ _ _ _ hx1).mono ?_
  rintro e w4 ⟨A2, e2, B2, d2, rfl, hx2, hb3⟩
  replace e0 := (hb3.cell (p := ⟨w.heap.size, 0, none⟩) (World.block_lt_of_cell? _ _ e0)).trans e0
  replace e1 := (hb3.cell (p := ⟨w.heap.size, 1, none⟩) (World.block_lt_of_cell? _ _ e1)).trans e1
  replace x0 := (hb3.cell (p := ⟨X7, 0, none⟩) (World.block_lt_of_cell? _ _ x0)).trans x0
  replace y0 := (hb3.cell (p := ⟨X7, 1, none⟩) (World.block_lt_of_cell? _ _ y0)).trans y0
  replace fx0 := (hb3.frozen (p := ⟨X7, 0, none⟩) ltX).trans fx0
  replace fy0 := (hb3.frozen (p := ⟨X7, 1, none⟩) ltX).trans fy0
  replace ltB := Nat.lt_of_lt_of_le ltB hb3.size
  replace ltX := Nat.lt_of_lt_of_le ltX hb3.size
  replace hg := hg.below hb3
  replace b := b.trans (hb3.mono b.size)
  clear hb3 hx1
  go_wp2_with fail
  obtain ⟨g0, g1, k0, k1, gs, bs, szs, oth⟩ := gate_set ((w4.setCell ⟨X7, 0, none⟩ (.slice A2 n2 e2)).setCell ⟨X7, 1, none⟩ (.slice B2 m2 d2)) rfl x0 y0 fx0 fy0
  replace b := bs _ _ szX b
  replace hx2 := gs _ _ _ _ hx2
  replace hg := gs _ _ _ _ hg
  replace ltB := Nat.lt_of_lt_of_le ltB (Nat.le_of_eq szs.symm)
  replace ltX := Nat.lt_of_lt_of_le ltX (Nat.le_of_eq szs.symm)
  replace e0 := (oth _ _ neX).1.trans e0
  replace e1 := (oth _ _ neX).1.trans e1
  clear x0 y0 fx0 fy0 gs bs szs oth
  have x0 := g0
  have y0 := g1
  have fx0 := k0
  have fy0 := k1
  clear g0 g1 k0 k1
  generalize ((w4.setCell ⟨X7, 0, none⟩ (.slice A2 n2 e2)).setCell ⟨X7, 1, none⟩ (.slice B2 m2 d2)) = w5 at *
  refine (c3 _ hg).mono ?_
  rintro e w6 ⟨A3, e3, B3, d3, rfl, hy, hb4⟩
  replace e0 := (hb4.cell (p := ⟨w.heap.size, 0, none⟩) (World.block_lt_of_cell? _ _ e0)).trans e0
  replace e1 := (hb4.cell (p := ⟨w.heap.size, 1, none⟩) (World.block_lt_of_cell? _ _ e1)).trans e1
  replace x0 := (hb4.cell (p := ⟨X7, 0, none⟩) (World.block_lt_of_cell? _ _ x0)).trans x0
  replace y0 := (hb4.cell (p := ⟨X7, 1, none⟩) (World.block_lt_of_cell? _ _ y0)).trans y0
  replace fx0 := (hb4.frozen (p := ⟨X7, 0, none⟩) ltX).trans fx0
  replace fy0 := (hb4.frozen (p := ⟨X7, 1, none⟩) ltX).trans fy0
  replace ltB := Nat.lt_of_lt_of_le ltB hb4.size
  replace ltX := Nat.lt_of_lt_of_le ltX hb4.size
  replace hg := hg.below hb4
  replace hx2 := hx2.below hb4
  replace b := b.trans (hb4.mono b.size)
  clear hb4
  go_wp2_with fail
  replace e0 : (w6.alloc (.cells #[.slice A3 n3 e3, .slice B3 m3 d3] 25)).cell? ⟨w.heap.size, 0, none⟩ = some (.slice A n c) := (World.cell?_alloc_lt w6 _ ⟨w.heap.size, 0, none⟩ (World.block_lt_of_cell? _ _ e0)).trans e0
  replace e1 : (w6.alloc (.cells #[.slice A3 n3 e3, .slice B3 m3 d3] 25)).cell? ⟨w.heap.size, 1, none⟩ = some (.slice B m d) := (World.cell?_alloc_lt w6 _ ⟨w.heap.size, 1, none⟩ (World.block_lt_of_cell? _ _ e1)).trans e1
  replace x0 : (w6.alloc (.cells #[.slice A3 n3 e3, .slice B3 m3 d3] 25)).cell? ⟨X7, 0, none⟩ = some (.slice A2 n2 e2) := (World.cell?_alloc_lt w6 _ ⟨X7, 0, none⟩ (World.block_lt_of_cell? _ _ x0)).trans x0
  replace y0 : (w6.alloc (.cells #[.slice A3 n3 e3, .slice B3 m3 d3] 25)).cell? ⟨X7, 1, none⟩ = some (.slice B2 m2 d2) := (World.cell?_alloc_lt w6 _ ⟨X7, 1, none⟩ (World.block_lt_of_cell? _ _ y0)).trans y0
  replace fx0 : (w6.alloc (.cells #[.slice A3 n3 e3, .slice B3 m3 d3] 25)).frozen? ⟨X7, 0, none⟩ = false := (((Below.refl w6.heap.size w6).alloc (Nat.le_refl _) _).frozen (p := ⟨X7, 0, none⟩) ltX).trans fx0
  replace fy0 : (w6.alloc (.cells #[.slice A3 n3 e3, .slice B3 m3 d3] 25)).frozen? ⟨X7, 1, none⟩ = false := (((Below.refl w6.heap.size w6).alloc (Nat.le_refl _) _).frozen (p := ⟨X7, 1, none⟩) ltX).trans fy0
  have x3 : (w6.alloc (.cells #[.slice A3 n3 e3, .slice B3 m3 d3] 25)).cell? ⟨w6.heap.size, 0, none⟩ = some (.slice A3 n3 e3) := World.cell?_alloc_new (w := w6) _ _ _
  have y3 : (w6.alloc (.cells #[.slice A3 n3 e3, .slice B3 m3 d3] 25)).cell? ⟨w6.heap.size, 1, none⟩ = some (.slice B3 m3 d3) := World.cell?_alloc_new (w := w6) _ _ _
  have fx3 : (w6.alloc (.cells #[.slice A3 n3 e3, .slice B3 m3 d3] 25)).frozen? ⟨w6.heap.size, 0, none⟩ = false := by go_simp
  have fy3 : (w6.alloc (.cells #[.slice A3 n3 e3, .slice B3 m3 d3] 25)).frozen? ⟨w6.heap.size, 1, none⟩ = false := by go_simp
  replace ltB : _ < (w6.alloc (.cells #[.slice A3 n3 e3, .slice B3 m3 d3] 25)).heap.size := Nat.lt_of_lt_of_le ltB (by simp)
  replace ltX : _ < (w6.alloc (.cells #[.slice A3 n3 e3, .slice B3 m3 d3] 25)).heap.size := Nat.lt_of_lt_of_le ltX (by simp)
  replace hg := hg.below ((Below.refl w6.heap.size w6).alloc (Nat.le_refl _) (.cells #[.slice A3 n3 e3, .slice B3 m3 d3] 25))
  replace hx2 := hx2.below ((Below.refl w6.heap.size w6).alloc (Nat.le_refl _) (.cells #[.slice A3 n3 e3, .slice B3 m3 d3] 25))
  replace hy := hy.below ((Below.refl w6.heap.size w6).alloc (Nat.le_refl _) (.cells #[.slice A3 n3 e3, .slice B3 m3 d3] 25))
  replace b := b.alloc b.size (.cells #[.slice A3 n3 e3, .slice B3 m3 d3] 25)
  have ltY : w6.heap.size < (w6.alloc (.cells #[.slice A3 n3 e3, .slice B3 m3 d3] 25)).heap.size := by simp
  generalize hw_w7 : w6.alloc (.cells #[.slice A3 n3 e3, .slice B3 m3 d3] 25) = w7 at *
  clear hw_w7
  generalize w6.heap.size = X10 at *
  refine (c4 _ hg).mono ?_
  rintro e w8 ⟨A4, e4, B4, d4, rfl, hz, hb5⟩
  replace e0 := (hb5.cell (p := ⟨w.heap.size, 0, none⟩) (World.block_lt_of_cell? _ _ e0)).trans e0
  replace e1 := (hb5.cell (p := ⟨w.heap.size, 1, none⟩) (World.block_lt_of_cell? _ _ e1)).trans e1
  replace x0 := (hb5.cell (p := ⟨X7, 0, none⟩) (World.block_lt_of_cell? _ _ x0)).trans x0
  replace y0 := (hb5.cell (p := ⟨X7, 1, none⟩) (World.block_lt_of_cell? _ _ y0)).trans y0
  replace x3 := (hb5.cell (p := ⟨X10, 0, none⟩) (World.block_lt_of_cell? _ _ x3)).trans x3
  replace y3 := (hb5.cell (p := ⟨X10, 1, none⟩) (World.block_lt_of_cell? _ _ y3)).trans y3
  replace fx0 := (hb5.frozen (p := ⟨X7, 0, none⟩) ltX).trans fx0
  replace fy0 := (hb5.frozen (p := ⟨X7, 1, none⟩) ltX).trans fy0
  replace fx3 := (hb5.frozen (p := ⟨X10, 0, none⟩) ltY).trans fx3
  replace fy3 := (hb5.frozen (p := ⟨X10, 1, none⟩) ltY).trans fy3
  replace ltB := Nat.lt_of_lt_of_le ltB hb5.size
  replace ltX := Nat.lt_of_lt_of_le ltX hb5.size
  replace ltY := Nat.lt_of_lt_of_le ltY hb5.size
  replace hg := hg.below hb5
  replace hx2 := hx2.below hb5
  replace hy := hy.below hb5
  replace b := b.trans (hb5.mono b.size)
  clear hb5
  go_wp2_with fail
  replace e0 : (w8.alloc (.cells #[.slice A4 n4 e4, .slice B4 m4 d4] 25)).cell? ⟨w.heap.size, 0, none⟩ = some (.slice A n c) := (World.cell?_alloc_lt w8 _ ⟨w.heap.size, 0, none⟩ (World.block_lt_of_cell? _ _ e0)).trans e0
  replace e1 : (w8.alloc (.cells #[.slice A4 n4 e4, .slice B4 m4 d4] 25)).cell? ⟨w.heap.size, 1, none⟩ = some (.slice B m d) := (World.cell?_alloc_lt w8 _ ⟨w.heap.size, 1, none⟩ (World.block_lt_of_cell? _ _ e1)).trans e1
  replace x0 : (w8.alloc (.cells #[.slice A4 n4 e4, .slice B4 m4 d4] 25)).cell? ⟨X7, 0, none⟩ = some (.slice A2 n2 e2) := (World.cell?_alloc_lt w8 _ ⟨X7, 0, none⟩ (World.block_lt_of_cell? _ _ x0)).trans x0
  replace y0 : (w8.alloc (.cells #[.slice A4 n4 e4, .slice B4 m4 d4] 25)).cell? ⟨X7, 1, none⟩ = some (.slice B2 m2 d2) := (World.cell?_alloc_lt w8 _ ⟨X7, 1, none⟩ (World.block_lt_of_cell? _ _ y0)).trans y0
  replace x3 : (w8.alloc (.cells #[.slice A4 n4 e4, .slice B4 m4 d4] 25)).cell? ⟨X10, 0, none⟩ = some (.slice A3 n3 e3) := (World.cell?_alloc_lt w8 _ ⟨X10, 0, none⟩ (World.block_lt_of_cell? _ _ x3)).trans x3
  replace y3 : (w8.alloc (.cells #[.slice A4 n4 e4, .slice B4 m4 d4] 25)).cell? ⟨X10, 1, none⟩ = some (.slice B3 m3 d3) := (World.cell?_alloc_lt w8 _ ⟨X10, 1, none⟩ (World.block_lt_of_cell? _ _ y3)).trans y3
  replace fx0 : (w8.alloc (.cells #[.slice A4 n4 e4, .slice B4 m4 d4] 25)).frozen? ⟨X7, 0, none⟩ = false := (((Below.refl w8.heap.size w8).alloc (Nat.le_refl _) _).frozen (p := ⟨X7, 0, none⟩) ltX).trans fx0
  replace fy0 : (w8.alloc (.cells #[.slice A4 n4 e4, .slice B4 m4 d4] 25)).frozen? ⟨X7, 1, none⟩ = false := (((Below.refl w8.heap.size w8).alloc (Nat.le_refl _) _).frozen (p := ⟨X7, 1, none⟩) ltX).trans fy0
  replace fx3 : (w8.alloc (.cells #[.slice A4 n4 e4, .slice B4 m4 d4] 25)).frozen? ⟨X10, 0, none⟩ = false := (((Below.refl w8.heap.size w8).alloc (Nat.le_refl _) _).frozen (p := ⟨X10, 0, none⟩) ltY).trans fx3
  replace fy3 : (w8.alloc (.cells #[.slice A4 n4 e4, .slice B4 m4 d4] 25)).frozen? ⟨X10, 1, none⟩ = false := (((Below.refl w8.heap.size w8).alloc (Nat.le_refl _) _).frozen (p := ⟨X10, 1, none⟩) ltY).trans fy3
  have x4 : (w8.alloc (.cells #[.slice A4 n4 e4, .slice B4 m4 d4] 25)).cell? ⟨w8.heap.size, 0, none⟩ = some (.slice A4 n4 e4) := World.cell?_alloc_new (w := w8) _ _ _
  have y4 : (w8.alloc (.cells #[.slice A4 n4 e4, .slice B4 m4 d4] 25)).cell? ⟨w8.heap.size, 1, none⟩ = some (.slice B4 m4 d4) := World.cell?_alloc_new (w := w8) _ _ _
  have fx4 : (w8.alloc (.cells #[.slice A4 n4 e4, .slice B4 m4 d4] 25)).frozen? ⟨w8.heap.size, 0, none⟩ = false := by go_simp
  have fy4 : (w8.alloc (.cells #[.slice A4 n4 e4, .slice B4 m4 d4] 25)).frozen? ⟨w8.heap.size, 1, none⟩ = false := by go_simp
  replace ltB : _ < (w8.alloc (.cells #[.slice A4 n4 e4, .slice B4 m4 d4] 25)).heap.size := Nat.lt_of_lt_of_le ltB (by simp)
  replace ltX : _ < (w8.alloc (.cells #[.slice A4 n4 e4, .slice B4 m4 d4] 25)).heap.size := Nat.lt_of_lt_of_le ltX (by simp)
  replace ltY : _ < (w8.alloc (.cells #[.slice A4 n4 e4, .slice B4 m4 d4] 25)).heap.size := Nat.lt_of_lt_of_le ltY (by simp)
  replace hg := hg.below ((Below.refl w8.heap.size w8).alloc (Nat.le_refl _) (.cells #[.slice A4 n4 e4, .slice B4 m4 d4] 25))
  replace hx2 := hx2.below ((Below.refl w8.heap.size w8).alloc (Nat.le_refl _) (.cells #[.slice A4 n4 e4, .slice B4 m4 d4] 25))
  replace hy := hy.below ((Below.refl w8.heap.size w8).alloc (Nat.le_refl _) (.cells #[.slice A4 n4 e4, .slice B4 m4 d4] 25))
  replace hz := hz.below ((Below.refl w8.heap.size w8).alloc (Nat.le_refl _) (.cells #[.slice A4 n4 e4, .slice B4 m4 d4] 25))
  replace b := b.alloc b.size (.cells #[.slice A4 n4 e4, .slice B4 m4 d4] 25)
  have ltZ : w8.heap.size < (w8.alloc (.cells #[.slice A4 n4 e4, .slice B4 m4 d4] 25)).heap.size := by simp
  generalize hw_w9 : w8.alloc (.cells #[.slice A4 n4 e4, .slice B4 m4 d4] 25) = w9 at *
  clear hw_w9
  generalize w8.heap.size = X12 at *
  refine (c5 _ hg).mono ?_
  rintro e w10 ⟨rfl, hb6⟩
  replace e0 := (hb6.cell (p := ⟨w.heap.size, 0, none⟩) (World.block_lt_of_cell? _ _ e0)).trans e0
  replace e1 := (hb6.cell (p := ⟨w.heap.size, 1, none⟩) (World.block_lt_of_cell? _ _ e1)).trans e1
  replace x0 := (hb6.cell (p := ⟨X7, 0, none⟩) (World.block_lt_of_cell? _ _ x0)).trans x0
  replace y0 := (hb6.cell (p := ⟨X7, 1, none⟩) (World.block_lt_of_cell? _ _ y0)).trans y0
  replace x3 := (hb6.cell (p := ⟨X10, 0, none⟩) (World.block_lt_of_cell? _ _ x3)).trans x3
  replace y3 := (hb6.cell (p := ⟨X10, 1, none⟩) (World.block_lt_of_cell? _ _ y3)).trans y3
  replace x4 := (hb6.cell (p := ⟨X12, 0, none⟩) (World.block_lt_of_cell? _ _ x4)).trans x4
  replace y4 := (hb6.cell (p := ⟨X12, 1, none⟩) (World.block_lt_of_cell? _ _ y4)).trans y4
  replace fx0 := (hb6.frozen (p := ⟨X7, 0, none⟩) ltX).trans fx0
  replace fy0 := (hb6.frozen (p := ⟨X7, 1, none⟩) ltX).trans fy0
  replace fx3 := (hb6.frozen (p := ⟨X10, 0, none⟩) ltY).trans fx3
  replace fy3 := (hb6.frozen (p := ⟨X10, 1, none⟩) ltY).trans fy3
  replace fx4 := (hb6.frozen (p := ⟨X12, 0, none⟩) ltZ).trans fx4
  replace fy4 := (hb6.frozen (p := ⟨X12, 1, none⟩) ltZ).trans fy4
  replace ltB := Nat.lt_of_lt_of_le ltB hb6.size
  replace ltX := Nat.lt_of_lt_of_le ltX hb6.size
  replace ltY := Nat.lt_of_lt_of_le ltY hb6.size
  replace ltZ := Nat.lt_of_lt_of_le ltZ hb6.size
  replace hg := hg.below hb6
  replace hx2 := hx2.below hb6
  replace hy := hy.below hb6
  replace hz := hz.below hb6
  replace b := b.trans (hb6.mono b.size)
  clear hb6
  go_wp2_with fail
  go_ret
  exact ⟨rfl, b⟩

set_option maxHeartbeats 4000000 in
theorem once_high (A B : Option Addr) (c d n m : Nat) (g : Gt) (p q : Int) (w : World) (hg : GateIn w A B g.held g.out) (hn : g.held.length = n) (hm : g.out.length = m) (hn1 : n ≤ 80) (hm1 : m ≤ 100)
    (x1 x2 y z : Gt) (k1 k2 k3 k4 : Int) (h1 : sureG g (min p q) = (x1, k1)) (h2 : sureG x1 (max p q) = (x2, k2)) (h3 : sureG g (max p q) = (y, k3)) (h4 : backG g 0 = (z, k4))
    (hr : rightB g.held = true) (hlo : ¬ min p q < 0) (hhi : 1099511627776 < max p q) (hk2 : k2 = 1) :
    Calls Try.prog 5 #[.agg #[.slice A n c, .slice B m d], .int .i64 p, .int .i64 q] w fun e w' => e = .returned (.bool true) ∧ Below w.heap.size w w' := by
  have hn1z : ¬ 80 < (n : Int) := by omega
  have hm1z : ¬ 100 < (m : Int) := by omega
  have l1 := sureG_len g (min p q)
  have l2 := sureG_len x1 (max p q)
  have l3 := sureG_len g (max p q)
  have l4 := backG_len g 0
  rw [h1, hn, hm] at l1
  rw [h2] at l2
  rw [h3, hn, hm] at l3
  rw [h4, hn, hm] at l4
  obtain ⟨n1, hx1n⟩ : ∃ n1, x1.held.length = n1 := ⟨_, rfl⟩
  obtain ⟨m1, hx1m⟩ : ∃ m1, x1.out.length = m1 := ⟨_, rfl⟩
  obtain ⟨n2, hx2n⟩ : ∃ n1, x2.held.length = n1 := ⟨_, rfl⟩
  obtain ⟨m2, hx2m⟩ : ∃ m1, x2.out.length = m1 := ⟨_, rfl⟩
  obtain ⟨n3, hyn⟩ : ∃ n1, y.held.length = n1 := ⟨_, rfl⟩
  obtain ⟨m3, hym⟩ : ∃ m1, y.out.length = m1 := ⟨_, rfl⟩
  obtain ⟨n4, hzn⟩ : ∃ n1, z.held.length = n1 := ⟨_, rfl⟩
  obtain ⟨m4, hzm⟩ : ∃ m1, z.out.length = m1 := ⟨_, rfl⟩
  simp only [hx1n, hx1m, hx2n, hx2m, hyn, hym, hzn, hzm] at l1 l2 l3 l4
  have c1 := fun w1 hgg => call_num (Sure_any A B c d n m (min p q) g w1 hgg hn hm (by omega) (by omega)) h1 hx1n hx1m
  have c2 := fun A' B' c' d' w1 hgg => call_num (Sure_any A' B' c' d' n1 m1 (max p q) x1 w1 hgg hx1n hx1m (by omega) (by omega)) h2 hx2n hx2m
  have c3 := fun w1 hgg => call_num (Sure_any A B c d n m (max p q) g w1 hgg hn hm (by omega) (by omega)) h3 hyn hym
  have c4 := fun w1 hgg => call_num (Back_any A B c d n m 0 g w1 hgg hn hm (by omega) (by omega)) h4 hzn hzm
  have c5 := fun w1 hgg => Right_any A B c d n m g.held g.out w1 hgg hn
  rw [hr] at c5
  subst hk2
  by_cases hk1 : k1 = 0
  all_goals (
  have b : Below w.heap.size w (w.alloc (.cells #[.slice A n c, .slice B m d] 25)) := (Below.refl _ _).alloc (Nat.le_refl _) _
  have e0 : (w.alloc (.cells #[.slice A n c, .slice B m d] 25)).cell? ⟨w.heap.size, 0, none⟩ = some (.slice A n c) := by go_simp
  have e1 : (w.alloc (.cells #[.slice A n c, .slice B m d] 25)).cell? ⟨w.heap.size, 1, none⟩ = some (.slice B m d) := by go_simp
  have ltB : w.heap.size < (w.alloc (.cells #[.slice A n c, .slice B m d] 25)).heap.size := by simp
  replace hg := hg.below b
  go_enter Try.func5, Try.ntmps5
  go_wp2_with fail
  generalize w.alloc (.cells #[.slice A n c, .slice B m d] 25) = W0 at *
  refine (awake_any _).mono ?_
  rintro e w1 ⟨rfl, hb1⟩
  replace e0 := (hb1.cell (p := ⟨w.heap.size, 0, none⟩) (World.block_lt_of_cell? _ _ e0)).trans e0
  replace e1 := (hb1.cell (p := ⟨w.heap.size, 1, none⟩) (World.block_lt_of_cell? _ _ e1)).trans e1
  replace ltB := Nat.lt_of_lt_of_le ltB hb1.size
  replace hg := hg.below hb1
  replace b := b.trans (hb1.mono b.size)
  clear hb1
  go_wp2_with fail
  refine (c1 _ hg).mono ?_
  rintro e w2 ⟨A1, e1', B1, d1, rfl, hx1, hb2⟩
  replace e0 := (hb2.cell (p := ⟨w.heap.size, 0, none⟩) (World.block_lt_of_cell? _ _ e0)).trans e0
  replace e1 := (hb2.cell (p := ⟨w.heap.size, 1, none⟩) (World.block_lt_of_cell? _ _ e1)).trans e1
  replace ltB := Nat.lt_of_lt_of_le ltB hb2.size
  replace hg := hg.below hb2
  replace b := b.trans (hb2.mono b.size)
  clear hb2
  have szX := b.size
  have neX := Nat.ne_of_lt ltB
  go_wp2_with fail
  replace e0 : (w2.alloc (.cells #[.slice A1 n1 e1', .slice B1 m1 d1] 25)).cell? ⟨w.heap.size, 0, none⟩ = some (.slice A n c) := (World.cell?_alloc_lt w2 _ ⟨w.heap.size, 0, none⟩ (World.block_lt_of_cell? _ _ e0)).trans e0
  replace e1 : (w2.alloc (.cells #[.slice A1 n1 e1', .slice B1 m1 d1] 25)).cell? ⟨w.heap.size, 1, none⟩ = some (.slice B m d) := (World.cell?_alloc_lt w2 _ ⟨w.heap.size, 1, none⟩ (World.block_lt_of_cell? _ _ e1)).trans e1
  have x0 : (w2.alloc (.cells #[.slice A1 n1 e1', .slice B1 m1 d1] 25)).cell? ⟨w2.heap.size, 0, none⟩ = some (.slice A1 n1 e1') := World.cell?_alloc_new (w := w2) _ _ _
  have y0 : (w2.alloc (.cells #[.slice A1 n1 e1', .slice B1 m1 d1] 25)).cell? ⟨w2.heap.size, 1, none⟩ = some (.slice B1 m1 d1) := World.cell?_alloc_new (w := w2) _ _ _
  have fx0 : (w2.alloc (.cells #[.slice A1 n1 e1', .slice B1 m1 d1] 25)).frozen? ⟨w2.heap.size, 0, none⟩ = false := by go_simp
  have fy0 : (w2.alloc (.cells #[.slice A1 n1 e1', .slice B1 m1 d1] 25)).frozen? ⟨w2.heap.size, 1, none⟩ = false := by go_simp
  replace ltB : _ < (w2.alloc (.cells #[.slice A1 n1 e1', .slice B1 m1 d1] 25)).heap.size := Nat.lt_of_lt_of_le ltB (by simp)
  replace hg := hg.below ((Below.refl w2.heap.size w2).alloc (Nat.le_refl _) (.cells #[.slice A1 n1 e1', .slice B1 m1 d1] 25))
  replace hx1 := hx1.below ((Below.refl w2.heap.size w2).alloc (Nat.le_refl _) (.cells #[.slice A1 n1 e1', .slice B1 m1 d1] 25))
  replace b := b.alloc b.size (.cells #[.slice A1 n1 e1', .slice B1 m1 d1] 25)
  have ltX : w2.heap.size < (w2.alloc (.cells #[.slice A1 n1 e1', .slice B1 m1 d1] 25)).heap.size := by simp
  generalize hw_w3 : w2.alloc (.cells #[.slice A1 n1 e1', .slice B1 m1 d1] 25) = w3 at *
  clear hw_w3
  generalize w2.heap.size = X7 at *
  refine (c2 _ _ _ _ _ hx1).mono ?_
  rintro e w4 ⟨A2, e2, B2, d2, rfl, hx2, hb3⟩
  replace e0 := (hb3.cell (p := ⟨w.heap.size, 0, none⟩) (World.block_lt_of_cell? _ _ e0)).trans e0
  replace e1 := (hb3.cell (p := ⟨w.heap.size, 1, none⟩) (World.block_lt_of_cell? _ _ e1)).trans e1
  replace x0 := (hb3.cell (p := ⟨X7, 0, none⟩) (World.block_lt_of_cell? _ _ x0)).trans x0
  replace y0 := (hb3.cell (p := ⟨X7, 1, none⟩) (World.block_lt_of_cell? _ _ y0)).trans y0
  replace fx0 := (hb3.frozen (p := ⟨X7, 0, none⟩) ltX).trans fx0
  replace fy0 := (hb3.frozen (p := ⟨X7, 1, none⟩) ltX).trans fy0
  replace ltB := Nat.lt_of_lt_of_le ltB hb3.size
  replace ltX := Nat.lt_of_lt_of_le ltX hb3.size
  replace hg := hg.below hb3
  replace b := b.trans (hb3.mono b.size)
  clear hb3 hx1
  go_wp2_with fail
  obtain ⟨g0, g1, k0, k1, gs, bs, szs, oth⟩ := gate_set ((w4.setCell ⟨X7, 0, none⟩ (.slice A2 n2 e2)).setCell ⟨X7, 1, none⟩ (.slice B2 m2 d2)) rfl x0 y0 fx0 fy0
  replace b := bs _ _ szX b
  replace hx2 := gs _ _ _ _ hx2
  replace hg := gs _ _ _ _ hg
  replace ltB := Nat.lt_of_lt_of_le ltB (Nat.le_of_eq szs.symm)
  replace ltX := Nat.lt_of_lt_of_le ltX (Nat.le_of_eq szs.symm)
  replace e0 := (oth _ _ neX).1.trans e0
  replace e1 := (oth _ _ neX).1.trans e1
  clear x0 y0 fx0 fy0 gs bs szs oth
  have x0 := g0
  have y0 := g1
  have fx0 := k0
  have fy0 := k1
  clear g0 g1 k0 k1
  generalize ((w4.setCell ⟨X7, 0, none⟩ (.slice A2 n2 e2)).setCell ⟨X7, 1, none⟩ (.slice B2 m2 d2)) = w5 at *
  refine (c3 _ hg).mono ?_
  rintro e w6 ⟨A3, e3, B3, d3, rfl, hy, hb4⟩
  replace e0 := (hb4.cell (p := ⟨w.heap.size, 0, none⟩) (World.block_lt_of_cell? _ _ e0)).trans e0
  replace e1 := (hb4.cell (p := ⟨w.heap.size, 1, none⟩) (World.block_lt_of_cell? _ _ e1)).trans e1
  replace x0 := (hb4.cell (p := ⟨X7, 0, none⟩) (World.block_lt_of_cell? _ _ x0)).trans x0
  replace y0 := (hb4.cell (p := ⟨X7, 1, none⟩) (World.block_lt_of_cell? _ _ y0)).trans y0
  replace fx0 := (hb4.frozen (p := ⟨X7, 0, none⟩) ltX).trans fx0
  replace fy0 := (hb4.frozen (p := ⟨X7, 1, none⟩) ltX).trans fy0
  replace ltB := Nat.lt_of_lt_of_le ltB hb4.size
  replace ltX := Nat.lt_of_lt_of_le ltX hb4.size
  replace hg := hg.below hb4
  replace hx2 := hx2.below hb4
  replace b := b.trans (hb4.mono b.size)
  clear hb4
  go_wp2_with fail
  replace e0 : (w6.alloc (.cells #[.slice A3 n3 e3, .slice B3 m3 d3] 25)).cell? ⟨w.heap.size, 0, none⟩ = some (.slice A n c) := (World.cell?_alloc_lt w6 _ ⟨w.heap.size, 0, none⟩ (World.block_lt_of_cell? _ _ e0)).trans e0
  replace e1 : (w6.alloc (.cells #[.slice A3 n3 e3, .slice B3 m3 d3] 25)).cell? ⟨w.heap.size, 1, none⟩ = some (.slice B m d) := (World.cell?_alloc_lt w6 _ ⟨w.heap.size, 1, none⟩ (World.block_lt_of_cell? _ _ e1)).trans e1
  replace x0 : (w6.alloc (.cells #[.slice A3 n3 e3, .slice B3 m3 d3] 25)).cell? ⟨X7, 0, none⟩ = some (.slice A2 n2 e2) := (World.cell?_alloc_lt w6 _ ⟨X7, 0, none⟩ (World.block_lt_of_cell? _ _ x0)).trans x0
  replace y0 : (w6.alloc (.cells #[.slice A3 n3 e3, .slice B3 m3 d3] 25)).cell? ⟨X7, 1, none⟩ = some (.slice B2 m2 d2) := (World.cell?_alloc_lt w6 _ ⟨X7, 1, none⟩ (World.block_lt_of_cell? _ _ y0)).trans y0
  replace fx0 : (w6.alloc (.cells #[.slice A3 n3 e3, .slice B3 m3 d3] 25)).frozen? ⟨X7, 0, none⟩ = false := (((Below.refl w6.heap.size w6).alloc (Nat.le_refl _) _).frozen (p := ⟨X7, 0, none⟩) ltX).trans fx0
  replace fy0 : (w6.alloc (.cells #[.slice A3 n3 e3, .slice B3 m3 d3] 25)).frozen? ⟨X7, 1, none⟩ = false := (((Below.refl w6.heap.size w6).alloc (Nat.le_refl _) _).frozen (p := ⟨X7, 1, none⟩) ltX).trans fy0
  have x3 : (w6.alloc (.cells #[.slice A3 n3 e3, .slice B3 m3 d3] 25)).cell? ⟨w6.heap.size, 0, none⟩ = some (.slice A3 n3 e3) := World.cell?_alloc_new (w := w6) _ _ _
  have y3 : (w6.alloc (.cells #[.slice A3 n3 e3, .slice B3 m3 d3] 25)).cell? ⟨w6.heap.size, 1, none⟩ = some (.slice B3 m3 d3) := World.cell?_alloc_new (w := w6) _ _ _
  have fx3 : (w6.alloc (.cells #[.slice A3 n3 e3, .slice B3 m3 d3] 25)).frozen? ⟨w6.heap.size, 0, none⟩ = false := by go_simp
  have fy3 : (w6.alloc (.cells #[.slice A3 n3 e3, .slice B3 m3 d3] 25)).frozen? ⟨w6.heap.size, 1, none⟩ = false := by go_simp
  replace ltB : _ < (w6.alloc (.cells #[.slice A3 n3 e3, .slice B3 m3 d3] 25)).heap.size := Nat.lt_of_lt_of_le ltB (by simp)
  replace ltX : _ < (w6.alloc (.cells #[.slice A3 n3 e3, .slice B3 m3 d3] 25)).heap.size := Nat.lt_of_lt_of_le ltX (by simp)
  replace hg := hg.below ((Below.refl w6.heap.size w6).alloc (Nat.le_refl _) (.cells #[.slice A3 n3 e3, .slice B3 m3 d3] 25))
  replace hx2 := hx2.below ((Below.refl w6.heap.size w6).alloc (Nat.le_refl _) (.cells #[.slice A3 n3 e3, .slice B3 m3 d3] 25))
  replace hy := hy.below ((Below.refl w6.heap.size w6).alloc (Nat.le_refl _) (.cells #[.slice A3 n3 e3, .slice B3 m3 d3] 25))
  replace b := b.alloc b.size (.cells #[.slice A3 n3 e3, .slice B3 m3 d3] 25)
  have ltY : w6.heap.size < (w6.alloc (.cells #[.slice A3 n3 e3, .slice B3 m3 d3] 25)).heap.size := by simp
  generalize hw_w7 : w6.alloc (.cells #[.slice A3 n3 e3, .slice B3 m3 d3] 25) = w7 at *
  clear hw_w7
  generalize w6.heap.size = X10 at *
  refine (c4 _ hg).mono ?_
  rintro e w8 ⟨A4, e4, B4, d4, rfl, hz, hb5⟩
  replace e0 := (hb5.cell (p := ⟨w.heap.size, 0, none⟩) (World.block_lt_of_cell? _ _ e0)).trans e0
  replace e1 := (hb5.cell (p := ⟨w.heap.size, 1, none⟩) (World.block_lt_of_cell? _ _ e1)).trans e1
  replace x0 := (hb5.cell (p := ⟨X7, 0, none⟩) (World.block_lt_of_cell? _ _ x0)).trans x0
  replace y0 := (hb5.cell (p := ⟨X7, 1, none⟩) (World.block_lt_of_cell? _ _ y0)).trans y0
  replace x3 := (hb5.cell (p := ⟨X10, 0, none⟩) (World.block_lt_of_cell? _ _ x3)).trans x3
  replace y3 := (hb5.cell (p := ⟨X10, 1, none⟩) (World.block_lt_of_cell? _ _ y3)).trans y3
  replace fx0 := (hb5.frozen (p := ⟨X7, 0, none⟩) ltX).trans fx0
  replace fy0 := (hb5.frozen (p := ⟨X7, 1, none⟩) ltX).trans fy0
  replace fx3 := (hb5.frozen (p := ⟨X10, 0, none⟩) ltY).trans fx3
  replace fy3 := (hb5.frozen (p := ⟨X10, 1, none⟩) ltY).trans fy3
  replace ltB := Nat.lt_of_lt_of_le ltB hb5.size
  replace ltX := Nat.lt_of_lt_of_le ltX hb5.size
  replace ltY := Nat.lt_of_lt_of_le ltY hb5.size
  replace hg := hg.below hb5
  replace hx2 := hx2.below hb5
  replace hy := hy.below hb5
  replace b := b.trans (hb5.mono b.size)
  clear hb5
  go_wp2_with fail
  replace e0 : (w8.alloc (.cells #[.slice A4 n4 e4, .slice B4 m4 d4] 25)).cell? ⟨w.heap.size, 0, none⟩ = some (.slice A n c) := (World.cell?_alloc_lt w8 _ ⟨w.heap.size, 0, none⟩ (World.block_lt_of_cell? _ _ e0)).trans e0
  replace e1 : (w8.alloc (.cells #[.slice A4 n4 e4, .slice B4 m4 d4] 25)).cell? ⟨w.heap.size, 1, none⟩ = some (.slice B m d) := (World.cell?_alloc_lt w8 _ ⟨w.heap.size, 1, none⟩ (World.block_lt_of_cell? _ _ e1)).trans e1
  replace x0 : (w8.alloc (.cells #[.slice A4 n4 e4, .slice B4 m4 d4] 25)).cell? ⟨X7, 0, none⟩ = some (.slice A2 n2 e2) := (World.cell?_alloc_lt w8 _ ⟨X7, 0, none⟩ (World.block_lt_of_cell? _ _ x0)).trans x0
  replace y0 : (w8.alloc (.cells #[.slice A4 n4 e4, .slice B4 m4 d4] 25)).cell? ⟨X7, 1, none⟩ = some (.slice B2 m2 d2) := (World.cell?_alloc_lt w8 _ ⟨X7, 1, none⟩ (World.block_lt_of_cell? _ _ y0)).trans y0
  replace x3 : (w8.alloc (.cells #[.slice A4 n4 e4, .slice B4 m4 d4] 25)).cell? ⟨X10, 0, none⟩ = some (.slice A3 n3 e3) := (World.cell?_alloc_lt w8 _ ⟨X10, 0, none⟩ (World.block_lt_of_cell? _ _ x3)).trans x3
  replace y3 : (w8.alloc (.cells #[.slice A4 n4 e4, .slice B4 m4 d4] 25)).cell? ⟨X10, 1, none⟩ = some (.slice B3 m3 d3) := (World.cell?_alloc_lt w8 _ ⟨X10, 1, none⟩ (World.block_lt_of_cell? _ _ y3)).trans y3
  replace fx0 : (w8.alloc (.cells #[.slice A4 n4 e4, .slice B4 m4 d4] 25)).frozen? ⟨X7, 0, none⟩ = false := (((Below.refl w8.heap.size w8).alloc (Nat.le_refl _) _).frozen (p := ⟨X7, 0, none⟩) ltX).trans fx0
  replace fy0 : (w8.alloc (.cells #[.slice A4 n4 e4, .slice B4 m4 d4] 25)).frozen? ⟨X7, 1, none⟩ = false := (((Below.refl w8.heap.size w8).alloc (Nat.le_refl _) _).frozen (p := ⟨X7, 1, none⟩) ltX).trans fy0
  replace fx3 : (w8.alloc (.cells #[.slice A4 n4 e4, .slice B4 m4 d4] 25)).frozen? ⟨X10, 0, none⟩ = false := (((Below.refl w8.heap.size w8).alloc (Nat.le_refl _) _).frozen (p := ⟨X10, 0, none⟩) ltY).trans fx3
  replace fy3 : (w8.alloc (.cells #[.slice A4 n4 e4, .slice B4 m4 d4] 25)).frozen? ⟨X10, 1, none⟩ = false := (((Below.refl w8.heap.size w8).alloc (Nat.le_refl _) _).frozen (p := ⟨X10, 1, none⟩) ltY).trans fy3
  have x4 : (w8.alloc (.cells #[.slice A4 n4 e4, .slice B4 m4 d4] 25)).cell? ⟨w8.heap.size, 0, none⟩ = some (.slice A4 n4 e4) := World.cell?_alloc_new (w := w8) _ _ _
  have y4 : (w8.alloc (.cells #[.slice A4 n4 e4, .slice B4 m4 d4] 25)).cell? ⟨w8.heap.size, 1, none⟩ = some (.slice B4 m4 d4) := World.cell?_alloc_new (w := w8) _ _ _
  have fx4 : (w8.alloc (.cells #[.slice A4 n4 e4, .slice B4 m4 d4] 25)).frozen? ⟨w8.heap.size, 0, none⟩ = false := by go_simp
  have fy4 : (w8.alloc (.cells #[.slice A4 n4 e4, .slice B4 m4 d4] 25)).frozen? ⟨w8.heap.size, 1, none⟩ = false := by go_simp
  replace ltB : _ < (w8.alloc (.cells #[.slice A4 n4 e4, .slice B4 m4 d4] 25)).heap.size := Nat.lt_of_lt_of_le ltB (by simp)
  replace ltX : _ < (w8.alloc (.cells #[.slice A4 n4 e4, .slice B4 m4 d4] 25)).heap.size := Nat.lt_of_lt_of_le ltX (by simp)
  replace ltY : _ < (w8.alloc (.cells #[.slice A4 n4 e4, .slice B4 m4 d4] 25)).heap.size := Nat.lt_of_lt_of_le ltY (by simp)
  replace hg := hg.below ((Below.refl w8.heap.size w8).alloc (Nat.le_refl _) (.cells #[.slice A4 n4 e4, .slice B4 m4 d4] 25))
  replace hx2 := hx2.below ((Below.refl w8.heap.size w8).alloc (Nat.le_refl _) (.cells #[.slice A4 n4 e4, .slice B4 m4 d4] 25))
  replace hy := hy.below ((Below.refl w8.heap.size w8).alloc (Nat.le_refl _) (.cells #[.slice A4 n4 e4, .slice B4 m4 d4] 25))
  replace hz := hz.below ((Below.refl w8.heap.size w8).alloc (Nat.le_refl _) (.cells #[.slice A4 n4 e4, .slice B4 m4 d4] 25))
  replace b := b.alloc b.size (.cells #[.slice A4 n4 e4, .slice B4 m4 d4] 25)
  have ltZ : w8.heap.size < (w8.alloc (.cells #[.slice A4 n4 e4, .slice B4 m4 d4] 25)).heap.size := by simp
  generalize hw_w9 : w8.alloc (.cells #[.slice A4 n4 e4, .slice B4 m4 d4] 25) = w9 at *
  clear hw_w9
  generalize w8.heap.size = X12 at *
  refine (c5 _ hg).mono ?_
  rintro e w10 ⟨rfl, hb6⟩
  replace e0 := (hb6.cell (p := ⟨w.heap.size, 0, none⟩) (World.block_lt_of_cell? _ _ e0)).trans e0
  replace e1 := (hb6.cell (p := ⟨w.heap.size, 1, none⟩) (World.block_lt_of_cell? _ _ e1)).trans e1
  replace x0 := (hb6.cell (p := ⟨X7, 0, none⟩) (World.block_lt_of_cell? _ _ x0)).trans x0
  replace y0 := (hb6.cell (p := ⟨X7, 1, none⟩) (World.block_lt_of_cell? _ _ y0)).trans y0
  replace x3 := (hb6.cell (p := ⟨X10, 0, none⟩) (World.block_lt_of_cell? _ _ x3)).trans x3
  replace y3 := (hb6.cell (p := ⟨X10, 1, none⟩) (World.block_lt_of_cell? _ _ y3)).trans y3
  replace x4 := (hb6.cell (p := ⟨X12, 0, none⟩) (World.block_lt_of_cell? _ _ x4)).trans x4
  replace y4 := (hb6.cell (p := ⟨X12, 1, none⟩) (World.block_lt_of_cell? _ _ y4)).trans y4
  replace fx0 := (hb6.frozen (p := ⟨X7, 0, none⟩) ltX).trans fx0
  replace fy0 := (hb6.frozen (p := ⟨X7, 1, none⟩) ltX).trans fy0
  replace fx3 := (hb6.frozen (p := ⟨X10, 0, none⟩) ltY).trans fx3
  replace fy3 := (hb6.frozen (p := ⟨X10, 1, none⟩) ltY).trans fy3
  replace fx4 := (hb6.frozen (p := ⟨X12, 0, none⟩) ltZ).trans fx4
  replace fy4 := (hb6.frozen (p := ⟨X12, 1, none⟩) ltZ).trans fy4
  replace ltB := Nat.lt_of_lt_of_le ltB hb6.size
  replace ltX := Nat.lt_of_lt_of_le ltX hb6.size
  replace ltY := Nat.lt_of_lt_of_le ltY hb6.size
  replace ltZ := Nat.lt_of_lt_of_le ltZ hb6.size
  replace hg := hg.below hb6
  replace hx2 := hx2.below hb6
  replace hy := hy.below hb6
  replace hz := hz.below hb6
  replace b := b.trans (hb6.mono b.size)
  clear hb6
  go_wp2_with fail
  go_ret
  exact ⟨rfl, b⟩
  )

set_option maxHeartbeats 4000000 in
theorem once_good (A B : Option Addr) (c d n m : Nat) (g : Gt) (p q : Int) (w : World) (hg : GateIn w A B g.held g.out) (hn : g.held.length = n) (hm : g.out.length = m) (hn1 : n ≤ 80) (hm1 : m ≤ 100)
    (x1 x2 y z : Gt) (k1 k2 k3 k4 : Int) (h1 : sureG g (min p q) = (x1, k1)) (h2 : sureG x1 (max p q) = (x2, k2)) (h3 : sureG g (max p q) = (y, k3)) (h4 : backG g 0 = (z, k4))
    (hr : rightB g.held = true) (hlo : ¬ min p q < 0) (hhi : ¬ 1099511627776 < max p q) (hk1 : k1 = 0) (hk2 : k2 = 0) (hk3 : k3 = 0) (hk4 : k4 = 0) (hs : x2 = y) (hz0 : z = ⟨[], g.out⟩) :
    Calls Try.prog 5 #[.agg #[.slice A n c, .slice B m d], .int .i64 p, .int .i64 q] w fun e w' => e = .returned (.bool true) ∧ Below w.heap.size w w' := by
  have hn1z : ¬ 80 < (n : Int) := by omega
  have hm1z : ¬ 100 < (m : Int) := by omega
  have l1 := sureG_len g (min p q)
  have l2 := sureG_len x1 (max p q)
  have l3 := sureG_len g (max p q)
  have l4 := backG_len g 0
  rw [h1, hn, hm] at l1
  rw [h2] at l2
  rw [h3, hn, hm] at l3
  rw [h4, hn, hm] at l4
  obtain ⟨n1, hx1n⟩ : ∃ n1, x1.held.length = n1 := ⟨_, rfl⟩
  obtain ⟨m1, hx1m⟩ : ∃ m1, x1.out.length = m1 := ⟨_, rfl⟩
  obtain ⟨n2, hx2n⟩ : ∃ n1, x2.held.length = n1 := ⟨_, rfl⟩
  obtain ⟨m2, hx2m⟩ : ∃ m1, x2.out.length = m1 := ⟨_, rfl⟩
  obtain ⟨n3, hyn⟩ : ∃ n1, y.held.length = n1 := ⟨_, rfl⟩
  obtain ⟨m3, hym⟩ : ∃ m1, y.out.length = m1 := ⟨_, rfl⟩
  obtain ⟨n4, hzn⟩ : ∃ n1, z.held.length = n1 := ⟨_, rfl⟩
  obtain ⟨m4, hzm⟩ : ∃ m1, z.out.length = m1 := ⟨_, rfl⟩
  simp only [hx1n, hx1m, hx2n, hx2m, hyn, hym, hzn, hzm] at l1 l2 l3 l4
  have c1 := fun w1 hgg => call_num (Sure_any A B c d n m (min p q) g w1 hgg hn hm (by omega) (by omega)) h1 hx1n hx1m
  have c2 := fun A' B' c' d' w1 hgg => call_num (Sure_any A' B' c' d' n1 m1 (max p q) x1 w1 hgg hx1n hx1m (by omega) (by omega)) h2 hx2n hx2m
  have c3 := fun w1 hgg => call_num (Sure_any A B c d n m (max p q) g w1 hgg hn hm (by omega) (by omega)) h3 hyn hym
  have c4 := fun w1 hgg => call_num (Back_any A B c d n m 0 g w1 hgg hn hm (by omega) (by omega)) h4 hzn hzm
  have c5 := fun w1 hgg => Right_any A B c d n m g.held g.out w1 hgg hn
  rw [hr] at c5
  have hn4 : n4 = 0 := by rw [← hzn, hz0]; rfl
  have hn4z : ((n4 : Int) == 0) = true := by rw [beq_iff_eq]; omega
  clear hn4
  subst hk1 hk2 hk3 hk4
  have c6 := fun A2 A3 e2 e3 B2 B3 d2 d3 w1 (hx : GateIn w1 A2 B2 x2.held x2.out) (hyy : GateIn w1 A3 B3 y.held y.out) => same_any A2 A3 e2 e3 n2 n3 x2.held y.held B2 B3 d2 d3 m2 m3 x2.out y.out w1 hx.held hyy.held hx2n hyn hx.out hyy.out hx2m hym
  have c7 := fun B4 d4 w1 (hx : Sl 2 Tld.enc w1 B4 z.out) (hy : Sl 2 Tld.enc w1 B g.out) => outs_any B4 B d4 d m4 m z.out g.out w1 hx hy hzm hm
  rw [show decide (z.out = g.out) = true by rw [hz0]; simp] at c7
  rw [show (decide (x2.held = y.held) && decide (x2.out = y.out)) = true by rw [hs]; simp] at c6
  clear hs hz0
  have b : Below w.heap.size w (w.alloc (.cells #[.slice A n c, .slice B m d] 25)) := (Below.refl _ _).alloc (Nat.le_refl _) _
  have e0 : (w.alloc (.cells #[.slice A n c, .slice B m d] 25)).cell? ⟨w.heap.size, 0, none⟩ = some (.slice A n c) := by go_simp
  have e1 : (w.alloc (.cells #[.slice A n c, .slice B m d] 25)).cell? ⟨w.heap.size, 1, none⟩ = some (.slice B m d) := by go_simp
  have ltB : w.heap.size < (w.alloc (.cells #[.slice A n c, .slice B m d] 25)).heap.size := by simp
  replace hg := hg.below b
  go_enter Try.func5, Try.ntmps5
  go_wp2_with fail
  generalize w.alloc (.cells #[.slice A n c, .slice B m d] 25) = W0 at *
  refine (awake_any _).mono ?_
  rintro e w1 ⟨rfl, hb1⟩
  replace e0 := (hb1.cell (p := ⟨w.heap.size, 0, none⟩) (World.block_lt_of_cell? _ _ e0)).trans e0
  replace e1 := (hb1.cell (p := ⟨w.heap.size, 1, none⟩) (World.block_lt_of_cell? _ _ e1)).trans e1
  replace ltB := Nat.lt_of_lt_of_le ltB hb1.size
  replace hg := hg.below hb1
  replace b := b.trans (hb1.mono b.size)
  clear hb1
  go_wp2_with fail
  refine (c1 _ hg).mono ?_
  rintro e w2 ⟨A1, e1', B1, d1, rfl, hx1, hb2⟩
  replace e0 := (hb2.cell (p := ⟨w.heap.size, 0, none⟩) (World.block_lt_of_cell? _ _ e0)).trans e0
  replace e1 := (hb2.cell (p := ⟨w.heap.size, 1, none⟩) (World.block_lt_of_cell? _ _ e1)).trans e1
  replace ltB := Nat.lt_of_lt_of_le ltB hb2.size
  replace hg := hg.below hb2
  replace b := b.trans (hb2.mono b.size)
  clear hb2
  have szX := b.size
  have neX := Nat.ne_of_lt ltB
  go_wp2_with fail
  replace e0 : (w2.alloc (.cells #[.slice A1 n1 e1', .slice B1 m1 d1] 25)).cell? ⟨w.heap.size, 0, none⟩ = some (.slice A n c) := (World.cell?_alloc_lt w2 _ ⟨w.heap.size, 0, none⟩ (World.block_lt_of_cell? _ _ e0)).trans e0
  replace e1 : (w2.alloc (.cells #[.slice A1 n1 e1', .slice B1 m1 d1] 25)).cell? ⟨w.heap.size, 1, none⟩ = some (.slice B m d) := (World.cell?_alloc_lt w2 _ ⟨w.heap.size, 1, none⟩ (World.block_lt_of_cell? _ _ e1)).trans e1
  have x0 : (w2.alloc (.cells #[.slice A1 n1 e1', .slice B1 m1 d1] 25)).cell? ⟨w2.heap.size, 0, none⟩ = some (.slice A1 n1 e1') := World.cell?_alloc_new (w := w2) _ _ _
  have y0 : (w2.alloc (.cells #[.slice A1 n1 e1', .slice B1 m1 d1] 25)).cell? ⟨w2.heap.size, 1, none⟩ = some (.slice B1 m1 d1) := World.cell?_alloc_new (w := w2) _ _ _
  have fx0 : (w2.alloc (.cells #[.slice A1 n1 e1', .slice B1 m1 d1] 25)).frozen? ⟨w2.heap.size, 0, none⟩ = false := by go_simp
  have fy0 : (w2.alloc (.cells #[.slice A1 n1 e1', .slice B1 m1 d1] 25)).frozen? ⟨w2.heap.size, 1, none⟩ = false := by go_simp
  replace ltB : _ < (w2.alloc (.cells #[.slice A1 n1 e1', .slice B1 m1 d1] 25)).heap.size := Nat.lt_of_lt_of_le ltB (by simp)
  replace hg := hg.below ((Below.refl w2.heap.size w2).alloc (Nat.le_refl _) (.cells #[.slice A1 n1 e1', .slice B1 m1 d1] 25))
  replace hx1 := hx1.below ((Below.refl w2.heap.size w2).alloc (Nat.le_refl _) (.cells #[.slice A1 n1 e1', .slice B1 m1 d1] 25))
  replace b := b.alloc b.size (.cells #[.slice A1 n1 e1', .slice B1 m1 d1] 25)
  have ltX : w2.heap.size < (w2.alloc (.cells #[.slice A1 n1 e1', .slice B1 m1 d1] 25)).heap.size := by simp
  generalize hw_w3 : w2.alloc (.cells #[.slice A1 n1 e1', .slice B1 m1 d1] 25) = w3 at *
  clear hw_w3
  generalize w2.heap.size = X7 at *
  refine (c2 _ _ _ _ _ hx1).mono ?_
  rintro e w4 ⟨A2, e2, B2, d2, rfl, hx2, hb3⟩
  replace e0 := (hb3.cell (p := ⟨w.heap.size, 0, none⟩) (World.block_lt_of_cell? _ _ e0)).trans e0
  replace e1 := (hb3.cell (p := ⟨w.heap.size, 1, none⟩) (World.block_lt_of_cell? _ _ e1)).trans e1
  replace x0 := (hb3.cell (p := ⟨X7, 0, none⟩) (World.block_lt_of_cell? _ _ x0)).trans x0
  replace y0 := (hb3.cell (p := ⟨X7, 1, none⟩) (World.block_lt_of_cell? _ _ y0)).trans y0
  replace fx0 := (hb3.frozen (p := ⟨X7, 0, none⟩) ltX).trans fx0
  replace fy0 := (hb3.frozen (p := ⟨X7, 1, none⟩) ltX).trans fy0
  replace ltB := Nat.lt_of_lt_of_le ltB hb3.size
  replace ltX := Nat.lt_of_lt_of_le ltX hb3.size
  replace hg := hg.below hb3
  replace b := b.trans (hb3.mono b.size)
  clear hb3 hx1
  go_wp2_with fail
  obtain ⟨g0, g1, k0, k1, gs, bs, szs, oth⟩ := gate_set ((w4.setCell ⟨X7, 0, none⟩ (.slice A2 n2 e2)).setCell ⟨X7, 1, none⟩ (.slice B2 m2 d2)) rfl x0 y0 fx0 fy0
  replace b := bs _ _ szX b
  replace hx2 := gs _ _ _ _ hx2
  replace hg := gs _ _ _ _ hg
  replace ltB := Nat.lt_of_lt_of_le ltB (Nat.le_of_eq szs.symm)
  replace ltX := Nat.lt_of_lt_of_le ltX (Nat.le_of_eq szs.symm)
  replace e0 := (oth _ _ neX).1.trans e0
  replace e1 := (oth _ _ neX).1.trans e1
  clear x0 y0 fx0 fy0 gs bs szs oth
  have x0 := g0
  have y0 := g1
  have fx0 := k0
  have fy0 := k1
  clear g0 g1 k0 k1
  generalize ((w4.setCell ⟨X7, 0, none⟩ (.slice A2 n2 e2)).setCell ⟨X7, 1, none⟩ (.slice B2 m2 d2)) = w5 at *
  refine (c3 _ hg).mono ?_
  rintro e w6 ⟨A3, e3, B3, d3, rfl, hy, hb4⟩
  replace e0 := (hb4.cell (p := ⟨w.heap.size, 0, none⟩) (World.block_lt_of_cell? _ _ e0)).trans e0
  replace e1 := (hb4.cell (p := ⟨w.heap.size, 1, none⟩) (World.block_lt_of_cell? _ _ e1)).trans e1
  replace x0 := (hb4.cell (p := ⟨X7, 0, none⟩) (World.block_lt_of_cell? _ _ x0)).trans x0
  replace y0 := (hb4.cell (p := ⟨X7, 1, none⟩) (World.block_lt_of_cell? _ _ y0)).trans y0
  replace fx0 := (hb4.frozen (p := ⟨X7, 0, none⟩) ltX).trans fx0
  replace fy0 := (hb4.frozen (p := ⟨X7, 1, none⟩) ltX).trans fy0
  replace ltB := Nat.lt_of_lt_of_le ltB hb4.size
  replace ltX := Nat.lt_of_lt_of_le ltX hb4.size
  replace hg := hg.below hb4
  replace hx2 := hx2.below hb4
  replace b := b.trans (hb4.mono b.size)
  clear hb4
  go_wp2_with fail
  replace e0 : (w6.alloc (.cells #[.slice A3 n3 e3, .slice B3 m3 d3] 25)).cell? ⟨w.heap.size, 0, none⟩ = some (.slice A n c) := (World.cell?_alloc_lt w6 _ ⟨w.heap.size, 0, none⟩ (World.block_lt_of_cell? _ _ e0)).trans e0
  replace e1 : (w6.alloc (.cells #[.slice A3 n3 e3, .slice B3 m3 d3] 25)).cell? ⟨w.heap.size, 1, none⟩ = some (.slice B m d) := (World.cell?_alloc_lt w6 _ ⟨w.heap.size, 1, none⟩ (World.block_lt_of_cell? _ _ e1)).trans e1
  replace x0 : (w6.alloc (.cells #[.slice A3 n3 e3, .slice B3 m3 d3] 25)).cell? ⟨X7, 0, none⟩ = some (.slice A2 n2 e2) := (World.cell?_alloc_lt w6 _ ⟨X7, 0, none⟩ (World.block_lt_of_cell? _ _ x0)).trans x0
  replace y0 : (w6.alloc (.cells #[.slice A3 n3 e3, .slice B3 m3 d3] 25)).cell? ⟨X7, 1, none⟩ = some (.slice B2 m2 d2) := (World.cell?_alloc_lt w6 _ ⟨X7, 1, none⟩ (World.block_lt_of_cell? _ _ y0)).trans y0
  replace fx0 : (w6.alloc (.cells #[.slice A3 n3 e3, .slice B3 m3 d3] 25)).frozen? ⟨X7, 0, none⟩ = false := (((Below.refl w6.heap.size w6).alloc (Nat.le_refl _) _).frozen (p := ⟨X7, 0, none⟩) ltX).trans fx0
  replace fy0 : (w6.alloc (.cells #[.slice A3 n3 e3, .slice B3 m3 d3] 25)).frozen? ⟨X7, 1, none⟩ = false := (((Below.refl w6.heap.size w6).alloc (Nat.le_refl _) _).frozen (p := ⟨X7, 1, none⟩) ltX).trans fy0
  have x3 : (w6.alloc (.cells #[.slice A3 n3 e3, .slice B3 m3 d3] 25)).cell? ⟨w6.heap.size, 0, none⟩ = some (.slice A3 n3 e3) := World.cell?_alloc_new (w := w6) _ _ _
  have y3 : (w6.alloc (.cells #[.slice A3 n3 e3, .slice B3 m3 d3] 25)).cell? ⟨w6.heap.size, 1, none⟩ = some (.slice B3 m3 d3) := World.cell?_alloc_new (w := w6) _ _ _
  have fx3 : (w6.alloc (.cells #[.slice A3 n3 e3, .slice B3 m3 d3] 25)).frozen? ⟨w6.heap.size, 0, none⟩ = false := by go_simp
  have fy3 : (w6.alloc (.cells #[.slice A3 n3 e3, .slice B3 m3 d3] 25)).frozen? ⟨w6.heap.size, 1, none⟩ = false := by go_simp
  replace ltB : _ < (w6.alloc (.cells #[.slice A3 n3 e3, .slice B3 m3 d3] 25)).heap.size := Nat.lt_of_lt_of_le ltB (by simp)
  replace ltX : _ < (w6.alloc (.cells #[.slice A3 n3 e3, .slice B3 m3 d3] 25)).heap.size := Nat.lt_of_lt_of_le ltX (by simp)
  replace hg := hg.below ((Below.refl w6.heap.size w6).alloc (Nat.le_refl _) (.cells #[.slice A3 n3 e3, .slice B3 m3 d3] 25))
  replace hx2 := hx2.below ((Below.refl w6.heap.size w6).alloc (Nat.le_refl _) (.cells #[.slice A3 n3 e3, .slice B3 m3 d3] 25))
  replace hy := hy.below ((Below.refl w6.heap.size w6).alloc (Nat.le_refl _) (.cells #[.slice A3 n3 e3, .slice B3 m3 d3] 25))
  replace b := b.alloc b.size (.cells #[.slice A3 n3 e3, .slice B3 m3 d3] 25)
  have ltY : w6.heap.size < (w6.alloc (.cells #[.slice A3 n3 e3, .slice B3 m3 d3] 25)).heap.size := by simp
  generalize hw_w7 : w6.alloc (.cells #[.slice A3 n3 e3, .slice B3 m3 d3] 25) = w7 at *
  clear hw_w7
  generalize w6.heap.size = X10 at *
  refine (c4 _ hg).mono ?_
  rintro e w8 ⟨A4, e4, B4, d4, rfl, hz, hb5⟩
  replace e0 := (hb5.cell (p := ⟨w.heap.size, 0, none⟩) (World.block_lt_of_cell? _ _ e0)).trans e0
  replace e1 := (hb5.cell (p := ⟨w.heap.size, 1, none⟩) (World.block_lt_of_cell? _ _ e1)).trans e1
  replace x0 := (hb5.cell (p := ⟨X7, 0, none⟩) (World.block_lt_of_cell? _ _ x0)).trans x0
  replace y0 := (hb5.cell (p := ⟨X7, 1, none⟩) (World.block_lt_of_cell? _ _ y0)).trans y0
  replace x3 := (hb5.cell (p := ⟨X10, 0, none⟩) (World.block_lt_of_cell? _ _ x3)).trans x3
  replace y3 := (hb5.cell (p := ⟨X10, 1, none⟩) (World.block_lt_of_cell? _ _ y3)).trans y3
  replace fx0 := (hb5.frozen (p := ⟨X7, 0, none⟩) ltX).trans fx0
  replace fy0 := (hb5.frozen (p := ⟨X7, 1, none⟩) ltX).trans fy0
  replace fx3 := (hb5.frozen (p := ⟨X10, 0, none⟩) ltY).trans fx3
  replace fy3 := (hb5.frozen (p := ⟨X10, 1, none⟩) ltY).trans fy3
  replace ltB := Nat.lt_of_lt_of_le ltB hb5.size
  replace ltX := Nat.lt_of_lt_of_le ltX hb5.size
  replace ltY := Nat.lt_of_lt_of_le ltY hb5.size
  replace hg := hg.below hb5
  replace hx2 := hx2.below hb5
  replace hy := hy.below hb5
  replace b := b.trans (hb5.mono b.size)
  clear hb5
  go_wp2_with fail
  replace e0 : (w8.alloc (.cells #[.slice A4 n4 e4, .slice B4 m4 d4] 25)).cell? ⟨w.heap.size, 0, none⟩ = some (.slice A n c) := (World.cell?_alloc_lt w8 _ ⟨w.heap.size, 0, none⟩ (World.block_lt_of_cell? _ _ e0)).trans e0
  replace e1 : (w8.alloc (.cells #[.slice A4 n4 e4, .slice B4 m4 d4] 25)).cell? ⟨w.heap.size, 1, none⟩ = some (.slice B m d) := (World.cell?_alloc_lt w8 _ ⟨w.heap.size, 1, none⟩ (World.block_lt_of_cell? _ _ e1)).trans e1
  replace x0 : (w8.alloc (.cells #[.slice A4 n4 e4, .slice B4 m4 d4] 25)).cell? ⟨X7, 0, none⟩ = some (.slice A2 n2 e2) := (World.cell?_alloc_lt w8 _ ⟨X7, 0, none⟩ (World.block_lt_of_cell? _ _ x0)).trans x0
  replace y0 : (w8.alloc (.cells #[.slice A4 n4 e4, .slice B4 m4 d4] 25)).cell? ⟨X7, 1, none⟩ = some (.slice B2 m2 d2) := (World.cell?_alloc_lt w8 _ ⟨X7, 1, none⟩ (World.block_lt_of_cell? _ _ y0)).trans y0
  replace x3 : (w8.alloc (.cells #[.slice A4 n4 e4, .slice B4 m4 d4] 25)).cell? ⟨X10, 0, none⟩ = some (.slice A3 n3 e3) := (World.cell?_alloc_lt w8 _ ⟨X10, 0, none⟩ (World.block_lt_of_cell? _ _ x3)).trans x3
  replace y3 : (w8.alloc (.cells #[.slice A4 n4 e4, .slice B4 m4 d4] 25)).cell? ⟨X10, 1, none⟩ = some (.slice B3 m3 d3) := (World.cell?_alloc_lt w8 _ ⟨X10, 1, none⟩ (World.block_lt_of_cell? _ _ y3)).trans y3
  replace fx0 : (w8.alloc (.cells #[.slice A4 n4 e4, .slice B4 m4 d4] 25)).frozen? ⟨X7, 0, none⟩ = false := (((Below.refl w8.heap.size w8).alloc (Nat.le_refl _) _).frozen (p := ⟨X7, 0, none⟩) ltX).trans fx0
  replace fy0 : (w8.alloc (.cells #[.slice A4 n4 e4, .slice B4 m4 d4] 25)).frozen? ⟨X7, 1, none⟩ = false := (((Below.refl w8.heap.size w8).alloc (Nat.le_refl _) _).frozen (p := ⟨X7, 1, none⟩) ltX).trans fy0
  replace fx3 : (w8.alloc (.cells #[.slice A4 n4 e4, .slice B4 m4 d4] 25)).frozen? ⟨X10, 0, none⟩ = false := (((Below.refl w8.heap.size w8).alloc (Nat.le_refl _) _).frozen (p := ⟨X10, 0, none⟩) ltY).trans fx3
  replace fy3 : (w8.alloc (.cells #[.slice A4 n4 e4, .slice B4 m4 d4] 25)).frozen? ⟨X10, 1, none⟩ = false := (((Below.refl w8.heap.size w8).alloc (Nat.le_refl _) _).frozen (p := ⟨X10, 1, none⟩) ltY).trans fy3
  have x4 : (w8.alloc (.cells #[.slice A4 n4 e4, .slice B4 m4 d4] 25)).cell? ⟨w8.heap.size, 0, none⟩ = some (.slice A4 n4 e4) := World.cell?_alloc_new (w := w8) _ _ _
  have y4 : (w8.alloc (.cells #[.slice A4 n4 e4, .slice B4 m4 d4] 25)).cell? ⟨w8.heap.size, 1, none⟩ = some (.slice B4 m4 d4) := World.cell?_alloc_new (w := w8) _ _ _
  have fx4 : (w8.alloc (.cells #[.slice A4 n4 e4, .slice B4 m4 d4] 25)).frozen? ⟨w8.heap.size, 0, none⟩ = false := by go_simp
  have fy4 : (w8.alloc (.cells #[.slice A4 n4 e4, .slice B4 m4 d4] 25)).frozen? ⟨w8.heap.size, 1, none⟩ = false := by go_simp
  replace ltB : _ < (w8.alloc (.cells #[.slice A4 n4 e4, .slice B4 m4 d4] 25)).heap.size := Nat.lt_of_lt_of_le ltB (by simp)
  replace ltX : _ < (w8.alloc (.cells #[.slice A4 n4 e4, .slice B4 m4 d4] 25)).heap.size := Nat.lt_of_lt_of_le ltX (by simp)
  replace ltY : _ < (w8.alloc (.cells #[.slice A4 n4 e4, .slice B4 m4 d4] 25)).heap.size := Nat.lt_of_lt_of_le ltY (by simp)
  replace hg := hg.below ((Below.refl w8.heap.size w8).alloc (Nat.le_refl _) (.cells #[.slice A4 n4 e4, .slice B4 m4 d4] 25))
  replace hx2 := hx2.below ((Below.refl w8.heap.size w8).alloc (Nat.le_refl _) (.cells #[.slice A4 n4 e4, .slice B4 m4 d4] 25))
  replace hy := hy.below ((Below.refl w8.heap.size w8).alloc (Nat.le_refl _) (.cells #[.slice A4 n4 e4, .slice B4 m4 d4] 25))
  replace hz := hz.below ((Below.refl w8.heap.size w8).alloc (Nat.le_refl _) (.cells #[.slice A4 n4 e4, .slice B4 m4 d4] 25))
  replace b := b.alloc b.size (.cells #[.slice A4 n4 e4, .slice B4 m4 d4] 25)
  have ltZ : w8.heap.size < (w8.alloc (.cells #[.slice A4 n4 e4, .slice B4 m4 d4] 25)).heap.size := by simp
  generalize hw_w9 : w8.alloc (.cells #[.slice A4 n4 e4, .slice B4 m4 d4] 25) = w9 at *
  clear hw_w9
  generalize w8.heap.size = X12 at *
  refine (c5 _ hg).mono ?_
  rintro e w10 ⟨rfl, hb6⟩
  replace e0 := (hb6.cell (p := ⟨w.heap.size, 0, none⟩) (World.block_lt_of_cell? _ _ e0)).trans e0
  replace e1 := (hb6.cell (p := ⟨w.heap.size, 1, none⟩) (World.block_lt_of_cell? _ _ e1)).trans e1
  replace x0 := (hb6.cell (p := ⟨X7, 0, none⟩) (World.block_lt_of_cell? _ _ x0)).trans x0
  replace y0 := (hb6.cell (p := ⟨X7, 1, none⟩) (World.block_lt_of_cell? _ _ y0)).trans y0
  replace x3 := (hb6.cell (p := ⟨X10, 0, none⟩) (World.block_lt_of_cell? _ _ x3)).trans x3
  replace y3 := (hb6.cell (p := ⟨X10, 1, none⟩) (World.block_lt_of_cell? _ _ y3)).trans y3
  replace x4 := (hb6.cell (p := ⟨X12, 0, none⟩) (World.block_lt_of_cell? _ _ x4)).trans x4
  replace y4 := (hb6.cell (p := ⟨X12, 1, none⟩) (World.block_lt_of_cell? _ _ y4)).trans y4
  replace fx0 := (hb6.frozen (p := ⟨X7, 0, none⟩) ltX).trans fx0
  replace fy0 := (hb6.frozen (p := ⟨X7, 1, none⟩) ltX).trans fy0
  replace fx3 := (hb6.frozen (p := ⟨X10, 0, none⟩) ltY).trans fx3
  replace fy3 := (hb6.frozen (p := ⟨X10, 1, none⟩) ltY).trans fy3
  replace fx4 := (hb6.frozen (p := ⟨X12, 0, none⟩) ltZ).trans fx4
  replace fy4 := (hb6.frozen (p := ⟨X12, 1, none⟩) ltZ).trans fy4
  replace ltB := Nat.lt_of_lt_of_le ltB hb6.size
  replace ltX := Nat.lt_of_lt_of_le ltX hb6.size
  replace ltY := Nat.lt_of_lt_of_le ltY hb6.size
  replace ltZ := Nat.lt_of_lt_of_le ltZ hb6.size
  replace hg := hg.below hb6
  replace hx2 := hx2.below hb6
  replace hy := hy.below hb6
  replace hz := hz.below hb6
  replace b := b.trans (hb6.mono b.size)
  clear hb6
  go_wp2_with fail
  refine (c6 A2 A3 e2 e3 B2 B3 d2 d3 w10 hx2 hy).mono ?_
  rintro e w11 ⟨rfl, hb7⟩
  replace e0 := (hb7.cell (p := ⟨w.heap.size, 0, none⟩) (World.block_lt_of_cell? _ _ e0)).trans e0
  replace e1 := (hb7.cell (p := ⟨w.heap.size, 1, none⟩) (World.block_lt_of_cell? _ _ e1)).trans e1
  replace x0 := (hb7.cell (p := ⟨X7, 0, none⟩) (World.block_lt_of_cell? _ _ x0)).trans x0
  replace y0 := (hb7.cell (p := ⟨X7, 1, none⟩) (World.block_lt_of_cell? _ _ y0)).trans y0
  replace x3 := (hb7.cell (p := ⟨X10, 0, none⟩) (World.block_lt_of_cell? _ _ x3)).trans x3
  replace y3 := (hb7.cell (p := ⟨X10, 1, none⟩) (World.block_lt_of_cell? _ _ y3)).trans y3
  replace x4 := (hb7.cell (p := ⟨X12, 0, none⟩) (World.block_lt_of_cell? _ _ x4)).trans x4
  replace y4 := (hb7.cell (p := ⟨X12, 1, none⟩) (World.block_lt_of_cell? _ _ y4)).trans y4
  replace fx0 := (hb7.frozen (p := ⟨X7, 0, none⟩) ltX).trans fx0
  replace fy0 := (hb7.frozen (p := ⟨X7, 1, none⟩) ltX).trans fy0
  replace fx3 := (hb7.frozen (p := ⟨X10, 0, none⟩) ltY).trans fx3
  replace fy3 := (hb7.frozen (p := ⟨X10, 1, none⟩) ltY).trans fy3
  replace fx4 := (hb7.frozen (p := ⟨X12, 0, none⟩) ltZ).trans fx4
  replace fy4 := (hb7.frozen (p := ⟨X12, 1, none⟩) ltZ).trans fy4
  replace ltB := Nat.lt_of_lt_of_le ltB hb7.size
  replace ltX := Nat.lt_of_lt_of_le ltX hb7.size
  replace ltY := Nat.lt_of_lt_of_le ltY hb7.size
  replace ltZ := Nat.lt_of_lt_of_le ltZ hb7.size
  replace hg := hg.below hb7
  replace hz := hz.below hb7
  replace b := b.trans (hb7.mono b.size)
  clear hb7 hx2 hy
  go_wp2_with fail
  refine (c7 B4 d4 w11 hz.out hg.out).mono ?_
  rintro e w12 ⟨rfl, hb8⟩
  replace b := b.trans (hb8.mono b.size)
  go_wp2_with fail
  go_ret
  exact ⟨rfl, b⟩

theorem belowN_zero {h : List Hld} (hr : rightB h = true) : belowN h 0 = 0 := by
  cases h with
  | nil => rfl
  | cons x h =>
    have := (rightB_at hr 0 (by simp)).1
    have h1 : ¬ x.span < 0 := by simpa using this
    simp [belowN, h1]
theorem rightB_drop {h : List Hld} (hr : rightB h = true) (j : Nat) : rightB (h.drop j) = true := by
  simp only [rightB, Bool.and_eq_true, decide_eq_true_eq, List.all_eq_true, sortB] at hr ⊢
  obtain ⟨h1, h2, h3⟩ := hr
  refine ⟨by rw [List.length_drop]; omega, fun x hx => h2 x (List.mem_of_mem_drop hx), fun i hi => ?_⟩
  rw [List.length_drop] at hi
  have := h3 (j + i) (by omega)
  rw [getElem!_pos _ i (by rw [List.length_drop]; omega), getElem!_pos _ (i + 1) (by rw [List.length_drop]; omega), List.getElem_drop, List.getElem_drop]
  rwa [getElem!_pos h _ (by omega), getElem!_pos h _ (by omega)] at this
theorem belowN_drop (h : List Hld) (p q : Int) (hpq : p ≤ q) : belowN h q = belowN h p + belowN (h.drop (belowN h p)) q := by
  induction h with
  | nil => rfl
  | cons x h ih =>
    by_cases hx : x.span < p
    · have hx2 : x.span < q := by omega
      have e1 : belowN (x :: h) p = belowN h p + 1 := by simp [belowN, hx]
      have e2 : belowN (x :: h) q = belowN h q + 1 := by simp [belowN, hx2]
      rw [e1, e2, ih, List.drop_succ_cons]; omega
    · have e1 : belowN (x :: h) p = 0 := by simp [belowN, hx]
      rw [e1]; simp
theorem sure_two {g : Gt} {p q : Int} (hr : rightB g.held = true) (hp : spanB p = true) (hq : spanB q = true) (hpq : p ≤ q) : sureG (sureG g p).1 q = sureG g q := by
  have e1 : sureG g p = (⟨g.held.drop (belowN g.held p), g.out ++ (g.held.take (belowN g.held p)).map Hld.told⟩, 0) := by unfold sureG; rw [if_neg (by simp [hr, hp])]
  have e2 : sureG g q = (⟨g.held.drop (belowN g.held q), g.out ++ (g.held.take (belowN g.held q)).map Hld.told⟩, 0) := by unfold sureG; rw [if_neg (by simp [hr, hq])]
  rw [e1, e2]
  unfold sureG
  rw [if_neg (by simp [rightB_drop hr, hq])]
  simp only [Prod.mk.injEq, Gt.mk.injEq, and_true]
  rw [belowN_drop g.held p q hpq]
  refine ⟨by rw [List.drop_drop], ?_⟩
  rw [List.append_assoc, ← List.map_append, List.take_add]

theorem sureG_bad (g : Gt) (k : Int) (h : rightB g.held = false ∨ spanB k = false) : (sureG g k).2 = 1 := by unfold sureG; rw [if_pos h]
theorem once_walk (A : Option Addr) (c : Nat) (B : Option Addr) (d : Nat) (h : List Hld) (t : List Tld) (p q : Int) (w : World) (hs1 : Sl 3 Hld.enc w A h) (hs2 : Sl 2 Tld.enc w B t) :
    Calls Try.prog 5 #[.agg #[.slice A h.length c, .slice B t.length d], .int .i64 p, .int .i64 q] w fun e w' => e = .returned (.bool true) ∧ Below w.heap.size w w' := by
  have hg : GateIn w A B h t := ⟨hs1, hs2⟩
  obtain ⟨n, hn⟩ : ∃ n, h.length = n := ⟨_, rfl⟩
  obtain ⟨m, hm⟩ : ∃ m, t.length = m := ⟨_, rfl⟩
  rw [hn, hm]
  by_cases h80 : n ≤ 80
  · by_cases h100 : m ≤ 100
    · obtain ⟨g, rfl, rfl⟩ : ∃ g : Gt, g.held = h ∧ g.out = t := ⟨⟨h, t⟩, rfl, rfl⟩
      cases hr : rightB g.held with
      | false => exact once_right A B c d n m g p q w hg hn hm h80 h100 (sureG g (min p q)).1 (sureG (sureG g (min p q)).1 (max p q)).1 (sureG g (max p q)).1 (backG g 0).1 (sureG g (min p q)).2 (sureG (sureG g (min p q)).1 (max p q)).2 (sureG g (max p q)).2 (backG g 0).2 rfl rfl rfl rfl hr (sureG_bad _ _ (.inl hr))
      | true =>
        by_cases hlo : min p q < 0
        · have hsp : spanB (min p q) = false := by simp [spanB]; omega
          exact once_low A B c d n m g p q w hg hn hm h80 h100 (sureG g (min p q)).1 (sureG (sureG g (min p q)).1 (max p q)).1 (sureG g (max p q)).1 (backG g 0).1 (sureG g (min p q)).2 (sureG (sureG g (min p q)).1 (max p q)).2 (sureG g (max p q)).2 (backG g 0).2 rfl rfl rfl rfl hr hlo (sureG_bad _ _ (.inr hsp))
        · by_cases hhi : 1099511627776 < max p q
          · have hsp : spanB (max p q) = false := by simp [spanB]; omega
            exact once_high A B c d n m g p q w hg hn hm h80 h100 (sureG g (min p q)).1 (sureG (sureG g (min p q)).1 (max p q)).1 (sureG g (max p q)).1 (backG g 0).1 (sureG g (min p q)).2 (sureG (sureG g (min p q)).1 (max p q)).2 (sureG g (max p q)).2 (backG g 0).2 rfl rfl rfl rfl hr hlo hhi (sureG_bad _ _ (.inr hsp))
          · have hp1 : spanB (min p q) = true := by simp [spanB]; omega
            have hq1 : spanB (max p q) = true := by simp [spanB]; omega
            have e2 := sure_two hr hp1 hq1 (by omega : min p q ≤ max p q)
            have k3 : (sureG g (max p q)).2 = 0 := by unfold sureG; rw [if_neg (by simp [hr, hq1])]
            have k1 : (sureG g (min p q)).2 = 0 := by unfold sureG; rw [if_neg (by simp [hr, hp1])]
            have e4 : backG g 0 = (⟨[], g.out⟩, 0) := by unfold backG; rw [if_neg (by simp [hr, spanB]), belowN_zero hr]; rfl
            exact once_good A B c d n m g p q w hg hn hm h80 h100 (sureG g (min p q)).1 (sureG (sureG g (min p q)).1 (max p q)).1 (sureG g (max p q)).1 (backG g 0).1 (sureG g (min p q)).2 (sureG (sureG g (min p q)).1 (max p q)).2 (sureG g (max p q)).2 (backG g 0).2 rfl rfl rfl rfl hr hlo hhi k1 (by rw [e2]; exact k3) k3 (by rw [e4]) (by rw [e2]) (by rw [e4])
    · have hn1z : ¬ 80 < (n : Int) := by omega
      have hm1z : 100 < (m : Int) := by omega
      have b : Below w.heap.size w (w.alloc (.cells #[.slice A n c, .slice B m d] 25)) := (Below.refl _ _).alloc (Nat.le_refl _) _
      clear hg hs1 hs2
      go_enter Try.func5, Try.ntmps5
      go_wp2_with (go_at_call 6; refine (awake_any _).mono ?_; rintro e w1 ⟨rfl, hb1⟩; have e0 : w1.cell? ⟨w.heap.size, 0, none⟩ = some (.slice A n c) := (hb1.cell (p := ⟨w.heap.size, 0, none⟩) (by simp)).trans (by go_simp); have e1 : w1.cell? ⟨w.heap.size, 1, none⟩ = some (.slice B m d) := (hb1.cell (p := ⟨w.heap.size, 1, none⟩) (by simp)).trans (by go_simp))
      go_ret
      exact ⟨rfl, b.trans (hb1.mono b.size)⟩
  · have hn1z : 80 < (n : Int) := by omega
    have b : Below w.heap.size w (w.alloc (.cells #[.slice A n c, .slice B m d] 25)) := (Below.refl _ _).alloc (Nat.le_refl _) _
    clear hg hs1 hs2
    go_enter Try.func5, Try.ntmps5
    go_wp2_with (go_at_call 6; refine (awake_any _).mono ?_; rintro e w1 ⟨rfl, hb1⟩; have e0 : w1.cell? ⟨w.heap.size, 0, none⟩ = some (.slice A n c) := (hb1.cell (p := ⟨w.heap.size, 0, none⟩) (by simp)).trans (by go_simp); have e1 : w1.cell? ⟨w.heap.size, 1, none⟩ = some (.slice B m d) := (hb1.cell (p := ⟨w.heap.size, 1, none⟩) (by simp)).trans (by go_simp))
    go_ret
    exact ⟨rfl, b.trans (hb1.mono b.size)⟩
end Go.Proofs.Ytkkbpcnoamagcaa
