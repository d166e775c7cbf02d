/- Walks of commit: Back, Sure. -/
import Derived.Test.YtkkbpcnoamagcaaE
namespace Go.Proofs.Ytkkbpcnoamagcaa
open Go.RowKit Go.Lib

theorem begin_sure (A B : Option Addr) (c d n m : Nat) (w : World) (W0 : World) (hW0 : ((w.alloc (.cells #[.slice A n c, .slice B m d] 25)).alloc (.cells #[.slice none 0 0, .slice none 0 0] 25)) = W0) :
    Below w.heap.size w W0 ∧ W0.cell? ⟨w.heap.size, 0, none⟩ = some (.slice A n c) ∧ W0.cell? ⟨w.heap.size, 1, none⟩ = some (.slice B m d) ∧ W0.cell? ⟨w.heap.size + 1, 0, none⟩ = some (.slice none 0 0) ∧ W0.cell? ⟨w.heap.size + 1, 1, none⟩ = some (.slice none 0 0) ∧ W0.frozen? ⟨w.heap.size + 1, 0, none⟩ = false ∧ W0.frozen? ⟨w.heap.size + 1, 1, none⟩ = false ∧ w.heap.size < W0.heap.size ∧ w.heap.size + 1 < W0.heap.size := by
  have b : Below w.heap.size w W0 := by subst hW0; exact ((Below.refl _ _).alloc (Nat.le_refl _) _).alloc (by simp) _
  have e0 : W0.cell? ⟨w.heap.size, 0, none⟩ = some (.slice A n c) := by subst hW0; go_simp
  have e1 : W0.cell? ⟨w.heap.size, 1, none⟩ = some (.slice B m d) := by subst hW0; go_simp
  have r0 : W0.cell? ⟨w.heap.size + 1, 0, none⟩ = some (.slice none 0 0) := by subst hW0; go_simp
  have r1 : W0.cell? ⟨w.heap.size + 1, 1, none⟩ = some (.slice none 0 0) := by subst hW0; go_simp
  have fr0 : W0.frozen? ⟨w.heap.size + 1, 0, none⟩ = false := by subst hW0; go_simp
  have fr1 : W0.frozen? ⟨w.heap.size + 1, 1, none⟩ = false := by subst hW0; go_simp
  have lt0 : w.heap.size < W0.heap.size := by subst hW0; simp <;> omega
  have lt1 : w.heap.size + 1 < W0.heap.size := by subst hW0; simp <;> omega
  exact ⟨b, e0, e1, r0, r1, fr0, fr1, lt0, lt1⟩

theorem gave_cut {w w' : World} {A1 A2 : Option Addr} {c1 c2 n m base r at0 : Nat} {k : Int} {g : Gt}
    (hn : g.held.length = n) (hm : g.out.length = m) (hat : at0 ≤ n) (own1 : w'.ownsRow base 51 3 (.slice A1 n c1) n (g.held.flatMap Hld.enc)) (own2 : w'.ownsRow base 28 2 (.slice A2 m c2) m (g.out.flatMap Tld.enc)) (hlt : r < base) (hr : w.heap.size ≤ r) (b : Below w.heap.size w w') :
    GaveF w ⟨g.held.take at0, g.out⟩ k (.returned (.tuple #[.agg #[.slice A1 at0 c1, .slice A2 m c2], .int .i64 k])) ((w'.setCell ⟨r, 0, none⟩ (.slice A1 at0 c1)).setCell ⟨r, 1, none⟩ (.slice A2 m c2)) := by
  subst hn
  subst hm
  have hl : (g.held.take at0).length = at0 := by rw [List.length_take]; omega
  exact ⟨A1, c1, A2, c2, by simp only [hl], ⟨(Sl.of_own Hld.enc_len (ownsRow_setCell_below (ownsRow_setCell_below own1 hlt _) hlt _) rfl).take at0, Sl.of_own Tld.enc_len (ownsRow_setCell_below (ownsRow_setCell_below own2 hlt _) hlt _) rfl⟩, (b.setCell hr _).setCell hr _, own_fresh own1 (by omega), own_fresh own2 (by omega), (own_cap own2).1⟩

set_option maxHeartbeats 4000000 in
theorem Back_bad (A B : Option Addr) (c d n m : Nat) (k : Int) (g : Gt) (w : World) (hg : GateIn w A B g.held g.out) (hn : g.held.length = n) (hm : g.out.length = m) (hn1 : n ≤ 1000000) (hm1 : m ≤ 1000000)
    (hbad : rightB g.held = false) :
    Calls Try.prog 12 #[.agg #[.slice A n c, .slice B m d], .int .i64 k] w (GaveF w g 1) := by
  have cC := fun w1 (hb : Below w.heap.size w w1) => copied_any A B c d n m g.held g.out w1 (hg.below hb) hn hm hn1 hm1
  have cR := fun w1 (hb : Below w.heap.size w w1) => Right_any A B c d n m g.held g.out w1 (hg.below hb) hn
  rw [hbad] at cR
  clear hbad
  have HN := Lib.hid hn
  have HM := Lib.hid hm
  clear hg hn hm
  go_enter Try.func12, Try.ntmps12
  go_wp2_with fail
  obtain ⟨b, e0, e1, r0, r1, fr0, fr1, lt0, lt1⟩ := begin_sure A B c d n m w _ rfl
  generalize ((w.alloc (.cells #[.slice A n c, .slice B m d] 25)).alloc (.cells #[.slice none 0 0, .slice none 0 0] 25)) = W0 at *
  refine (cC _ b).mono ?_
  rintro e w1 ⟨v1, v2, rfl, own1, own2, hb1⟩
  have ltB := lt1
  have bB := b.size
  have ob1 := own1.lt
  have ob2 := own2.lt
  obtain ⟨A1, c1, rfl⟩ := own_shape own1
  obtain ⟨A2, c2, rfl⟩ := own_shape own2
  replace e0 := (hb1.cell (p := ⟨w.heap.size, 0, none⟩) (World.block_lt_of_cell? _ _ e0)).trans e0
  replace e1 := (hb1.cell (p := ⟨w.heap.size, 1, none⟩) (World.block_lt_of_cell? _ _ e1)).trans e1
  replace r0 := (hb1.cell (p := ⟨w.heap.size + 1, 0, none⟩) (World.block_lt_of_cell? _ _ r0)).trans r0
  replace r1 := (hb1.cell (p := ⟨w.heap.size + 1, 1, none⟩) (World.block_lt_of_cell? _ _ r1)).trans r1
  replace fr0 := (hb1.frozen (p := ⟨w.heap.size + 1, 0, none⟩) lt1).trans fr0
  replace fr1 := (hb1.frozen (p := ⟨w.heap.size + 1, 1, none⟩) lt1).trans fr1
  replace lt0 := Nat.lt_of_lt_of_le lt0 hb1.size
  replace lt1 := Nat.lt_of_lt_of_le lt1 hb1.size
  replace b := b.trans (hb1.mono b.size)
  have hsz1 := hb1.size
  clear hb1
  go_wp2_with fail
  replace e0 : (w1.alloc (.cells #[.slice A1 n c1, .slice A2 m c2] 25)).cell? ⟨w.heap.size, 0, none⟩ = some (.slice A n c) := (World.cell?_alloc_lt w1 _ ⟨w.heap.size, 0, none⟩ (World.block_lt_of_cell? _ _ e0)).trans e0
  replace e1 : (w1.alloc (.cells #[.slice A1 n c1, .slice A2 m c2] 25)).cell? ⟨w.heap.size, 1, none⟩ = some (.slice B m d) := (World.cell?_alloc_lt w1 _ ⟨w.heap.size, 1, none⟩ (World.block_lt_of_cell? _ _ e1)).trans e1
  replace r0 : (w1.alloc (.cells #[.slice A1 n c1, .slice A2 m c2] 25)).cell? ⟨w.heap.size + 1, 0, none⟩ = some (.slice none 0 0) := (World.cell?_alloc_lt w1 _ ⟨w.heap.size + 1, 0, none⟩ (World.block_lt_of_cell? _ _ r0)).trans r0
  replace r1 : (w1.alloc (.cells #[.slice A1 n c1, .slice A2 m c2] 25)).cell? ⟨w.heap.size + 1, 1, none⟩ = some (.slice none 0 0) := (World.cell?_alloc_lt w1 _ ⟨w.heap.size + 1, 1, none⟩ (World.block_lt_of_cell? _ _ r1)).trans r1
  replace fr0 : (w1.alloc (.cells #[.slice A1 n c1, .slice A2 m c2] 25)).frozen? ⟨w.heap.size + 1, 0, none⟩ = false := (((Below.refl w1.heap.size w1).alloc (Nat.le_refl _) _).frozen (p := ⟨w.heap.size + 1, 0, none⟩) lt1).trans fr0
  replace fr1 : (w1.alloc (.cells #[.slice A1 n c1, .slice A2 m c2] 25)).frozen? ⟨w.heap.size + 1, 1, none⟩ = false := (((Below.refl w1.heap.size w1).alloc (Nat.le_refl _) _).frozen (p := ⟨w.heap.size + 1, 1, none⟩) lt1).trans fr1
  have h0 : (w1.alloc (.cells #[.slice A1 n c1, .slice A2 m c2] 25)).cell? ⟨w1.heap.size, 0, none⟩ = some (.slice A1 n c1) := World.cell?_alloc_new (w := w1) _ _ _
  have h1 : (w1.alloc (.cells #[.slice A1 n c1, .slice A2 m c2] 25)).cell? ⟨w1.heap.size, 1, none⟩ = some (.slice A2 m c2) := World.cell?_alloc_new (w := w1) _ _ _
  have fh0 : (w1.alloc (.cells #[.slice A1 n c1, .slice A2 m c2] 25)).frozen? ⟨w1.heap.size, 0, none⟩ = false := by go_simp
  have fh1 : (w1.alloc (.cells #[.slice A1 n c1, .slice A2 m c2] 25)).frozen? ⟨w1.heap.size, 1, none⟩ = false := by go_simp
  replace lt0 : _ < (w1.alloc (.cells #[.slice A1 n c1, .slice A2 m c2] 25)).heap.size := Nat.lt_of_lt_of_le lt0 (by simp)
  replace lt1 : _ < (w1.alloc (.cells #[.slice A1 n c1, .slice A2 m c2] 25)).heap.size := Nat.lt_of_lt_of_le lt1 (by simp)
  replace own1 := own1.alloc (.cells #[.slice A1 n c1, .slice A2 m c2] 25)
  replace own2 := own2.alloc (.cells #[.slice A1 n c1, .slice A2 m c2] 25)
  replace b := b.alloc b.size (.cells #[.slice A1 n c1, .slice A2 m c2] 25)
  have ltH : w1.heap.size < (w1.alloc (.cells #[.slice A1 n c1, .slice A2 m c2] 25)).heap.size := by simp
  generalize hw_w2 : w1.alloc (.cells #[.slice A1 n c1, .slice A2 m c2] 25) = w2 at *
  clear hw_w2
  have hWH : W0.heap.size ≤ w1.heap.size := hsz1
  generalize w1.heap.size = H at *
  refine (cR _ b).mono ?_
  rintro e w3 ⟨rfl, hb3⟩
  replace e0 := (hb3.cell (p := ⟨w.heap.size, 0, none⟩) (World.block_lt_of_cell? _ _ e0)).trans e0
  replace e1 := (hb3.cell (p := ⟨w.heap.size, 1, none⟩) (World.block_lt_of_cell? _ _ e1)).trans e1
  replace r0 := (hb3.cell (p := ⟨w.heap.size + 1, 0, none⟩) (World.block_lt_of_cell? _ _ r0)).trans r0
  replace r1 := (hb3.cell (p := ⟨w.heap.size + 1, 1, none⟩) (World.block_lt_of_cell? _ _ r1)).trans r1
  replace h0 := (hb3.cell (p := ⟨H, 0, none⟩) (World.block_lt_of_cell? _ _ h0)).trans h0
  replace h1 := (hb3.cell (p := ⟨H, 1, none⟩) (World.block_lt_of_cell? _ _ h1)).trans h1
  replace fr0 := (hb3.frozen (p := ⟨w.heap.size + 1, 0, none⟩) lt1).trans fr0
  replace fr1 := (hb3.frozen (p := ⟨w.heap.size + 1, 1, none⟩) lt1).trans fr1
  replace fh0 := (hb3.frozen (p := ⟨H, 0, none⟩) ltH).trans fh0
  replace fh1 := (hb3.frozen (p := ⟨H, 1, none⟩) ltH).trans fh1
  replace lt0 := Nat.lt_of_lt_of_le lt0 hb3.size
  replace lt1 := Nat.lt_of_lt_of_le lt1 hb3.size
  replace ltH := Nat.lt_of_lt_of_le ltH hb3.size
  replace own1 := own_below own1 hb3
  replace own2 := own_below own2 hb3
  replace b := b.trans (hb3.mono b.size)
  clear hb3
  go_wp2_with fail
  exact bodyPost_ret (v := .tuple #[.agg #[.slice A1 n c1, .slice A2 m c2], .int .i64 1]) (by simp [results, Try.results12, go_sem, r0, r1]) rfl (gave_back HN.out HM.out own1 own2 ltB (by omega) b)

set_option maxHeartbeats 4000000 in
theorem Back_span (A B : Option Addr) (c d n m : Nat) (k : Int) (g : Gt) (w : World) (hg : GateIn w A B g.held g.out) (hn : g.held.length = n) (hm : g.out.length = m) (hn1 : n ≤ 1000000) (hm1 : m ≤ 1000000)
    (hgood : rightB g.held = true) (hbad : spanB k = false) :
    Calls Try.prog 12 #[.agg #[.slice A n c, .slice B m d], .int .i64 k] w (GaveF w g 1) := by
  have cC := fun w1 (hb : Below w.heap.size w w1) => copied_any A B c d n m g.held g.out w1 (hg.below hb) hn hm hn1 hm1
  have cR := fun w1 (hb : Below w.heap.size w w1) => Right_any A B c d n m g.held g.out w1 (hg.below hb) hn
  rw [hgood] at cR
  clear hgood
  have HN := Lib.hid hn
  have HM := Lib.hid hm
  clear hg hn hm
  go_enter Try.func12, Try.ntmps12
  go_wp2_with fail
  obtain ⟨b, e0, e1, r0, r1, fr0, fr1, lt0, lt1⟩ := begin_sure A B c d n m w _ rfl
  generalize ((w.alloc (.cells #[.slice A n c, .slice B m d] 25)).alloc (.cells #[.slice none 0 0, .slice none 0 0] 25)) = W0 at *
  refine (cC _ b).mono ?_
  rintro e w1 ⟨v1, v2, rfl, own1, own2, hb1⟩
  have ltB := lt1
  have bB := b.size
  have ob1 := own1.lt
  have ob2 := own2.lt
  obtain ⟨A1, c1, rfl⟩ := own_shape own1
  obtain ⟨A2, c2, rfl⟩ := own_shape own2
  replace e0 := (hb1.cell (p := ⟨w.heap.size, 0, none⟩) (World.block_lt_of_cell? _ _ e0)).trans e0
  replace e1 := (hb1.cell (p := ⟨w.heap.size, 1, none⟩) (World.block_lt_of_cell? _ _ e1)).trans e1
  replace r0 := (hb1.cell (p := ⟨w.heap.size + 1, 0, none⟩) (World.block_lt_of_cell? _ _ r0)).trans r0
  replace r1 := (hb1.cell (p := ⟨w.heap.size + 1, 1, none⟩) (World.block_lt_of_cell? _ _ r1)).trans r1
  replace fr0 := (hb1.frozen (p := ⟨w.heap.size + 1, 0, none⟩) lt1).trans fr0
  replace fr1 := (hb1.frozen (p := ⟨w.heap.size + 1, 1, none⟩) lt1).trans fr1
  replace lt0 := Nat.lt_of_lt_of_le lt0 hb1.size
  replace lt1 := Nat.lt_of_lt_of_le lt1 hb1.size
  replace b := b.trans (hb1.mono b.size)
  have hsz1 := hb1.size
  clear hb1
  go_wp2_with fail
  replace e0 : (w1.alloc (.cells #[.slice A1 n c1, .slice A2 m c2] 25)).cell? ⟨w.heap.size, 0, none⟩ = some (.slice A n c) := (World.cell?_alloc_lt w1 _ ⟨w.heap.size, 0, none⟩ (World.block_lt_of_cell? _ _ e0)).trans e0
  replace e1 : (w1.alloc (.cells #[.slice A1 n c1, .slice A2 m c2] 25)).cell? ⟨w.heap.size, 1, none⟩ = some (.slice B m d) := (World.cell?_alloc_lt w1 _ ⟨w.heap.size, 1, none⟩ (World.block_lt_of_cell? _ _ e1)).trans e1
  replace r0 : (w1.alloc (.cells #[.slice A1 n c1, .slice A2 m c2] 25)).cell? ⟨w.heap.size + 1, 0, none⟩ = some (.slice none 0 0) := (World.cell?_alloc_lt w1 _ ⟨w.heap.size + 1, 0, none⟩ (World.block_lt_of_cell? _ _ r0)).trans r0
  replace r1 : (w1.alloc (.cells #[.slice A1 n c1, .slice A2 m c2] 25)).cell? ⟨w.heap.size + 1, 1, none⟩ = some (.slice none 0 0) := (World.cell?_alloc_lt w1 _ ⟨w.heap.size + 1, 1, none⟩ (World.block_lt_of_cell? _ _ r1)).trans r1
  replace fr0 : (w1.alloc (.cells #[.slice A1 n c1, .slice A2 m c2] 25)).frozen? ⟨w.heap.size + 1, 0, none⟩ = false := (((Below.refl w1.heap.size w1).alloc (Nat.le_refl _) _).frozen (p := ⟨w.heap.size + 1, 0, none⟩) lt1).trans fr0
  replace fr1 : (w1.alloc (.cells #[.slice A1 n c1, .slice A2 m c2] 25)).frozen? ⟨w.heap.size + 1, 1, none⟩ = false := (((Below.refl w1.heap.size w1).alloc (Nat.le_refl _) _).frozen (p := ⟨w.heap.size + 1, 1, none⟩) lt1).trans fr1
  have h0 : (w1.alloc (.cells #[.slice A1 n c1, .slice A2 m c2] 25)).cell? ⟨w1.heap.size, 0, none⟩ = some (.slice A1 n c1) := World.cell?_alloc_new (w := w1) _ _ _
  have h1 : (w1.alloc (.cells #[.slice A1 n c1, .slice A2 m c2] 25)).cell? ⟨w1.heap.size, 1, none⟩ = some (.slice A2 m c2) := World.cell?_alloc_new (w := w1) _ _ _
  have fh0 : (w1.alloc (.cells #[.slice A1 n c1, .slice A2 m c2] 25)).frozen? ⟨w1.heap.size, 0, none⟩ = false := by go_simp
  have fh1 : (w1.alloc (.cells #[.slice A1 n c1, .slice A2 m c2] 25)).frozen? ⟨w1.heap.size, 1, none⟩ = false := by go_simp
  replace lt0 : _ < (w1.alloc (.cells #[.slice A1 n c1, .slice A2 m c2] 25)).heap.size := Nat.lt_of_lt_of_le lt0 (by simp)
  replace lt1 : _ < (w1.alloc (.cells #[.slice A1 n c1, .slice A2 m c2] 25)).heap.size := Nat.lt_of_lt_of_le lt1 (by simp)
  replace own1 := own1.alloc (.cells #[.slice A1 n c1, .slice A2 m c2] 25)
  replace own2 := own2.alloc (.cells #[.slice A1 n c1, .slice A2 m c2] 25)
  replace b := b.alloc b.size (.cells #[.slice A1 n c1, .slice A2 m c2] 25)
  have ltH : w1.heap.size < (w1.alloc (.cells #[.slice A1 n c1, .slice A2 m c2] 25)).heap.size := by simp
  generalize hw_w2 : w1.alloc (.cells #[.slice A1 n c1, .slice A2 m c2] 25) = w2 at *
  clear hw_w2
  have hWH : W0.heap.size ≤ w1.heap.size := hsz1
  generalize w1.heap.size = H at *
  refine (cR _ b).mono ?_
  rintro e w3 ⟨rfl, hb3⟩
  replace e0 := (hb3.cell (p := ⟨w.heap.size, 0, none⟩) (World.block_lt_of_cell? _ _ e0)).trans e0
  replace e1 := (hb3.cell (p := ⟨w.heap.size, 1, none⟩) (World.block_lt_of_cell? _ _ e1)).trans e1
  replace r0 := (hb3.cell (p := ⟨w.heap.size + 1, 0, none⟩) (World.block_lt_of_cell? _ _ r0)).trans r0
  replace r1 := (hb3.cell (p := ⟨w.heap.size + 1, 1, none⟩) (World.block_lt_of_cell? _ _ r1)).trans r1
  replace h0 := (hb3.cell (p := ⟨H, 0, none⟩) (World.block_lt_of_cell? _ _ h0)).trans h0
  replace h1 := (hb3.cell (p := ⟨H, 1, none⟩) (World.block_lt_of_cell? _ _ h1)).trans h1
  replace fr0 := (hb3.frozen (p := ⟨w.heap.size + 1, 0, none⟩) lt1).trans fr0
  replace fr1 := (hb3.frozen (p := ⟨w.heap.size + 1, 1, none⟩) lt1).trans fr1
  replace fh0 := (hb3.frozen (p := ⟨H, 0, none⟩) ltH).trans fh0
  replace fh1 := (hb3.frozen (p := ⟨H, 1, none⟩) ltH).trans fh1
  replace lt0 := Nat.lt_of_lt_of_le lt0 hb3.size
  replace lt1 := Nat.lt_of_lt_of_le lt1 hb3.size
  replace ltH := Nat.lt_of_lt_of_le ltH hb3.size
  replace own1 := own_below own1 hb3
  replace own2 := own_below own2 hb3
  replace b := b.trans (hb3.mono b.size)
  clear hb3
  go_wp2_with fail
  refine (span_any _ _).mono ?_
  rintro e w4 ⟨rfl, hw4⟩
  have hw4' := hw4.symm
  subst hw4'
  rw [hbad]
  clear hbad
  go_wp2_with fail
  exact bodyPost_ret (v := .tuple #[.agg #[.slice A1 n c1, .slice A2 m c2], .int .i64 1]) (by simp [results, Try.results12, go_sem, r0, r1]) rfl (gave_back HN.out HM.out own1 own2 ltB (by omega) b)

set_option maxHeartbeats 4000000 in
theorem Sure_bad (A B : Option Addr) (c d n m : Nat) (k : Int) (g : Gt) (w : World) (hg : GateIn w A B g.held g.out) (hn : g.held.length = n) (hm : g.out.length = m) (hn1 : n ≤ 1000000) (hm1 : m ≤ 1000000)
    (hbad : rightB g.held = false) :
    Calls Try.prog 10 #[.agg #[.slice A n c, .slice B m d], .int .i64 k] w (GaveF w g 1) := by
  have cC := fun w1 (hb : Below w.heap.size w w1) => copied_any A B c d n m g.held g.out w1 (hg.below hb) hn hm hn1 hm1
  have cR := fun w1 (hb : Below w.heap.size w w1) => Right_any A B c d n m g.held g.out w1 (hg.below hb) hn
  rw [hbad] at cR
  clear hbad
  have HN := Lib.hid hn
  have HM := Lib.hid hm
  clear hg hn hm
  go_enter Try.func10, Try.ntmps10
  go_wp2_with fail
  obtain ⟨b, e0, e1, r0, r1, fr0, fr1, lt0, lt1⟩ := begin_sure A B c d n m w _ rfl
  generalize ((w.alloc (.cells #[.slice A n c, .slice B m d] 25)).alloc (.cells #[.slice none 0 0, .slice none 0 0] 25)) = W0 at *
  refine (cC _ b).mono ?_
  rintro e w1 ⟨v1, v2, rfl, own1, own2, hb1⟩
  have ltB := lt1
  have bB := b.size
  have ob1 := own1.lt
  have ob2 := own2.lt
  obtain ⟨A1, c1, rfl⟩ := own_shape own1
  obtain ⟨A2, c2, rfl⟩ := own_shape own2
  replace e0 := (hb1.cell (p := ⟨w.heap.size, 0, none⟩) (World.block_lt_of_cell? _ _ e0)).trans e0
  replace e1 := (hb1.cell (p := ⟨w.heap.size, 1, none⟩) (World.block_lt_of_cell? _ _ e1)).trans e1
  replace r0 := (hb1.cell (p := ⟨w.heap.size + 1, 0, none⟩) (World.block_lt_of_cell? _ _ r0)).trans r0
  replace r1 := (hb1.cell (p := ⟨w.heap.size + 1, 1, none⟩) (World.block_lt_of_cell? _ _ r1)).trans r1
  replace fr0 := (hb1.frozen (p := ⟨w.heap.size + 1, 0, none⟩) lt1).trans fr0
  replace fr1 := (hb1.frozen (p := ⟨w.heap.size + 1, 1, none⟩) lt1).trans fr1
  replace lt0 := Nat.lt_of_lt_of_le lt0 hb1.size
  replace lt1 := Nat.lt_of_lt_of_le lt1 hb1.size
  replace b := b.trans (hb1.mono b.size)
  have hsz1 := hb1.size
  clear hb1
  go_wp2_with fail
  replace e0 : (w1.alloc (.cells #[.slice A1 n c1, .slice A2 m c2] 25)).cell? ⟨w.heap.size, 0, none⟩ = some (.slice A n c) := (World.cell?_alloc_lt w1 _ ⟨w.heap.size, 0, none⟩ (World.block_lt_of_cell? _ _ e0)).trans e0
  replace e1 : (w1.alloc (.cells #[.slice A1 n c1, .slice A2 m c2] 25)).cell? ⟨w.heap.size, 1, none⟩ = some (.slice B m d) := (World.cell?_alloc_lt w1 _ ⟨w.heap.size, 1, none⟩ (World.block_lt_of_cell? _ _ e1)).trans e1
  replace r0 : (w1.alloc (.cells #[.slice A1 n c1, .slice A2 m c2] 25)).cell? ⟨w.heap.size + 1, 0, none⟩ = some (.slice none 0 0) := (World.cell?_alloc_lt w1 _ ⟨w.heap.size + 1, 0, none⟩ (World.block_lt_of_cell? _ _ r0)).trans r0
  replace r1 : (w1.alloc (.cells #[.slice A1 n c1, .slice A2 m c2] 25)).cell? ⟨w.heap.size + 1, 1, none⟩ = some (.slice none 0 0) := (World.cell?_alloc_lt w1 _ ⟨w.heap.size + 1, 1, none⟩ (World.block_lt_of_cell? _ _ r1)).trans r1
  replace fr0 : (w1.alloc (.cells #[.slice A1 n c1, .slice A2 m c2] 25)).frozen? ⟨w.heap.size + 1, 0, none⟩ = false := (((Below.refl w1.heap.size w1).alloc (Nat.le_refl _) _).frozen (p := ⟨w.heap.size + 1, 0, none⟩) lt1).trans fr0
  replace fr1 : (w1.alloc (.cells #[.slice A1 n c1, .slice A2 m c2] 25)).frozen? ⟨w.heap.size + 1, 1, none⟩ = false := (((Below.refl w1.heap.size w1).alloc (Nat.le_refl _) _).frozen (p := ⟨w.heap.size + 1, 1, none⟩) lt1).trans fr1
  have h0 : (w1.alloc (.cells #[.slice A1 n c1, .slice A2 m c2] 25)).cell? ⟨w1.heap.size, 0, none⟩ = some (.slice A1 n c1) := World.cell?_alloc_new (w := w1) _ _ _
  have h1 : (w1.alloc (.cells #[.slice A1 n c1, .slice A2 m c2] 25)).cell? ⟨w1.heap.size, 1, none⟩ = some (.slice A2 m c2) := World.cell?_alloc_new (w := w1) _ _ _
  have fh0 : (w1.alloc (.cells #[.slice A1 n c1, .slice A2 m c2] 25)).frozen? ⟨w1.heap.size, 0, none⟩ = false := by go_simp
  have fh1 : (w1.alloc (.cells #[.slice A1 n c1, .slice A2 m c2] 25)).frozen? ⟨w1.heap.size, 1, none⟩ = false := by go_simp
  replace lt0 : _ < (w1.alloc (.cells #[.slice A1 n c1, .slice A2 m c2] 25)).heap.size := Nat.lt_of_lt_of_le lt0 (by simp)
  replace lt1 : _ < (w1.alloc (.cells #[.slice A1 n c1, .slice A2 m c2] 25)).heap.size := Nat.lt_of_lt_of_le lt1 (by simp)
  replace own1 := own1.alloc (.cells #[.slice A1 n c1, .slice A2 m c2] 25)
  replace own2 := own2.alloc (.cells #[.slice A1 n c1, .slice A2 m c2] 25)
  replace b := b.alloc b.size (.cells #[.slice A1 n c1, .slice A2 m c2] 25)
  have ltH : w1.heap.size < (w1.alloc (.cells #[.slice A1 n c1, .slice A2 m c2] 25)).heap.size := by simp
  generalize hw_w2 : w1.alloc (.cells #[.slice A1 n c1, .slice A2 m c2] 25) = w2 at *
  clear hw_w2
  have hWH : W0.heap.size ≤ w1.heap.size := hsz1
  generalize w1.heap.size = H at *
  refine (cR _ b).mono ?_
  rintro e w3 ⟨rfl, hb3⟩
  replace e0 := (hb3.cell (p := ⟨w.heap.size, 0, none⟩) (World.block_lt_of_cell? _ _ e0)).trans e0
  replace e1 := (hb3.cell (p := ⟨w.heap.size, 1, none⟩) (World.block_lt_of_cell? _ _ e1)).trans e1
  replace r0 := (hb3.cell (p := ⟨w.heap.size + 1, 0, none⟩) (World.block_lt_of_cell? _ _ r0)).trans r0
  replace r1 := (hb3.cell (p := ⟨w.heap.size + 1, 1, none⟩) (World.block_lt_of_cell? _ _ r1)).trans r1
  replace h0 := (hb3.cell (p := ⟨H, 0, none⟩) (World.block_lt_of_cell? _ _ h0)).trans h0
  replace h1 := (hb3.cell (p := ⟨H, 1, none⟩) (World.block_lt_of_cell? _ _ h1)).trans h1
  replace fr0 := (hb3.frozen (p := ⟨w.heap.size + 1, 0, none⟩) lt1).trans fr0
  replace fr1 := (hb3.frozen (p := ⟨w.heap.size + 1, 1, none⟩) lt1).trans fr1
  replace fh0 := (hb3.frozen (p := ⟨H, 0, none⟩) ltH).trans fh0
  replace fh1 := (hb3.frozen (p := ⟨H, 1, none⟩) ltH).trans fh1
  replace lt0 := Nat.lt_of_lt_of_le lt0 hb3.size
  replace lt1 := Nat.lt_of_lt_of_le lt1 hb3.size
  replace ltH := Nat.lt_of_lt_of_le ltH hb3.size
  replace own1 := own_below own1 hb3
  replace own2 := own_below own2 hb3
  replace b := b.trans (hb3.mono b.size)
  clear hb3
  go_wp2_with fail
  exact bodyPost_ret (v := .tuple #[.agg #[.slice A1 n c1, .slice A2 m c2], .int .i64 1]) (by simp [results, Try.results10, go_sem, r0, r1]) rfl (gave_back HN.out HM.out own1 own2 ltB (by omega) b)

set_option maxHeartbeats 4000000 in
theorem Sure_span (A B : Option Addr) (c d n m : Nat) (k : Int) (g : Gt) (w : World) (hg : GateIn w A B g.held g.out) (hn : g.held.length = n) (hm : g.out.length = m) (hn1 : n ≤ 1000000) (hm1 : m ≤ 1000000)
    (hgood : rightB g.held = true) (hbad : spanB k = false) :
    Calls Try.prog 10 #[.agg #[.slice A n c, .slice B m d], .int .i64 k] w (GaveF w g 1) := by
  have cC := fun w1 (hb : Below w.heap.size w w1) => copied_any A B c d n m g.held g.out w1 (hg.below hb) hn hm hn1 hm1
  have cR := fun w1 (hb : Below w.heap.size w w1) => Right_any A B c d n m g.held g.out w1 (hg.below hb) hn
  rw [hgood] at cR
  clear hgood
  have HN := Lib.hid hn
  have HM := Lib.hid hm
  clear hg hn hm
  go_enter Try.func10, Try.ntmps10
  go_wp2_with fail
  obtain ⟨b, e0, e1, r0, r1, fr0, fr1, lt0, lt1⟩ := begin_sure A B c d n m w _ rfl
  generalize ((w.alloc (.cells #[.slice A n c, .slice B m d] 25)).alloc (.cells #[.slice none 0 0, .slice none 0 0] 25)) = W0 at *
  refine (cC _ b).mono ?_
  rintro e w1 ⟨v1, v2, rfl, own1, own2, hb1⟩
  have ltB := lt1
  have bB := b.size
  have ob1 := own1.lt
  have ob2 := own2.lt
  obtain ⟨A1, c1, rfl⟩ := own_shape own1
  obtain ⟨A2, c2, rfl⟩ := own_shape own2
  replace e0 := (hb1.cell (p := ⟨w.heap.size, 0, none⟩) (World.block_lt_of_cell? _ _ e0)).trans e0
  replace e1 := (hb1.cell (p := ⟨w.heap.size, 1, none⟩) (World.block_lt_of_cell? _ _ e1)).trans e1
  replace r0 := (hb1.cell (p := ⟨w.heap.size + 1, 0, none⟩) (World.block_lt_of_cell? _ _ r0)).trans r0
  replace r1 := (hb1.cell (p := ⟨w.heap.size + 1, 1, none⟩) (World.block_lt_of_cell? _ _ r1)).trans r1
  replace fr0 := (hb1.frozen (p := ⟨w.heap.size + 1, 0, none⟩) lt1).trans fr0
  replace fr1 := (hb1.frozen (p := ⟨w.heap.size + 1, 1, none⟩) lt1).trans fr1
  replace lt0 := Nat.lt_of_lt_of_le lt0 hb1.size
  replace lt1 := Nat.lt_of_lt_of_le lt1 hb1.size
  replace b := b.trans (hb1.mono b.size)
  have hsz1 := hb1.size
  clear hb1
  go_wp2_with fail
  replace e0 : (w1.alloc (.cells #[.slice A1 n c1, .slice A2 m c2] 25)).cell? ⟨w.heap.size, 0, none⟩ = some (.slice A n c) := (World.cell?_alloc_lt w1 _ ⟨w.heap.size, 0, none⟩ (World.block_lt_of_cell? _ _ e0)).trans e0
  replace e1 : (w1.alloc (.cells #[.slice A1 n c1, .slice A2 m c2] 25)).cell? ⟨w.heap.size, 1, none⟩ = some (.slice B m d) := (World.cell?_alloc_lt w1 _ ⟨w.heap.size, 1, none⟩ (World.block_lt_of_cell? _ _ e1)).trans e1
  replace r0 : (w1.alloc (.cells #[.slice A1 n c1, .slice A2 m c2] 25)).cell? ⟨w.heap.size + 1, 0, none⟩ = some (.slice none 0 0) := (World.cell?_alloc_lt w1 _ ⟨w.heap.size + 1, 0, none⟩ (World.block_lt_of_cell? _ _ r0)).trans r0
  replace r1 : (w1.alloc (.cells #[.slice A1 n c1, .slice A2 m c2] 25)).cell? ⟨w.heap.size + 1, 1, none⟩ = some (.slice none 0 0) := (World.cell?_alloc_lt w1 _ ⟨w.heap.size + 1, 1, none⟩ (World.block_lt_of_cell? _ _ r1)).trans r1
  replace fr0 : (w1.alloc (.cells #[.slice A1 n c1, .slice A2 m c2] 25)).frozen? ⟨w.heap.size + 1, 0, none⟩ = false := (((Below.refl w1.heap.size w1).alloc (Nat.le_refl _) _).frozen (p := ⟨w.heap.size + 1, 0, none⟩) lt1).trans fr0
  replace fr1 : (w1.alloc (.cells #[.slice A1 n c1, .slice A2 m c2] 25)).frozen? ⟨w.heap.size + 1, 1, none⟩ = false := (((Below.refl w1.heap.size w1).alloc (Nat.le_refl _) _).frozen (p := ⟨w.heap.size + 1, 1, none⟩) lt1).trans fr1
  have h0 : (w1.alloc (.cells #[.slice A1 n c1, .slice A2 m c2] 25)).cell? ⟨w1.heap.size, 0, none⟩ = some (.slice A1 n c1) := World.cell?_alloc_new (w := w1) _ _ _
  have h1 : (w1.alloc (.cells #[.slice A1 n c1, .slice A2 m c2] 25)).cell? ⟨w1.heap.size, 1, none⟩ = some (.slice A2 m c2) := World.cell?_alloc_new (w := w1) _ _ _
  have fh0 : (w1.alloc (.cells #[.slice A1 n c1, .slice A2 m c2] 25)).frozen? ⟨w1.heap.size, 0, none⟩ = false := by go_simp
  have fh1 : (w1.alloc (.cells #[.slice A1 n c1, .slice A2 m c2] 25)).frozen? ⟨w1.heap.size, 1, none⟩ = false := by go_simp
  replace lt0 : _ < (w1.alloc (.cells #[.slice A1 n c1, .slice A2 m c2] 25)).heap.size := Nat.lt_of_lt_of_le lt0 (by simp)
  replace lt1 : _ < (w1.alloc (.cells #[.slice A1 n c1, .slice A2 m c2] 25)).heap.size := Nat.lt_of_lt_of_le lt1 (by simp)
  replace own1 := own1.alloc (.cells #[.slice A1 n c1, .slice A2 m c2] 25)
  replace own2 := own2.alloc (.cells #[.slice A1 n c1, .slice A2 m c2] 25)
  replace b := b.alloc b.size (.cells #[.slice A1 n c1, .slice A2 m c2] 25)
  have ltH : w1.heap.size < (w1.alloc (.cells #[.slice A1 n c1, .slice A2 m c2] 25)).heap.size := by simp
  generalize hw_w2 : w1.alloc (.cells #[.slice A1 n c1, .slice A2 m c2] 25) = w2 at *
  clear hw_w2
  have hWH : W0.heap.size ≤ w1.heap.size := hsz1
  generalize w1.heap.size = H at *
  refine (cR _ b).mono ?_
  rintro e w3 ⟨rfl, hb3⟩
  replace e0 := (hb3.cell (p := ⟨w.heap.size, 0, none⟩) (World.block_lt_of_cell? _ _ e0)).trans e0
  replace e1 := (hb3.cell (p := ⟨w.heap.size, 1, none⟩) (World.block_lt_of_cell? _ _ e1)).trans e1
  replace r0 := (hb3.cell (p := ⟨w.heap.size + 1, 0, none⟩) (World.block_lt_of_cell? _ _ r0)).trans r0
  replace r1 := (hb3.cell (p := ⟨w.heap.size + 1, 1, none⟩) (World.block_lt_of_cell? _ _ r1)).trans r1
  replace h0 := (hb3.cell (p := ⟨H, 0, none⟩) (World.block_lt_of_cell? _ _ h0)).trans h0
  replace h1 := (hb3.cell (p := ⟨H, 1, none⟩) (World.block_lt_of_cell? _ _ h1)).trans h1
  replace fr0 := (hb3.frozen (p := ⟨w.heap.size + 1, 0, none⟩) lt1).trans fr0
  replace fr1 := (hb3.frozen (p := ⟨w.heap.size + 1, 1, none⟩) lt1).trans fr1
  replace fh0 := (hb3.frozen (p := ⟨H, 0, none⟩) ltH).trans fh0
  replace fh1 := (hb3.frozen (p := ⟨H, 1, none⟩) ltH).trans fh1
  replace lt0 := Nat.lt_of_lt_of_le lt0 hb3.size
  replace lt1 := Nat.lt_of_lt_of_le lt1 hb3.size
  replace ltH := Nat.lt_of_lt_of_le ltH hb3.size
  replace own1 := own_below own1 hb3
  replace own2 := own_below own2 hb3
  replace b := b.trans (hb3.mono b.size)
  clear hb3
  go_wp2_with fail
  refine (span_any _ _).mono ?_
  rintro e w4 ⟨rfl, hw4⟩
  have hw4' := hw4.symm
  subst hw4'
  rw [hbad]
  clear hbad
  go_wp2_with fail
  exact bodyPost_ret (v := .tuple #[.agg #[.slice A1 n c1, .slice A2 m c2], .int .i64 1]) (by simp [results, Try.results10, go_sem, r0, r1]) rfl (gave_back HN.out HM.out own1 own2 ltB (by omega) b)

set_option maxHeartbeats 4000000 in
theorem Back_good (A B : Option Addr) (c d n m : Nat) (k : Int) (g : Gt) (w : World) (hg : GateIn w A B g.held g.out) (hn : g.held.length = n) (hm : g.out.length = m) (hn1 : n ≤ 1000000) (hm1 : m ≤ 1000000)
    (hgood : rightB g.held = true) (hsok : spanB k = true) :
    Calls Try.prog 12 #[.agg #[.slice A n c, .slice B m d], .int .i64 k] w (GaveF w ⟨g.held.take (belowN g.held k), g.out⟩ 0) := by
  have cC := fun w1 (hb : Below w.heap.size w w1) => copied_any A B c d n m g.held g.out w1 (hg.below hb) hn hm hn1 hm1
  have cR := fun w1 (hb : Below w.heap.size w w1) => Right_any A B c d n m g.held g.out w1 (hg.below hb) hn
  rw [hgood] at cR
  have hlen := rightB_len hgood
  rw [hn] at hlen
  have hbe := belowN_le g.held k
  rw [hn] at hbe
  have cB := fun w1 (hb : Below w.heap.size w w1) => below_any A B c d n m k g.held g.out w1 (hg.below hb) hn
  generalize hat : belowN g.held k = at0 at *
  have HAT := Lib.hid hat
  clear hgood hat
  have HN := Lib.hid hn
  have HM := Lib.hid hm
  clear hg hn hm
  go_enter Try.func12, Try.ntmps12
  go_wp2_with fail
  obtain ⟨b, e0, e1, r0, r1, fr0, fr1, lt0, lt1⟩ := begin_sure A B c d n m w _ rfl
  generalize ((w.alloc (.cells #[.slice A n c, .slice B m d] 25)).alloc (.cells #[.slice none 0 0, .slice none 0 0] 25)) = W0 at *
  refine (cC _ b).mono ?_
  rintro e w1 ⟨v1, v2, rfl, own1, own2, hb1⟩
  have ltB := lt1
  have bB := b.size
  have ob1 := own1.lt
  have ob2 := own2.lt
  obtain ⟨A1, c1, rfl⟩ := own_shape own1
  obtain ⟨A2, c2, rfl⟩ := own_shape own2
  replace e0 := (hb1.cell (p := ⟨w.heap.size, 0, none⟩) (World.block_lt_of_cell? _ _ e0)).trans e0
  replace e1 := (hb1.cell (p := ⟨w.heap.size, 1, none⟩) (World.block_lt_of_cell? _ _ e1)).trans e1
  replace r0 := (hb1.cell (p := ⟨w.heap.size + 1, 0, none⟩) (World.block_lt_of_cell? _ _ r0)).trans r0
  replace r1 := (hb1.cell (p := ⟨w.heap.size + 1, 1, none⟩) (World.block_lt_of_cell? _ _ r1)).trans r1
  replace fr0 := (hb1.frozen (p := ⟨w.heap.size + 1, 0, none⟩) lt1).trans fr0
  replace fr1 := (hb1.frozen (p := ⟨w.heap.size + 1, 1, none⟩) lt1).trans fr1
  replace lt0 := Nat.lt_of_lt_of_le lt0 hb1.size
  replace lt1 := Nat.lt_of_lt_of_le lt1 hb1.size
  replace b := b.trans (hb1.mono b.size)
  have hsz1 := hb1.size
  clear hb1
  go_wp2_with fail
  replace e0 : (w1.alloc (.cells #[.slice A1 n c1, .slice A2 m c2] 25)).cell? ⟨w.heap.size, 0, none⟩ = some (.slice A n c) := (World.cell?_alloc_lt w1 _ ⟨w.heap.size, 0, none⟩ (World.block_lt_of_cell? _ _ e0)).trans e0
  replace e1 : (w1.alloc (.cells #[.slice A1 n c1, .slice A2 m c2] 25)).cell? ⟨w.heap.size, 1, none⟩ = some (.slice B m d) := (World.cell?_alloc_lt w1 _ ⟨w.heap.size, 1, none⟩ (World.block_lt_of_cell? _ _ e1)).trans e1
  replace r0 : (w1.alloc (.cells #[.slice A1 n c1, .slice A2 m c2] 25)).cell? ⟨w.heap.size + 1, 0, none⟩ = some (.slice none 0 0) := (World.cell?_alloc_lt w1 _ ⟨w.heap.size + 1, 0, none⟩ (World.block_lt_of_cell? _ _ r0)).trans r0
  replace r1 : (w1.alloc (.cells #[.slice A1 n c1, .slice A2 m c2] 25)).cell? ⟨w.heap.size + 1, 1, none⟩ = some (.slice none 0 0) := (World.cell?_alloc_lt w1 _ ⟨w.heap.size + 1, 1, none⟩ (World.block_lt_of_cell? _ _ r1)).trans r1
  replace fr0 : (w1.alloc (.cells #[.slice A1 n c1, .slice A2 m c2] 25)).frozen? ⟨w.heap.size + 1, 0, none⟩ = false := (((Below.refl w1.heap.size w1).alloc (Nat.le_refl _) _).frozen (p := ⟨w.heap.size + 1, 0, none⟩) lt1).trans fr0
  replace fr1 : (w1.alloc (.cells #[.slice A1 n c1, .slice A2 m c2] 25)).frozen? ⟨w.heap.size + 1, 1, none⟩ = false := (((Below.refl w1.heap.size w1).alloc (Nat.le_refl _) _).frozen (p := ⟨w.heap.size + 1, 1, none⟩) lt1).trans fr1
  have h0 : (w1.alloc (.cells #[.slice A1 n c1, .slice A2 m c2] 25)).cell? ⟨w1.heap.size, 0, none⟩ = some (.slice A1 n c1) := World.cell?_alloc_new (w := w1) _ _ _
  have h1 : (w1.alloc (.cells #[.slice A1 n c1, .slice A2 m c2] 25)).cell? ⟨w1.heap.size, 1, none⟩ = some (.slice A2 m c2) := World.cell?_alloc_new (w := w1) _ _ _
  have fh0 : (w1.alloc (.cells #[.slice A1 n c1, .slice A2 m c2] 25)).frozen? ⟨w1.heap.size, 0, none⟩ = false := by go_simp
  have fh1 : (w1.alloc (.cells #[.slice A1 n c1, .slice A2 m c2] 25)).frozen? ⟨w1.heap.size, 1, none⟩ = false := by go_simp
  replace lt0 : _ < (w1.alloc (.cells #[.slice A1 n c1, .slice A2 m c2] 25)).heap.size := Nat.lt_of_lt_of_le lt0 (by simp)
  replace lt1 : _ < (w1.alloc (.cells #[.slice A1 n c1, .slice A2 m c2] 25)).heap.size := Nat.lt_of_lt_of_le lt1 (by simp)
  replace own1 := own1.alloc (.cells #[.slice A1 n c1, .slice A2 m c2] 25)
  replace own2 := own2.alloc (.cells #[.slice A1 n c1, .slice A2 m c2] 25)
  replace b := b.alloc b.size (.cells #[.slice A1 n c1, .slice A2 m c2] 25)
  have ltH : w1.heap.size < (w1.alloc (.cells #[.slice A1 n c1, .slice A2 m c2] 25)).heap.size := by simp
  generalize hw_w2 : w1.alloc (.cells #[.slice A1 n c1, .slice A2 m c2] 25) = w2 at *
  clear hw_w2
  have hWH : W0.heap.size ≤ w1.heap.size := hsz1
  generalize w1.heap.size = H at *
  refine (cR _ b).mono ?_
  rintro e w3 ⟨rfl, hb3⟩
  replace e0 := (hb3.cell (p := ⟨w.heap.size, 0, none⟩) (World.block_lt_of_cell? _ _ e0)).trans e0
  replace e1 := (hb3.cell (p := ⟨w.heap.size, 1, none⟩) (World.block_lt_of_cell? _ _ e1)).trans e1
  replace r0 := (hb3.cell (p := ⟨w.heap.size + 1, 0, none⟩) (World.block_lt_of_cell? _ _ r0)).trans r0
  replace r1 := (hb3.cell (p := ⟨w.heap.size + 1, 1, none⟩) (World.block_lt_of_cell? _ _ r1)).trans r1
  replace h0 := (hb3.cell (p := ⟨H, 0, none⟩) (World.block_lt_of_cell? _ _ h0)).trans h0
  replace h1 := (hb3.cell (p := ⟨H, 1, none⟩) (World.block_lt_of_cell? _ _ h1)).trans h1
  replace fr0 := (hb3.frozen (p := ⟨w.heap.size + 1, 0, none⟩) lt1).trans fr0
  replace fr1 := (hb3.frozen (p := ⟨w.heap.size + 1, 1, none⟩) lt1).trans fr1
  replace fh0 := (hb3.frozen (p := ⟨H, 0, none⟩) ltH).trans fh0
  replace fh1 := (hb3.frozen (p := ⟨H, 1, none⟩) ltH).trans fh1
  replace lt0 := Nat.lt_of_lt_of_le lt0 hb3.size
  replace lt1 := Nat.lt_of_lt_of_le lt1 hb3.size
  replace ltH := Nat.lt_of_lt_of_le ltH hb3.size
  replace own1 := own_below own1 hb3
  replace own2 := own_below own2 hb3
  replace b := b.trans (hb3.mono b.size)
  clear hb3
  go_wp2_with fail
  refine (span_any _ _).mono ?_
  rintro e w4 ⟨rfl, hw4⟩
  have hw4' := hw4.symm
  subst hw4'
  rw [hsok]
  clear hsok
  have hbez : (at0 : Int) ≤ (n : Int) := by omega
  have hbe0 : 0 ≤ (at0 : Int) := by omega
  go_wp2_with fail
  have bd : Below w.heap.size w w3.drew := b.drew
  have e0d : w3.drew.cell? ⟨w.heap.size, 0, none⟩ = some (.slice A n c) := e0
  have e1d : w3.drew.cell? ⟨w.heap.size, 1, none⟩ = some (.slice B m d) := e1
  have h0d : w3.drew.cell? ⟨H, 0, none⟩ = some (.slice A1 n c1) := h0
  have h1d : w3.drew.cell? ⟨H, 1, none⟩ = some (.slice A2 m c2) := h1
  have ltHd : H < w3.drew.heap.size := ltH
  have lt0d : w.heap.size < w3.drew.heap.size := lt0
  have lt1d : w.heap.size + 1 < w3.drew.heap.size := lt1
  obtain ⟨hcap, hcapm⟩ := own_cap own1
  have hneH : H ≠ w.heap.size := by have := b.size; omega
  have hbec : (at0 : Int) ≤ (c1 : Int) := by omega
  go_region_with
    (first
      | (go_at_call 22; refine (cB _ bd).mono ?_; rintro e w5 ⟨rfl, hb5⟩; have h0' := (hb5.cell (p := ⟨H, 0, none⟩) ltHd).trans h0d; have h1' := (hb5.cell (p := ⟨H, 1, none⟩) ltHd).trans h1d; have fh0' := (hb5.frozen (p := ⟨H, 0, none⟩) ltHd).trans (show w3.drew.frozen? _ = _ from fh0)))
  all_goals (
    have r0' := (hb5.cell (p := ⟨w.heap.size + 1, 0, none⟩) lt1d).trans (show w3.drew.cell? _ = _ from r0)
    have r1' := (hb5.cell (p := ⟨w.heap.size + 1, 1, none⟩) lt1d).trans (show w3.drew.cell? _ = _ from r1)
    have fr0' := (hb5.frozen (p := ⟨w.heap.size + 1, 0, none⟩) lt1d).trans (show w3.drew.frozen? _ = _ from fr0)
    have fr1' := (hb5.frozen (p := ⟨w.heap.size + 1, 1, none⟩) lt1d).trans (show w3.drew.frozen? _ = _ from fr1)
    have lH5 : H < w5.heap.size := Nat.lt_of_lt_of_le ltHd hb5.size
    have o1 := ownsRow_setCell_other (a := ⟨H, 0, none⟩) (own_below (show w3.drew.ownsRow _ _ _ _ _ _ from own1) hb5) (fun e => Nat.lt_irrefl _ (ob1 _ e).2) (.slice A1 at0 c1)
    have o2 := ownsRow_setCell_other (a := ⟨H, 0, none⟩) (own_below (show w3.drew.ownsRow _ _ _ _ _ _ from own2) hb5) (fun e => Nat.lt_irrefl _ (ob2 _ e).2) (.slice A1 at0 c1)
    have b6 := (bd.trans (hb5.mono bd.size)).setCell (p := (⟨H, 0, none⟩ : Addr)) (by have := b.size; simp; omega) (.slice A1 at0 c1)
    go_wp2_with fail
    exact bodyPost_ret (v := .tuple #[.agg #[.slice A1 at0 c1, .slice A2 m c2], .int .i64 0]) (by simp [results, Try.results12, go_sem, r0', r1']) rfl (gave_cut HN.out HM.out hbe o1 o2 ltB (by omega) b6))


theorem Back_fresh (A B : Option Addr) (c d n m : Nat) (k : Int) (g : Gt) (w : World) (hg : GateIn w A B g.held g.out) (hn : g.held.length = n) (hm : g.out.length = m) (hn1 : n ≤ 1000000) (hm1 : m ≤ 1000000) :
    Calls Try.prog 12 #[.agg #[.slice A n c, .slice B m d], .int .i64 k] w (GaveF w (backG g k).1 (backG g k).2) := by
  unfold backG
  cases hr : rightB g.held with
  | false => simp only [true_or, if_true]; exact Back_bad A B c d n m k g w hg hn hm hn1 hm1 hr
  | true =>
    cases hs : spanB k with
    | false => simp only [or_true, if_true]; exact Back_span A B c d n m k g w hg hn hm hn1 hm1 hr hs
    | true => rw [if_neg (by simp)]; exact Back_good A B c d n m k g w hg hn hm hn1 hm1 hr hs
theorem Back_any (A B : Option Addr) (c d n m : Nat) (k : Int) (g : Gt) (w : World) (hg : GateIn w A B g.held g.out) (hn : g.held.length = n) (hm : g.out.length = m) (hn1 : n ≤ 1000000) (hm1 : m ≤ 1000000) :
    Calls Try.prog 12 #[.agg #[.slice A n c, .slice B m d], .int .i64 k] w (Gave w (backG g k).1 (backG g k).2) :=
  (Back_fresh A B c d n m k g w hg hn hm hn1 hm1).mono fun _ _ h => h.gave
end Go.Proofs.Ytkkbpcnoamagcaa
