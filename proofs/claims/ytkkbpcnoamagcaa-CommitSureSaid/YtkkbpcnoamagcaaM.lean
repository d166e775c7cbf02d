/- Walks of commit's reference: Back, Sure, Tell, All. -/
import Derived.Test.YtkkbpcnoamagcaaL
namespace Go.Proofs.Ytkkbpcnoamagcaa
open Go.RowKit Go.Lib
set_option linter.unusedVariables false

theorem gave_set {w w' : World} {A B : Option Addr} {c d n m X : Nat} {k : Int} (g : Gt) (hn : g.held.length = n) (hm : g.out.length = m) (G : GateIn w' A B g.held g.out)
    (r0 : w'.cell? ⟨X, 0, none⟩ = some (.slice none 0 0)) (r1 : w'.cell? ⟨X, 1, none⟩ = some (.slice none 0 0)) (fr0 : w'.frozen? ⟨X, 0, none⟩ = false) (fr1 : w'.frozen? ⟨X, 1, none⟩ = false) (hX : w.heap.size ≤ X) (b : Below w.heap.size w w') :
    Gave w g k (.returned (.tuple #[.agg #[.slice A n c, .slice B m d], .int .i64 k])) ((w'.setCell ⟨X, 0, none⟩ (.slice A n c)).setCell ⟨X, 1, none⟩ (.slice B m d)) := by
  obtain ⟨_, _, _, _, gs, bs, _, _⟩ := gate_set (A' := A) (B' := B) (n' := n) (m' := m) (c' := c) (d' := d) _ rfl r0 r1 fr0 fr1
  exact ⟨A, c, B, d, by rw [hn, hm], gs _ _ _ _ G, bs _ _ hX b⟩

set_option maxHeartbeats 4000000 in
theorem rBack_bad (A B : Option Addr) (c d n m : Nat) (k : Int) (g : Gt) (w : World) (hg : GateIn w A B g.held g.out) (hn : g.held.length = n) (hm : g.out.length = m) (hn1 : n ≤ 1000000) (hm1 : m ≤ 1000000)
    (hbad : rightB g.held = false) :
    Calls Try.prog 13 #[.agg #[.slice A n c, .slice B m d], .int .i64 k] w (Gave w g 1) := by
  have cR := fun w1 (hg : GateIn w1 A B g.held g.out) => rRight_any A B c d n m g.held g.out w1 hg hn
  rw [hbad] at cR
  clear hbad
  have HN := Lib.hid hn
  have HM := Lib.hid hm
  clear hn hm
  go_enter Try.func13, Try.ntmps13
  go_wp2_with fail
  obtain ⟨b, e0, e1, r0, r1, fr0, fr1, lt0, lt1⟩ := begin_sure A B c d n m w _ rfl
  replace hg := hg.below b
  generalize ((w.alloc (.cells #[.slice A n c, .slice B m d] 25)).alloc (.cells #[.slice none 0 0, .slice none 0 0] 25)) = W0 at *
  refine (cR _ hg).mono ?_
  rintro e w1 ⟨rfl, hb1⟩
  replace e0 := (hb1.cell (p := ⟨w.heap.size, 0, none⟩) (World.block_lt_of_cell? _ _ e0)).trans e0
  replace e1 := (hb1.cell (p := ⟨w.heap.size, 1, none⟩) (World.block_lt_of_cell? _ _ e1)).trans e1
  replace r0 := (hb1.cell (p := ⟨w.heap.size + 1, 0, none⟩) (World.block_lt_of_cell? _ _ r0)).trans r0
  replace r1 := (hb1.cell (p := ⟨w.heap.size + 1, 1, none⟩) (World.block_lt_of_cell? _ _ r1)).trans r1
  replace fr0 := (hb1.frozen (p := ⟨w.heap.size + 1, 0, none⟩) lt1).trans fr0
  replace fr1 := (hb1.frozen (p := ⟨w.heap.size + 1, 1, none⟩) lt1).trans fr1
  replace lt0 := Nat.lt_of_lt_of_le lt0 hb1.size
  replace lt1 := Nat.lt_of_lt_of_le lt1 hb1.size
  replace hg := hg.below hb1
  replace b := b.trans (hb1.mono b.size)
  clear hb1
  go_wp2_with fail
  exact bodyPost_ret (v := .tuple #[.agg #[.slice A n c, .slice B m d], .int .i64 1]) (by simp [results, Try.results13, go_sem, r0, r1]) rfl (gave_set g HN.out HM.out hg r0 r1 fr0 fr1 (by omega) b)

set_option maxHeartbeats 4000000 in
theorem rBack_span (A B : Option Addr) (c d n m : Nat) (k : Int) (g : Gt) (w : World) (hg : GateIn w A B g.held g.out) (hn : g.held.length = n) (hm : g.out.length = m) (hn1 : n ≤ 1000000) (hm1 : m ≤ 1000000)
    (hgood : rightB g.held = true) (hbad : spanB k = false) :
    Calls Try.prog 13 #[.agg #[.slice A n c, .slice B m d], .int .i64 k] w (Gave w g 1) := by
  have cR := fun w1 (hg : GateIn w1 A B g.held g.out) => rRight_any A B c d n m g.held g.out w1 hg hn
  rw [hgood] at cR
  clear hgood
  have HN := Lib.hid hn
  have HM := Lib.hid hm
  clear hn hm
  go_enter Try.func13, Try.ntmps13
  go_wp2_with fail
  obtain ⟨b, e0, e1, r0, r1, fr0, fr1, lt0, lt1⟩ := begin_sure A B c d n m w _ rfl
  replace hg := hg.below b
  generalize ((w.alloc (.cells #[.slice A n c, .slice B m d] 25)).alloc (.cells #[.slice none 0 0, .slice none 0 0] 25)) = W0 at *
  refine (cR _ hg).mono ?_
  rintro e w1 ⟨rfl, hb1⟩
  replace e0 := (hb1.cell (p := ⟨w.heap.size, 0, none⟩) (World.block_lt_of_cell? _ _ e0)).trans e0
  replace e1 := (hb1.cell (p := ⟨w.heap.size, 1, none⟩) (World.block_lt_of_cell? _ _ e1)).trans e1
  replace r0 := (hb1.cell (p := ⟨w.heap.size + 1, 0, none⟩) (World.block_lt_of_cell? _ _ r0)).trans r0
  replace r1 := (hb1.cell (p := ⟨w.heap.size + 1, 1, none⟩) (World.block_lt_of_cell? _ _ r1)).trans r1
  replace fr0 := (hb1.frozen (p := ⟨w.heap.size + 1, 0, none⟩) lt1).trans fr0
  replace fr1 := (hb1.frozen (p := ⟨w.heap.size + 1, 1, none⟩) lt1).trans fr1
  replace lt0 := Nat.lt_of_lt_of_le lt0 hb1.size
  replace lt1 := Nat.lt_of_lt_of_le lt1 hb1.size
  replace hg := hg.below hb1
  replace b := b.trans (hb1.mono b.size)
  clear hb1
  go_wp2_with fail
  refine (rspan_any _ _).mono ?_
  rintro e w4 ⟨rfl, hw4⟩
  have hw4' := hw4.symm
  subst hw4'
  rw [hbad]
  clear hbad
  go_wp2_with fail
  exact bodyPost_ret (v := .tuple #[.agg #[.slice A n c, .slice B m d], .int .i64 1]) (by simp [results, Try.results13, go_sem, r0, r1]) rfl (gave_set g HN.out HM.out hg r0 r1 fr0 fr1 (by omega) b)

set_option maxHeartbeats 4000000 in
theorem rSure_bad (A B : Option Addr) (c d n m : Nat) (k : Int) (g : Gt) (w : World) (hg : GateIn w A B g.held g.out) (hn : g.held.length = n) (hm : g.out.length = m) (hn1 : n ≤ 1000000) (hm1 : m ≤ 1000000)
    (hbad : rightB g.held = false) :
    Calls Try.prog 11 #[.agg #[.slice A n c, .slice B m d], .int .i64 k] w (Gave w g 1) := by
  have cR := fun w1 (hg : GateIn w1 A B g.held g.out) => rRight_any A B c d n m g.held g.out w1 hg hn
  rw [hbad] at cR
  clear hbad
  have HN := Lib.hid hn
  have HM := Lib.hid hm
  clear hn hm
  go_enter Try.func11, Try.ntmps11
  go_wp2_with fail
  obtain ⟨b, e0, e1, r0, r1, fr0, fr1, lt0, lt1⟩ := begin_sure A B c d n m w _ rfl
  replace hg := hg.below b
  generalize ((w.alloc (.cells #[.slice A n c, .slice B m d] 25)).alloc (.cells #[.slice none 0 0, .slice none 0 0] 25)) = W0 at *
  refine (cR _ hg).mono ?_
  rintro e w1 ⟨rfl, hb1⟩
  replace e0 := (hb1.cell (p := ⟨w.heap.size, 0, none⟩) (World.block_lt_of_cell? _ _ e0)).trans e0
  replace e1 := (hb1.cell (p := ⟨w.heap.size, 1, none⟩) (World.block_lt_of_cell? _ _ e1)).trans e1
  replace r0 := (hb1.cell (p := ⟨w.heap.size + 1, 0, none⟩) (World.block_lt_of_cell? _ _ r0)).trans r0
  replace r1 := (hb1.cell (p := ⟨w.heap.size + 1, 1, none⟩) (World.block_lt_of_cell? _ _ r1)).trans r1
  replace fr0 := (hb1.frozen (p := ⟨w.heap.size + 1, 0, none⟩) lt1).trans fr0
  replace fr1 := (hb1.frozen (p := ⟨w.heap.size + 1, 1, none⟩) lt1).trans fr1
  replace lt0 := Nat.lt_of_lt_of_le lt0 hb1.size
  replace lt1 := Nat.lt_of_lt_of_le lt1 hb1.size
  replace hg := hg.below hb1
  replace b := b.trans (hb1.mono b.size)
  clear hb1
  go_wp2_with fail
  exact bodyPost_ret (v := .tuple #[.agg #[.slice A n c, .slice B m d], .int .i64 1]) (by simp [results, Try.results11, go_sem, r0, r1]) rfl (gave_set g HN.out HM.out hg r0 r1 fr0 fr1 (by omega) b)

set_option maxHeartbeats 4000000 in
theorem rSure_span (A B : Option Addr) (c d n m : Nat) (k : Int) (g : Gt) (w : World) (hg : GateIn w A B g.held g.out) (hn : g.held.length = n) (hm : g.out.length = m) (hn1 : n ≤ 1000000) (hm1 : m ≤ 1000000)
    (hgood : rightB g.held = true) (hbad : spanB k = false) :
    Calls Try.prog 11 #[.agg #[.slice A n c, .slice B m d], .int .i64 k] w (Gave w g 1) := by
  have cR := fun w1 (hg : GateIn w1 A B g.held g.out) => rRight_any A B c d n m g.held g.out w1 hg hn
  rw [hgood] at cR
  clear hgood
  have HN := Lib.hid hn
  have HM := Lib.hid hm
  clear hn hm
  go_enter Try.func11, Try.ntmps11
  go_wp2_with fail
  obtain ⟨b, e0, e1, r0, r1, fr0, fr1, lt0, lt1⟩ := begin_sure A B c d n m w _ rfl
  replace hg := hg.below b
  generalize ((w.alloc (.cells #[.slice A n c, .slice B m d] 25)).alloc (.cells #[.slice none 0 0, .slice none 0 0] 25)) = W0 at *
  refine (cR _ hg).mono ?_
  rintro e w1 ⟨rfl, hb1⟩
  replace e0 := (hb1.cell (p := ⟨w.heap.size, 0, none⟩) (World.block_lt_of_cell? _ _ e0)).trans e0
  replace e1 := (hb1.cell (p := ⟨w.heap.size, 1, none⟩) (World.block_lt_of_cell? _ _ e1)).trans e1
  replace r0 := (hb1.cell (p := ⟨w.heap.size + 1, 0, none⟩) (World.block_lt_of_cell? _ _ r0)).trans r0
  replace r1 := (hb1.cell (p := ⟨w.heap.size + 1, 1, none⟩) (World.block_lt_of_cell? _ _ r1)).trans r1
  replace fr0 := (hb1.frozen (p := ⟨w.heap.size + 1, 0, none⟩) lt1).trans fr0
  replace fr1 := (hb1.frozen (p := ⟨w.heap.size + 1, 1, none⟩) lt1).trans fr1
  replace lt0 := Nat.lt_of_lt_of_le lt0 hb1.size
  replace lt1 := Nat.lt_of_lt_of_le lt1 hb1.size
  replace hg := hg.below hb1
  replace b := b.trans (hb1.mono b.size)
  clear hb1
  go_wp2_with fail
  refine (rspan_any _ _).mono ?_
  rintro e w4 ⟨rfl, hw4⟩
  have hw4' := hw4.symm
  subst hw4'
  rw [hbad]
  clear hbad
  go_wp2_with fail
  exact bodyPost_ret (v := .tuple #[.agg #[.slice A n c, .slice B m d], .int .i64 1]) (by simp [results, Try.results11, go_sem, r0, r1]) rfl (gave_set g HN.out HM.out hg r0 r1 fr0 fr1 (by omega) b)

set_option maxHeartbeats 4000000 in
theorem rBack_good (A B : Option Addr) (c d n m : Nat) (k : Int) (g : Gt) (w : World) (hg : GateIn w A B g.held g.out) (hn : g.held.length = n) (hm : g.out.length = m) (hn1 : n ≤ 1000000) (hm1 : m ≤ 1000000)
    (hgood : rightB g.held = true) (hsok : spanB k = true) :
    Calls Try.prog 13 #[.agg #[.slice A n c, .slice B m d], .int .i64 k] w (Gave w ⟨g.held.take (belowN g.held k), g.out⟩ 0) := by
  have cR := fun w1 (hg : GateIn w1 A B g.held g.out) => rRight_any A B c d n m g.held g.out w1 hg hn
  rw [hgood] at cR
  have hbe := belowN_le g.held k
  rw [hn] at hbe
  have cS := fun w1 (hg : GateIn w1 A B g.held g.out) => split_any A B c d n m k g.held g.out w1 hg hn hn1
  rw [(filter_low hgood k).1, (filter_low hgood k).2] at cS
  generalize hat : belowN g.held k = at0 at *
  have HAT := Lib.hid hat
  clear hgood hat
  have HN := Lib.hid hn
  have HM := Lib.hid hm
  clear hn hm
  go_enter Try.func13, Try.ntmps13
  go_wp2_with fail
  obtain ⟨b, e0, e1, r0, r1, fr0, fr1, lt0, lt1⟩ := begin_sure A B c d n m w _ rfl
  replace hg := hg.below b
  generalize ((w.alloc (.cells #[.slice A n c, .slice B m d] 25)).alloc (.cells #[.slice none 0 0, .slice none 0 0] 25)) = W0 at *
  refine (cR _ hg).mono ?_
  rintro e w1 ⟨rfl, hb1⟩
  replace e0 := (hb1.cell (p := ⟨w.heap.size, 0, none⟩) (World.block_lt_of_cell? _ _ e0)).trans e0
  replace e1 := (hb1.cell (p := ⟨w.heap.size, 1, none⟩) (World.block_lt_of_cell? _ _ e1)).trans e1
  replace r0 := (hb1.cell (p := ⟨w.heap.size + 1, 0, none⟩) (World.block_lt_of_cell? _ _ r0)).trans r0
  replace r1 := (hb1.cell (p := ⟨w.heap.size + 1, 1, none⟩) (World.block_lt_of_cell? _ _ r1)).trans r1
  replace fr0 := (hb1.frozen (p := ⟨w.heap.size + 1, 0, none⟩) lt1).trans fr0
  replace fr1 := (hb1.frozen (p := ⟨w.heap.size + 1, 1, none⟩) lt1).trans fr1
  replace lt0 := Nat.lt_of_lt_of_le lt0 hb1.size
  replace lt1 := Nat.lt_of_lt_of_le lt1 hb1.size
  replace hg := hg.below hb1
  replace b := b.trans (hb1.mono b.size)
  clear hb1
  go_wp2_with fail
  refine (rspan_any _ _).mono ?_
  rintro e w4 ⟨rfl, hw4⟩
  have hw4' := hw4.symm
  subst hw4'
  rw [hsok]
  clear hsok
  go_wp2_with fail
  refine (cS _ hg).mono ?_
  rintro e w5 ⟨A1, n1, c1, A2, n2, c2, rfl, l1, l2, s1, s2, hb5⟩
  replace e0 := (hb5.cell (p := ⟨w.heap.size, 0, none⟩) (World.block_lt_of_cell? _ _ e0)).trans e0
  replace e1 := (hb5.cell (p := ⟨w.heap.size, 1, none⟩) (World.block_lt_of_cell? _ _ e1)).trans e1
  replace r0 := (hb5.cell (p := ⟨w.heap.size + 1, 0, none⟩) (World.block_lt_of_cell? _ _ r0)).trans r0
  replace r1 := (hb5.cell (p := ⟨w.heap.size + 1, 1, none⟩) (World.block_lt_of_cell? _ _ r1)).trans r1
  replace fr0 := (hb5.frozen (p := ⟨w.heap.size + 1, 0, none⟩) lt1).trans fr0
  replace fr1 := (hb5.frozen (p := ⟨w.heap.size + 1, 1, none⟩) lt1).trans fr1
  replace lt0 := Nat.lt_of_lt_of_le lt0 hb5.size
  replace lt1 := Nat.lt_of_lt_of_le lt1 hb5.size
  replace hg := hg.below hb5
  replace b := b.trans (hb5.mono b.size)
  clear hb5
  have L1 := Lib.hid l1
  clear l1 l2
  go_wp2_with fail
  exact bodyPost_ret (v := .tuple #[.agg #[.slice A1 n1 c1, .slice B m d], .int .i64 0]) (by simp [results, Try.results13, go_sem, r0, r1]) rfl (gave_set ⟨g.held.take at0, g.out⟩ L1.out HM.out ⟨s1, hg.out⟩ r0 r1 fr0 fr1 (by omega) b)

structure RSureL (w wl : World) (W0s : Nat) (A B A2 A1 : Option Addr) (m : Nat) (g : Gt) (at0 i : Nat) (A3 : Option Addr) (c3 : Nat) : Prop where
  r0 : wl.cell? ⟨w.heap.size + 1, 0, none⟩ = some (.slice none 0 0)
  r1 : wl.cell? ⟨w.heap.size + 1, 1, none⟩ = some (.slice none 0 0)
  fr0 : wl.frozen? ⟨w.heap.size + 1, 0, none⟩ = false
  fr1 : wl.frozen? ⟨w.heap.size + 1, 1, none⟩ = false
  lt1 : w.heap.size + 1 < wl.heap.size
  sz : W0s ≤ wl.heap.size
  bs : ∃ ws : World, ws.heap.size = W0s ∧ Below W0s ws wl ∧ GateIn ws A B g.held g.out ∧ Sl 3 Hld.enc ws A1 (g.held.take at0) ∧ Sl 3 Hld.enc ws A2 (g.held.drop at0)
  own2 : wl.ownsRow W0s 28 2 (.slice A3 (m + i) c3) (m + i) ((g.out ++ (g.held.take i).map Hld.told).flatMap Tld.enc)
  b : Below w.heap.size w wl

set_option maxHeartbeats 4000000 in
theorem rSure_good (A B : Option Addr) (c d n m : Nat) (k : Int) (g : Gt) (w : World) (hg : GateIn w A B g.held g.out) (hn : g.held.length = n) (hm : g.out.length = m) (hn1 : n ≤ 1000000) (hm1 : m ≤ 1000000)
    (hgood : rightB g.held = true) (hsok : spanB k = true) (r : Gt) (hr : r = ⟨g.held.drop (belowN g.held k), g.out ++ (g.held.take (belowN g.held k)).map Hld.told⟩) :
    Calls Try.prog 11 #[.agg #[.slice A n c, .slice B m d], .int .i64 k] w (Gave w r 0) := by
  have cR := fun w1 (hg : GateIn w1 A B g.held g.out) => rRight_any A B c d n m g.held g.out w1 hg hn
  have HR := Lib.hid hr
  clear hr
  rw [hgood] at cR
  have hbe := belowN_le g.held k
  rw [hn] at hbe
  have cS := fun w1 (hg : GateIn w1 A B g.held g.out) => split_any A B c d n m k g.held g.out w1 hg hn hn1
  rw [(filter_low hgood k).1, (filter_low hgood k).2] at cS
  generalize hat : belowN g.held k = at0 at *
  have HAT := Lib.hid hat
  clear hgood hat
  have HN := Lib.hid hn
  have HM := Lib.hid hm
  clear hn hm
  go_enter Try.func11, Try.ntmps11
  go_wp2_with fail
  obtain ⟨b, e0, e1, r0, r1, fr0, fr1, lt0, lt1⟩ := begin_sure A B c d n m w _ rfl
  replace hg := hg.below b
  generalize ((w.alloc (.cells #[.slice A n c, .slice B m d] 25)).alloc (.cells #[.slice none 0 0, .slice none 0 0] 25)) = W0 at *
  refine (cR _ hg).mono ?_
  rintro e w1 ⟨rfl, hb1⟩
  replace e0 := (hb1.cell (p := ⟨w.heap.size, 0, none⟩) (World.block_lt_of_cell? _ _ e0)).trans e0
  replace e1 := (hb1.cell (p := ⟨w.heap.size, 1, none⟩) (World.block_lt_of_cell? _ _ e1)).trans e1
  replace r0 := (hb1.cell (p := ⟨w.heap.size + 1, 0, none⟩) (World.block_lt_of_cell? _ _ r0)).trans r0
  replace r1 := (hb1.cell (p := ⟨w.heap.size + 1, 1, none⟩) (World.block_lt_of_cell? _ _ r1)).trans r1
  replace fr0 := (hb1.frozen (p := ⟨w.heap.size + 1, 0, none⟩) lt1).trans fr0
  replace fr1 := (hb1.frozen (p := ⟨w.heap.size + 1, 1, none⟩) lt1).trans fr1
  replace lt0 := Nat.lt_of_lt_of_le lt0 hb1.size
  replace lt1 := Nat.lt_of_lt_of_le lt1 hb1.size
  replace hg := hg.below hb1
  replace b := b.trans (hb1.mono b.size)
  clear hb1
  go_wp2_with fail
  refine (rspan_any _ _).mono ?_
  rintro e w4 ⟨rfl, hw4⟩
  have hw4' := hw4.symm
  subst hw4'
  rw [hsok]
  clear hsok
  go_wp2_with fail
  refine (cS _ hg).mono ?_
  rintro e w5 ⟨A1, n1, c1, A2, n2, c2, rfl, l1, l2, s1, s2, hb5⟩
  replace e0 := (hb5.cell (p := ⟨w.heap.size, 0, none⟩) (World.block_lt_of_cell? _ _ e0)).trans e0
  replace e1 := (hb5.cell (p := ⟨w.heap.size, 1, none⟩) (World.block_lt_of_cell? _ _ e1)).trans e1
  replace r0 := (hb5.cell (p := ⟨w.heap.size + 1, 0, none⟩) (World.block_lt_of_cell? _ _ r0)).trans r0
  replace r1 := (hb5.cell (p := ⟨w.heap.size + 1, 1, none⟩) (World.block_lt_of_cell? _ _ r1)).trans r1
  replace fr0 := (hb5.frozen (p := ⟨w.heap.size + 1, 0, none⟩) lt1).trans fr0
  replace fr1 := (hb5.frozen (p := ⟨w.heap.size + 1, 1, none⟩) lt1).trans fr1
  replace lt0 := Nat.lt_of_lt_of_le lt0 hb5.size
  replace lt1 := Nat.lt_of_lt_of_le lt1 hb5.size
  replace hg := hg.below hb5
  replace b := b.trans (hb5.mono b.size)
  clear hb5
  have L1 := Lib.hid l1
  have L2 := Lib.hid l2
  have hl1 : n1 = at0 := by rw [← l1, List.length_take, HN.out]; omega
  clear l1 l2
  have hg0 := hg
  have s10 := s1
  have s20 := s2
  obtain ⟨i0, hi, hz0, hz1, hz2⟩ := info_parts info28
  have bB := b.size
  have ltB := lt1
  go_wp2_with (at_builtin; refine wpList_as ?_)
  intro _
  refine wpList_append_sl _ rfl _ _ 23 rfl w5.heap.size 28 i0 _ 2 16 Try.underlying23 hi hz0 hz1 hz2 rfl (by decide) _ _ _ rfl (World.ownsRow_made w5 #[] 0 (Nat.le_refl _) (Nat.zero_le _) (by simp)) Tld.enc Tld.enc_len Tld.enc_one B m d g.out rfl HM.out (hg.out.below bnew) ?p2 ?p3 ?p4 ?_
  case p2 => unfold maxLen; omega
  case p3 => omega
  case p4 => simp
  intro v6 w6 own6 grow6 at6
  have b6 : Below w5.heap.size w5 w6 := below_append (k := 2) bnew grow6 (by simp) (World.ownsRow_made w5 #[] 0 (Nat.le_refl _) (Nat.zero_le _) (by simp)) (Nat.le_refl _)
  obtain ⟨A3, c3, rfl⟩ := own_shape own6
  clear grow6 at6
  replace e0 := (b6.cell (p := ⟨w.heap.size, 0, none⟩) (World.block_lt_of_cell? _ _ e0)).trans e0
  replace e1 := (b6.cell (p := ⟨w.heap.size, 1, none⟩) (World.block_lt_of_cell? _ _ e1)).trans e1
  replace r0 := (b6.cell (p := ⟨w.heap.size + 1, 0, none⟩) (World.block_lt_of_cell? _ _ r0)).trans r0
  replace r1 := (b6.cell (p := ⟨w.heap.size + 1, 1, none⟩) (World.block_lt_of_cell? _ _ r1)).trans r1
  replace fr0 := (b6.frozen (p := ⟨w.heap.size + 1, 0, none⟩) lt1).trans fr0
  replace fr1 := (b6.frozen (p := ⟨w.heap.size + 1, 1, none⟩) lt1).trans fr1
  replace lt0 := Nat.lt_of_lt_of_le lt0 b6.size
  replace lt1 := Nat.lt_of_lt_of_le lt1 b6.size
  replace hg := hg.below b6
  replace s1 := s1.below b6
  replace s2 := s2.below b6
  replace b := b.trans (b6.mono b.size)
  rw [show 0 + m = m + 0 by omega] at own6 ⊢
  have sz6 := b6.size
  clear hg s1 s2
  go_wp2_with fail
  go_loopg [8, 9] at0 (fun gg s8 s9 wl => ∃ (i : Nat) (A3 : Option Addr) (c3 : Nat), i ≤ at0 ∧ at0 - i ≤ gg ∧ s8 = .slice A3 (m + i) c3 ∧ s9 = .int .i64 (i : Int) ∧ RSureL w wl w5.heap.size A B A2 A1 m g at0 i A3 c3)
  case atStart => exact ⟨0, A3, c3, Nat.zero_le _, by omega, rfl, rfl, ⟨r0, r1, fr0, fr1, lt1, sz6, ⟨w5, rfl, b6, hg0, s10, s20⟩, by simpa using own6, b⟩⟩
  case round =>
    clear own6 r0 r1 fr0 fr1 lt1 hg0 s10 s20 b b6 e0 e1 lt0 sz6
    obtain ⟨i, A3, c3, hi0, hgg, rfl, rfl, L⟩ := hrel
    obtain ⟨r0, r1, fr0, fr1, lt1, sz, ⟨ws, hws, bs, gs, t1, t2⟩, own2, b⟩ := L
    have s1 := t1.below (hws ▸ bs)
    have s2 := t2.below (hws ▸ bs)
    have HWS := Lib.hid hws
    clear hws
    by_cases hlt : i < at0
    · have hltz : (i : Int) < (n1 : Int) := by omega
      have hin : i < (g.held.take at0).length := by rw [L1.out]; omega
      have hin2 : i < g.held.length := by rw [HN.out]; omega
      have HI := Lib.hid hin2
      obtain ⟨bb, off, rfl, hq⟩ := s1.at_ i hin
      have q0 := hq 0 _ rfl
      have q1 := hq 1 _ rfl
      rw [Nat.add_zero] at q0
      have hx0 : (g.held.take at0)[i]! = g.held[i]! := by rw [getElem!_pos _ i hin, getElem!_pos _ i hin2, List.getElem_take]
      rw [hx0] at q0 q1
      generalize hx : g.held[i]! = x at *
      have HX := Lib.hid hx
      clear hx hx0 hq hin hin2
      go_wp2_with (at_builtin; refine wpList_as ?_)
      intro _
      refine wpList_append_own_at _ rfl _ _ 23 rfl w5.heap.size 28 i0 _ 2 16 Try.underlying23 hi hz0 hz1 hz2 rfl (by decide) _ _ _ rfl (own2.alloc _) ⟨wr.heap.size, 0, none⟩ 1 1 [.int .i64 x.core, .int .u32 x.val] rfl rfl (fun j u hj => cell_new_block wr _ 28 j u hj) (by intro u hu; simp at hu; rcases hu with rfl | rfl <;> rfl) (by unfold maxLen; omega) (by omega) (by simp; omega) ?_
      intro v' w9 own2' hgrow hnil hat
      obtain ⟨A4, c4, rfl⟩ := own_shape own2'
      obtain ⟨cr, fr⟩ := far_append hgrow (w.heap.size + 1) lt1 (fun e => by have := own2.lt _ e; omega)
      replace r0 := (cr 0).trans r0
      replace r1 := (cr 1).trans r1
      replace fr0 := (fr 0).trans fr0
      replace fr1 := (fr 1).trans fr1
      have bW : Below w5.heap.size wr w9 := below_append ((Below.refl _ wr).alloc sz _) hgrow (by simp; omega) (own2.alloc _) (Nat.le_refl _)
      replace b := below_append (b.alloc b.size _) hgrow (by simp; have := b.size; omega) (own2.alloc _) bB
      have hs5 : wr.heap.size ≤ w9.heap.size := by have := hgrow.size; simp at this; omega
      have hcs : (g.out ++ (g.held.take i).map Hld.told).flatMap Tld.enc ++ [.int .i64 x.core, .int .u32 x.val] = (g.out ++ (g.held.take (i + 1)).map Hld.told).flatMap Tld.enc := told_snoc g.out g.held i HI.out x HX.out
      rw [hcs] at own2'
      clear cr fr hgrow hnil hat hcs own2
      go_wp2_with fail
      go_roundg (at0 - i - 1)
      case measure => omega
      case rel => exact ⟨i + 1, A4, c4, by omega, by omega, (by go_simp; exact Nat.add_assoc m i 1), by go_simp, ⟨r0, r1, fr0, fr1, by omega, by omega, ⟨ws, HWS.out, bs.trans bW, gs, t1, t2⟩, own2', b⟩⟩
    · obtain rfl : i = at0 := by omega
      have hltz : ¬ (i : Int) < (n1 : Int) := by omega
      have hsl2 := Sl.of_own (xs := g.out ++ (g.held.take i).map Hld.told) Tld.enc_len own2 (by rw [List.length_append, List.length_map, HM.out, L1.out, hl1])
      go_wp2_with fail
      exact bodyPost_ret (v := .tuple #[.agg #[.slice A2 n2 c2, .slice A3 (m + i) c3], .int .i64 0]) (by simp [results, Try.results11, go_sem, r0, r1]) rfl (by rw [HR.out]; exact gave_set ⟨g.held.drop i, g.out ++ (g.held.take i).map Hld.told⟩ L2.out (by rw [List.length_append, List.length_map, HM.out, L1.out, hl1]) ⟨s2, hsl2⟩ r0 r1 fr0 fr1 (by omega) b)

theorem rBack_any (A B : Option Addr) (c d n m : Nat) (k : Int) (g : Gt) (w : World) (hg : GateIn w A B g.held g.out) (hn : g.held.length = n) (hm : g.out.length = m) (hn1 : n ≤ 1000000) (hm1 : m ≤ 1000000) :
    Calls Try.prog 13 #[.agg #[.slice A n c, .slice B m d], .int .i64 k] w (Gave w (backG g k).1 (backG g k).2) := by
  unfold backG
  cases hr : rightB g.held with
  | false => simp only [true_or, if_true]; exact rBack_bad A B c d n m k g w hg hn hm hn1 hm1 hr
  | true =>
    cases hs : spanB k with
    | false => simp only [or_true, if_true]; exact rBack_span A B c d n m k g w hg hn hm hn1 hm1 hr hs
    | true => rw [if_neg (by simp)]; exact rBack_good A B c d n m k g w hg hn hm hn1 hm1 hr hs
theorem rSure_any (A B : Option Addr) (c d n m : Nat) (k : Int) (g : Gt) (w : World) (hg : GateIn w A B g.held g.out) (hn : g.held.length = n) (hm : g.out.length = m) (hn1 : n ≤ 1000000) (hm1 : m ≤ 1000000) :
    Calls Try.prog 11 #[.agg #[.slice A n c, .slice B m d], .int .i64 k] w (Gave w (sureG g k).1 (sureG g k).2) := by
  unfold sureG
  cases hr : rightB g.held with
  | false => simp only [true_or, if_true]; exact rSure_bad A B c d n m k g w hg hn hm hn1 hm1 hr
  | true =>
    cases hs : spanB k with
    | false => simp only [or_true, if_true]; exact rSure_span A B c d n m k g w hg hn hm hn1 hm1 hr hs
    | true => rw [if_neg (by simp)]; exact rSure_good A B c d n m k g w hg hn hm hn1 hm1 hr hs _ rfl
end Go.Proofs.Ytkkbpcnoamagcaa
