/- Walks of commit: Tell. -/
import Derived.Test.YtkkbpcnoamagcaaD
namespace Go.Proofs.Ytkkbpcnoamagcaa
open Go.RowKit Go.Lib

/-- What the beginning of a call leaves: the boxes of its arguments, and its result's. -/
theorem begin_tell (A B : Option Addr) (c d n m : Nat) (t : Tld) (w : World) (W0 : World) (hW0 : (((w.alloc (.cells #[.slice A n c, .slice B m d] 25)).alloc (.cells #[.int .i64 t.core, .int .u32 t.val] 28)).alloc (.cells #[.slice none 0 0, .slice none 0 0] 25)) = W0) :
    Below w.heap.size w W0 ∧ W0.cell? ⟨w.heap.size, 0, none⟩ = some (.slice A n c) ∧ W0.cell? ⟨w.heap.size, 1, none⟩ = some (.slice B m d) ∧ W0.cell? ⟨w.heap.size + 1, 0, none⟩ = some (.int .i64 t.core) ∧ W0.cell? ⟨w.heap.size + 1, 1, none⟩ = some (.int .u32 t.val) ∧ W0.cell? ⟨w.heap.size + 1 + 1, 0, none⟩ = some (.slice none 0 0) ∧ W0.cell? ⟨w.heap.size + 1 + 1, 1, none⟩ = some (.slice none 0 0) ∧ W0.frozen? ⟨w.heap.size + 1 + 1, 0, none⟩ = false ∧ W0.frozen? ⟨w.heap.size + 1 + 1, 1, none⟩ = false ∧ w.heap.size < W0.heap.size ∧ w.heap.size + 1 < W0.heap.size ∧ w.heap.size + 1 + 1 < W0.heap.size := by
  have b : Below w.heap.size w W0 := by subst hW0; exact (((Below.refl _ _).alloc (Nat.le_refl _) _).alloc (by simp) _).alloc (by simp <;> omega) _
  have e0 : W0.cell? ⟨w.heap.size, 0, none⟩ = some (.slice A n c) := by subst hW0; go_simp
  have e1 : W0.cell? ⟨w.heap.size, 1, none⟩ = some (.slice B m d) := by subst hW0; go_simp
  have t0 : W0.cell? ⟨w.heap.size + 1, 0, none⟩ = some (.int .i64 t.core) := by subst hW0; go_simp
  have t1 : W0.cell? ⟨w.heap.size + 1, 1, none⟩ = some (.int .u32 t.val) := by subst hW0; go_simp
  have r0 : W0.cell? ⟨w.heap.size + 1 + 1, 0, none⟩ = some (.slice none 0 0) := by subst hW0; go_simp
  have r1 : W0.cell? ⟨w.heap.size + 1 + 1, 1, none⟩ = some (.slice none 0 0) := by subst hW0; go_simp
  have fr0 : W0.frozen? ⟨w.heap.size + 1 + 1, 0, none⟩ = false := by subst hW0; go_simp
  have fr1 : W0.frozen? ⟨w.heap.size + 1 + 1, 1, none⟩ = false := by subst hW0; go_simp
  have lt0 : w.heap.size < W0.heap.size := by subst hW0; simp <;> omega
  have lt1 : w.heap.size + 1 < W0.heap.size := by subst hW0; simp <;> omega
  have lt2 : w.heap.size + 1 + 1 < W0.heap.size := by subst hW0; simp <;> omega
  exact ⟨b, e0, e1, t0, t1, r0, r1, fr0, fr1, lt0, lt1, lt2⟩

theorem gave_back {w w' : World} {A1 A2 : Option Addr} {c1 c2 n m base r : Nat} {k : Int} {g : Gt}
    (hn : g.held.length = n) (hm : g.out.length = m) (own1 : w'.ownsRow base 51 3 (.slice A1 n c1) n (g.held.flatMap Hld.enc)) (own2 : w'.ownsRow base 28 2 (.slice A2 m c2) m (g.out.flatMap Tld.enc)) (hlt : r < base) (hr : w.heap.size ≤ r) (b : Below w.heap.size w w') :
    GaveF w g k (.returned (.tuple #[.agg #[.slice A1 n c1, .slice A2 m c2], .int .i64 k])) ((w'.setCell ⟨r, 0, none⟩ (.slice A1 n c1)).setCell ⟨r, 1, none⟩ (.slice A2 m c2)) := by
  subst hn
  subst hm
  exact ⟨A1, c1, A2, c2, rfl, ⟨Sl.of_own Hld.enc_len (ownsRow_setCell_below (ownsRow_setCell_below own1 hlt _) hlt _) rfl, Sl.of_own Tld.enc_len (ownsRow_setCell_below (ownsRow_setCell_below own2 hlt _) hlt _) rfl⟩, (b.setCell hr _).setCell hr _, own_fresh own1 (by omega), own_fresh own2 (by omega), (own_cap own2).1⟩

set_option maxHeartbeats 2000000 in
theorem Tell_bad (A B : Option Addr) (c d n m : Nat) (k : Int) (g : Gt) (t : Tld) (w : World) (hg : GateIn w A B g.held g.out) (hn : g.held.length = n) (hm : g.out.length = m) (hn1 : n ≤ 1000000) (hm1 : m ≤ 1000000)
    (hbad : rightB g.held = false) :
    Calls Try.prog 7 #[.agg #[.slice A n c, .slice B m d], .int .i64 k, .agg #[.int .i64 t.core, .int .u32 t.val]] w (GaveF w g 1) := by
  have cC := fun w1 (hb : Below w.heap.size w w1) => copied_any A B c d n m g.held g.out w1 (hg.below hb) hn hm hn1 hm1
  have cR := fun w1 (hb : Below w.heap.size w w1) => Right_any A B c d n m g.held g.out w1 (hg.below hb) hn
  rw [hbad] at cR
  clear hbad
  have HN := Lib.hid hn
  have HM := Lib.hid hm
  clear hg hn hm
  go_enter Try.func7, Try.ntmps7
  go_wp2_with fail
  obtain ⟨b, e0, e1, t0, t1, r0, r1, fr0, fr1, lt0, lt1, lt2⟩ := begin_tell A B c d n m t w _ rfl
  generalize (((w.alloc (.cells #[.slice A n c, .slice B m d] 25)).alloc (.cells #[.int .i64 t.core, .int .u32 t.val] 28)).alloc (.cells #[.slice none 0 0, .slice none 0 0] 25)) = W0 at *
  refine (cC _ b).mono ?_
  rintro e w1 ⟨v1, v2, rfl, own1, own2, hb1⟩
  have ltB := lt2
  have bB := b.size
  have ob1 := own1.lt
  have ob2 := own2.lt
  obtain ⟨A1, c1, rfl⟩ := own_shape own1
  obtain ⟨A2, c2, rfl⟩ := own_shape own2
  replace e0 := (hb1.cell (p := ⟨w.heap.size, 0, none⟩) (World.block_lt_of_cell? _ _ e0)).trans e0
  replace e1 := (hb1.cell (p := ⟨w.heap.size, 1, none⟩) (World.block_lt_of_cell? _ _ e1)).trans e1
  replace t0 := (hb1.cell (p := ⟨w.heap.size + 1, 0, none⟩) (World.block_lt_of_cell? _ _ t0)).trans t0
  replace t1 := (hb1.cell (p := ⟨w.heap.size + 1, 1, none⟩) (World.block_lt_of_cell? _ _ t1)).trans t1
  replace r0 := (hb1.cell (p := ⟨w.heap.size + 1 + 1, 0, none⟩) (World.block_lt_of_cell? _ _ r0)).trans r0
  replace r1 := (hb1.cell (p := ⟨w.heap.size + 1 + 1, 1, none⟩) (World.block_lt_of_cell? _ _ r1)).trans r1
  replace fr0 := (hb1.frozen (p := ⟨w.heap.size + 1 + 1, 0, none⟩) lt2).trans fr0
  replace fr1 := (hb1.frozen (p := ⟨w.heap.size + 1 + 1, 1, none⟩) lt2).trans fr1
  replace lt0 := Nat.lt_of_lt_of_le lt0 hb1.size
  replace lt1 := Nat.lt_of_lt_of_le lt1 hb1.size
  replace lt2 := Nat.lt_of_lt_of_le lt2 hb1.size
  replace b := b.trans (hb1.mono b.size)
  have hsz1 := hb1.size
  clear hb1
  go_wp2_with fail
  replace e0 : (w1.alloc (.cells #[.slice A1 n c1, .slice A2 m c2] 25)).cell? ⟨w.heap.size, 0, none⟩ = some (.slice A n c) := (World.cell?_alloc_lt w1 _ ⟨w.heap.size, 0, none⟩ (World.block_lt_of_cell? _ _ e0)).trans e0
  replace e1 : (w1.alloc (.cells #[.slice A1 n c1, .slice A2 m c2] 25)).cell? ⟨w.heap.size, 1, none⟩ = some (.slice B m d) := (World.cell?_alloc_lt w1 _ ⟨w.heap.size, 1, none⟩ (World.block_lt_of_cell? _ _ e1)).trans e1
  replace t0 : (w1.alloc (.cells #[.slice A1 n c1, .slice A2 m c2] 25)).cell? ⟨w.heap.size + 1, 0, none⟩ = some (.int .i64 t.core) := (World.cell?_alloc_lt w1 _ ⟨w.heap.size + 1, 0, none⟩ (World.block_lt_of_cell? _ _ t0)).trans t0
  replace t1 : (w1.alloc (.cells #[.slice A1 n c1, .slice A2 m c2] 25)).cell? ⟨w.heap.size + 1, 1, none⟩ = some (.int .u32 t.val) := (World.cell?_alloc_lt w1 _ ⟨w.heap.size + 1, 1, none⟩ (World.block_lt_of_cell? _ _ t1)).trans t1
  replace r0 : (w1.alloc (.cells #[.slice A1 n c1, .slice A2 m c2] 25)).cell? ⟨w.heap.size + 1 + 1, 0, none⟩ = some (.slice none 0 0) := (World.cell?_alloc_lt w1 _ ⟨w.heap.size + 1 + 1, 0, none⟩ (World.block_lt_of_cell? _ _ r0)).trans r0
  replace r1 : (w1.alloc (.cells #[.slice A1 n c1, .slice A2 m c2] 25)).cell? ⟨w.heap.size + 1 + 1, 1, none⟩ = some (.slice none 0 0) := (World.cell?_alloc_lt w1 _ ⟨w.heap.size + 1 + 1, 1, none⟩ (World.block_lt_of_cell? _ _ r1)).trans r1
  replace fr0 : (w1.alloc (.cells #[.slice A1 n c1, .slice A2 m c2] 25)).frozen? ⟨w.heap.size + 1 + 1, 0, none⟩ = false := (((Below.refl w1.heap.size w1).alloc (Nat.le_refl _) _).frozen (p := ⟨w.heap.size + 1 + 1, 0, none⟩) lt2).trans fr0
  replace fr1 : (w1.alloc (.cells #[.slice A1 n c1, .slice A2 m c2] 25)).frozen? ⟨w.heap.size + 1 + 1, 1, none⟩ = false := (((Below.refl w1.heap.size w1).alloc (Nat.le_refl _) _).frozen (p := ⟨w.heap.size + 1 + 1, 1, none⟩) lt2).trans fr1
  have h0 : (w1.alloc (.cells #[.slice A1 n c1, .slice A2 m c2] 25)).cell? ⟨w1.heap.size, 0, none⟩ = some (.slice A1 n c1) := World.cell?_alloc_new (w := w1) _ _ _
  have h1 : (w1.alloc (.cells #[.slice A1 n c1, .slice A2 m c2] 25)).cell? ⟨w1.heap.size, 1, none⟩ = some (.slice A2 m c2) := World.cell?_alloc_new (w := w1) _ _ _
  have fh0 : (w1.alloc (.cells #[.slice A1 n c1, .slice A2 m c2] 25)).frozen? ⟨w1.heap.size, 0, none⟩ = false := by go_simp
  have fh1 : (w1.alloc (.cells #[.slice A1 n c1, .slice A2 m c2] 25)).frozen? ⟨w1.heap.size, 1, none⟩ = false := by go_simp
  replace lt0 : _ < (w1.alloc (.cells #[.slice A1 n c1, .slice A2 m c2] 25)).heap.size := Nat.lt_of_lt_of_le lt0 (by simp)
  replace lt1 : _ < (w1.alloc (.cells #[.slice A1 n c1, .slice A2 m c2] 25)).heap.size := Nat.lt_of_lt_of_le lt1 (by simp)
  replace lt2 : _ < (w1.alloc (.cells #[.slice A1 n c1, .slice A2 m c2] 25)).heap.size := Nat.lt_of_lt_of_le lt2 (by simp)
  replace own1 := own1.alloc (.cells #[.slice A1 n c1, .slice A2 m c2] 25)
  replace own2 := own2.alloc (.cells #[.slice A1 n c1, .slice A2 m c2] 25)
  replace b := b.alloc b.size (.cells #[.slice A1 n c1, .slice A2 m c2] 25)
  have ltH : w1.heap.size < (w1.alloc (.cells #[.slice A1 n c1, .slice A2 m c2] 25)).heap.size := by simp
  generalize hw_w2 : w1.alloc (.cells #[.slice A1 n c1, .slice A2 m c2] 25) = w2 at *
  clear hw_w2
  have hWH : W0.heap.size ≤ w1.heap.size := hsz1
  generalize w1.heap.size = H at *
  refine (cR _ b).mono ?_
  rintro e w3 ⟨rfl, hb3⟩
  replace e0 := (hb3.cell (p := ⟨w.heap.size, 0, none⟩) (World.block_lt_of_cell? _ _ e0)).trans e0
  replace e1 := (hb3.cell (p := ⟨w.heap.size, 1, none⟩) (World.block_lt_of_cell? _ _ e1)).trans e1
  replace t0 := (hb3.cell (p := ⟨w.heap.size + 1, 0, none⟩) (World.block_lt_of_cell? _ _ t0)).trans t0
  replace t1 := (hb3.cell (p := ⟨w.heap.size + 1, 1, none⟩) (World.block_lt_of_cell? _ _ t1)).trans t1
  replace r0 := (hb3.cell (p := ⟨w.heap.size + 1 + 1, 0, none⟩) (World.block_lt_of_cell? _ _ r0)).trans r0
  replace r1 := (hb3.cell (p := ⟨w.heap.size + 1 + 1, 1, none⟩) (World.block_lt_of_cell? _ _ r1)).trans r1
  replace h0 := (hb3.cell (p := ⟨H, 0, none⟩) (World.block_lt_of_cell? _ _ h0)).trans h0
  replace h1 := (hb3.cell (p := ⟨H, 1, none⟩) (World.block_lt_of_cell? _ _ h1)).trans h1
  replace fr0 := (hb3.frozen (p := ⟨w.heap.size + 1 + 1, 0, none⟩) lt2).trans fr0
  replace fr1 := (hb3.frozen (p := ⟨w.heap.size + 1 + 1, 1, none⟩) lt2).trans fr1
  replace fh0 := (hb3.frozen (p := ⟨H, 0, none⟩) ltH).trans fh0
  replace fh1 := (hb3.frozen (p := ⟨H, 1, none⟩) ltH).trans fh1
  replace lt0 := Nat.lt_of_lt_of_le lt0 hb3.size
  replace lt1 := Nat.lt_of_lt_of_le lt1 hb3.size
  replace lt2 := Nat.lt_of_lt_of_le lt2 hb3.size
  replace ltH := Nat.lt_of_lt_of_le ltH hb3.size
  replace own1 := own_below own1 hb3
  replace own2 := own_below own2 hb3
  replace b := b.trans (hb3.mono b.size)
  clear hb3
  go_wp2_with fail
  exact bodyPost_ret (v := .tuple #[.agg #[.slice A1 n c1, .slice A2 m c2], .int .i64 1]) (by simp [results, Try.results7, go_sem, r0, r1]) rfl (gave_back HN.out HM.out own1 own2 ltB (by omega) b)

set_option maxHeartbeats 2000000 in
theorem Tell_span (A B : Option Addr) (c d n m : Nat) (k : Int) (g : Gt) (t : Tld) (w : World) (hg : GateIn w A B g.held g.out) (hn : g.held.length = n) (hm : g.out.length = m) (hn1 : n ≤ 1000000) (hm1 : m ≤ 1000000)
    (hgood : rightB g.held = true) (hbad : spanB k = false) :
    Calls Try.prog 7 #[.agg #[.slice A n c, .slice B m d], .int .i64 k, .agg #[.int .i64 t.core, .int .u32 t.val]] w (GaveF w g 1) := by
  have cC := fun w1 (hb : Below w.heap.size w w1) => copied_any A B c d n m g.held g.out w1 (hg.below hb) hn hm hn1 hm1
  have cR := fun w1 (hb : Below w.heap.size w w1) => Right_any A B c d n m g.held g.out w1 (hg.below hb) hn
  rw [hgood] at cR
  clear hgood
  have HN := Lib.hid hn
  have HM := Lib.hid hm
  clear hg hn hm
  go_enter Try.func7, Try.ntmps7
  go_wp2_with fail
  obtain ⟨b, e0, e1, t0, t1, r0, r1, fr0, fr1, lt0, lt1, lt2⟩ := begin_tell A B c d n m t w _ rfl
  generalize (((w.alloc (.cells #[.slice A n c, .slice B m d] 25)).alloc (.cells #[.int .i64 t.core, .int .u32 t.val] 28)).alloc (.cells #[.slice none 0 0, .slice none 0 0] 25)) = W0 at *
  refine (cC _ b).mono ?_
  rintro e w1 ⟨v1, v2, rfl, own1, own2, hb1⟩
  have ltB := lt2
  have bB := b.size
  have ob1 := own1.lt
  have ob2 := own2.lt
  obtain ⟨A1, c1, rfl⟩ := own_shape own1
  obtain ⟨A2, c2, rfl⟩ := own_shape own2
  replace e0 := (hb1.cell (p := ⟨w.heap.size, 0, none⟩) (World.block_lt_of_cell? _ _ e0)).trans e0
  replace e1 := (hb1.cell (p := ⟨w.heap.size, 1, none⟩) (World.block_lt_of_cell? _ _ e1)).trans e1
  replace t0 := (hb1.cell (p := ⟨w.heap.size + 1, 0, none⟩) (World.block_lt_of_cell? _ _ t0)).trans t0
  replace t1 := (hb1.cell (p := ⟨w.heap.size + 1, 1, none⟩) (World.block_lt_of_cell? _ _ t1)).trans t1
  replace r0 := (hb1.cell (p := ⟨w.heap.size + 1 + 1, 0, none⟩) (World.block_lt_of_cell? _ _ r0)).trans r0
  replace r1 := (hb1.cell (p := ⟨w.heap.size + 1 + 1, 1, none⟩) (World.block_lt_of_cell? _ _ r1)).trans r1
  replace fr0 := (hb1.frozen (p := ⟨w.heap.size + 1 + 1, 0, none⟩) lt2).trans fr0
  replace fr1 := (hb1.frozen (p := ⟨w.heap.size + 1 + 1, 1, none⟩) lt2).trans fr1
  replace lt0 := Nat.lt_of_lt_of_le lt0 hb1.size
  replace lt1 := Nat.lt_of_lt_of_le lt1 hb1.size
  replace lt2 := Nat.lt_of_lt_of_le lt2 hb1.size
  replace b := b.trans (hb1.mono b.size)
  have hsz1 := hb1.size
  clear hb1
  go_wp2_with fail
  replace e0 : (w1.alloc (.cells #[.slice A1 n c1, .slice A2 m c2] 25)).cell? ⟨w.heap.size, 0, none⟩ = some (.slice A n c) := (World.cell?_alloc_lt w1 _ ⟨w.heap.size, 0, none⟩ (World.block_lt_of_cell? _ _ e0)).trans e0
  replace e1 : (w1.alloc (.cells #[.slice A1 n c1, .slice A2 m c2] 25)).cell? ⟨w.heap.size, 1, none⟩ = some (.slice B m d) := (World.cell?_alloc_lt w1 _ ⟨w.heap.size, 1, none⟩ (World.block_lt_of_cell? _ _ e1)).trans e1
  replace t0 : (w1.alloc (.cells #[.slice A1 n c1, .slice A2 m c2] 25)).cell? ⟨w.heap.size + 1, 0, none⟩ = some (.int .i64 t.core) := (World.cell?_alloc_lt w1 _ ⟨w.heap.size + 1, 0, none⟩ (World.block_lt_of_cell? _ _ t0)).trans t0
  replace t1 : (w1.alloc (.cells #[.slice A1 n c1, .slice A2 m c2] 25)).cell? ⟨w.heap.size + 1, 1, none⟩ = some (.int .u32 t.val) := (World.cell?_alloc_lt w1 _ ⟨w.heap.size + 1, 1, none⟩ (World.block_lt_of_cell? _ _ t1)).trans t1
  replace r0 : (w1.alloc (.cells #[.slice A1 n c1, .slice A2 m c2] 25)).cell? ⟨w.heap.size + 1 + 1, 0, none⟩ = some (.slice none 0 0) := (World.cell?_alloc_lt w1 _ ⟨w.heap.size + 1 + 1, 0, none⟩ (World.block_lt_of_cell? _ _ r0)).trans r0
  replace r1 : (w1.alloc (.cells #[.slice A1 n c1, .slice A2 m c2] 25)).cell? ⟨w.heap.size + 1 + 1, 1, none⟩ = some (.slice none 0 0) := (World.cell?_alloc_lt w1 _ ⟨w.heap.size + 1 + 1, 1, none⟩ (World.block_lt_of_cell? _ _ r1)).trans r1
  replace fr0 : (w1.alloc (.cells #[.slice A1 n c1, .slice A2 m c2] 25)).frozen? ⟨w.heap.size + 1 + 1, 0, none⟩ = false := (((Below.refl w1.heap.size w1).alloc (Nat.le_refl _) _).frozen (p := ⟨w.heap.size + 1 + 1, 0, none⟩) lt2).trans fr0
  replace fr1 : (w1.alloc (.cells #[.slice A1 n c1, .slice A2 m c2] 25)).frozen? ⟨w.heap.size + 1 + 1, 1, none⟩ = false := (((Below.refl w1.heap.size w1).alloc (Nat.le_refl _) _).frozen (p := ⟨w.heap.size + 1 + 1, 1, none⟩) lt2).trans fr1
  have h0 : (w1.alloc (.cells #[.slice A1 n c1, .slice A2 m c2] 25)).cell? ⟨w1.heap.size, 0, none⟩ = some (.slice A1 n c1) := World.cell?_alloc_new (w := w1) _ _ _
  have h1 : (w1.alloc (.cells #[.slice A1 n c1, .slice A2 m c2] 25)).cell? ⟨w1.heap.size, 1, none⟩ = some (.slice A2 m c2) := World.cell?_alloc_new (w := w1) _ _ _
  have fh0 : (w1.alloc (.cells #[.slice A1 n c1, .slice A2 m c2] 25)).frozen? ⟨w1.heap.size, 0, none⟩ = false := by go_simp
  have fh1 : (w1.alloc (.cells #[.slice A1 n c1, .slice A2 m c2] 25)).frozen? ⟨w1.heap.size, 1, none⟩ = false := by go_simp
  replace lt0 : _ < (w1.alloc (.cells #[.slice A1 n c1, .slice A2 m c2] 25)).heap.size := Nat.lt_of_lt_of_le lt0 (by simp)
  replace lt1 : _ < (w1.alloc (.cells #[.slice A1 n c1, .slice A2 m c2] 25)).heap.size := Nat.lt_of_lt_of_le lt1 (by simp)
  replace lt2 : _ < (w1.alloc (.cells #[.slice A1 n c1, .slice A2 m c2] 25)).heap.size := Nat.lt_of_lt_of_le lt2 (by simp)
  replace own1 := own1.alloc (.cells #[.slice A1 n c1, .slice A2 m c2] 25)
  replace own2 := own2.alloc (.cells #[.slice A1 n c1, .slice A2 m c2] 25)
  replace b := b.alloc b.size (.cells #[.slice A1 n c1, .slice A2 m c2] 25)
  have ltH : w1.heap.size < (w1.alloc (.cells #[.slice A1 n c1, .slice A2 m c2] 25)).heap.size := by simp
  generalize hw_w2 : w1.alloc (.cells #[.slice A1 n c1, .slice A2 m c2] 25) = w2 at *
  clear hw_w2
  have hWH : W0.heap.size ≤ w1.heap.size := hsz1
  generalize w1.heap.size = H at *
  refine (cR _ b).mono ?_
  rintro e w3 ⟨rfl, hb3⟩
  replace e0 := (hb3.cell (p := ⟨w.heap.size, 0, none⟩) (World.block_lt_of_cell? _ _ e0)).trans e0
  replace e1 := (hb3.cell (p := ⟨w.heap.size, 1, none⟩) (World.block_lt_of_cell? _ _ e1)).trans e1
  replace t0 := (hb3.cell (p := ⟨w.heap.size + 1, 0, none⟩) (World.block_lt_of_cell? _ _ t0)).trans t0
  replace t1 := (hb3.cell (p := ⟨w.heap.size + 1, 1, none⟩) (World.block_lt_of_cell? _ _ t1)).trans t1
  replace r0 := (hb3.cell (p := ⟨w.heap.size + 1 + 1, 0, none⟩) (World.block_lt_of_cell? _ _ r0)).trans r0
  replace r1 := (hb3.cell (p := ⟨w.heap.size + 1 + 1, 1, none⟩) (World.block_lt_of_cell? _ _ r1)).trans r1
  replace h0 := (hb3.cell (p := ⟨H, 0, none⟩) (World.block_lt_of_cell? _ _ h0)).trans h0
  replace h1 := (hb3.cell (p := ⟨H, 1, none⟩) (World.block_lt_of_cell? _ _ h1)).trans h1
  replace fr0 := (hb3.frozen (p := ⟨w.heap.size + 1 + 1, 0, none⟩) lt2).trans fr0
  replace fr1 := (hb3.frozen (p := ⟨w.heap.size + 1 + 1, 1, none⟩) lt2).trans fr1
  replace fh0 := (hb3.frozen (p := ⟨H, 0, none⟩) ltH).trans fh0
  replace fh1 := (hb3.frozen (p := ⟨H, 1, none⟩) ltH).trans fh1
  replace lt0 := Nat.lt_of_lt_of_le lt0 hb3.size
  replace lt1 := Nat.lt_of_lt_of_le lt1 hb3.size
  replace lt2 := Nat.lt_of_lt_of_le lt2 hb3.size
  replace ltH := Nat.lt_of_lt_of_le ltH hb3.size
  replace own1 := own_below own1 hb3
  replace own2 := own_below own2 hb3
  replace b := b.trans (hb3.mono b.size)
  clear hb3
  go_wp2_with fail
  refine (span_any _ _).mono ?_
  rintro e w4 ⟨rfl, hw4⟩
  have hw4' := hw4.symm
  subst hw4'
  rw [hbad]
  clear hbad
  go_wp2_with fail
  exact bodyPost_ret (v := .tuple #[.agg #[.slice A1 n c1, .slice A2 m c2], .int .i64 1]) (by simp [results, Try.results7, go_sem, r0, r1]) rfl (gave_back HN.out HM.out own1 own2 ltB (by omega) b)

set_option maxHeartbeats 2000000 in
theorem Tell_late (A B : Option Addr) (c d n m : Nat) (k : Int) (g : Gt) (t : Tld) (w : World) (hg : GateIn w A B g.held g.out) (hn : g.held.length = n) (hm : g.out.length = m) (hn1 : n ≤ 1000000) (hm1 : m ≤ 1000000)
    (hgood : rightB g.held = true) (hsok : spanB k = true) (h0 : 0 < n) (hlate : k < g.held[n - 1]!.span) :
    Calls Try.prog 7 #[.agg #[.slice A n c, .slice B m d], .int .i64 k, .agg #[.int .i64 t.core, .int .u32 t.val]] w (GaveF w g 1) := by
  have cC := fun w1 (hb : Below w.heap.size w w1) => copied_any A B c d n m g.held g.out w1 (hg.below hb) hn hm hn1 hm1
  have cR := fun w1 (hb : Below w.heap.size w w1) => Right_any A B c d n m g.held g.out w1 (hg.below hb) hn
  rw [hgood] at cR
  have h0z : ¬ ((n : Int) - 1 < 0) := by omega
  obtain ⟨bb, off, rfl, hq⟩ := hg.held.at_ (n - 1) (by omega)
  have q := hq 2 _ rfl
  generalize hsp : g.held[n - 1]!.span = sp at *
  clear hgood hq hsp
  have hi1 : ((n : Int) - 1).toNat = n - 1 := by omega
  have HN := Lib.hid hn
  have HM := Lib.hid hm
  clear hg hn hm
  go_enter Try.func7, Try.ntmps7
  go_wp2_with fail
  obtain ⟨b, e0, e1, t0, t1, r0, r1, fr0, fr1, lt0, lt1, lt2⟩ := begin_tell _ B c d n m t w _ rfl
  generalize (((w.alloc (.cells #[.slice (some ⟨bb, off, none⟩) n c, .slice B m d] 25)).alloc (.cells #[.int .i64 t.core, .int .u32 t.val] 28)).alloc (.cells #[.slice none 0 0, .slice none 0 0] 25)) = W0 at *
  replace q := (b.cell (World.block_lt_of_cell? w _ q)).trans q
  refine (cC _ b).mono ?_
  rintro e w1 ⟨v1, v2, rfl, own1, own2, hb1⟩
  have ltB := lt2
  have bB := b.size
  have ob1 := own1.lt
  have ob2 := own2.lt
  obtain ⟨A1, c1, rfl⟩ := own_shape own1
  obtain ⟨A2, c2, rfl⟩ := own_shape own2
  replace e0 := (hb1.cell (p := ⟨w.heap.size, 0, none⟩) (World.block_lt_of_cell? _ _ e0)).trans e0
  replace e1 := (hb1.cell (p := ⟨w.heap.size, 1, none⟩) (World.block_lt_of_cell? _ _ e1)).trans e1
  replace t0 := (hb1.cell (p := ⟨w.heap.size + 1, 0, none⟩) (World.block_lt_of_cell? _ _ t0)).trans t0
  replace t1 := (hb1.cell (p := ⟨w.heap.size + 1, 1, none⟩) (World.block_lt_of_cell? _ _ t1)).trans t1
  replace r0 := (hb1.cell (p := ⟨w.heap.size + 1 + 1, 0, none⟩) (World.block_lt_of_cell? _ _ r0)).trans r0
  replace r1 := (hb1.cell (p := ⟨w.heap.size + 1 + 1, 1, none⟩) (World.block_lt_of_cell? _ _ r1)).trans r1
  replace q := (hb1.cell (p := ⟨bb, off + (n - 1) * 3 + 2, none⟩) (World.block_lt_of_cell? _ _ q)).trans q
  replace fr0 := (hb1.frozen (p := ⟨w.heap.size + 1 + 1, 0, none⟩) lt2).trans fr0
  replace fr1 := (hb1.frozen (p := ⟨w.heap.size + 1 + 1, 1, none⟩) lt2).trans fr1
  replace lt0 := Nat.lt_of_lt_of_le lt0 hb1.size
  replace lt1 := Nat.lt_of_lt_of_le lt1 hb1.size
  replace lt2 := Nat.lt_of_lt_of_le lt2 hb1.size
  replace b := b.trans (hb1.mono b.size)
  have hsz1 := hb1.size
  clear hb1
  go_wp2_with fail
  replace e0 : (w1.alloc (.cells #[.slice A1 n c1, .slice A2 m c2] 25)).cell? ⟨w.heap.size, 0, none⟩ = some (.slice (some ⟨bb, off, none⟩) n c) := (World.cell?_alloc_lt w1 _ ⟨w.heap.size, 0, none⟩ (World.block_lt_of_cell? _ _ e0)).trans e0
  replace e1 : (w1.alloc (.cells #[.slice A1 n c1, .slice A2 m c2] 25)).cell? ⟨w.heap.size, 1, none⟩ = some (.slice B m d) := (World.cell?_alloc_lt w1 _ ⟨w.heap.size, 1, none⟩ (World.block_lt_of_cell? _ _ e1)).trans e1
  replace t0 : (w1.alloc (.cells #[.slice A1 n c1, .slice A2 m c2] 25)).cell? ⟨w.heap.size + 1, 0, none⟩ = some (.int .i64 t.core) := (World.cell?_alloc_lt w1 _ ⟨w.heap.size + 1, 0, none⟩ (World.block_lt_of_cell? _ _ t0)).trans t0
  replace t1 : (w1.alloc (.cells #[.slice A1 n c1, .slice A2 m c2] 25)).cell? ⟨w.heap.size + 1, 1, none⟩ = some (.int .u32 t.val) := (World.cell?_alloc_lt w1 _ ⟨w.heap.size + 1, 1, none⟩ (World.block_lt_of_cell? _ _ t1)).trans t1
  replace r0 : (w1.alloc (.cells #[.slice A1 n c1, .slice A2 m c2] 25)).cell? ⟨w.heap.size + 1 + 1, 0, none⟩ = some (.slice none 0 0) := (World.cell?_alloc_lt w1 _ ⟨w.heap.size + 1 + 1, 0, none⟩ (World.block_lt_of_cell? _ _ r0)).trans r0
  replace r1 : (w1.alloc (.cells #[.slice A1 n c1, .slice A2 m c2] 25)).cell? ⟨w.heap.size + 1 + 1, 1, none⟩ = some (.slice none 0 0) := (World.cell?_alloc_lt w1 _ ⟨w.heap.size + 1 + 1, 1, none⟩ (World.block_lt_of_cell? _ _ r1)).trans r1
  replace q : (w1.alloc (.cells #[.slice A1 n c1, .slice A2 m c2] 25)).cell? ⟨bb, off + (n - 1) * 3 + 2, none⟩ = some (.int .i64 sp) := (World.cell?_alloc_lt w1 _ ⟨bb, off + (n - 1) * 3 + 2, none⟩ (World.block_lt_of_cell? _ _ q)).trans q
  replace fr0 : (w1.alloc (.cells #[.slice A1 n c1, .slice A2 m c2] 25)).frozen? ⟨w.heap.size + 1 + 1, 0, none⟩ = false := (((Below.refl w1.heap.size w1).alloc (Nat.le_refl _) _).frozen (p := ⟨w.heap.size + 1 + 1, 0, none⟩) lt2).trans fr0
  replace fr1 : (w1.alloc (.cells #[.slice A1 n c1, .slice A2 m c2] 25)).frozen? ⟨w.heap.size + 1 + 1, 1, none⟩ = false := (((Below.refl w1.heap.size w1).alloc (Nat.le_refl _) _).frozen (p := ⟨w.heap.size + 1 + 1, 1, none⟩) lt2).trans fr1
  have h0 : (w1.alloc (.cells #[.slice A1 n c1, .slice A2 m c2] 25)).cell? ⟨w1.heap.size, 0, none⟩ = some (.slice A1 n c1) := World.cell?_alloc_new (w := w1) _ _ _
  have h1 : (w1.alloc (.cells #[.slice A1 n c1, .slice A2 m c2] 25)).cell? ⟨w1.heap.size, 1, none⟩ = some (.slice A2 m c2) := World.cell?_alloc_new (w := w1) _ _ _
  have fh0 : (w1.alloc (.cells #[.slice A1 n c1, .slice A2 m c2] 25)).frozen? ⟨w1.heap.size, 0, none⟩ = false := by go_simp
  have fh1 : (w1.alloc (.cells #[.slice A1 n c1, .slice A2 m c2] 25)).frozen? ⟨w1.heap.size, 1, none⟩ = false := by go_simp
  replace lt0 : _ < (w1.alloc (.cells #[.slice A1 n c1, .slice A2 m c2] 25)).heap.size := Nat.lt_of_lt_of_le lt0 (by simp)
  replace lt1 : _ < (w1.alloc (.cells #[.slice A1 n c1, .slice A2 m c2] 25)).heap.size := Nat.lt_of_lt_of_le lt1 (by simp)
  replace lt2 : _ < (w1.alloc (.cells #[.slice A1 n c1, .slice A2 m c2] 25)).heap.size := Nat.lt_of_lt_of_le lt2 (by simp)
  replace own1 := own1.alloc (.cells #[.slice A1 n c1, .slice A2 m c2] 25)
  replace own2 := own2.alloc (.cells #[.slice A1 n c1, .slice A2 m c2] 25)
  replace b := b.alloc b.size (.cells #[.slice A1 n c1, .slice A2 m c2] 25)
  have ltH : w1.heap.size < (w1.alloc (.cells #[.slice A1 n c1, .slice A2 m c2] 25)).heap.size := by simp
  generalize hw_w2 : w1.alloc (.cells #[.slice A1 n c1, .slice A2 m c2] 25) = w2 at *
  clear hw_w2
  have hWH : W0.heap.size ≤ w1.heap.size := hsz1
  generalize w1.heap.size = H at *
  refine (cR _ b).mono ?_
  rintro e w3 ⟨rfl, hb3⟩
  replace e0 := (hb3.cell (p := ⟨w.heap.size, 0, none⟩) (World.block_lt_of_cell? _ _ e0)).trans e0
  replace e1 := (hb3.cell (p := ⟨w.heap.size, 1, none⟩) (World.block_lt_of_cell? _ _ e1)).trans e1
  replace t0 := (hb3.cell (p := ⟨w.heap.size + 1, 0, none⟩) (World.block_lt_of_cell? _ _ t0)).trans t0
  replace t1 := (hb3.cell (p := ⟨w.heap.size + 1, 1, none⟩) (World.block_lt_of_cell? _ _ t1)).trans t1
  replace r0 := (hb3.cell (p := ⟨w.heap.size + 1 + 1, 0, none⟩) (World.block_lt_of_cell? _ _ r0)).trans r0
  replace r1 := (hb3.cell (p := ⟨w.heap.size + 1 + 1, 1, none⟩) (World.block_lt_of_cell? _ _ r1)).trans r1
  replace q := (hb3.cell (p := ⟨bb, off + (n - 1) * 3 + 2, none⟩) (World.block_lt_of_cell? _ _ q)).trans q
  replace h0 := (hb3.cell (p := ⟨H, 0, none⟩) (World.block_lt_of_cell? _ _ h0)).trans h0
  replace h1 := (hb3.cell (p := ⟨H, 1, none⟩) (World.block_lt_of_cell? _ _ h1)).trans h1
  replace fr0 := (hb3.frozen (p := ⟨w.heap.size + 1 + 1, 0, none⟩) lt2).trans fr0
  replace fr1 := (hb3.frozen (p := ⟨w.heap.size + 1 + 1, 1, none⟩) lt2).trans fr1
  replace fh0 := (hb3.frozen (p := ⟨H, 0, none⟩) ltH).trans fh0
  replace fh1 := (hb3.frozen (p := ⟨H, 1, none⟩) ltH).trans fh1
  replace lt0 := Nat.lt_of_lt_of_le lt0 hb3.size
  replace lt1 := Nat.lt_of_lt_of_le lt1 hb3.size
  replace lt2 := Nat.lt_of_lt_of_le lt2 hb3.size
  replace ltH := Nat.lt_of_lt_of_le ltH hb3.size
  replace own1 := own_below own1 hb3
  replace own2 := own_below own2 hb3
  replace b := b.trans (hb3.mono b.size)
  clear hb3
  go_wp2_with fail
  refine (span_any _ _).mono ?_
  rintro e w4 ⟨rfl, hw4⟩
  have hw4' := hw4.symm
  subst hw4'
  rw [hsok]
  clear hsok
  go_wp2_with fail
  exact bodyPost_ret (v := .tuple #[.agg #[.slice A1 n c1, .slice A2 m c2], .int .i64 1]) (by simp [results, Try.results7, go_sem, r0, r1]) rfl (gave_back HN.out HM.out own1 own2 ltB (by omega) b)

set_option maxHeartbeats 2000000 in
theorem Tell_full (A B : Option Addr) (c d n m : Nat) (k : Int) (g : Gt) (t : Tld) (w : World) (hg : GateIn w A B g.held g.out) (hn : g.held.length = n) (hm : g.out.length = m) (hn1 : n ≤ 1000000) (hm1 : m ≤ 1000000)
    (hgood : rightB g.held = true) (hsok : spanB k = true) (h0 : n = 64) (hlate : ¬ k < g.held[n - 1]!.span) :
    Calls Try.prog 7 #[.agg #[.slice A n c, .slice B m d], .int .i64 k, .agg #[.int .i64 t.core, .int .u32 t.val]] w (GaveF w g 6) := by
  have cC := fun w1 (hb : Below w.heap.size w w1) => copied_any A B c d n m g.held g.out w1 (hg.below hb) hn hm hn1 hm1
  have cR := fun w1 (hb : Below w.heap.size w w1) => Right_any A B c d n m g.held g.out w1 (hg.below hb) hn
  rw [hgood] at cR
  have h0z : ¬ ((n : Int) - 1 < 0) := by omega
  obtain ⟨bb, off, rfl, hq⟩ := hg.held.at_ (n - 1) (by omega)
  have q := hq 2 _ rfl
  generalize hsp : g.held[n - 1]!.span = sp at *
  clear hgood hq hsp
  have hi1 : ((n : Int) - 1).toNat = n - 1 := by omega
  have h64 : ((n : Int) == 64) = true := by rw [beq_iff_eq]; omega
  clear h0
  have HN := Lib.hid hn
  have HM := Lib.hid hm
  clear hg hn hm
  go_enter Try.func7, Try.ntmps7
  go_wp2_with fail
  obtain ⟨b, e0, e1, t0, t1, r0, r1, fr0, fr1, lt0, lt1, lt2⟩ := begin_tell _ B c d n m t w _ rfl
  generalize (((w.alloc (.cells #[.slice (some ⟨bb, off, none⟩) n c, .slice B m d] 25)).alloc (.cells #[.int .i64 t.core, .int .u32 t.val] 28)).alloc (.cells #[.slice none 0 0, .slice none 0 0] 25)) = W0 at *
  replace q := (b.cell (World.block_lt_of_cell? w _ q)).trans q
  refine (cC _ b).mono ?_
  rintro e w1 ⟨v1, v2, rfl, own1, own2, hb1⟩
  have ltB := lt2
  have bB := b.size
  have ob1 := own1.lt
  have ob2 := own2.lt
  obtain ⟨A1, c1, rfl⟩ := own_shape own1
  obtain ⟨A2, c2, rfl⟩ := own_shape own2
  replace e0 := (hb1.cell (p := ⟨w.heap.size, 0, none⟩) (World.block_lt_of_cell? _ _ e0)).trans e0
  replace e1 := (hb1.cell (p := ⟨w.heap.size, 1, none⟩) (World.block_lt_of_cell? _ _ e1)).trans e1
  replace t0 := (hb1.cell (p := ⟨w.heap.size + 1, 0, none⟩) (World.block_lt_of_cell? _ _ t0)).trans t0
  replace t1 := (hb1.cell (p := ⟨w.heap.size + 1, 1, none⟩) (World.block_lt_of_cell? _ _ t1)).trans t1
  replace r0 := (hb1.cell (p := ⟨w.heap.size + 1 + 1, 0, none⟩) (World.block_lt_of_cell? _ _ r0)).trans r0
  replace r1 := (hb1.cell (p := ⟨w.heap.size + 1 + 1, 1, none⟩) (World.block_lt_of_cell? _ _ r1)).trans r1
  replace q := (hb1.cell (p := ⟨bb, off + (n - 1) * 3 + 2, none⟩) (World.block_lt_of_cell? _ _ q)).trans q
  replace fr0 := (hb1.frozen (p := ⟨w.heap.size + 1 + 1, 0, none⟩) lt2).trans fr0
  replace fr1 := (hb1.frozen (p := ⟨w.heap.size + 1 + 1, 1, none⟩) lt2).trans fr1
  replace lt0 := Nat.lt_of_lt_of_le lt0 hb1.size
  replace lt1 := Nat.lt_of_lt_of_le lt1 hb1.size
  replace lt2 := Nat.lt_of_lt_of_le lt2 hb1.size
  replace b := b.trans (hb1.mono b.size)
  have hsz1 := hb1.size
  clear hb1
  go_wp2_with fail
  replace e0 : (w1.alloc (.cells #[.slice A1 n c1, .slice A2 m c2] 25)).cell? ⟨w.heap.size, 0, none⟩ = some (.slice (some ⟨bb, off, none⟩) n c) := (World.cell?_alloc_lt w1 _ ⟨w.heap.size, 0, none⟩ (World.block_lt_of_cell? _ _ e0)).trans e0
  replace e1 : (w1.alloc (.cells #[.slice A1 n c1, .slice A2 m c2] 25)).cell? ⟨w.heap.size, 1, none⟩ = some (.slice B m d) := (World.cell?_alloc_lt w1 _ ⟨w.heap.size, 1, none⟩ (World.block_lt_of_cell? _ _ e1)).trans e1
  replace t0 : (w1.alloc (.cells #[.slice A1 n c1, .slice A2 m c2] 25)).cell? ⟨w.heap.size + 1, 0, none⟩ = some (.int .i64 t.core) := (World.cell?_alloc_lt w1 _ ⟨w.heap.size + 1, 0, none⟩ (World.block_lt_of_cell? _ _ t0)).trans t0
  replace t1 : (w1.alloc (.cells #[.slice A1 n c1, .slice A2 m c2] 25)).cell? ⟨w.heap.size + 1, 1, none⟩ = some (.int .u32 t.val) := (World.cell?_alloc_lt w1 _ ⟨w.heap.size + 1, 1, none⟩ (World.block_lt_of_cell? _ _ t1)).trans t1
  replace r0 : (w1.alloc (.cells #[.slice A1 n c1, .slice A2 m c2] 25)).cell? ⟨w.heap.size + 1 + 1, 0, none⟩ = some (.slice none 0 0) := (World.cell?_alloc_lt w1 _ ⟨w.heap.size + 1 + 1, 0, none⟩ (World.block_lt_of_cell? _ _ r0)).trans r0
  replace r1 : (w1.alloc (.cells #[.slice A1 n c1, .slice A2 m c2] 25)).cell? ⟨w.heap.size + 1 + 1, 1, none⟩ = some (.slice none 0 0) := (World.cell?_alloc_lt w1 _ ⟨w.heap.size + 1 + 1, 1, none⟩ (World.block_lt_of_cell? _ _ r1)).trans r1
  replace q : (w1.alloc (.cells #[.slice A1 n c1, .slice A2 m c2] 25)).cell? ⟨bb, off + (n - 1) * 3 + 2, none⟩ = some (.int .i64 sp) := (World.cell?_alloc_lt w1 _ ⟨bb, off + (n - 1) * 3 + 2, none⟩ (World.block_lt_of_cell? _ _ q)).trans q
  replace fr0 : (w1.alloc (.cells #[.slice A1 n c1, .slice A2 m c2] 25)).frozen? ⟨w.heap.size + 1 + 1, 0, none⟩ = false := (((Below.refl w1.heap.size w1).alloc (Nat.le_refl _) _).frozen (p := ⟨w.heap.size + 1 + 1, 0, none⟩) lt2).trans fr0
  replace fr1 : (w1.alloc (.cells #[.slice A1 n c1, .slice A2 m c2] 25)).frozen? ⟨w.heap.size + 1 + 1, 1, none⟩ = false := (((Below.refl w1.heap.size w1).alloc (Nat.le_refl _) _).frozen (p := ⟨w.heap.size + 1 + 1, 1, none⟩) lt2).trans fr1
  have h0 : (w1.alloc (.cells #[.slice A1 n c1, .slice A2 m c2] 25)).cell? ⟨w1.heap.size, 0, none⟩ = some (.slice A1 n c1) := World.cell?_alloc_new (w := w1) _ _ _
  have h1 : (w1.alloc (.cells #[.slice A1 n c1, .slice A2 m c2] 25)).cell? ⟨w1.heap.size, 1, none⟩ = some (.slice A2 m c2) := World.cell?_alloc_new (w := w1) _ _ _
  have fh0 : (w1.alloc (.cells #[.slice A1 n c1, .slice A2 m c2] 25)).frozen? ⟨w1.heap.size, 0, none⟩ = false := by go_simp
  have fh1 : (w1.alloc (.cells #[.slice A1 n c1, .slice A2 m c2] 25)).frozen? ⟨w1.heap.size, 1, none⟩ = false := by go_simp
  replace lt0 : _ < (w1.alloc (.cells #[.slice A1 n c1, .slice A2 m c2] 25)).heap.size := Nat.lt_of_lt_of_le lt0 (by simp)
  replace lt1 : _ < (w1.alloc (.cells #[.slice A1 n c1, .slice A2 m c2] 25)).heap.size := Nat.lt_of_lt_of_le lt1 (by simp)
  replace lt2 : _ < (w1.alloc (.cells #[.slice A1 n c1, .slice A2 m c2] 25)).heap.size := Nat.lt_of_lt_of_le lt2 (by simp)
  replace own1 := own1.alloc (.cells #[.slice A1 n c1, .slice A2 m c2] 25)
  replace own2 := own2.alloc (.cells #[.slice A1 n c1, .slice A2 m c2] 25)
  replace b := b.alloc b.size (.cells #[.slice A1 n c1, .slice A2 m c2] 25)
  have ltH : w1.heap.size < (w1.alloc (.cells #[.slice A1 n c1, .slice A2 m c2] 25)).heap.size := by simp
  generalize hw_w2 : w1.alloc (.cells #[.slice A1 n c1, .slice A2 m c2] 25) = w2 at *
  clear hw_w2
  have hWH : W0.heap.size ≤ w1.heap.size := hsz1
  generalize w1.heap.size = H at *
  refine (cR _ b).mono ?_
  rintro e w3 ⟨rfl, hb3⟩
  replace e0 := (hb3.cell (p := ⟨w.heap.size, 0, none⟩) (World.block_lt_of_cell? _ _ e0)).trans e0
  replace e1 := (hb3.cell (p := ⟨w.heap.size, 1, none⟩) (World.block_lt_of_cell? _ _ e1)).trans e1
  replace t0 := (hb3.cell (p := ⟨w.heap.size + 1, 0, none⟩) (World.block_lt_of_cell? _ _ t0)).trans t0
  replace t1 := (hb3.cell (p := ⟨w.heap.size + 1, 1, none⟩) (World.block_lt_of_cell? _ _ t1)).trans t1
  replace r0 := (hb3.cell (p := ⟨w.heap.size + 1 + 1, 0, none⟩) (World.block_lt_of_cell? _ _ r0)).trans r0
  replace r1 := (hb3.cell (p := ⟨w.heap.size + 1 + 1, 1, none⟩) (World.block_lt_of_cell? _ _ r1)).trans r1
  replace q := (hb3.cell (p := ⟨bb, off + (n - 1) * 3 + 2, none⟩) (World.block_lt_of_cell? _ _ q)).trans q
  replace h0 := (hb3.cell (p := ⟨H, 0, none⟩) (World.block_lt_of_cell? _ _ h0)).trans h0
  replace h1 := (hb3.cell (p := ⟨H, 1, none⟩) (World.block_lt_of_cell? _ _ h1)).trans h1
  replace fr0 := (hb3.frozen (p := ⟨w.heap.size + 1 + 1, 0, none⟩) lt2).trans fr0
  replace fr1 := (hb3.frozen (p := ⟨w.heap.size + 1 + 1, 1, none⟩) lt2).trans fr1
  replace fh0 := (hb3.frozen (p := ⟨H, 0, none⟩) ltH).trans fh0
  replace fh1 := (hb3.frozen (p := ⟨H, 1, none⟩) ltH).trans fh1
  replace lt0 := Nat.lt_of_lt_of_le lt0 hb3.size
  replace lt1 := Nat.lt_of_lt_of_le lt1 hb3.size
  replace lt2 := Nat.lt_of_lt_of_le lt2 hb3.size
  replace ltH := Nat.lt_of_lt_of_le ltH hb3.size
  replace own1 := own_below own1 hb3
  replace own2 := own_below own2 hb3
  replace b := b.trans (hb3.mono b.size)
  clear hb3
  go_wp2_with fail
  refine (span_any _ _).mono ?_
  rintro e w4 ⟨rfl, hw4⟩
  have hw4' := hw4.symm
  subst hw4'
  rw [hsok]
  clear hsok
  go_wp2_with fail
  exact bodyPost_ret (v := .tuple #[.agg #[.slice A1 n c1, .slice A2 m c2], .int .i64 6]) (by simp [results, Try.results7, go_sem, r0, r1]) rfl (gave_back HN.out HM.out own1 own2 ltB (by omega) b)

set_option maxHeartbeats 2000000 in
theorem Tell_first (A B : Option Addr) (c d n m : Nat) (k : Int) (g : Gt) (t : Tld) (w : World) (hg : GateIn w A B g.held g.out) (hn : g.held.length = n) (hm : g.out.length = m) (hn1 : n ≤ 1000000) (hm1 : m ≤ 1000000)
    (hgood : rightB g.held = true) (hsok : spanB k = true) (h0 : n = 0) :
    Calls Try.prog 7 #[.agg #[.slice A n c, .slice B m d], .int .i64 k, .agg #[.int .i64 t.core, .int .u32 t.val]] w (GaveF w ⟨g.held ++ [⟨t.core, t.val, k⟩], g.out⟩ 0) := by
  have cC := fun w1 (hb : Below w.heap.size w w1) => copied_any A B c d n m g.held g.out w1 (hg.below hb) hn hm hn1 hm1
  have cR := fun w1 (hb : Below w.heap.size w w1) => Right_any A B c d n m g.held g.out w1 (hg.below hb) hn
  rw [hgood] at cR
  clear hgood
  have h0z : (n : Int) - 1 < 0 := by omega
  have h64 : ((n : Int) == 64) = false := by rw [beq_eq_false_iff_ne]; omega
  obtain ⟨i0, hi, hz0, hz1, hz2⟩ := info_parts info51
  have h0n : n ≤ 64 := by omega
  clear h0
  have HN := Lib.hid hn
  have HM := Lib.hid hm
  clear hg hn hm
  go_enter Try.func7, Try.ntmps7
  go_wp2_with fail
  obtain ⟨b, e0, e1, t0, t1, r0, r1, fr0, fr1, lt0, lt1, lt2⟩ := begin_tell A B c d n m t w _ rfl
  generalize (((w.alloc (.cells #[.slice A n c, .slice B m d] 25)).alloc (.cells #[.int .i64 t.core, .int .u32 t.val] 28)).alloc (.cells #[.slice none 0 0, .slice none 0 0] 25)) = W0 at *
  refine (cC _ b).mono ?_
  rintro e w1 ⟨v1, v2, rfl, own1, own2, hb1⟩
  have ltB := lt2
  have bB := b.size
  have ob1 := own1.lt
  have ob2 := own2.lt
  obtain ⟨A1, c1, rfl⟩ := own_shape own1
  obtain ⟨A2, c2, rfl⟩ := own_shape own2
  replace e0 := (hb1.cell (p := ⟨w.heap.size, 0, none⟩) (World.block_lt_of_cell? _ _ e0)).trans e0
  replace e1 := (hb1.cell (p := ⟨w.heap.size, 1, none⟩) (World.block_lt_of_cell? _ _ e1)).trans e1
  replace t0 := (hb1.cell (p := ⟨w.heap.size + 1, 0, none⟩) (World.block_lt_of_cell? _ _ t0)).trans t0
  replace t1 := (hb1.cell (p := ⟨w.heap.size + 1, 1, none⟩) (World.block_lt_of_cell? _ _ t1)).trans t1
  replace r0 := (hb1.cell (p := ⟨w.heap.size + 1 + 1, 0, none⟩) (World.block_lt_of_cell? _ _ r0)).trans r0
  replace r1 := (hb1.cell (p := ⟨w.heap.size + 1 + 1, 1, none⟩) (World.block_lt_of_cell? _ _ r1)).trans r1
  replace fr0 := (hb1.frozen (p := ⟨w.heap.size + 1 + 1, 0, none⟩) lt2).trans fr0
  replace fr1 := (hb1.frozen (p := ⟨w.heap.size + 1 + 1, 1, none⟩) lt2).trans fr1
  replace lt0 := Nat.lt_of_lt_of_le lt0 hb1.size
  replace lt1 := Nat.lt_of_lt_of_le lt1 hb1.size
  replace lt2 := Nat.lt_of_lt_of_le lt2 hb1.size
  replace b := b.trans (hb1.mono b.size)
  have hsz1 := hb1.size
  clear hb1
  go_wp2_with fail
  replace e0 : (w1.alloc (.cells #[.slice A1 n c1, .slice A2 m c2] 25)).cell? ⟨w.heap.size, 0, none⟩ = some (.slice A n c) := (World.cell?_alloc_lt w1 _ ⟨w.heap.size, 0, none⟩ (World.block_lt_of_cell? _ _ e0)).trans e0
  replace e1 : (w1.alloc (.cells #[.slice A1 n c1, .slice A2 m c2] 25)).cell? ⟨w.heap.size, 1, none⟩ = some (.slice B m d) := (World.cell?_alloc_lt w1 _ ⟨w.heap.size, 1, none⟩ (World.block_lt_of_cell? _ _ e1)).trans e1
  replace t0 : (w1.alloc (.cells #[.slice A1 n c1, .slice A2 m c2] 25)).cell? ⟨w.heap.size + 1, 0, none⟩ = some (.int .i64 t.core) := (World.cell?_alloc_lt w1 _ ⟨w.heap.size + 1, 0, none⟩ (World.block_lt_of_cell? _ _ t0)).trans t0
  replace t1 : (w1.alloc (.cells #[.slice A1 n c1, .slice A2 m c2] 25)).cell? ⟨w.heap.size + 1, 1, none⟩ = some (.int .u32 t.val) := (World.cell?_alloc_lt w1 _ ⟨w.heap.size + 1, 1, none⟩ (World.block_lt_of_cell? _ _ t1)).trans t1
  replace r0 : (w1.alloc (.cells #[.slice A1 n c1, .slice A2 m c2] 25)).cell? ⟨w.heap.size + 1 + 1, 0, none⟩ = some (.slice none 0 0) := (World.cell?_alloc_lt w1 _ ⟨w.heap.size + 1 + 1, 0, none⟩ (World.block_lt_of_cell? _ _ r0)).trans r0
  replace r1 : (w1.alloc (.cells #[.slice A1 n c1, .slice A2 m c2] 25)).cell? ⟨w.heap.size + 1 + 1, 1, none⟩ = some (.slice none 0 0) := (World.cell?_alloc_lt w1 _ ⟨w.heap.size + 1 + 1, 1, none⟩ (World.block_lt_of_cell? _ _ r1)).trans r1
  replace fr0 : (w1.alloc (.cells #[.slice A1 n c1, .slice A2 m c2] 25)).frozen? ⟨w.heap.size + 1 + 1, 0, none⟩ = false := (((Below.refl w1.heap.size w1).alloc (Nat.le_refl _) _).frozen (p := ⟨w.heap.size + 1 + 1, 0, none⟩) lt2).trans fr0
  replace fr1 : (w1.alloc (.cells #[.slice A1 n c1, .slice A2 m c2] 25)).frozen? ⟨w.heap.size + 1 + 1, 1, none⟩ = false := (((Below.refl w1.heap.size w1).alloc (Nat.le_refl _) _).frozen (p := ⟨w.heap.size + 1 + 1, 1, none⟩) lt2).trans fr1
  have h0 : (w1.alloc (.cells #[.slice A1 n c1, .slice A2 m c2] 25)).cell? ⟨w1.heap.size, 0, none⟩ = some (.slice A1 n c1) := World.cell?_alloc_new (w := w1) _ _ _
  have h1 : (w1.alloc (.cells #[.slice A1 n c1, .slice A2 m c2] 25)).cell? ⟨w1.heap.size, 1, none⟩ = some (.slice A2 m c2) := World.cell?_alloc_new (w := w1) _ _ _
  have fh0 : (w1.alloc (.cells #[.slice A1 n c1, .slice A2 m c2] 25)).frozen? ⟨w1.heap.size, 0, none⟩ = false := by go_simp
  have fh1 : (w1.alloc (.cells #[.slice A1 n c1, .slice A2 m c2] 25)).frozen? ⟨w1.heap.size, 1, none⟩ = false := by go_simp
  replace lt0 : _ < (w1.alloc (.cells #[.slice A1 n c1, .slice A2 m c2] 25)).heap.size := Nat.lt_of_lt_of_le lt0 (by simp)
  replace lt1 : _ < (w1.alloc (.cells #[.slice A1 n c1, .slice A2 m c2] 25)).heap.size := Nat.lt_of_lt_of_le lt1 (by simp)
  replace lt2 : _ < (w1.alloc (.cells #[.slice A1 n c1, .slice A2 m c2] 25)).heap.size := Nat.lt_of_lt_of_le lt2 (by simp)
  replace own1 := own1.alloc (.cells #[.slice A1 n c1, .slice A2 m c2] 25)
  replace own2 := own2.alloc (.cells #[.slice A1 n c1, .slice A2 m c2] 25)
  replace b := b.alloc b.size (.cells #[.slice A1 n c1, .slice A2 m c2] 25)
  have ltH : w1.heap.size < (w1.alloc (.cells #[.slice A1 n c1, .slice A2 m c2] 25)).heap.size := by simp
  generalize hw_w2 : w1.alloc (.cells #[.slice A1 n c1, .slice A2 m c2] 25) = w2 at *
  clear hw_w2
  have hWH : W0.heap.size ≤ w1.heap.size := hsz1
  generalize w1.heap.size = H at *
  refine (cR _ b).mono ?_
  rintro e w3 ⟨rfl, hb3⟩
  replace e0 := (hb3.cell (p := ⟨w.heap.size, 0, none⟩) (World.block_lt_of_cell? _ _ e0)).trans e0
  replace e1 := (hb3.cell (p := ⟨w.heap.size, 1, none⟩) (World.block_lt_of_cell? _ _ e1)).trans e1
  replace t0 := (hb3.cell (p := ⟨w.heap.size + 1, 0, none⟩) (World.block_lt_of_cell? _ _ t0)).trans t0
  replace t1 := (hb3.cell (p := ⟨w.heap.size + 1, 1, none⟩) (World.block_lt_of_cell? _ _ t1)).trans t1
  replace r0 := (hb3.cell (p := ⟨w.heap.size + 1 + 1, 0, none⟩) (World.block_lt_of_cell? _ _ r0)).trans r0
  replace r1 := (hb3.cell (p := ⟨w.heap.size + 1 + 1, 1, none⟩) (World.block_lt_of_cell? _ _ r1)).trans r1
  replace h0 := (hb3.cell (p := ⟨H, 0, none⟩) (World.block_lt_of_cell? _ _ h0)).trans h0
  replace h1 := (hb3.cell (p := ⟨H, 1, none⟩) (World.block_lt_of_cell? _ _ h1)).trans h1
  replace fr0 := (hb3.frozen (p := ⟨w.heap.size + 1 + 1, 0, none⟩) lt2).trans fr0
  replace fr1 := (hb3.frozen (p := ⟨w.heap.size + 1 + 1, 1, none⟩) lt2).trans fr1
  replace fh0 := (hb3.frozen (p := ⟨H, 0, none⟩) ltH).trans fh0
  replace fh1 := (hb3.frozen (p := ⟨H, 1, none⟩) ltH).trans fh1
  replace lt0 := Nat.lt_of_lt_of_le lt0 hb3.size
  replace lt1 := Nat.lt_of_lt_of_le lt1 hb3.size
  replace lt2 := Nat.lt_of_lt_of_le lt2 hb3.size
  replace ltH := Nat.lt_of_lt_of_le ltH hb3.size
  replace own1 := own_below own1 hb3
  replace own2 := own_below own2 hb3
  replace b := b.trans (hb3.mono b.size)
  clear hb3
  go_wp2_with fail
  refine (span_any _ _).mono ?_
  rintro e w4 ⟨rfl, hw4⟩
  have hw4' := hw4.symm
  subst hw4'
  rw [hsok]
  clear hsok
  go_wp2_with (at_builtin; refine wpList_append_own_at _ rfl _ _ 22 rfl W0.heap.size 51 i0 _ 3 24 Try.underlying22 hi hz0 hz1 hz2 rfl (by decide) _ _ _ rfl (own1.alloc _) ⟨w3.heap.size, 0, none⟩ 1 1 [.int .i64 t.core, .int .u32 t.val, .int .i64 k] rfl rfl (fun j u hj => cell_new_block w3 _ 51 j u hj) (by intro u hu; simp at hu; rcases hu with rfl | rfl | rfl <;> rfl) (by unfold maxLen; omega) (by omega) (by simp; omega) ?_)
  intro v' w5 own1' hgrow hnil hat
  have own2' := (own2.alloc (.cells #[.int .i64 t.core, .int .u32 t.val, .int .i64 k] 51)).kept hgrow (own_two own2 own1 (by decide))
  obtain ⟨cH, fH⟩ := far_append hgrow H ltH (fun e => by have := ob1 _ e; omega)
  obtain ⟨cr, fr⟩ := far_append hgrow (w.heap.size + 1 + 1) lt2 (fun e => by have := ob1 _ e; omega)
  replace h0 := (cH 0).trans h0
  replace h1 := (cH 1).trans h1
  replace fh0 := (fH 0).trans fh0
  replace r0 := (cr 0).trans r0
  replace r1 := (cr 1).trans r1
  replace fr0 := (fr 0).trans fr0
  replace fr1 := (fr 1).trans fr1
  replace b := below_append (b.alloc b.size _) hgrow (by simp; have := b.size; omega) (own1.alloc _) bB
  have hs5 : w3.heap.size ≤ w5.heap.size := by have := hgrow.size; simp at this; omega
  have ltH0 := ltH
  replace ltH := Nat.lt_of_lt_of_le ltH hs5
  replace lt2 := Nat.lt_of_lt_of_le lt2 hs5
  obtain ⟨A3, c3, rfl⟩ := own_shape own1'
  have ne3 : (Value.slice A3 (n + 1) c3).ownBlock ≠ some H := by
    rcases hat with e | e <;> rw [e]
    · intro e'; have := ob1 _ e'; omega
    · simp; omega
  have ne2 : (Value.slice A2 m c2).ownBlock ≠ some H := fun e => by have := ob2 _ e; omega
  have own3 := ownsRow_setCell_other (a := ⟨H, 0, none⟩) own1' ne3 (.slice A3 (n + 1) c3)
  have own4 := ownsRow_setCell_other (a := ⟨H, 0, none⟩) own2' ne2 (.slice A3 (n + 1) c3)
  have b6 := b.setCell (p := (⟨H, 0, none⟩ : Addr)) (by have := b.size; simp; omega) (.slice A3 (n + 1) c3)
  have hcs : g.held.flatMap Hld.enc ++ [.int .i64 t.core, .int .u32 t.val, .int .i64 k] = (g.held ++ [(⟨t.core, t.val, k⟩ : Hld)]).flatMap Hld.enc := by rw [List.flatMap_append]; rfl
  rw [hcs] at own3
  have hnn := HN.out
  clear cH fH cr fr hgrow hnil e0 e1 t0 t1 lt0 lt1 hat hcs ne3 ne2 own1' own2'
  have HNN := Lib.hid hnn
  clear hnn
  go_wp2_with fail
  exact bodyPost_ret (v := .tuple #[.agg #[.slice A3 (n + 1) c3, .slice A2 m c2], .int .i64 0]) (by simp [results, Try.results7, go_sem, r0, r1]) rfl (gave_back (g := ⟨g.held ++ [⟨t.core, t.val, k⟩], g.out⟩) (by simp [HNN.out]) HM.out own3 own4 ltB (by omega) b6)

set_option maxHeartbeats 2000000 in
theorem Tell_next (A B : Option Addr) (c d n m : Nat) (k : Int) (g : Gt) (t : Tld) (w : World) (hg : GateIn w A B g.held g.out) (hn : g.held.length = n) (hm : g.out.length = m) (hn1 : n ≤ 1000000) (hm1 : m ≤ 1000000)
    (hgood : rightB g.held = true) (hsok : spanB k = true) (h0 : 0 < n) (h64' : n < 64) (hlate : ¬ k < g.held[n - 1]!.span) :
    Calls Try.prog 7 #[.agg #[.slice A n c, .slice B m d], .int .i64 k, .agg #[.int .i64 t.core, .int .u32 t.val]] w (GaveF w ⟨g.held ++ [⟨t.core, t.val, k⟩], g.out⟩ 0) := by
  have cC := fun w1 (hb : Below w.heap.size w w1) => copied_any A B c d n m g.held g.out w1 (hg.below hb) hn hm hn1 hm1
  have cR := fun w1 (hb : Below w.heap.size w w1) => Right_any A B c d n m g.held g.out w1 (hg.below hb) hn
  rw [hgood] at cR
  have h0z : ¬ ((n : Int) - 1 < 0) := by omega
  obtain ⟨bb, off, rfl, hq⟩ := hg.held.at_ (n - 1) (by omega)
  have q := hq 2 _ rfl
  generalize hsp : g.held[n - 1]!.span = sp at *
  clear hgood hq hsp
  have hi1 : ((n : Int) - 1).toNat = n - 1 := by omega
  have h64 : ((n : Int) == 64) = false := by rw [beq_eq_false_iff_ne]; omega
  obtain ⟨i0, hi, hz0, hz1, hz2⟩ := info_parts info51
  have HN := Lib.hid hn
  have HM := Lib.hid hm
  clear hg hn hm
  go_enter Try.func7, Try.ntmps7
  go_wp2_with fail
  obtain ⟨b, e0, e1, t0, t1, r0, r1, fr0, fr1, lt0, lt1, lt2⟩ := begin_tell _ B c d n m t w _ rfl
  generalize (((w.alloc (.cells #[.slice (some ⟨bb, off, none⟩) n c, .slice B m d] 25)).alloc (.cells #[.int .i64 t.core, .int .u32 t.val] 28)).alloc (.cells #[.slice none 0 0, .slice none 0 0] 25)) = W0 at *
  replace q := (b.cell (World.block_lt_of_cell? w _ q)).trans q
  refine (cC _ b).mono ?_
  rintro e w1 ⟨v1, v2, rfl, own1, own2, hb1⟩
  have ltB := lt2
  have bB := b.size
  have ob1 := own1.lt
  have ob2 := own2.lt
  obtain ⟨A1, c1, rfl⟩ := own_shape own1
  obtain ⟨A2, c2, rfl⟩ := own_shape own2
  replace e0 := (hb1.cell (p := ⟨w.heap.size, 0, none⟩) (World.block_lt_of_cell? _ _ e0)).trans e0
  replace e1 := (hb1.cell (p := ⟨w.heap.size, 1, none⟩) (World.block_lt_of_cell? _ _ e1)).trans e1
  replace t0 := (hb1.cell (p := ⟨w.heap.size + 1, 0, none⟩) (World.block_lt_of_cell? _ _ t0)).trans t0
  replace t1 := (hb1.cell (p := ⟨w.heap.size + 1, 1, none⟩) (World.block_lt_of_cell? _ _ t1)).trans t1
  replace r0 := (hb1.cell (p := ⟨w.heap.size + 1 + 1, 0, none⟩) (World.block_lt_of_cell? _ _ r0)).trans r0
  replace r1 := (hb1.cell (p := ⟨w.heap.size + 1 + 1, 1, none⟩) (World.block_lt_of_cell? _ _ r1)).trans r1
  replace q := (hb1.cell (p := ⟨bb, off + (n - 1) * 3 + 2, none⟩) (World.block_lt_of_cell? _ _ q)).trans q
  replace fr0 := (hb1.frozen (p := ⟨w.heap.size + 1 + 1, 0, none⟩) lt2).trans fr0
  replace fr1 := (hb1.frozen (p := ⟨w.heap.size + 1 + 1, 1, none⟩) lt2).trans fr1
  replace lt0 := Nat.lt_of_lt_of_le lt0 hb1.size
  replace lt1 := Nat.lt_of_lt_of_le lt1 hb1.size
  replace lt2 := Nat.lt_of_lt_of_le lt2 hb1.size
  replace b := b.trans (hb1.mono b.size)
  have hsz1 := hb1.size
  clear hb1
  go_wp2_with fail
  replace e0 : (w1.alloc (.cells #[.slice A1 n c1, .slice A2 m c2] 25)).cell? ⟨w.heap.size, 0, none⟩ = some (.slice (some ⟨bb, off, none⟩) n c) := (World.cell?_alloc_lt w1 _ ⟨w.heap.size, 0, none⟩ (World.block_lt_of_cell? _ _ e0)).trans e0
  replace e1 : (w1.alloc (.cells #[.slice A1 n c1, .slice A2 m c2] 25)).cell? ⟨w.heap.size, 1, none⟩ = some (.slice B m d) := (World.cell?_alloc_lt w1 _ ⟨w.heap.size, 1, none⟩ (World.block_lt_of_cell? _ _ e1)).trans e1
  replace t0 : (w1.alloc (.cells #[.slice A1 n c1, .slice A2 m c2] 25)).cell? ⟨w.heap.size + 1, 0, none⟩ = some (.int .i64 t.core) := (World.cell?_alloc_lt w1 _ ⟨w.heap.size + 1, 0, none⟩ (World.block_lt_of_cell? _ _ t0)).trans t0
  replace t1 : (w1.alloc (.cells #[.slice A1 n c1, .slice A2 m c2] 25)).cell? ⟨w.heap.size + 1, 1, none⟩ = some (.int .u32 t.val) := (World.cell?_alloc_lt w1 _ ⟨w.heap.size + 1, 1, none⟩ (World.block_lt_of_cell? _ _ t1)).trans t1
  replace r0 : (w1.alloc (.cells #[.slice A1 n c1, .slice A2 m c2] 25)).cell? ⟨w.heap.size + 1 + 1, 0, none⟩ = some (.slice none 0 0) := (World.cell?_alloc_lt w1 _ ⟨w.heap.size + 1 + 1, 0, none⟩ (World.block_lt_of_cell? _ _ r0)).trans r0
  replace r1 : (w1.alloc (.cells #[.slice A1 n c1, .slice A2 m c2] 25)).cell? ⟨w.heap.size + 1 + 1, 1, none⟩ = some (.slice none 0 0) := (World.cell?_alloc_lt w1 _ ⟨w.heap.size + 1 + 1, 1, none⟩ (World.block_lt_of_cell? _ _ r1)).trans r1
  replace q : (w1.alloc (.cells #[.slice A1 n c1, .slice A2 m c2] 25)).cell? ⟨bb, off + (n - 1) * 3 + 2, none⟩ = some (.int .i64 sp) := (World.cell?_alloc_lt w1 _ ⟨bb, off + (n - 1) * 3 + 2, none⟩ (World.block_lt_of_cell? _ _ q)).trans q
  replace fr0 : (w1.alloc (.cells #[.slice A1 n c1, .slice A2 m c2] 25)).frozen? ⟨w.heap.size + 1 + 1, 0, none⟩ = false := (((Below.refl w1.heap.size w1).alloc (Nat.le_refl _) _).frozen (p := ⟨w.heap.size + 1 + 1, 0, none⟩) lt2).trans fr0
  replace fr1 : (w1.alloc (.cells #[.slice A1 n c1, .slice A2 m c2] 25)).frozen? ⟨w.heap.size + 1 + 1, 1, none⟩ = false := (((Below.refl w1.heap.size w1).alloc (Nat.le_refl _) _).frozen (p := ⟨w.heap.size + 1 + 1, 1, none⟩) lt2).trans fr1
  have h0 : (w1.alloc (.cells #[.slice A1 n c1, .slice A2 m c2] 25)).cell? ⟨w1.heap.size, 0, none⟩ = some (.slice A1 n c1) := World.cell?_alloc_new (w := w1) _ _ _
  have h1 : (w1.alloc (.cells #[.slice A1 n c1, .slice A2 m c2] 25)).cell? ⟨w1.heap.size, 1, none⟩ = some (.slice A2 m c2) := World.cell?_alloc_new (w := w1) _ _ _
  have fh0 : (w1.alloc (.cells #[.slice A1 n c1, .slice A2 m c2] 25)).frozen? ⟨w1.heap.size, 0, none⟩ = false := by go_simp
  have fh1 : (w1.alloc (.cells #[.slice A1 n c1, .slice A2 m c2] 25)).frozen? ⟨w1.heap.size, 1, none⟩ = false := by go_simp
  replace lt0 : _ < (w1.alloc (.cells #[.slice A1 n c1, .slice A2 m c2] 25)).heap.size := Nat.lt_of_lt_of_le lt0 (by simp)
  replace lt1 : _ < (w1.alloc (.cells #[.slice A1 n c1, .slice A2 m c2] 25)).heap.size := Nat.lt_of_lt_of_le lt1 (by simp)
  replace lt2 : _ < (w1.alloc (.cells #[.slice A1 n c1, .slice A2 m c2] 25)).heap.size := Nat.lt_of_lt_of_le lt2 (by simp)
  replace own1 := own1.alloc (.cells #[.slice A1 n c1, .slice A2 m c2] 25)
  replace own2 := own2.alloc (.cells #[.slice A1 n c1, .slice A2 m c2] 25)
  replace b := b.alloc b.size (.cells #[.slice A1 n c1, .slice A2 m c2] 25)
  have ltH : w1.heap.size < (w1.alloc (.cells #[.slice A1 n c1, .slice A2 m c2] 25)).heap.size := by simp
  generalize hw_w2 : w1.alloc (.cells #[.slice A1 n c1, .slice A2 m c2] 25) = w2 at *
  clear hw_w2
  have hWH : W0.heap.size ≤ w1.heap.size := hsz1
  generalize w1.heap.size = H at *
  refine (cR _ b).mono ?_
  rintro e w3 ⟨rfl, hb3⟩
  replace e0 := (hb3.cell (p := ⟨w.heap.size, 0, none⟩) (World.block_lt_of_cell? _ _ e0)).trans e0
  replace e1 := (hb3.cell (p := ⟨w.heap.size, 1, none⟩) (World.block_lt_of_cell? _ _ e1)).trans e1
  replace t0 := (hb3.cell (p := ⟨w.heap.size + 1, 0, none⟩) (World.block_lt_of_cell? _ _ t0)).trans t0
  replace t1 := (hb3.cell (p := ⟨w.heap.size + 1, 1, none⟩) (World.block_lt_of_cell? _ _ t1)).trans t1
  replace r0 := (hb3.cell (p := ⟨w.heap.size + 1 + 1, 0, none⟩) (World.block_lt_of_cell? _ _ r0)).trans r0
  replace r1 := (hb3.cell (p := ⟨w.heap.size + 1 + 1, 1, none⟩) (World.block_lt_of_cell? _ _ r1)).trans r1
  replace q := (hb3.cell (p := ⟨bb, off + (n - 1) * 3 + 2, none⟩) (World.block_lt_of_cell? _ _ q)).trans q
  replace h0 := (hb3.cell (p := ⟨H, 0, none⟩) (World.block_lt_of_cell? _ _ h0)).trans h0
  replace h1 := (hb3.cell (p := ⟨H, 1, none⟩) (World.block_lt_of_cell? _ _ h1)).trans h1
  replace fr0 := (hb3.frozen (p := ⟨w.heap.size + 1 + 1, 0, none⟩) lt2).trans fr0
  replace fr1 := (hb3.frozen (p := ⟨w.heap.size + 1 + 1, 1, none⟩) lt2).trans fr1
  replace fh0 := (hb3.frozen (p := ⟨H, 0, none⟩) ltH).trans fh0
  replace fh1 := (hb3.frozen (p := ⟨H, 1, none⟩) ltH).trans fh1
  replace lt0 := Nat.lt_of_lt_of_le lt0 hb3.size
  replace lt1 := Nat.lt_of_lt_of_le lt1 hb3.size
  replace lt2 := Nat.lt_of_lt_of_le lt2 hb3.size
  replace ltH := Nat.lt_of_lt_of_le ltH hb3.size
  replace own1 := own_below own1 hb3
  replace own2 := own_below own2 hb3
  replace b := b.trans (hb3.mono b.size)
  clear hb3
  go_wp2_with fail
  refine (span_any _ _).mono ?_
  rintro e w4 ⟨rfl, hw4⟩
  have hw4' := hw4.symm
  subst hw4'
  rw [hsok]
  clear hsok
  go_wp2_with (at_builtin; refine wpList_append_own_at _ rfl _ _ 22 rfl W0.heap.size 51 i0 _ 3 24 Try.underlying22 hi hz0 hz1 hz2 rfl (by decide) _ _ _ rfl (own1.alloc _) ⟨w3.heap.size, 0, none⟩ 1 1 [.int .i64 t.core, .int .u32 t.val, .int .i64 k] rfl rfl (fun j u hj => cell_new_block w3 _ 51 j u hj) (by intro u hu; simp at hu; rcases hu with rfl | rfl | rfl <;> rfl) (by unfold maxLen; omega) (by omega) (by simp; omega) ?_)
  intro v' w5 own1' hgrow hnil hat
  have own2' := (own2.alloc (.cells #[.int .i64 t.core, .int .u32 t.val, .int .i64 k] 51)).kept hgrow (own_two own2 own1 (by decide))
  obtain ⟨cH, fH⟩ := far_append hgrow H ltH (fun e => by have := ob1 _ e; omega)
  obtain ⟨cr, fr⟩ := far_append hgrow (w.heap.size + 1 + 1) lt2 (fun e => by have := ob1 _ e; omega)
  replace h0 := (cH 0).trans h0
  replace h1 := (cH 1).trans h1
  replace fh0 := (fH 0).trans fh0
  replace r0 := (cr 0).trans r0
  replace r1 := (cr 1).trans r1
  replace fr0 := (fr 0).trans fr0
  replace fr1 := (fr 1).trans fr1
  replace b := below_append (b.alloc b.size _) hgrow (by simp; have := b.size; omega) (own1.alloc _) bB
  have hs5 : w3.heap.size ≤ w5.heap.size := by have := hgrow.size; simp at this; omega
  have ltH0 := ltH
  replace ltH := Nat.lt_of_lt_of_le ltH hs5
  replace lt2 := Nat.lt_of_lt_of_le lt2 hs5
  obtain ⟨A3, c3, rfl⟩ := own_shape own1'
  have ne3 : (Value.slice A3 (n + 1) c3).ownBlock ≠ some H := by
    rcases hat with e | e <;> rw [e]
    · intro e'; have := ob1 _ e'; omega
    · simp; omega
  have ne2 : (Value.slice A2 m c2).ownBlock ≠ some H := fun e => by have := ob2 _ e; omega
  have own3 := ownsRow_setCell_other (a := ⟨H, 0, none⟩) own1' ne3 (.slice A3 (n + 1) c3)
  have own4 := ownsRow_setCell_other (a := ⟨H, 0, none⟩) own2' ne2 (.slice A3 (n + 1) c3)
  have b6 := b.setCell (p := (⟨H, 0, none⟩ : Addr)) (by have := b.size; simp; omega) (.slice A3 (n + 1) c3)
  have hcs : g.held.flatMap Hld.enc ++ [.int .i64 t.core, .int .u32 t.val, .int .i64 k] = (g.held ++ [(⟨t.core, t.val, k⟩ : Hld)]).flatMap Hld.enc := by rw [List.flatMap_append]; rfl
  rw [hcs] at own3
  have hnn := HN.out
  clear cH fH cr fr hgrow hnil e0 e1 t0 t1 lt0 lt1 hat hcs ne3 ne2 own1' own2'
  have HNN := Lib.hid hnn
  clear hnn
  go_wp2_with fail
  exact bodyPost_ret (v := .tuple #[.agg #[.slice A3 (n + 1) c3, .slice A2 m c2], .int .i64 0]) (by simp [results, Try.results7, go_sem, r0, r1]) rfl (gave_back (g := ⟨g.held ++ [⟨t.core, t.val, k⟩], g.out⟩) (by simp [HNN.out]) HM.out own3 own4 ltB (by omega) b6)


theorem Tell_fresh (A B : Option Addr) (c d n m : Nat) (k : Int) (g : Gt) (t : Tld) (w : World) (hg : GateIn w A B g.held g.out) (hn : g.held.length = n) (hm : g.out.length = m) (hn1 : n ≤ 1000000) (hm1 : m ≤ 1000000) :
    Calls Try.prog 7 #[.agg #[.slice A n c, .slice B m d], .int .i64 k, .agg #[.int .i64 t.core, .int .u32 t.val]] w (GaveF w (tellG g k t).1 (tellG g k t).2) := by
  unfold tellG
  cases hr : rightB g.held with
  | false => simp only [true_or, if_true]; exact Tell_bad A B c d n m k g t w hg hn hm hn1 hm1 hr
  | true =>
    cases hs : spanB k with
    | false => simp only [true_or, or_true, if_true]; exact Tell_span A B c d n m k g t w hg hn hm hn1 hm1 hr hs
    | true =>
      have hle := rightB_len hr
      by_cases h0 : 0 < n
      · by_cases hl : k < g.held[n - 1]!.span
        · have : lateB g.held k = true := by simp only [lateB, hn, decide_eq_true_eq]; exact ⟨h0, hl⟩
          rw [if_pos (.inr (.inr this))]
          exact Tell_late A B c d n m k g t w hg hn hm hn1 hm1 hr hs h0 hl
        · have : lateB g.held k = false := by simp only [lateB, hn, decide_eq_false_iff_not]; exact fun h => hl h.2
          rw [if_neg (by rw [this]; simp)]
          by_cases h64 : n = 64
          · rw [if_pos (hn.trans h64)]; exact Tell_full A B c d n m k g t w hg hn hm hn1 hm1 hr hs h64 hl
          · rw [if_neg (by rw [hn]; exact h64)]; exact Tell_next A B c d n m k g t w hg hn hm hn1 hm1 hr hs h0 (by omega) hl
      · have : lateB g.held k = false := by simp only [lateB, hn, decide_eq_false_iff_not]; exact fun h => h0 h.1
        rw [if_neg (by rw [this]; simp), if_neg (by omega)]
        exact Tell_first A B c d n m k g t w hg hn hm hn1 hm1 hr hs (by omega)
theorem Tell_any (A B : Option Addr) (c d n m : Nat) (k : Int) (g : Gt) (t : Tld) (w : World) (hg : GateIn w A B g.held g.out) (hn : g.held.length = n) (hm : g.out.length = m) (hn1 : n ≤ 1000000) (hm1 : m ≤ 1000000) :
    Calls Try.prog 7 #[.agg #[.slice A n c, .slice B m d], .int .i64 k, .agg #[.int .i64 t.core, .int .u32 t.val]] w (Gave w (tellG g k t).1 (tellG g k t).2) :=
  (Tell_fresh A B c d n m k g t w hg hn hm hn1 hm1).mono fun _ _ h => h.gave
end Go.Proofs.Ytkkbpcnoamagcaa
