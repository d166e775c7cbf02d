/- Walks of commit's reference: Tell, All. -/
import Derived.Test.YtkkbpcnoamagcaaM
import Derived.Test.YtkkbpcnoamagcaaRg
namespace Go.Proofs.Ytkkbpcnoamagcaa
open Go.RowKit Go.Lib
set_option linter.unusedVariables false
attribute [local go_sem] Act.puts

set_option maxHeartbeats 4000000 in
theorem rTell_bad (A B : Option Addr) (c d n m : Nat) (k : Int) (g : Gt) (t : Tld) (w : World) (hg : GateIn w A B g.held g.out) (hn : g.held.length = n) (hm : g.out.length = m) (hn1 : n ≤ 1000000) (hm1 : m ≤ 1000000)
    (hbad : rightB g.held = false) :
    Calls Try.prog 8 #[.agg #[.slice A n c, .slice B m d], .int .i64 k, .agg #[.int .i64 t.core, .int .u32 t.val]] w (Gave w g 1) := by
  have cR := fun w1 (hg : GateIn w1 A B g.held g.out) => rRight_any A B c d n m g.held g.out w1 hg hn
  rw [hbad] at cR
  clear hbad
  have HN := Lib.hid hn
  have HM := Lib.hid hm
  clear hn hm
  go_enter Try.func8, Try.ntmps8
  go_wp2_with fail
  obtain ⟨b, e0, e1, t0, t1, r0, r1, fr0, fr1, lt0, lt1, lt2⟩ := begin_tell A B c d n m t w _ rfl
  replace hg := hg.below b
  generalize (((w.alloc (.cells #[.slice A n c, .slice B m d] 25)).alloc (.cells #[.int .i64 t.core, .int .u32 t.val] 28)).alloc (.cells #[.slice none 0 0, .slice none 0 0] 25)) = W0 at *
  refine (cR _ hg).mono ?_
  rintro e w1 ⟨rfl, hb1⟩
  replace e0 := (hb1.cell (p := ⟨w.heap.size, 0, none⟩) (World.block_lt_of_cell? _ _ e0)).trans e0
  replace e1 := (hb1.cell (p := ⟨w.heap.size, 1, none⟩) (World.block_lt_of_cell? _ _ e1)).trans e1
  replace t0 := (hb1.cell (p := ⟨w.heap.size + 1, 0, none⟩) (World.block_lt_of_cell? _ _ t0)).trans t0
  replace t1 := (hb1.cell (p := ⟨w.heap.size + 1, 1, none⟩) (World.block_lt_of_cell? _ _ t1)).trans t1
  replace r0 := (hb1.cell (p := ⟨w.heap.size + 1 + 1, 0, none⟩) (World.block_lt_of_cell? _ _ r0)).trans r0
  replace r1 := (hb1.cell (p := ⟨w.heap.size + 1 + 1, 1, none⟩) (World.block_lt_of_cell? _ _ r1)).trans r1
  replace fr0 := (hb1.frozen (p := ⟨w.heap.size + 1 + 1, 0, none⟩) lt2).trans fr0
  replace fr1 := (hb1.frozen (p := ⟨w.heap.size + 1 + 1, 1, none⟩) lt2).trans fr1
  replace lt0 := Nat.lt_of_lt_of_le lt0 hb1.size
  replace lt1 := Nat.lt_of_lt_of_le lt1 hb1.size
  replace lt2 := Nat.lt_of_lt_of_le lt2 hb1.size
  replace hg := hg.below hb1
  replace b := b.trans (hb1.mono b.size)
  clear hb1
  go_wp2_with fail
  exact bodyPost_ret (v := .tuple #[.agg #[.slice A n c, .slice B m d], .int .i64 1]) (by simp [results, Try.results8, go_sem, r0, r1]) rfl (gave_set g HN.out HM.out hg r0 r1 fr0 fr1 (by omega) b)

set_option maxHeartbeats 4000000 in
theorem rTell_span (A B : Option Addr) (c d n m : Nat) (k : Int) (g : Gt) (t : Tld) (w : World) (hg : GateIn w A B g.held g.out) (hn : g.held.length = n) (hm : g.out.length = m) (hn1 : n ≤ 1000000) (hm1 : m ≤ 1000000)
    (hgood : rightB g.held = true) (hbad : spanB k = false) :
    Calls Try.prog 8 #[.agg #[.slice A n c, .slice B m d], .int .i64 k, .agg #[.int .i64 t.core, .int .u32 t.val]] w (Gave w g 1) := by
  have cR := fun w1 (hg : GateIn w1 A B g.held g.out) => rRight_any A B c d n m g.held g.out w1 hg hn
  rw [hgood] at cR
  clear hgood
  have HN := Lib.hid hn
  have HM := Lib.hid hm
  clear hn hm
  go_enter Try.func8, Try.ntmps8
  go_wp2_with fail
  obtain ⟨b, e0, e1, t0, t1, r0, r1, fr0, fr1, lt0, lt1, lt2⟩ := begin_tell A B c d n m t w _ rfl
  replace hg := hg.below b
  generalize (((w.alloc (.cells #[.slice A n c, .slice B m d] 25)).alloc (.cells #[.int .i64 t.core, .int .u32 t.val] 28)).alloc (.cells #[.slice none 0 0, .slice none 0 0] 25)) = W0 at *
  refine (cR _ hg).mono ?_
  rintro e w1 ⟨rfl, hb1⟩
  replace e0 := (hb1.cell (p := ⟨w.heap.size, 0, none⟩) (World.block_lt_of_cell? _ _ e0)).trans e0
  replace e1 := (hb1.cell (p := ⟨w.heap.size, 1, none⟩) (World.block_lt_of_cell? _ _ e1)).trans e1
  replace t0 := (hb1.cell (p := ⟨w.heap.size + 1, 0, none⟩) (World.block_lt_of_cell? _ _ t0)).trans t0
  replace t1 := (hb1.cell (p := ⟨w.heap.size + 1, 1, none⟩) (World.block_lt_of_cell? _ _ t1)).trans t1
  replace r0 := (hb1.cell (p := ⟨w.heap.size + 1 + 1, 0, none⟩) (World.block_lt_of_cell? _ _ r0)).trans r0
  replace r1 := (hb1.cell (p := ⟨w.heap.size + 1 + 1, 1, none⟩) (World.block_lt_of_cell? _ _ r1)).trans r1
  replace fr0 := (hb1.frozen (p := ⟨w.heap.size + 1 + 1, 0, none⟩) lt2).trans fr0
  replace fr1 := (hb1.frozen (p := ⟨w.heap.size + 1 + 1, 1, none⟩) lt2).trans fr1
  replace lt0 := Nat.lt_of_lt_of_le lt0 hb1.size
  replace lt1 := Nat.lt_of_lt_of_le lt1 hb1.size
  replace lt2 := Nat.lt_of_lt_of_le lt2 hb1.size
  replace hg := hg.below hb1
  replace b := b.trans (hb1.mono b.size)
  clear hb1
  go_wp2_with fail
  refine (rspan_any _ _).mono ?_
  rintro e w4 ⟨rfl, hw4⟩
  have hw4' := hw4.symm
  subst hw4'
  rw [hbad]
  clear hbad
  go_wp2_with fail
  exact bodyPost_ret (v := .tuple #[.agg #[.slice A n c, .slice B m d], .int .i64 1]) (by simp [results, Try.results8, go_sem, r0, r1]) rfl (gave_set g HN.out HM.out hg r0 r1 fr0 fr1 (by omega) b)

set_option maxHeartbeats 4000000 in
theorem rTell_late (A B : Option Addr) (c d n m : Nat) (k : Int) (g : Gt) (t : Tld) (w : World) (hg : GateIn w A B g.held g.out) (hn : g.held.length = n) (hm : g.out.length = m) (hn1 : n ≤ 1000000) (hm1 : m ≤ 1000000)
    (hgood : rightB g.held = true) (hsok : spanB k = true) (h0 : 0 < n) (hlate : k < g.held[n - 1]!.span) :
    Calls Try.prog 8 #[.agg #[.slice A n c, .slice B m d], .int .i64 k, .agg #[.int .i64 t.core, .int .u32 t.val]] w (Gave w g 1) := by
  have cR := fun w1 (hg : GateIn w1 A B g.held g.out) => rRight_any A B c d n m g.held g.out w1 hg hn
  rw [hgood] at cR
  have h0z : 0 < (n : Int) := by omega
  obtain ⟨bb, off, rfl, hq⟩ := hg.held.at_ (n - 1) (by omega)
  have q := hq 2 _ rfl
  generalize hsp : g.held[n - 1]!.span = sp at *
  clear hgood hq hsp
  have hi1 : ((n : Int) - 1).toNat = n - 1 := by omega
  have HN := Lib.hid hn
  have HM := Lib.hid hm
  clear hn hm
  go_enter Try.func8, Try.ntmps8
  go_wp2_with fail
  obtain ⟨b, e0, e1, t0, t1, r0, r1, fr0, fr1, lt0, lt1, lt2⟩ := begin_tell _ B c d n m t w _ rfl
  replace hg := hg.below b
  replace q := (b.cell (p := ⟨bb, off + (n - 1) * 3 + 2, none⟩) (World.block_lt_of_cell? _ _ q)).trans q
  generalize (((w.alloc (.cells #[.slice (some ⟨bb, off, none⟩) n c, .slice B m d] 25)).alloc (.cells #[.int .i64 t.core, .int .u32 t.val] 28)).alloc (.cells #[.slice none 0 0, .slice none 0 0] 25)) = W0 at *
  refine (cR _ hg).mono ?_
  rintro e w1 ⟨rfl, hb1⟩
  replace e0 := (hb1.cell (p := ⟨w.heap.size, 0, none⟩) (World.block_lt_of_cell? _ _ e0)).trans e0
  replace e1 := (hb1.cell (p := ⟨w.heap.size, 1, none⟩) (World.block_lt_of_cell? _ _ e1)).trans e1
  replace t0 := (hb1.cell (p := ⟨w.heap.size + 1, 0, none⟩) (World.block_lt_of_cell? _ _ t0)).trans t0
  replace t1 := (hb1.cell (p := ⟨w.heap.size + 1, 1, none⟩) (World.block_lt_of_cell? _ _ t1)).trans t1
  replace r0 := (hb1.cell (p := ⟨w.heap.size + 1 + 1, 0, none⟩) (World.block_lt_of_cell? _ _ r0)).trans r0
  replace r1 := (hb1.cell (p := ⟨w.heap.size + 1 + 1, 1, none⟩) (World.block_lt_of_cell? _ _ r1)).trans r1
  replace q := (hb1.cell (p := ⟨bb, off + (n - 1) * 3 + 2, none⟩) (World.block_lt_of_cell? _ _ q)).trans q
  replace fr0 := (hb1.frozen (p := ⟨w.heap.size + 1 + 1, 0, none⟩) lt2).trans fr0
  replace fr1 := (hb1.frozen (p := ⟨w.heap.size + 1 + 1, 1, none⟩) lt2).trans fr1
  replace lt0 := Nat.lt_of_lt_of_le lt0 hb1.size
  replace lt1 := Nat.lt_of_lt_of_le lt1 hb1.size
  replace lt2 := Nat.lt_of_lt_of_le lt2 hb1.size
  replace hg := hg.below hb1
  replace b := b.trans (hb1.mono b.size)
  clear hb1
  go_wp2_with fail
  refine (rspan_any _ _).mono ?_
  rintro e w4 ⟨rfl, hw4⟩
  have hw4' := hw4.symm
  subst hw4'
  rw [hsok]
  clear hsok
  go_wp2_with fail
  exact bodyPost_ret (v := .tuple #[.agg #[.slice (some ⟨bb, off, none⟩) n c, .slice B m d], .int .i64 1]) (by simp [results, Try.results8, go_sem, r0, r1]) rfl (gave_set g HN.out HM.out hg r0 r1 fr0 fr1 (by omega) b)

set_option maxHeartbeats 4000000 in
theorem rTell_full (A B : Option Addr) (c d n m : Nat) (k : Int) (g : Gt) (t : Tld) (w : World) (hg : GateIn w A B g.held g.out) (hn : g.held.length = n) (hm : g.out.length = m) (hn1 : n ≤ 1000000) (hm1 : m ≤ 1000000)
    (hgood : rightB g.held = true) (hsok : spanB k = true) (h0 : n = 64) (hlate : ¬ k < g.held[n - 1]!.span) :
    Calls Try.prog 8 #[.agg #[.slice A n c, .slice B m d], .int .i64 k, .agg #[.int .i64 t.core, .int .u32 t.val]] w (Gave w g 6) := by
  have cR := fun w1 (hg : GateIn w1 A B g.held g.out) => rRight_any A B c d n m g.held g.out w1 hg hn
  rw [hgood] at cR
  have h0z : 0 < (n : Int) := by omega
  obtain ⟨bb, off, rfl, hq⟩ := hg.held.at_ (n - 1) (by omega)
  have q := hq 2 _ rfl
  generalize hsp : g.held[n - 1]!.span = sp at *
  clear hgood hq hsp
  have hi1 : ((n : Int) - 1).toNat = n - 1 := by omega
  have h64 : 64 ≤ (n : Int) := by omega
  clear h0
  have HN := Lib.hid hn
  have HM := Lib.hid hm
  clear hn hm
  go_enter Try.func8, Try.ntmps8
  go_wp2_with fail
  obtain ⟨b, e0, e1, t0, t1, r0, r1, fr0, fr1, lt0, lt1, lt2⟩ := begin_tell _ B c d n m t w _ rfl
  replace hg := hg.below b
  replace q := (b.cell (p := ⟨bb, off + (n - 1) * 3 + 2, none⟩) (World.block_lt_of_cell? _ _ q)).trans q
  generalize (((w.alloc (.cells #[.slice (some ⟨bb, off, none⟩) n c, .slice B m d] 25)).alloc (.cells #[.int .i64 t.core, .int .u32 t.val] 28)).alloc (.cells #[.slice none 0 0, .slice none 0 0] 25)) = W0 at *
  refine (cR _ hg).mono ?_
  rintro e w1 ⟨rfl, hb1⟩
  replace e0 := (hb1.cell (p := ⟨w.heap.size, 0, none⟩) (World.block_lt_of_cell? _ _ e0)).trans e0
  replace e1 := (hb1.cell (p := ⟨w.heap.size, 1, none⟩) (World.block_lt_of_cell? _ _ e1)).trans e1
  replace t0 := (hb1.cell (p := ⟨w.heap.size + 1, 0, none⟩) (World.block_lt_of_cell? _ _ t0)).trans t0
  replace t1 := (hb1.cell (p := ⟨w.heap.size + 1, 1, none⟩) (World.block_lt_of_cell? _ _ t1)).trans t1
  replace r0 := (hb1.cell (p := ⟨w.heap.size + 1 + 1, 0, none⟩) (World.block_lt_of_cell? _ _ r0)).trans r0
  replace r1 := (hb1.cell (p := ⟨w.heap.size + 1 + 1, 1, none⟩) (World.block_lt_of_cell? _ _ r1)).trans r1
  replace q := (hb1.cell (p := ⟨bb, off + (n - 1) * 3 + 2, none⟩) (World.block_lt_of_cell? _ _ q)).trans q
  replace fr0 := (hb1.frozen (p := ⟨w.heap.size + 1 + 1, 0, none⟩) lt2).trans fr0
  replace fr1 := (hb1.frozen (p := ⟨w.heap.size + 1 + 1, 1, none⟩) lt2).trans fr1
  replace lt0 := Nat.lt_of_lt_of_le lt0 hb1.size
  replace lt1 := Nat.lt_of_lt_of_le lt1 hb1.size
  replace lt2 := Nat.lt_of_lt_of_le lt2 hb1.size
  replace hg := hg.below hb1
  replace b := b.trans (hb1.mono b.size)
  clear hb1
  go_wp2_with fail
  refine (rspan_any _ _).mono ?_
  rintro e w4 ⟨rfl, hw4⟩
  have hw4' := hw4.symm
  subst hw4'
  rw [hsok]
  clear hsok
  go_wp2_with fail
  exact bodyPost_ret (v := .tuple #[.agg #[.slice (some ⟨bb, off, none⟩) n c, .slice B m d], .int .i64 6]) (by simp [results, Try.results8, go_sem, r0, r1]) rfl (gave_set g HN.out HM.out hg r0 r1 fr0 fr1 (by omega) b)

structure TellR (w0 : World) (H : Nat) (A : Option Addr) (n c : Nat) (h : List Hld) (t : Tld) (k : Int) (L : Nat → Bool) (u41 u42 u43 u44 u45 u46 u47 u48 u49 u50 : Value) (wz : World) : Prop where
  b : Below w0.heap.size w0 wz
  s0 : L 0 = true → L 3 = false → wz.ownsRow w0.heap.size 51 3 u41 0 []
  l0 : L 0 = true → ∀ g, u41.ownBlock = some g → g < wz.heap.size
  s1 : L 1 = true → u42 = .pointer (some ⟨H, 0, none⟩)
  s2 : L 2 = true → u43 = .slice A n c
  s3 : L 3 = true → L 8 = false → wz.ownsRow w0.heap.size 51 3 u44 n (h.flatMap Hld.enc)
  l3 : L 3 = true → ∀ g, u44.ownBlock = some g → g < wz.heap.size
  s4 : L 4 = true → u45 = .agg #[.int .i64 t.core, .int .u32 t.val]
  s5 : L 5 = true → u46 = .int .i64 k
  s6 : L 6 = true → u47 = .agg #[.int .i64 t.core, .int .u32 t.val, .int .i64 k]
  s7 : L 7 = true → L 8 = false → ∃ X, u48 = .slice (some ⟨X, 0, none⟩) 1 1 ∧ X < wz.heap.size ∧ Lay wz X [.int .i64 t.core, .int .u32 t.val, .int .i64 k]
  d0 : L 7 = true → L 8 = false → L 0 = true → ∀ X, u48 = .slice (some ⟨X, 0, none⟩) 1 1 → u41.ownBlock ≠ some X
  d3 : L 7 = true → L 8 = false → L 3 = true → ∀ X, u48 = .slice (some ⟨X, 0, none⟩) 1 1 → u44.ownBlock ≠ some X
  s8 : L 8 = true → wz.ownsRow w0.heap.size 51 3 u49 (n + 1) (h.flatMap Hld.enc ++ [.int .i64 t.core, .int .u32 t.val, .int .i64 k])
  s9 : L 9 = true → u50 = .pointer (some ⟨H, 0, none⟩)
def TellRPhi (w0 : World) (H : Nat) (A : Option Addr) (n c : Nat) (h : List Hld) (t : Tld) (k : Int) (L : Nat → Bool) (vs : List Value) (w' : World) : Prop :=
  ∃ u41 u42 u43 u44 u45 u46 u47 u48 u49 u50 wz, vs = [u41, u42, u43, u44, u45, u46, u47, u48, u49, u50] ∧ TellR w0 H A n c h t k L u41 u42 u43 u44 u45 u46 u47 u48 u49 u50 wz ∧ w' = if L 10 = true then wz.setCell ⟨H, 0, none⟩ u49 else wz
set_option maxHeartbeats 4000000 in
theorem rTell_first (A B : Option Addr) (c d n m : Nat) (k : Int) (g : Gt) (t : Tld) (w : World) (hg : GateIn w A B g.held g.out) (hn : g.held.length = n) (hm : g.out.length = m) (hn1 : n ≤ 1000000) (hm1 : m ≤ 1000000)
    (hgood : rightB g.held = true) (hsok : spanB k = true) (h0 : n = 0) :
    Calls Try.prog 8 #[.agg #[.slice A n c, .slice B m d], .int .i64 k, .agg #[.int .i64 t.core, .int .u32 t.val]] w (Gave w ⟨g.held ++ [⟨t.core, t.val, k⟩], g.out⟩ 0) := by
  have cR := fun w1 (hg : GateIn w1 A B g.held g.out) => rRight_any A B c d n m g.held g.out w1 hg hn
  rw [hgood] at cR
  clear hgood
  have h0z : ¬ 0 < (n : Int) := by omega
  have h64 : ¬ 64 ≤ (n : Int) := by omega
  have h0n : n ≤ 64 := by omega
  clear h0
  have HN := Lib.hid hn
  have HM := Lib.hid hm
  clear hn hm
  go_enter Try.func8, Try.ntmps8
  go_wp2_with fail
  obtain ⟨b, e0, e1, t0, t1, r0, r1, fr0, fr1, lt0, lt1, lt2⟩ := begin_tell A B c d n m t w _ rfl
  replace hg := hg.below b
  have fe0 : (((w.alloc (.cells #[.slice A n c, .slice B m d] 25)).alloc (.cells #[.int .i64 t.core, .int .u32 t.val] 28)).alloc (.cells #[.slice none 0 0, .slice none 0 0] 25)).frozen? ⟨w.heap.size, 0, none⟩ = false := by go_simp
  generalize (((w.alloc (.cells #[.slice A n c, .slice B m d] 25)).alloc (.cells #[.int .i64 t.core, .int .u32 t.val] 28)).alloc (.cells #[.slice none 0 0, .slice none 0 0] 25)) = W0 at *
  refine (cR _ hg).mono ?_
  rintro e w1 ⟨rfl, hb1⟩
  replace e0 := (hb1.cell (p := ⟨w.heap.size, 0, none⟩) (World.block_lt_of_cell? _ _ e0)).trans e0
  replace e1 := (hb1.cell (p := ⟨w.heap.size, 1, none⟩) (World.block_lt_of_cell? _ _ e1)).trans e1
  replace t0 := (hb1.cell (p := ⟨w.heap.size + 1, 0, none⟩) (World.block_lt_of_cell? _ _ t0)).trans t0
  replace t1 := (hb1.cell (p := ⟨w.heap.size + 1, 1, none⟩) (World.block_lt_of_cell? _ _ t1)).trans t1
  replace fe0 := (hb1.frozen (p := ⟨w.heap.size, 0, none⟩) lt0).trans fe0
  replace r0 := (hb1.cell (p := ⟨w.heap.size + 1 + 1, 0, none⟩) (World.block_lt_of_cell? _ _ r0)).trans r0
  replace r1 := (hb1.cell (p := ⟨w.heap.size + 1 + 1, 1, none⟩) (World.block_lt_of_cell? _ _ r1)).trans r1
  replace fr0 := (hb1.frozen (p := ⟨w.heap.size + 1 + 1, 0, none⟩) lt2).trans fr0
  replace fr1 := (hb1.frozen (p := ⟨w.heap.size + 1 + 1, 1, none⟩) lt2).trans fr1
  replace lt0 := Nat.lt_of_lt_of_le lt0 hb1.size
  replace lt1 := Nat.lt_of_lt_of_le lt1 hb1.size
  replace lt2 := Nat.lt_of_lt_of_le lt2 hb1.size
  replace hg := hg.below hb1
  replace b := b.trans (hb1.mono b.size)
  clear hb1
  go_wp2_with fail
  refine (rspan_any _ _).mono ?_
  rintro e w4 ⟨rfl, hw4⟩
  have hw4' := hw4.symm
  subst hw4'
  rw [hsok]
  clear hsok
  go_wp2_with fail
  obtain ⟨i0, hi, hz0, hz1, hz2⟩ := info_parts info51
  have bd : Below w.heap.size w w1.drew := b.drew
  have e0d : w1.drew.cell? ⟨w.heap.size, 0, none⟩ = some (.slice A n c) := e0
  have fe0d : w1.drew.frozen? ⟨w.heap.size, 0, none⟩ = false := fe0
  have t0d : w1.drew.cell? ⟨w.heap.size + 1, 0, none⟩ = some (.int .i64 t.core) := t0
  have t1d : w1.drew.cell? ⟨w.heap.size + 1, 1, none⟩ = some (.int .u32 t.val) := t1
  have e1d : w1.drew.cell? ⟨w.heap.size, 1, none⟩ = some (.slice B m d) := e1
  have r0d : w1.drew.cell? ⟨w.heap.size + 1 + 1, 0, none⟩ = some (.slice none 0 0) := r0
  have r1d : w1.drew.cell? ⟨w.heap.size + 1 + 1, 1, none⟩ = some (.slice none 0 0) := r1
  have fr0d : w1.drew.frozen? ⟨w.heap.size + 1 + 1, 0, none⟩ = false := fr0
  have fr1d : w1.drew.frozen? ⟨w.heap.size + 1 + 1, 1, none⟩ = false := fr1
  have lt0d : w.heap.size < w1.drew.heap.size := lt0
  have lt1d : w.heap.size + 1 < w1.drew.heap.size := lt1
  have lt2d : w.heap.size + 1 + 1 < w1.drew.heap.size := lt2
  have hgd : GateIn w1.drew A B g.held g.out := hg.below (Below.refl _ _).drew
  clear hg b e0 e1 t0 t1 r0 r1 fr0 fr1 lt0 lt1 lt2 fe0
  refine wp_region_rg (by kernel_rfl) (by kernel_rfl) [41, 42, 43, 44, 45, 46, 47, 48, 49, 50] (TellRPhi w1.drew w.heap.size A n c g.held t k) ?h0 ⟨?q0, ?q1, ?q2, ?q3, ?q4, ?q5, ?q6, ?q7, ?q8, ?q9, ?q10, trivial⟩ ?hend
  case h0 => exact ⟨_, _, _, _, _, _, _, _, _, _, _, rfl, ⟨Below.refl _ _, (fun h => by cases h), (fun h => by cases h), (fun h => by cases h), (fun h => by cases h), (fun h => by cases h), (fun h => by cases h), (fun h => by cases h), (fun h => by cases h), (fun h => by cases h), (fun h => by cases h), (fun h => by cases h), (fun h => by cases h), (fun h => by cases h), (fun h => by cases h)⟩, rfl⟩
  case q0 =>
    rintro L vs w' K ⟨u41, u42, u43, u44, u45, u46, u47, u48, u49, u50, wz, rfl, φ, rfl⟩ hL hpre hcl hK G hG
    simp [Region.binds, closedFrom] at hpre hcl
    have hst : L 10 = false := by
      cases h : L 10 with
      | false => rfl
      | true => simp [h, hL] at hcl
    simp only [hst, Bool.false_eq_true, if_false] at hK hG
    have hk := hK [(.slice (some ⟨wz.heap.size, 0, none⟩) 0 0), u42, u43, u44, u45, u46, u47, u48, u49, u50] (wz.alloc (.cells #[] 51)) ⟨_, _, _, _, _, _, _, _, _, _, (wz.alloc (.cells #[] 51)), rfl,
      { b := φ.b.alloc φ.b.size _,
        s0 := fun _ _ => World.ownsRow_made wz #[] 0 φ.b.size (Nat.zero_le _) (by simp),
        l0 := fun _ g hg => by simp [Value.ownBlock] at hg; simp; omega,
        s1 := fun h0 => φ.s1 (by simpa using h0),
        s2 := fun h0 => φ.s2 (by simpa using h0),
        s3 := fun h0 h1 => (φ.s3 (by simpa using h0) (by simpa using h1)).alloc _,
        l3 := fun h0 => fun g hg => Nat.lt_of_lt_of_le (φ.l3 (by simpa using h0) g hg) (by simp),
        s4 := fun h0 => φ.s4 (by simpa using h0),
        s5 := fun h0 => φ.s5 (by simpa using h0),
        s6 := fun h0 => φ.s6 (by simpa using h0),
        s7 := fun h0 h1 => by
          obtain ⟨X, e1, e2, e3⟩ := φ.s7 (by simpa using h0) (by simpa using h1)
          exact ⟨X, e1, by simp; omega, e3.alloc _⟩,
        d0 := fun h0 h1 _ X hX => by
          obtain ⟨X', e1, e2, e3⟩ := φ.s7 (by simpa using h0) (by simpa using h1)
          rw [hX] at e1
          obtain rfl : X = X' := by simpa using e1
          simp [Value.ownBlock]; omega,
        d3 := fun h0 h1 h2 => φ.d3 (by simpa using h0) (by simpa using h1) (by simpa using h2),
        s8 := fun h0 => (φ.s8 (by simpa using h0)).alloc _,
        s9 := fun h0 => φ.s9 (by simpa using h0) }, by simp [hst]⟩
    refine hG ?_
    clear hK φ hG
    revert hk
    go_simp
    first | done | exact fun h => h
  case q1 =>
    rintro L vs w' K ⟨u41, u42, u43, u44, u45, u46, u47, u48, u49, u50, wz, rfl, φ, rfl⟩ hL hpre hcl hK G hG
    simp [Region.binds, closedFrom] at hpre hcl
    have hst : L 10 = false := by
      cases h : L 10 with
      | false => rfl
      | true => simp [h, hL] at hcl
    simp only [hst, Bool.false_eq_true, if_false] at hK hG
    have hk := hK [u41, (.pointer (some ⟨w.heap.size, 0, none⟩)), u43, u44, u45, u46, u47, u48, u49, u50] wz ⟨_, _, _, _, _, _, _, _, _, _, wz, rfl,
      { b := φ.b,
        s0 := fun h0 h1 => φ.s0 (by simpa using h0) (by simpa using h1),
        l0 := fun h0 => φ.l0 (by simpa using h0),
        s1 := fun _ => rfl,
        s2 := fun h0 => φ.s2 (by simpa using h0),
        s3 := fun h0 h1 => φ.s3 (by simpa using h0) (by simpa using h1),
        l3 := fun h0 => φ.l3 (by simpa using h0),
        s4 := fun h0 => φ.s4 (by simpa using h0),
        s5 := fun h0 => φ.s5 (by simpa using h0),
        s6 := fun h0 => φ.s6 (by simpa using h0),
        s7 := fun h0 h1 => φ.s7 (by simpa using h0) (by simpa using h1),
        d0 := fun h0 h1 h2 => φ.d0 (by simpa using h0) (by simpa using h1) (by simpa using h2),
        d3 := fun h0 h1 h2 => φ.d3 (by simpa using h0) (by simpa using h1) (by simpa using h2),
        s8 := fun h0 => φ.s8 (by simpa using h0),
        s9 := fun h0 => φ.s9 (by simpa using h0) }, by simp [hst]⟩
    refine hG ?_
    clear hK φ hG
    revert hk
    go_simp
    first | done | exact fun h => h
  case q2 =>
    rintro L vs w' K ⟨u41, u42, u43, u44, u45, u46, u47, u48, u49, u50, wz, rfl, φ, rfl⟩ hL hpre hcl hK G hG
    simp [Region.binds, closedFrom] at hpre hcl
    have hst : L 10 = false := by
      cases h : L 10 with
      | false => rfl
      | true => simp [h, hL] at hcl
    simp only [hst, Bool.false_eq_true, if_false] at hK hG
    obtain rfl := φ.s1 (by simp [hpre])
    have ce := (φ.b.cell (p := ⟨w.heap.size, 0, none⟩) lt0d).trans e0d
    have hk := hK [u41, (.pointer (some ⟨w.heap.size, 0, none⟩)), (.slice A n c), u44, u45, u46, u47, u48, u49, u50] wz ⟨_, _, _, _, _, _, _, _, _, _, wz, rfl,
      { b := φ.b,
        s0 := fun h0 h1 => φ.s0 (by simpa using h0) (by simpa using h1),
        l0 := fun h0 => φ.l0 (by simpa using h0),
        s1 := fun h0 => φ.s1 (by simpa using h0),
        s2 := fun _ => rfl,
        s3 := fun h0 h1 => φ.s3 (by simpa using h0) (by simpa using h1),
        l3 := fun h0 => φ.l3 (by simpa using h0),
        s4 := fun h0 => φ.s4 (by simpa using h0),
        s5 := fun h0 => φ.s5 (by simpa using h0),
        s6 := fun h0 => φ.s6 (by simpa using h0),
        s7 := fun h0 h1 => φ.s7 (by simpa using h0) (by simpa using h1),
        d0 := fun h0 h1 h2 => φ.d0 (by simpa using h0) (by simpa using h1) (by simpa using h2),
        d3 := fun h0 h1 h2 => φ.d3 (by simpa using h0) (by simpa using h1) (by simpa using h2),
        s8 := fun h0 => φ.s8 (by simpa using h0),
        s9 := fun h0 => φ.s9 (by simpa using h0) }, by simp [hst]⟩
    refine hG ?_
    clear hK φ hG
    revert hk
    go_simp
    first | done | exact fun h => h
  case q3 =>
    rintro L vs w' K ⟨u41, u42, u43, u44, u45, u46, u47, u48, u49, u50, wz, rfl, φ, rfl⟩ hL hpre hcl hK G hG
    simp [Region.binds, closedFrom] at hpre hcl
    have hst : L 10 = false := by
      cases h : L 10 with
      | false => rfl
      | true => simp [h, hL] at hcl
    simp only [hst, Bool.false_eq_true, if_false] at hK hG
    obtain rfl := φ.s2 (by simp [hpre])
    have o1 := φ.s0 (by simp [hpre]) hL
    have hl0 := φ.l0 (by simp [hpre])
    have L8 : L 8 = false := by
      cases h : L 8 with
      | false => rfl
      | true => simp [h, hL] at hcl
    refine hG (step_append_sl wz rfl (.tmp 41) (.tmp 43) 22 rfl w1.drew.heap.size 51 i0 _ 3 24 Try.underlying22 hi hz0 hz1 hz2 rfl (by decide) u41 0 [] (by simp [Act.eval, Act.puts, Act.put]) o1 Hld.enc Hld.enc_len Hld.enc_one A n c g.held (by simp [Act.eval, Act.puts, Act.put]) HN.out (hgd.held.below φ.b) (by unfold maxLen; omega) (by omega) φ.b.size ?_)
    intro v' w9 ownN hgrow hat
    have b9 := below_append φ.b hgrow φ.b.size o1 (Nat.le_refl _)
    rw [Nat.zero_add, List.nil_append] at ownN
    have hs9 := hgrow.size
    have hk := hK [u41, u42, (.slice A n c), (v'), u45, u46, u47, u48, u49, u50] w9 ⟨_, _, _, _, _, _, _, _, _, _, w9, rfl,
      { b := b9,
        s0 := fun _ h => by simp at h,
        l0 := fun _ g hg => Nat.lt_of_lt_of_le (hl0 g hg) hs9,
        s1 := fun h0 => φ.s1 (by simpa using h0),
        s2 := fun h0 => φ.s2 (by simpa using h0),
        s3 := fun _ _ => ownN,
        l3 := fun _ g hg => (ownN.lt g hg).2,
        s4 := fun h0 => φ.s4 (by simpa using h0),
        s5 := fun h0 => φ.s5 (by simpa using h0),
        s6 := fun h0 => φ.s6 (by simpa using h0),
        s7 := fun h0 h1 => by
          obtain ⟨X, e1, e2, e3⟩ := φ.s7 (by simpa using h0) (by simpa using h1)
          exact ⟨X, e1, Nat.lt_of_lt_of_le e2 hs9, e3.grown hgrow (φ.d0 (by simpa using h0) (by simpa using h1) (by simp [hpre]) X e1)⟩,
        d0 := fun h0 h1 h2 => φ.d0 (by simpa using h0) (by simpa using h1) (by simpa using h2),
        d3 := fun h0 h1 _ X hX => by
          obtain ⟨X', e1, e2, e3⟩ := φ.s7 (by simpa using h0) (by simpa using h1)
          have e5 := φ.d0 (by simpa using h0) (by simpa using h1) (by simp [hpre]) X hX
          rw [hX] at e1
          obtain rfl : X = X' := by simpa using e1
          rcases hat with e | e <;> rw [e]
          · exact e5
          · simp; omega,
        s8 := fun h => by simp [L8] at h,
        s9 := fun h0 => φ.s9 (by simpa using h0) }, by simp [hst]⟩
    clear hK φ hG
    revert hk
    go_simp
    first | done | exact fun h => h
  case q4 =>
    rintro L vs w' K ⟨u41, u42, u43, u44, u45, u46, u47, u48, u49, u50, wz, rfl, φ, rfl⟩ hL hpre hcl hK G hG
    simp [Region.binds, closedFrom] at hpre hcl
    have hst : L 10 = false := by
      cases h : L 10 with
      | false => rfl
      | true => simp [h, hL] at hcl
    simp only [hst, Bool.false_eq_true, if_false] at hK hG
    have ce := (φ.b.cell (p := ⟨w.heap.size + 1, 0, none⟩) lt1d).trans t0d
    have ce1 := (φ.b.cell (p := ⟨w.heap.size + 1, 1, none⟩) lt1d).trans t1d
    have hk := hK [u41, u42, u43, u44, (.agg #[.int .i64 t.core, .int .u32 t.val]), u46, u47, u48, u49, u50] wz ⟨_, _, _, _, _, _, _, _, _, _, wz, rfl,
      { b := φ.b,
        s0 := fun h0 h1 => φ.s0 (by simpa using h0) (by simpa using h1),
        l0 := fun h0 => φ.l0 (by simpa using h0),
        s1 := fun h0 => φ.s1 (by simpa using h0),
        s2 := fun h0 => φ.s2 (by simpa using h0),
        s3 := fun h0 h1 => φ.s3 (by simpa using h0) (by simpa using h1),
        l3 := fun h0 => φ.l3 (by simpa using h0),
        s4 := fun _ => rfl,
        s5 := fun h0 => φ.s5 (by simpa using h0),
        s6 := fun h0 => φ.s6 (by simpa using h0),
        s7 := fun h0 h1 => φ.s7 (by simpa using h0) (by simpa using h1),
        d0 := fun h0 h1 h2 => φ.d0 (by simpa using h0) (by simpa using h1) (by simpa using h2),
        d3 := fun h0 h1 h2 => φ.d3 (by simpa using h0) (by simpa using h1) (by simpa using h2),
        s8 := fun h0 => φ.s8 (by simpa using h0),
        s9 := fun h0 => φ.s9 (by simpa using h0) }, by simp [hst]⟩
    refine hG ?_
    clear hK φ hG
    revert hk
    go_simp
    first | done | exact fun h => h
  case q5 =>
    rintro L vs w' K ⟨u41, u42, u43, u44, u45, u46, u47, u48, u49, u50, wz, rfl, φ, rfl⟩ hL hpre hcl hK G hG
    simp [Region.binds, closedFrom] at hpre hcl
    have hst : L 10 = false := by
      cases h : L 10 with
      | false => rfl
      | true => simp [h, hL] at hcl
    simp only [hst, Bool.false_eq_true, if_false] at hK hG
    have hk := hK [u41, u42, u43, u44, u45, (.int .i64 k), u47, u48, u49, u50] wz ⟨_, _, _, _, _, _, _, _, _, _, wz, rfl,
      { b := φ.b,
        s0 := fun h0 h1 => φ.s0 (by simpa using h0) (by simpa using h1),
        l0 := fun h0 => φ.l0 (by simpa using h0),
        s1 := fun h0 => φ.s1 (by simpa using h0),
        s2 := fun h0 => φ.s2 (by simpa using h0),
        s3 := fun h0 h1 => φ.s3 (by simpa using h0) (by simpa using h1),
        l3 := fun h0 => φ.l3 (by simpa using h0),
        s4 := fun h0 => φ.s4 (by simpa using h0),
        s5 := fun _ => rfl,
        s6 := fun h0 => φ.s6 (by simpa using h0),
        s7 := fun h0 h1 => φ.s7 (by simpa using h0) (by simpa using h1),
        d0 := fun h0 h1 h2 => φ.d0 (by simpa using h0) (by simpa using h1) (by simpa using h2),
        d3 := fun h0 h1 h2 => φ.d3 (by simpa using h0) (by simpa using h1) (by simpa using h2),
        s8 := fun h0 => φ.s8 (by simpa using h0),
        s9 := fun h0 => φ.s9 (by simpa using h0) }, by simp [hst]⟩
    refine hG ?_
    clear hK φ hG
    revert hk
    go_simp
    first | done | exact fun h => h
  case q6 =>
    rintro L vs w' K ⟨u41, u42, u43, u44, u45, u46, u47, u48, u49, u50, wz, rfl, φ, rfl⟩ hL hpre hcl hK G hG
    simp [Region.binds, closedFrom] at hpre hcl
    have hst : L 10 = false := by
      cases h : L 10 with
      | false => rfl
      | true => simp [h, hL] at hcl
    simp only [hst, Bool.false_eq_true, if_false] at hK hG
    obtain rfl := φ.s4 (by simp [hpre])
    obtain rfl := φ.s5 (by simp [hpre])
    have hk := hK [u41, u42, u43, u44, (.agg #[.int .i64 t.core, .int .u32 t.val]), (.int .i64 k), (.agg #[.int .i64 t.core, .int .u32 t.val, .int .i64 k]), u48, u49, u50] wz ⟨_, _, _, _, _, _, _, _, _, _, wz, rfl,
      { b := φ.b,
        s0 := fun h0 h1 => φ.s0 (by simpa using h0) (by simpa using h1),
        l0 := fun h0 => φ.l0 (by simpa using h0),
        s1 := fun h0 => φ.s1 (by simpa using h0),
        s2 := fun h0 => φ.s2 (by simpa using h0),
        s3 := fun h0 h1 => φ.s3 (by simpa using h0) (by simpa using h1),
        l3 := fun h0 => φ.l3 (by simpa using h0),
        s4 := fun h0 => φ.s4 (by simpa using h0),
        s5 := fun h0 => φ.s5 (by simpa using h0),
        s6 := fun _ => rfl,
        s7 := fun h0 h1 => φ.s7 (by simpa using h0) (by simpa using h1),
        d0 := fun h0 h1 h2 => φ.d0 (by simpa using h0) (by simpa using h1) (by simpa using h2),
        d3 := fun h0 h1 h2 => φ.d3 (by simpa using h0) (by simpa using h1) (by simpa using h2),
        s8 := fun h0 => φ.s8 (by simpa using h0),
        s9 := fun h0 => φ.s9 (by simpa using h0) }, by simp [hst]⟩
    refine hG ?_
    clear hK φ hG
    revert hk
    go_simp
    first | done | exact fun h => h
  case q7 =>
    rintro L vs w' K ⟨u41, u42, u43, u44, u45, u46, u47, u48, u49, u50, wz, rfl, φ, rfl⟩ hL hpre hcl hK G hG
    simp [Region.binds, closedFrom] at hpre hcl
    have hst : L 10 = false := by
      cases h : L 10 with
      | false => rfl
      | true => simp [h, hL] at hcl
    simp only [hst, Bool.false_eq_true, if_false] at hK hG
    obtain rfl := φ.s6 (by simp [hpre])
    have hk := hK [u41, u42, u43, u44, u45, u46, (.agg #[.int .i64 t.core, .int .u32 t.val, .int .i64 k]), (.slice (some ⟨wz.heap.size, 0, none⟩) 1 1), u49, u50] (wz.alloc (.cells #[.int .i64 t.core, .int .u32 t.val, .int .i64 k] 51)) ⟨_, _, _, _, _, _, _, _, _, _, (wz.alloc (.cells #[.int .i64 t.core, .int .u32 t.val, .int .i64 k] 51)), rfl,
      { b := φ.b.alloc φ.b.size _,
        s0 := fun h0 h1 => (φ.s0 (by simpa using h0) (by simpa using h1)).alloc _,
        l0 := fun h0 => fun g hg => Nat.lt_of_lt_of_le (φ.l0 (by simpa using h0) g hg) (by simp),
        s1 := fun h0 => φ.s1 (by simpa using h0),
        s2 := fun h0 => φ.s2 (by simpa using h0),
        s3 := fun h0 h1 => (φ.s3 (by simpa using h0) (by simpa using h1)).alloc _,
        l3 := fun h0 => fun g hg => Nat.lt_of_lt_of_le (φ.l3 (by simpa using h0) g hg) (by simp),
        s4 := fun h0 => φ.s4 (by simpa using h0),
        s5 := fun h0 => φ.s5 (by simpa using h0),
        s6 := fun h0 => φ.s6 (by simpa using h0),
        s7 := fun _ _ => ⟨wz.heap.size, rfl, by simp, Lay.new wz _ 51⟩,
        d0 := fun _ _ h X hX e => by
          obtain rfl : wz.heap.size = X := by simpa using hX
          exact absurd (φ.l0 (by simpa using h) _ e) (by omega),
        d3 := fun _ _ h X hX e => by
          obtain rfl : wz.heap.size = X := by simpa using hX
          exact absurd (φ.l3 (by simpa using h) _ e) (by omega),
        s8 := fun h0 => (φ.s8 (by simpa using h0)).alloc _,
        s9 := fun h0 => φ.s9 (by simpa using h0) }, by simp [hst]⟩
    refine hG ?_
    clear hK φ hG
    revert hk
    go_simp
    first | done | exact fun h => h
  case q8 =>
    rintro L vs w' K ⟨u41, u42, u43, u44, u45, u46, u47, u48, u49, u50, wz, rfl, φ, rfl⟩ hL hpre hcl hK G hG
    simp [Region.binds, closedFrom] at hpre hcl
    have hst : L 10 = false := by
      cases h : L 10 with
      | false => rfl
      | true => simp [h, hL] at hcl
    simp only [hst, Bool.false_eq_true, if_false] at hK hG
    have o1 := φ.s3 (by simp [hpre]) hL
    obtain ⟨X, rfl, e2, e3⟩ := φ.s7 (by simp [hpre]) hL
    refine hG (step_append_own wz rfl (.tmp 44) (.tmp 48) 22 rfl w1.drew.heap.size 51 i0 _ 3 24 Try.underlying22 hi hz0 hz1 hz2 rfl (by decide) u44 n _ (by simp [Act.eval, Act.puts, Act.put]) o1 ⟨X, 0, none⟩ 1 1 [.int .i64 t.core, .int .u32 t.val, .int .i64 k] (by simp [Act.eval, Act.puts, Act.put]) rfl e3 (by intro u hu; simp at hu; rcases hu with rfl | rfl | rfl <;> rfl) (by unfold maxLen; omega) (by omega) φ.b.size ?_)
    intro v' w9 ownN hgrow hat
    have b9 := below_append φ.b hgrow φ.b.size o1 (Nat.le_refl _)
    have hs9 := hgrow.size
    have hl0 := φ.l0
    have hl3 := φ.l3
    have hk := hK [u41, u42, u43, u44, u45, u46, u47, (.slice (some ⟨X, 0, none⟩) 1 1), (v'), u50] w9 ⟨_, _, _, _, _, _, _, _, _, _, w9, rfl,
      { b := b9,
        s0 := fun _ h => by simp [hcl, hpre] at h,
        l0 := fun h g hg => Nat.lt_of_lt_of_le (hl0 (by simpa using h) g hg) hs9,
        s1 := fun h0 => φ.s1 (by simpa using h0),
        s2 := fun h0 => φ.s2 (by simpa using h0),
        s3 := fun _ h => by simp at h,
        l3 := fun h g hg => Nat.lt_of_lt_of_le (hl3 (by simpa using h) g hg) hs9,
        s4 := fun h0 => φ.s4 (by simpa using h0),
        s5 := fun h0 => φ.s5 (by simpa using h0),
        s6 := fun h0 => φ.s6 (by simpa using h0),
        s7 := fun _ h => by simp at h,
        d0 := fun _ h => by simp at h,
        d3 := fun _ h => by simp at h,
        s8 := fun _ => ownN,
        s9 := fun h0 => φ.s9 (by simpa using h0) }, by simp [hst]⟩
    clear hK φ hG
    revert hk
    go_simp
    first | done | exact fun h => h
  case q9 =>
    rintro L vs w' K ⟨u41, u42, u43, u44, u45, u46, u47, u48, u49, u50, wz, rfl, φ, rfl⟩ hL hpre hcl hK G hG
    simp [Region.binds, closedFrom] at hpre hcl
    have hst : L 10 = false := by
      cases h : L 10 with
      | false => rfl
      | true => simp [h, hL] at hcl
    simp only [hst, Bool.false_eq_true, if_false] at hK hG
    have hk := hK [u41, u42, u43, u44, u45, u46, u47, u48, u49, (.pointer (some ⟨w.heap.size, 0, none⟩))] wz ⟨_, _, _, _, _, _, _, _, _, _, wz, rfl,
      { b := φ.b,
        s0 := fun h0 h1 => φ.s0 (by simpa using h0) (by simpa using h1),
        l0 := fun h0 => φ.l0 (by simpa using h0),
        s1 := fun h0 => φ.s1 (by simpa using h0),
        s2 := fun h0 => φ.s2 (by simpa using h0),
        s3 := fun h0 h1 => φ.s3 (by simpa using h0) (by simpa using h1),
        l3 := fun h0 => φ.l3 (by simpa using h0),
        s4 := fun h0 => φ.s4 (by simpa using h0),
        s5 := fun h0 => φ.s5 (by simpa using h0),
        s6 := fun h0 => φ.s6 (by simpa using h0),
        s7 := fun h0 h1 => φ.s7 (by simpa using h0) (by simpa using h1),
        d0 := fun h0 h1 h2 => φ.d0 (by simpa using h0) (by simpa using h1) (by simpa using h2),
        d3 := fun h0 h1 h2 => φ.d3 (by simpa using h0) (by simpa using h1) (by simpa using h2),
        s8 := fun h0 => φ.s8 (by simpa using h0),
        s9 := fun _ => rfl }, by simp [hst]⟩
    refine hG ?_
    clear hK φ hG
    revert hk
    go_simp
    first | done | exact fun h => h
  case q10 =>
    rintro L vs w' K ⟨u41, u42, u43, u44, u45, u46, u47, u48, u49, u50, wz, rfl, φ, rfl⟩ hL hpre hcl hK G hG
    simp [Region.binds, closedFrom] at hpre hcl
    simp only [hL, Bool.false_eq_true, if_false] at hK hG
    obtain rfl := φ.s9 (by simp [hpre])
    have ce := (φ.b.cell (p := ⟨w.heap.size, 0, none⟩) lt0d).trans e0d
    have cf := (φ.b.frozen (p := ⟨w.heap.size, 0, none⟩) lt0d).trans fe0d
    have o8 := φ.s8 (by simp [hpre])
    obtain ⟨A3, c3, rfl⟩ := own_shape o8
    have hk := hK [u41, u42, u43, u44, u45, u46, u47, u48, (.slice A3 (n + 1) c3), (.pointer (some ⟨w.heap.size, 0, none⟩))] (wz.setCell ⟨w.heap.size, 0, none⟩ (.slice A3 (n + 1) c3)) ⟨_, _, _, _, _, _, _, _, _, _, wz, rfl,
      { b := φ.b,
        s0 := fun h0 h1 => φ.s0 (by simpa using h0) (by simpa using h1),
        l0 := fun h0 => φ.l0 (by simpa using h0),
        s1 := fun h0 => φ.s1 (by simpa using h0),
        s2 := fun h0 => φ.s2 (by simpa using h0),
        s3 := fun h0 h1 => φ.s3 (by simpa using h0) (by simpa using h1),
        l3 := fun h0 => φ.l3 (by simpa using h0),
        s4 := fun h0 => φ.s4 (by simpa using h0),
        s5 := fun h0 => φ.s5 (by simpa using h0),
        s6 := fun h0 => φ.s6 (by simpa using h0),
        s7 := fun h0 h1 => φ.s7 (by simpa using h0) (by simpa using h1),
        d0 := fun h0 h1 h2 => φ.d0 (by simpa using h0) (by simpa using h1) (by simpa using h2),
        d3 := fun h0 h1 h2 => φ.d3 (by simpa using h0) (by simpa using h1) (by simpa using h2),
        s8 := fun h0 => φ.s8 (by simpa using h0),
        s9 := fun h0 => φ.s9 (by simpa using h0) }, by simp⟩
    refine hG ?_
    clear hK φ hG
    revert hk
    go_simp
    first | done | exact fun h => h
  case hend =>
    rintro vs w' ⟨u41, u42, u43, u44, u45, u46, u47, u48, u49, u50, wz, rfl, φ, rfl⟩ G hG
    have o8 := φ.s8 rfl
    have b9 := φ.b
    clear φ
    obtain ⟨A3, c3, rfl⟩ := own_shape o8
    have hst : decide (10 < 11) = true := rfl
    simp only [List.size_toArray, List.length_cons, List.length_nil, Nat.zero_add, Nat.reduceAdd, hst, if_true] at hG
    have e0z := (b9.cell (p := ⟨w.heap.size, 0, none⟩) lt0d).trans e0d
    have e1z := (b9.cell (p := ⟨w.heap.size, 1, none⟩) lt0d).trans e1d
    have r0z := (b9.cell (p := ⟨w.heap.size + 1 + 1, 0, none⟩) lt2d).trans r0d
    have r1z := (b9.cell (p := ⟨w.heap.size + 1 + 1, 1, none⟩) lt2d).trans r1d
    have fr0z := (b9.frozen (p := ⟨w.heap.size + 1 + 1, 0, none⟩) lt2d).trans fr0d
    have fr1z := (b9.frozen (p := ⟨w.heap.size + 1 + 1, 1, none⟩) lt2d).trans fr1d
    have hcs : g.held.flatMap Hld.enc ++ [.int .i64 t.core, .int .u32 t.val, .int .i64 k] = (g.held ++ [(⟨t.core, t.val, k⟩ : Hld)]).flatMap Hld.enc := by rw [List.flatMap_append]; rfl
    rw [hcs] at o8
    have G9 : GateIn (wz.setCell ⟨w.heap.size, 0, none⟩ (.slice A3 (n + 1) c3)) A3 B (g.held ++ [⟨t.core, t.val, k⟩]) g.out :=
      ⟨Sl.of_own Hld.enc_len (ownsRow_setCell_below o8 lt0d _) (by simp [HN.out]), (hgd.out.below b9).set Tld.ints e0z _⟩
    have bz := (bd.trans (b9.mono bd.size)).setCell (p := (⟨w.heap.size, 0, none⟩ : Addr)) (Nat.le_refl _) (.slice A3 (n + 1) c3)
    clear hcs o8 hgd b9 bd e0d fe0d t0d t1d e1d r0d r1d fr0d fr1d lt0d lt1d lt2d hst
    refine hG ?_
    clear hG
    go_wp2_with fail
    exact bodyPost_ret (v := .tuple #[.agg #[.slice A3 (n + 1) c3, .slice B m d], .int .i64 0]) (by simp [results, Try.results8, go_sem, r0z, r1z]) rfl (gave_set (X := w.heap.size + 1 + 1) ⟨g.held ++ [⟨t.core, t.val, k⟩], g.out⟩ (by simp [HN.out]) HM.out G9 (by go_simp) (by go_simp) (by go_simp) (by go_simp) (by omega) bz)

set_option maxHeartbeats 4000000 in
theorem rTell_next (A B : Option Addr) (c d n m : Nat) (k : Int) (g : Gt) (t : Tld) (w : World) (hg : GateIn w A B g.held g.out) (hn : g.held.length = n) (hm : g.out.length = m) (hn1 : n ≤ 1000000) (hm1 : m ≤ 1000000)
    (hgood : rightB g.held = true) (hsok : spanB k = true) (h0 : 0 < n) (h64' : n < 64) (hlate : ¬ k < g.held[n - 1]!.span) :
    Calls Try.prog 8 #[.agg #[.slice A n c, .slice B m d], .int .i64 k, .agg #[.int .i64 t.core, .int .u32 t.val]] w (Gave w ⟨g.held ++ [⟨t.core, t.val, k⟩], g.out⟩ 0) := by
  have cR := fun w1 (hg : GateIn w1 A B g.held g.out) => rRight_any A B c d n m g.held g.out w1 hg hn
  rw [hgood] at cR
  have h0z : 0 < (n : Int) := by omega
  obtain ⟨bb, off, rfl, hq⟩ := hg.held.at_ (n - 1) (by omega)
  have q := hq 2 _ rfl
  generalize hsp : g.held[n - 1]!.span = sp at *
  clear hgood hq hsp
  have hi1 : ((n : Int) - 1).toNat = n - 1 := by omega
  have h64 : ¬ 64 ≤ (n : Int) := by omega
  have HN := Lib.hid hn
  have HM := Lib.hid hm
  clear hn hm
  go_enter Try.func8, Try.ntmps8
  go_wp2_with fail
  obtain ⟨b, e0, e1, t0, t1, r0, r1, fr0, fr1, lt0, lt1, lt2⟩ := begin_tell _ B c d n m t w _ rfl
  replace hg := hg.below b
  replace q := (b.cell (p := ⟨bb, off + (n - 1) * 3 + 2, none⟩) (World.block_lt_of_cell? _ _ q)).trans q
  have fe0 : (((w.alloc (.cells #[.slice (some ⟨bb, off, none⟩) n c, .slice B m d] 25)).alloc (.cells #[.int .i64 t.core, .int .u32 t.val] 28)).alloc (.cells #[.slice none 0 0, .slice none 0 0] 25)).frozen? ⟨w.heap.size, 0, none⟩ = false := by go_simp
  generalize (((w.alloc (.cells #[.slice (some ⟨bb, off, none⟩) n c, .slice B m d] 25)).alloc (.cells #[.int .i64 t.core, .int .u32 t.val] 28)).alloc (.cells #[.slice none 0 0, .slice none 0 0] 25)) = W0 at *
  refine (cR _ hg).mono ?_
  rintro e w1 ⟨rfl, hb1⟩
  replace e0 := (hb1.cell (p := ⟨w.heap.size, 0, none⟩) (World.block_lt_of_cell? _ _ e0)).trans e0
  replace e1 := (hb1.cell (p := ⟨w.heap.size, 1, none⟩) (World.block_lt_of_cell? _ _ e1)).trans e1
  replace t0 := (hb1.cell (p := ⟨w.heap.size + 1, 0, none⟩) (World.block_lt_of_cell? _ _ t0)).trans t0
  replace t1 := (hb1.cell (p := ⟨w.heap.size + 1, 1, none⟩) (World.block_lt_of_cell? _ _ t1)).trans t1
  replace fe0 := (hb1.frozen (p := ⟨w.heap.size, 0, none⟩) lt0).trans fe0
  replace r0 := (hb1.cell (p := ⟨w.heap.size + 1 + 1, 0, none⟩) (World.block_lt_of_cell? _ _ r0)).trans r0
  replace r1 := (hb1.cell (p := ⟨w.heap.size + 1 + 1, 1, none⟩) (World.block_lt_of_cell? _ _ r1)).trans r1
  replace q := (hb1.cell (p := ⟨bb, off + (n - 1) * 3 + 2, none⟩) (World.block_lt_of_cell? _ _ q)).trans q
  replace fr0 := (hb1.frozen (p := ⟨w.heap.size + 1 + 1, 0, none⟩) lt2).trans fr0
  replace fr1 := (hb1.frozen (p := ⟨w.heap.size + 1 + 1, 1, none⟩) lt2).trans fr1
  replace lt0 := Nat.lt_of_lt_of_le lt0 hb1.size
  replace lt1 := Nat.lt_of_lt_of_le lt1 hb1.size
  replace lt2 := Nat.lt_of_lt_of_le lt2 hb1.size
  replace hg := hg.below hb1
  replace b := b.trans (hb1.mono b.size)
  clear hb1
  go_wp2_with fail
  refine (rspan_any _ _).mono ?_
  rintro e w4 ⟨rfl, hw4⟩
  have hw4' := hw4.symm
  subst hw4'
  rw [hsok]
  clear hsok
  go_wp2_with fail
  obtain ⟨i0, hi, hz0, hz1, hz2⟩ := info_parts info51
  have bd : Below w.heap.size w w1.drew := b.drew
  have e0d : w1.drew.cell? ⟨w.heap.size, 0, none⟩ = some (.slice (some ⟨bb, off, none⟩) n c) := e0
  have fe0d : w1.drew.frozen? ⟨w.heap.size, 0, none⟩ = false := fe0
  have t0d : w1.drew.cell? ⟨w.heap.size + 1, 0, none⟩ = some (.int .i64 t.core) := t0
  have t1d : w1.drew.cell? ⟨w.heap.size + 1, 1, none⟩ = some (.int .u32 t.val) := t1
  have e1d : w1.drew.cell? ⟨w.heap.size, 1, none⟩ = some (.slice B m d) := e1
  have r0d : w1.drew.cell? ⟨w.heap.size + 1 + 1, 0, none⟩ = some (.slice none 0 0) := r0
  have r1d : w1.drew.cell? ⟨w.heap.size + 1 + 1, 1, none⟩ = some (.slice none 0 0) := r1
  have fr0d : w1.drew.frozen? ⟨w.heap.size + 1 + 1, 0, none⟩ = false := fr0
  have fr1d : w1.drew.frozen? ⟨w.heap.size + 1 + 1, 1, none⟩ = false := fr1
  have lt0d : w.heap.size < w1.drew.heap.size := lt0
  have lt1d : w.heap.size + 1 < w1.drew.heap.size := lt1
  have lt2d : w.heap.size + 1 + 1 < w1.drew.heap.size := lt2
  have hgd : GateIn w1.drew (some ⟨bb, off, none⟩) B g.held g.out := hg.below (Below.refl _ _).drew
  clear hg b e0 e1 t0 t1 r0 r1 fr0 fr1 lt0 lt1 lt2 fe0 q
  refine wp_region_rg (by kernel_rfl) (by kernel_rfl) [41, 42, 43, 44, 45, 46, 47, 48, 49, 50] (TellRPhi w1.drew w.heap.size (some ⟨bb, off, none⟩) n c g.held t k) ?h0 ⟨?q0, ?q1, ?q2, ?q3, ?q4, ?q5, ?q6, ?q7, ?q8, ?q9, ?q10, trivial⟩ ?hend
  case h0 => exact ⟨_, _, _, _, _, _, _, _, _, _, _, rfl, ⟨Below.refl _ _, (fun h => by cases h), (fun h => by cases h), (fun h => by cases h), (fun h => by cases h), (fun h => by cases h), (fun h => by cases h), (fun h => by cases h), (fun h => by cases h), (fun h => by cases h), (fun h => by cases h), (fun h => by cases h), (fun h => by cases h), (fun h => by cases h), (fun h => by cases h)⟩, rfl⟩
  case q0 =>
    rintro L vs w' K ⟨u41, u42, u43, u44, u45, u46, u47, u48, u49, u50, wz, rfl, φ, rfl⟩ hL hpre hcl hK G hG
    simp [Region.binds, closedFrom] at hpre hcl
    have hst : L 10 = false := by
      cases h : L 10 with
      | false => rfl
      | true => simp [h, hL] at hcl
    simp only [hst, Bool.false_eq_true, if_false] at hK hG
    have hk := hK [(.slice (some ⟨wz.heap.size, 0, none⟩) 0 0), u42, u43, u44, u45, u46, u47, u48, u49, u50] (wz.alloc (.cells #[] 51)) ⟨_, _, _, _, _, _, _, _, _, _, (wz.alloc (.cells #[] 51)), rfl,
      { b := φ.b.alloc φ.b.size _,
        s0 := fun _ _ => World.ownsRow_made wz #[] 0 φ.b.size (Nat.zero_le _) (by simp),
        l0 := fun _ g hg => by simp [Value.ownBlock] at hg; simp; omega,
        s1 := fun h0 => φ.s1 (by simpa using h0),
        s2 := fun h0 => φ.s2 (by simpa using h0),
        s3 := fun h0 h1 => (φ.s3 (by simpa using h0) (by simpa using h1)).alloc _,
        l3 := fun h0 => fun g hg => Nat.lt_of_lt_of_le (φ.l3 (by simpa using h0) g hg) (by simp),
        s4 := fun h0 => φ.s4 (by simpa using h0),
        s5 := fun h0 => φ.s5 (by simpa using h0),
        s6 := fun h0 => φ.s6 (by simpa using h0),
        s7 := fun h0 h1 => by
          obtain ⟨X, e1, e2, e3⟩ := φ.s7 (by simpa using h0) (by simpa using h1)
          exact ⟨X, e1, by simp; omega, e3.alloc _⟩,
        d0 := fun h0 h1 _ X hX => by
          obtain ⟨X', e1, e2, e3⟩ := φ.s7 (by simpa using h0) (by simpa using h1)
          rw [hX] at e1
          obtain rfl : X = X' := by simpa using e1
          simp [Value.ownBlock]; omega,
        d3 := fun h0 h1 h2 => φ.d3 (by simpa using h0) (by simpa using h1) (by simpa using h2),
        s8 := fun h0 => (φ.s8 (by simpa using h0)).alloc _,
        s9 := fun h0 => φ.s9 (by simpa using h0) }, by simp [hst]⟩
    refine hG ?_
    clear hK φ hG
    revert hk
    go_simp
    first | done | exact fun h => h
  case q1 =>
    rintro L vs w' K ⟨u41, u42, u43, u44, u45, u46, u47, u48, u49, u50, wz, rfl, φ, rfl⟩ hL hpre hcl hK G hG
    simp [Region.binds, closedFrom] at hpre hcl
    have hst : L 10 = false := by
      cases h : L 10 with
      | false => rfl
      | true => simp [h, hL] at hcl
    simp only [hst, Bool.false_eq_true, if_false] at hK hG
    have hk := hK [u41, (.pointer (some ⟨w.heap.size, 0, none⟩)), u43, u44, u45, u46, u47, u48, u49, u50] wz ⟨_, _, _, _, _, _, _, _, _, _, wz, rfl,
      { b := φ.b,
        s0 := fun h0 h1 => φ.s0 (by simpa using h0) (by simpa using h1),
        l0 := fun h0 => φ.l0 (by simpa using h0),
        s1 := fun _ => rfl,
        s2 := fun h0 => φ.s2 (by simpa using h0),
        s3 := fun h0 h1 => φ.s3 (by simpa using h0) (by simpa using h1),
        l3 := fun h0 => φ.l3 (by simpa using h0),
        s4 := fun h0 => φ.s4 (by simpa using h0),
        s5 := fun h0 => φ.s5 (by simpa using h0),
        s6 := fun h0 => φ.s6 (by simpa using h0),
        s7 := fun h0 h1 => φ.s7 (by simpa using h0) (by simpa using h1),
        d0 := fun h0 h1 h2 => φ.d0 (by simpa using h0) (by simpa using h1) (by simpa using h2),
        d3 := fun h0 h1 h2 => φ.d3 (by simpa using h0) (by simpa using h1) (by simpa using h2),
        s8 := fun h0 => φ.s8 (by simpa using h0),
        s9 := fun h0 => φ.s9 (by simpa using h0) }, by simp [hst]⟩
    refine hG ?_
    clear hK φ hG
    revert hk
    go_simp
    first | done | exact fun h => h
  case q2 =>
    rintro L vs w' K ⟨u41, u42, u43, u44, u45, u46, u47, u48, u49, u50, wz, rfl, φ, rfl⟩ hL hpre hcl hK G hG
    simp [Region.binds, closedFrom] at hpre hcl
    have hst : L 10 = false := by
      cases h : L 10 with
      | false => rfl
      | true => simp [h, hL] at hcl
    simp only [hst, Bool.false_eq_true, if_false] at hK hG
    obtain rfl := φ.s1 (by simp [hpre])
    have ce := (φ.b.cell (p := ⟨w.heap.size, 0, none⟩) lt0d).trans e0d
    have hk := hK [u41, (.pointer (some ⟨w.heap.size, 0, none⟩)), (.slice (some ⟨bb, off, none⟩) n c), u44, u45, u46, u47, u48, u49, u50] wz ⟨_, _, _, _, _, _, _, _, _, _, wz, rfl,
      { b := φ.b,
        s0 := fun h0 h1 => φ.s0 (by simpa using h0) (by simpa using h1),
        l0 := fun h0 => φ.l0 (by simpa using h0),
        s1 := fun h0 => φ.s1 (by simpa using h0),
        s2 := fun _ => rfl,
        s3 := fun h0 h1 => φ.s3 (by simpa using h0) (by simpa using h1),
        l3 := fun h0 => φ.l3 (by simpa using h0),
        s4 := fun h0 => φ.s4 (by simpa using h0),
        s5 := fun h0 => φ.s5 (by simpa using h0),
        s6 := fun h0 => φ.s6 (by simpa using h0),
        s7 := fun h0 h1 => φ.s7 (by simpa using h0) (by simpa using h1),
        d0 := fun h0 h1 h2 => φ.d0 (by simpa using h0) (by simpa using h1) (by simpa using h2),
        d3 := fun h0 h1 h2 => φ.d3 (by simpa using h0) (by simpa using h1) (by simpa using h2),
        s8 := fun h0 => φ.s8 (by simpa using h0),
        s9 := fun h0 => φ.s9 (by simpa using h0) }, by simp [hst]⟩
    refine hG ?_
    clear hK φ hG
    revert hk
    go_simp
    first | done | exact fun h => h
  case q3 =>
    rintro L vs w' K ⟨u41, u42, u43, u44, u45, u46, u47, u48, u49, u50, wz, rfl, φ, rfl⟩ hL hpre hcl hK G hG
    simp [Region.binds, closedFrom] at hpre hcl
    have hst : L 10 = false := by
      cases h : L 10 with
      | false => rfl
      | true => simp [h, hL] at hcl
    simp only [hst, Bool.false_eq_true, if_false] at hK hG
    obtain rfl := φ.s2 (by simp [hpre])
    have o1 := φ.s0 (by simp [hpre]) hL
    have hl0 := φ.l0 (by simp [hpre])
    have L8 : L 8 = false := by
      cases h : L 8 with
      | false => rfl
      | true => simp [h, hL] at hcl
    refine hG (step_append_sl wz rfl (.tmp 41) (.tmp 43) 22 rfl w1.drew.heap.size 51 i0 _ 3 24 Try.underlying22 hi hz0 hz1 hz2 rfl (by decide) u41 0 [] (by simp [Act.eval, Act.puts, Act.put]) o1 Hld.enc Hld.enc_len Hld.enc_one (some ⟨bb, off, none⟩) n c g.held (by simp [Act.eval, Act.puts, Act.put]) HN.out (hgd.held.below φ.b) (by unfold maxLen; omega) (by omega) φ.b.size ?_)
    intro v' w9 ownN hgrow hat
    have b9 := below_append φ.b hgrow φ.b.size o1 (Nat.le_refl _)
    rw [Nat.zero_add, List.nil_append] at ownN
    have hs9 := hgrow.size
    have hk := hK [u41, u42, (.slice (some ⟨bb, off, none⟩) n c), (v'), u45, u46, u47, u48, u49, u50] w9 ⟨_, _, _, _, _, _, _, _, _, _, w9, rfl,
      { b := b9,
        s0 := fun _ h => by simp at h,
        l0 := fun _ g hg => Nat.lt_of_lt_of_le (hl0 g hg) hs9,
        s1 := fun h0 => φ.s1 (by simpa using h0),
        s2 := fun h0 => φ.s2 (by simpa using h0),
        s3 := fun _ _ => ownN,
        l3 := fun _ g hg => (ownN.lt g hg).2,
        s4 := fun h0 => φ.s4 (by simpa using h0),
        s5 := fun h0 => φ.s5 (by simpa using h0),
        s6 := fun h0 => φ.s6 (by simpa using h0),
        s7 := fun h0 h1 => by
          obtain ⟨X, e1, e2, e3⟩ := φ.s7 (by simpa using h0) (by simpa using h1)
          exact ⟨X, e1, Nat.lt_of_lt_of_le e2 hs9, e3.grown hgrow (φ.d0 (by simpa using h0) (by simpa using h1) (by simp [hpre]) X e1)⟩,
        d0 := fun h0 h1 h2 => φ.d0 (by simpa using h0) (by simpa using h1) (by simpa using h2),
        d3 := fun h0 h1 _ X hX => by
          obtain ⟨X', e1, e2, e3⟩ := φ.s7 (by simpa using h0) (by simpa using h1)
          have e5 := φ.d0 (by simpa using h0) (by simpa using h1) (by simp [hpre]) X hX
          rw [hX] at e1
          obtain rfl : X = X' := by simpa using e1
          rcases hat with e | e <;> rw [e]
          · exact e5
          · simp; omega,
        s8 := fun h => by simp [L8] at h,
        s9 := fun h0 => φ.s9 (by simpa using h0) }, by simp [hst]⟩
    clear hK φ hG
    revert hk
    go_simp
    first | done | exact fun h => h
  case q4 =>
    rintro L vs w' K ⟨u41, u42, u43, u44, u45, u46, u47, u48, u49, u50, wz, rfl, φ, rfl⟩ hL hpre hcl hK G hG
    simp [Region.binds, closedFrom] at hpre hcl
    have hst : L 10 = false := by
      cases h : L 10 with
      | false => rfl
      | true => simp [h, hL] at hcl
    simp only [hst, Bool.false_eq_true, if_false] at hK hG
    have ce := (φ.b.cell (p := ⟨w.heap.size + 1, 0, none⟩) lt1d).trans t0d
    have ce1 := (φ.b.cell (p := ⟨w.heap.size + 1, 1, none⟩) lt1d).trans t1d
    have hk := hK [u41, u42, u43, u44, (.agg #[.int .i64 t.core, .int .u32 t.val]), u46, u47, u48, u49, u50] wz ⟨_, _, _, _, _, _, _, _, _, _, wz, rfl,
      { b := φ.b,
        s0 := fun h0 h1 => φ.s0 (by simpa using h0) (by simpa using h1),
        l0 := fun h0 => φ.l0 (by simpa using h0),
        s1 := fun h0 => φ.s1 (by simpa using h0),
        s2 := fun h0 => φ.s2 (by simpa using h0),
        s3 := fun h0 h1 => φ.s3 (by simpa using h0) (by simpa using h1),
        l3 := fun h0 => φ.l3 (by simpa using h0),
        s4 := fun _ => rfl,
        s5 := fun h0 => φ.s5 (by simpa using h0),
        s6 := fun h0 => φ.s6 (by simpa using h0),
        s7 := fun h0 h1 => φ.s7 (by simpa using h0) (by simpa using h1),
        d0 := fun h0 h1 h2 => φ.d0 (by simpa using h0) (by simpa using h1) (by simpa using h2),
        d3 := fun h0 h1 h2 => φ.d3 (by simpa using h0) (by simpa using h1) (by simpa using h2),
        s8 := fun h0 => φ.s8 (by simpa using h0),
        s9 := fun h0 => φ.s9 (by simpa using h0) }, by simp [hst]⟩
    refine hG ?_
    clear hK φ hG
    revert hk
    go_simp
    first | done | exact fun h => h
  case q5 =>
    rintro L vs w' K ⟨u41, u42, u43, u44, u45, u46, u47, u48, u49, u50, wz, rfl, φ, rfl⟩ hL hpre hcl hK G hG
    simp [Region.binds, closedFrom] at hpre hcl
    have hst : L 10 = false := by
      cases h : L 10 with
      | false => rfl
      | true => simp [h, hL] at hcl
    simp only [hst, Bool.false_eq_true, if_false] at hK hG
    have hk := hK [u41, u42, u43, u44, u45, (.int .i64 k), u47, u48, u49, u50] wz ⟨_, _, _, _, _, _, _, _, _, _, wz, rfl,
      { b := φ.b,
        s0 := fun h0 h1 => φ.s0 (by simpa using h0) (by simpa using h1),
        l0 := fun h0 => φ.l0 (by simpa using h0),
        s1 := fun h0 => φ.s1 (by simpa using h0),
        s2 := fun h0 => φ.s2 (by simpa using h0),
        s3 := fun h0 h1 => φ.s3 (by simpa using h0) (by simpa using h1),
        l3 := fun h0 => φ.l3 (by simpa using h0),
        s4 := fun h0 => φ.s4 (by simpa using h0),
        s5 := fun _ => rfl,
        s6 := fun h0 => φ.s6 (by simpa using h0),
        s7 := fun h0 h1 => φ.s7 (by simpa using h0) (by simpa using h1),
        d0 := fun h0 h1 h2 => φ.d0 (by simpa using h0) (by simpa using h1) (by simpa using h2),
        d3 := fun h0 h1 h2 => φ.d3 (by simpa using h0) (by simpa using h1) (by simpa using h2),
        s8 := fun h0 => φ.s8 (by simpa using h0),
        s9 := fun h0 => φ.s9 (by simpa using h0) }, by simp [hst]⟩
    refine hG ?_
    clear hK φ hG
    revert hk
    go_simp
    first | done | exact fun h => h
  case q6 =>
    rintro L vs w' K ⟨u41, u42, u43, u44, u45, u46, u47, u48, u49, u50, wz, rfl, φ, rfl⟩ hL hpre hcl hK G hG
    simp [Region.binds, closedFrom] at hpre hcl
    have hst : L 10 = false := by
      cases h : L 10 with
      | false => rfl
      | true => simp [h, hL] at hcl
    simp only [hst, Bool.false_eq_true, if_false] at hK hG
    obtain rfl := φ.s4 (by simp [hpre])
    obtain rfl := φ.s5 (by simp [hpre])
    have hk := hK [u41, u42, u43, u44, (.agg #[.int .i64 t.core, .int .u32 t.val]), (.int .i64 k), (.agg #[.int .i64 t.core, .int .u32 t.val, .int .i64 k]), u48, u49, u50] wz ⟨_, _, _, _, _, _, _, _, _, _, wz, rfl,
      { b := φ.b,
        s0 := fun h0 h1 => φ.s0 (by simpa using h0) (by simpa using h1),
        l0 := fun h0 => φ.l0 (by simpa using h0),
        s1 := fun h0 => φ.s1 (by simpa using h0),
        s2 := fun h0 => φ.s2 (by simpa using h0),
        s3 := fun h0 h1 => φ.s3 (by simpa using h0) (by simpa using h1),
        l3 := fun h0 => φ.l3 (by simpa using h0),
        s4 := fun h0 => φ.s4 (by simpa using h0),
        s5 := fun h0 => φ.s5 (by simpa using h0),
        s6 := fun _ => rfl,
        s7 := fun h0 h1 => φ.s7 (by simpa using h0) (by simpa using h1),
        d0 := fun h0 h1 h2 => φ.d0 (by simpa using h0) (by simpa using h1) (by simpa using h2),
        d3 := fun h0 h1 h2 => φ.d3 (by simpa using h0) (by simpa using h1) (by simpa using h2),
        s8 := fun h0 => φ.s8 (by simpa using h0),
        s9 := fun h0 => φ.s9 (by simpa using h0) }, by simp [hst]⟩
    refine hG ?_
    clear hK φ hG
    revert hk
    go_simp
    first | done | exact fun h => h
  case q7 =>
    rintro L vs w' K ⟨u41, u42, u43, u44, u45, u46, u47, u48, u49, u50, wz, rfl, φ, rfl⟩ hL hpre hcl hK G hG
    simp [Region.binds, closedFrom] at hpre hcl
    have hst : L 10 = false := by
      cases h : L 10 with
      | false => rfl
      | true => simp [h, hL] at hcl
    simp only [hst, Bool.false_eq_true, if_false] at hK hG
    obtain rfl := φ.s6 (by simp [hpre])
    have hk := hK [u41, u42, u43, u44, u45, u46, (.agg #[.int .i64 t.core, .int .u32 t.val, .int .i64 k]), (.slice (some ⟨wz.heap.size, 0, none⟩) 1 1), u49, u50] (wz.alloc (.cells #[.int .i64 t.core, .int .u32 t.val, .int .i64 k] 51)) ⟨_, _, _, _, _, _, _, _, _, _, (wz.alloc (.cells #[.int .i64 t.core, .int .u32 t.val, .int .i64 k] 51)), rfl,
      { b := φ.b.alloc φ.b.size _,
        s0 := fun h0 h1 => (φ.s0 (by simpa using h0) (by simpa using h1)).alloc _,
        l0 := fun h0 => fun g hg => Nat.lt_of_lt_of_le (φ.l0 (by simpa using h0) g hg) (by simp),
        s1 := fun h0 => φ.s1 (by simpa using h0),
        s2 := fun h0 => φ.s2 (by simpa using h0),
        s3 := fun h0 h1 => (φ.s3 (by simpa using h0) (by simpa using h1)).alloc _,
        l3 := fun h0 => fun g hg => Nat.lt_of_lt_of_le (φ.l3 (by simpa using h0) g hg) (by simp),
        s4 := fun h0 => φ.s4 (by simpa using h0),
        s5 := fun h0 => φ.s5 (by simpa using h0),
        s6 := fun h0 => φ.s6 (by simpa using h0),
        s7 := fun _ _ => ⟨wz.heap.size, rfl, by simp, Lay.new wz _ 51⟩,
        d0 := fun _ _ h X hX e => by
          obtain rfl : wz.heap.size = X := by simpa using hX
          exact absurd (φ.l0 (by simpa using h) _ e) (by omega),
        d3 := fun _ _ h X hX e => by
          obtain rfl : wz.heap.size = X := by simpa using hX
          exact absurd (φ.l3 (by simpa using h) _ e) (by omega),
        s8 := fun h0 => (φ.s8 (by simpa using h0)).alloc _,
        s9 := fun h0 => φ.s9 (by simpa using h0) }, by simp [hst]⟩
    refine hG ?_
    clear hK φ hG
    revert hk
    go_simp
    first | done | exact fun h => h
  case q8 =>
    rintro L vs w' K ⟨u41, u42, u43, u44, u45, u46, u47, u48, u49, u50, wz, rfl, φ, rfl⟩ hL hpre hcl hK G hG
    simp [Region.binds, closedFrom] at hpre hcl
    have hst : L 10 = false := by
      cases h : L 10 with
      | false => rfl
      | true => simp [h, hL] at hcl
    simp only [hst, Bool.false_eq_true, if_false] at hK hG
    have o1 := φ.s3 (by simp [hpre]) hL
    obtain ⟨X, rfl, e2, e3⟩ := φ.s7 (by simp [hpre]) hL
    refine hG (step_append_own wz rfl (.tmp 44) (.tmp 48) 22 rfl w1.drew.heap.size 51 i0 _ 3 24 Try.underlying22 hi hz0 hz1 hz2 rfl (by decide) u44 n _ (by simp [Act.eval, Act.puts, Act.put]) o1 ⟨X, 0, none⟩ 1 1 [.int .i64 t.core, .int .u32 t.val, .int .i64 k] (by simp [Act.eval, Act.puts, Act.put]) rfl e3 (by intro u hu; simp at hu; rcases hu with rfl | rfl | rfl <;> rfl) (by unfold maxLen; omega) (by omega) φ.b.size ?_)
    intro v' w9 ownN hgrow hat
    have b9 := below_append φ.b hgrow φ.b.size o1 (Nat.le_refl _)
    have hs9 := hgrow.size
    have hl0 := φ.l0
    have hl3 := φ.l3
    have hk := hK [u41, u42, u43, u44, u45, u46, u47, (.slice (some ⟨X, 0, none⟩) 1 1), (v'), u50] w9 ⟨_, _, _, _, _, _, _, _, _, _, w9, rfl,
      { b := b9,
        s0 := fun _ h => by simp [hcl, hpre] at h,
        l0 := fun h g hg => Nat.lt_of_lt_of_le (hl0 (by simpa using h) g hg) hs9,
        s1 := fun h0 => φ.s1 (by simpa using h0),
        s2 := fun h0 => φ.s2 (by simpa using h0),
        s3 := fun _ h => by simp at h,
        l3 := fun h g hg => Nat.lt_of_lt_of_le (hl3 (by simpa using h) g hg) hs9,
        s4 := fun h0 => φ.s4 (by simpa using h0),
        s5 := fun h0 => φ.s5 (by simpa using h0),
        s6 := fun h0 => φ.s6 (by simpa using h0),
        s7 := fun _ h => by simp at h,
        d0 := fun _ h => by simp at h,
        d3 := fun _ h => by simp at h,
        s8 := fun _ => ownN,
        s9 := fun h0 => φ.s9 (by simpa using h0) }, by simp [hst]⟩
    clear hK φ hG
    revert hk
    go_simp
    first | done | exact fun h => h
  case q9 =>
    rintro L vs w' K ⟨u41, u42, u43, u44, u45, u46, u47, u48, u49, u50, wz, rfl, φ, rfl⟩ hL hpre hcl hK G hG
    simp [Region.binds, closedFrom] at hpre hcl
    have hst : L 10 = false := by
      cases h : L 10 with
      | false => rfl
      | true => simp [h, hL] at hcl
    simp only [hst, Bool.false_eq_true, if_false] at hK hG
    have hk := hK [u41, u42, u43, u44, u45, u46, u47, u48, u49, (.pointer (some ⟨w.heap.size, 0, none⟩))] wz ⟨_, _, _, _, _, _, _, _, _, _, wz, rfl,
      { b := φ.b,
        s0 := fun h0 h1 => φ.s0 (by simpa using h0) (by simpa using h1),
        l0 := fun h0 => φ.l0 (by simpa using h0),
        s1 := fun h0 => φ.s1 (by simpa using h0),
        s2 := fun h0 => φ.s2 (by simpa using h0),
        s3 := fun h0 h1 => φ.s3 (by simpa using h0) (by simpa using h1),
        l3 := fun h0 => φ.l3 (by simpa using h0),
        s4 := fun h0 => φ.s4 (by simpa using h0),
        s5 := fun h0 => φ.s5 (by simpa using h0),
        s6 := fun h0 => φ.s6 (by simpa using h0),
        s7 := fun h0 h1 => φ.s7 (by simpa using h0) (by simpa using h1),
        d0 := fun h0 h1 h2 => φ.d0 (by simpa using h0) (by simpa using h1) (by simpa using h2),
        d3 := fun h0 h1 h2 => φ.d3 (by simpa using h0) (by simpa using h1) (by simpa using h2),
        s8 := fun h0 => φ.s8 (by simpa using h0),
        s9 := fun _ => rfl }, by simp [hst]⟩
    refine hG ?_
    clear hK φ hG
    revert hk
    go_simp
    first | done | exact fun h => h
  case q10 =>
    rintro L vs w' K ⟨u41, u42, u43, u44, u45, u46, u47, u48, u49, u50, wz, rfl, φ, rfl⟩ hL hpre hcl hK G hG
    simp [Region.binds, closedFrom] at hpre hcl
    simp only [hL, Bool.false_eq_true, if_false] at hK hG
    obtain rfl := φ.s9 (by simp [hpre])
    have ce := (φ.b.cell (p := ⟨w.heap.size, 0, none⟩) lt0d).trans e0d
    have cf := (φ.b.frozen (p := ⟨w.heap.size, 0, none⟩) lt0d).trans fe0d
    have o8 := φ.s8 (by simp [hpre])
    obtain ⟨A3, c3, rfl⟩ := own_shape o8
    have hk := hK [u41, u42, u43, u44, u45, u46, u47, u48, (.slice A3 (n + 1) c3), (.pointer (some ⟨w.heap.size, 0, none⟩))] (wz.setCell ⟨w.heap.size, 0, none⟩ (.slice A3 (n + 1) c3)) ⟨_, _, _, _, _, _, _, _, _, _, wz, rfl,
      { b := φ.b,
        s0 := fun h0 h1 => φ.s0 (by simpa using h0) (by simpa using h1),
        l0 := fun h0 => φ.l0 (by simpa using h0),
        s1 := fun h0 => φ.s1 (by simpa using h0),
        s2 := fun h0 => φ.s2 (by simpa using h0),
        s3 := fun h0 h1 => φ.s3 (by simpa using h0) (by simpa using h1),
        l3 := fun h0 => φ.l3 (by simpa using h0),
        s4 := fun h0 => φ.s4 (by simpa using h0),
        s5 := fun h0 => φ.s5 (by simpa using h0),
        s6 := fun h0 => φ.s6 (by simpa using h0),
        s7 := fun h0 h1 => φ.s7 (by simpa using h0) (by simpa using h1),
        d0 := fun h0 h1 h2 => φ.d0 (by simpa using h0) (by simpa using h1) (by simpa using h2),
        d3 := fun h0 h1 h2 => φ.d3 (by simpa using h0) (by simpa using h1) (by simpa using h2),
        s8 := fun h0 => φ.s8 (by simpa using h0),
        s9 := fun h0 => φ.s9 (by simpa using h0) }, by simp⟩
    refine hG ?_
    clear hK φ hG
    revert hk
    go_simp
    first | done | exact fun h => h
  case hend =>
    rintro vs w' ⟨u41, u42, u43, u44, u45, u46, u47, u48, u49, u50, wz, rfl, φ, rfl⟩ G hG
    have o8 := φ.s8 rfl
    have b9 := φ.b
    clear φ
    obtain ⟨A3, c3, rfl⟩ := own_shape o8
    have hst : decide (10 < 11) = true := rfl
    simp only [List.size_toArray, List.length_cons, List.length_nil, Nat.zero_add, Nat.reduceAdd, hst, if_true] at hG
    have e0z := (b9.cell (p := ⟨w.heap.size, 0, none⟩) lt0d).trans e0d
    have e1z := (b9.cell (p := ⟨w.heap.size, 1, none⟩) lt0d).trans e1d
    have r0z := (b9.cell (p := ⟨w.heap.size + 1 + 1, 0, none⟩) lt2d).trans r0d
    have r1z := (b9.cell (p := ⟨w.heap.size + 1 + 1, 1, none⟩) lt2d).trans r1d
    have fr0z := (b9.frozen (p := ⟨w.heap.size + 1 + 1, 0, none⟩) lt2d).trans fr0d
    have fr1z := (b9.frozen (p := ⟨w.heap.size + 1 + 1, 1, none⟩) lt2d).trans fr1d
    have hcs : g.held.flatMap Hld.enc ++ [.int .i64 t.core, .int .u32 t.val, .int .i64 k] = (g.held ++ [(⟨t.core, t.val, k⟩ : Hld)]).flatMap Hld.enc := by rw [List.flatMap_append]; rfl
    rw [hcs] at o8
    have G9 : GateIn (wz.setCell ⟨w.heap.size, 0, none⟩ (.slice A3 (n + 1) c3)) A3 B (g.held ++ [⟨t.core, t.val, k⟩]) g.out :=
      ⟨Sl.of_own Hld.enc_len (ownsRow_setCell_below o8 lt0d _) (by simp [HN.out]), (hgd.out.below b9).set Tld.ints e0z _⟩
    have bz := (bd.trans (b9.mono bd.size)).setCell (p := (⟨w.heap.size, 0, none⟩ : Addr)) (Nat.le_refl _) (.slice A3 (n + 1) c3)
    clear hcs o8 hgd b9 bd e0d fe0d t0d t1d e1d r0d r1d fr0d fr1d lt0d lt1d lt2d hst
    refine hG ?_
    clear hG
    go_wp2_with fail
    exact bodyPost_ret (v := .tuple #[.agg #[.slice A3 (n + 1) c3, .slice B m d], .int .i64 0]) (by simp [results, Try.results8, go_sem, r0z, r1z]) rfl (gave_set (X := w.heap.size + 1 + 1) ⟨g.held ++ [⟨t.core, t.val, k⟩], g.out⟩ (by simp [HN.out]) HM.out G9 (by go_simp) (by go_simp) (by go_simp) (by go_simp) (by omega) bz)


theorem rTell_any (A B : Option Addr) (c d n m : Nat) (k : Int) (g : Gt) (t : Tld) (w : World) (hg : GateIn w A B g.held g.out) (hn : g.held.length = n) (hm : g.out.length = m) (hn1 : n ≤ 1000000) (hm1 : m ≤ 1000000) :
    Calls Try.prog 8 #[.agg #[.slice A n c, .slice B m d], .int .i64 k, .agg #[.int .i64 t.core, .int .u32 t.val]] w (Gave w (tellG g k t).1 (tellG g k t).2) := by
  unfold tellG
  cases hr : rightB g.held with
  | false => simp only [true_or, if_true]; exact rTell_bad A B c d n m k g t w hg hn hm hn1 hm1 hr
  | true =>
    cases hs : spanB k with
    | false => simp only [true_or, or_true, if_true]; exact rTell_span A B c d n m k g t w hg hn hm hn1 hm1 hr hs
    | true =>
      have hle := rightB_len hr
      by_cases h0 : 0 < n
      · by_cases hl : k < g.held[n - 1]!.span
        · have : lateB g.held k = true := by simp only [lateB, hn, decide_eq_true_eq]; exact ⟨h0, hl⟩
          rw [if_pos (.inr (.inr this))]
          exact rTell_late A B c d n m k g t w hg hn hm hn1 hm1 hr hs h0 hl
        · have : lateB g.held k = false := by simp only [lateB, hn, decide_eq_false_iff_not]; exact fun h => hl h.2
          rw [if_neg (by rw [this]; simp)]
          by_cases h64 : n = 64
          · rw [if_pos (hn.trans h64)]; exact rTell_full A B c d n m k g t w hg hn hm hn1 hm1 hr hs h64 hl
          · rw [if_neg (by rw [hn]; exact h64)]; exact rTell_next A B c d n m k g t w hg hn hm hn1 hm1 hr hs h0 (by omega) hl
      · have : lateB g.held k = false := by simp only [lateB, hn, decide_eq_false_iff_not]; exact fun h => h0 h.1
        rw [if_neg (by rw [this]; simp), if_neg (by omega)]
        exact rTell_first A B c d n m k g t w hg hn hm hn1 hm1 hr hs (by omega)

structure RAllL (w wl : World) (W0s : Nat) (A : Option Addr) (c n m : Nat) (g : Gt) (i : Nat) (A3 : Option Addr) (c3 : Nat) : Prop where
  e0 : wl.cell? ⟨w.heap.size, 0, none⟩ = some (.slice A n c)
  ltB : w.heap.size < wl.heap.size
  sz : W0s ≤ wl.heap.size
  own2 : wl.ownsRow W0s 28 2 (.slice A3 (m + i) c3) (m + i) ((g.out ++ (g.held.take i).map Hld.told).flatMap Tld.enc)
  b : Below w.heap.size w wl

set_option maxHeartbeats 2000000 in
theorem rAll_any (A B : Option Addr) (c d n m : Nat) (g : Gt) (w : World) (hg : GateIn w A B g.held g.out) (hn : g.held.length = n) (hm : g.out.length = m) (hn1 : n ≤ 1000000) (hm1 : m ≤ 1000000) :
    Calls Try.prog 18 #[.agg #[.slice A n c, .slice B m d]] w fun e w' => ∃ A' c', e = .returned (.slice A' (m + n) c') ∧ Sl 2 Tld.enc w' A' (allG g) ∧ Below w.heap.size w w' := by
  have b : Below w.heap.size w (w.alloc (.cells #[.slice A n c, .slice B m d] 25)) := (Below.refl _ _).alloc (Nat.le_refl _) _
  have e0 : (w.alloc (.cells #[.slice A n c, .slice B m d] 25)).cell? ⟨w.heap.size, 0, none⟩ = some (.slice A n c) := by go_simp
  have e1 : (w.alloc (.cells #[.slice A n c, .slice B m d] 25)).cell? ⟨w.heap.size, 1, none⟩ = some (.slice B m d) := by go_simp
  have ltB : w.heap.size < (w.alloc (.cells #[.slice A n c, .slice B m d] 25)).heap.size := by simp
  have HG := Lib.hid hg
  obtain ⟨i0, hi, hz0, hz1, hz2⟩ := info_parts info28
  have HN := Lib.hid hn
  have HM := Lib.hid hm
  clear hg hn hm
  have hs8 : (w.alloc (.cells #[.slice A n c, .slice B m d] 25)).heap.size = w.heap.size + 1 := by simp
  have HS8 := Lib.hid hs8
  clear hs8
  go_enter Try.func18, Try.ntmps18
  go_wp2_with (at_builtin; refine wpList_as ?_)
  intro _
  rw [← HS8.out]
  generalize (w.alloc (.cells #[.slice A n c, .slice B m d] 25)) = W0 at *
  have bB := ltB
  have bB2 := b.size
  refine wpList_append_sl _ rfl _ _ 23 rfl W0.heap.size 28 i0 _ 2 16 Try.underlying23 hi hz0 hz1 hz2 rfl (by decide) _ _ _ rfl (World.ownsRow_made W0 #[] 0 (Nat.le_refl _) (Nat.zero_le _) (by simp)) Tld.enc Tld.enc_len Tld.enc_one B m d g.out rfl HM.out ((HG.out.out.below b).below bnew) ?p2 ?p3 ?p4 ?_
  case p2 => unfold maxLen; omega
  case p3 => omega
  case p4 => simp
  intro v6 w6 own6 grow6 at6
  have b6 : Below W0.heap.size W0 w6 := below_append (k := 2) bnew grow6 (by simp) (World.ownsRow_made W0 #[] 0 (Nat.le_refl _) (Nat.zero_le _) (by simp)) (Nat.le_refl _)
  obtain ⟨A3, c3, rfl⟩ := own_shape own6
  clear grow6 at6
  rw [show 0 + m = m + 0 by omega] at own6 ⊢
  have sz6 := b6.size
  replace e0 := (b6.cell (p := ⟨w.heap.size, 0, none⟩) ltB).trans e0
  replace b := b.trans (b6.mono b.size)
  replace ltB := Nat.lt_of_lt_of_le ltB sz6
  clear b6 e1
  go_wp2_with fail
  go_loopg [3, 4] n (fun gg s3 s4 wl => ∃ (i : Nat) (A3 : Option Addr) (c3 : Nat), i ≤ n ∧ n - i ≤ gg ∧ s3 = .slice A3 (m + i) c3 ∧ s4 = .int .i64 (i : Int) ∧ RAllL w wl W0.heap.size A c n m g i A3 c3)
  case atStart => exact ⟨0, A3, c3, Nat.zero_le _, by omega, rfl, rfl, ⟨e0, ltB, sz6, by simpa using own6, b⟩⟩
  case round =>
    clear own6 e0 b ltB sz6
    obtain ⟨i, A3, c3, hi0, hgg, rfl, rfl, L⟩ := hrel
    obtain ⟨e0, ltB, sz, own2, b⟩ := L
    have hsl := HG.out.held.below b
    by_cases hlt : i < n
    · have hltz : (i : Int) < (n : Int) := by omega
      have hin : i < g.held.length := by rw [HN.out]; omega
      have HI := Lib.hid hin
      obtain ⟨bb, off, rfl, hq⟩ := hsl.at_ i hin
      have q0 := hq 0 _ rfl
      have q1 := hq 1 _ rfl
      rw [Nat.add_zero] at q0
      generalize hx : g.held[i]! = x at *
      have HX := Lib.hid hx
      clear hx hq hin hsl
      go_wp2_with (at_builtin; refine wpList_as ?_)
      intro _
      refine wpList_append_own_at _ rfl _ _ 23 rfl W0.heap.size 28 i0 _ 2 16 Try.underlying23 hi hz0 hz1 hz2 rfl (by decide) _ _ _ rfl (own2.alloc _) ⟨wr.heap.size, 0, none⟩ 1 1 [.int .i64 x.core, .int .u32 x.val] rfl rfl (fun j u hj => cell_new_block wr _ 28 j u hj) (by intro u hu; simp at hu; rcases hu with rfl | rfl <;> rfl) (by unfold maxLen; omega) (by omega) (by simp; omega) ?_
      intro v' w9 own2' hgrow hnil hat
      obtain ⟨A4, c4, rfl⟩ := own_shape own2'
      obtain ⟨cH, fH⟩ := far_append hgrow w.heap.size ltB (fun e => by have := own2.lt _ e; omega)
      replace e0 := (cH 0).trans e0
      replace b := below_append (b.alloc b.size _) hgrow (by simp; have := b.size; omega) (own2.alloc _) bB2
      have hs5 : wr.heap.size ≤ w9.heap.size := by have := hgrow.size; simp at this; omega
      have hcs : (g.out ++ (g.held.take i).map Hld.told).flatMap Tld.enc ++ [.int .i64 x.core, .int .u32 x.val] = (g.out ++ (g.held.take (i + 1)).map Hld.told).flatMap Tld.enc := told_snoc g.out g.held i HI.out x HX.out
      rw [hcs] at own2'
      clear cH fH hgrow hnil hat hcs own2
      go_wp2_with fail
      go_roundg (n - i - 1)
      case measure => omega
      case rel => exact ⟨i + 1, A4, c4, by omega, by omega, (by go_simp; exact Nat.add_assoc m i 1), by go_simp, ⟨e0, by omega, by omega, own2', b⟩⟩
    · obtain rfl : i = n := by omega
      have hsl2 := Sl.of_own (xs := allG g) Tld.enc_len (by rw [List.take_of_length_le (Nat.le_of_eq HN.out)] at own2; exact own2) (by simp [allG, HN.out, HM.out])
      go_wp2_with fail
      go_ret
      exact ⟨A3, c3, rfl, hsl2, b⟩

end Go.Proofs.Ytkkbpcnoamagcaa
