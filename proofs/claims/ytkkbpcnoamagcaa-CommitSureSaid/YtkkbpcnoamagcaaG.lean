/- Walks of commit: Sure. -/
import Derived.Test.YtkkbpcnoamagcaaF
namespace Go.Proofs.Ytkkbpcnoamagcaa
open Go.RowKit Go.Lib

theorem told_snoc (o : List Tld) (h : List Hld) (i : Nat) (hi : i < h.length) (x : Hld) (hx : h[i]! = x) :
    (o ++ (h.take i).map Hld.told).flatMap Tld.enc ++ [.int .i64 x.core, .int .u32 x.val] = (o ++ (h.take (i + 1)).map Hld.told).flatMap Tld.enc := by
  rw [List.take_succ_eq_append_getElem hi, ← getElem!_pos h i hi, hx]
  simp [Hld.told, Tld.enc]
theorem gave_drop {w w' : World} {A1 A' A3 : Option Addr} {c1 c' c3 n m base r at0 p q : Nat} {k : Int} {g : Gt}
    (hn : g.held.length = n) (hm : g.out.length = m) (hat : at0 ≤ n) (hp : n - at0 = p) (hq : m + at0 = q)
    (hs : ∀ W : World, W.ownsRow base 51 3 (.slice A1 n c1) n (g.held.flatMap Hld.enc) → Sl 3 Hld.enc W A' (g.held.drop at0))
    (hA' : ∀ a, A' = some a → w.heap.size ≤ a.block)
    (own1 : w'.ownsRow base 51 3 (.slice A1 n c1) n (g.held.flatMap Hld.enc)) (own2 : w'.ownsRow base 28 2 (.slice A3 q c3) q ((g.out ++ (g.held.take at0).map Hld.told).flatMap Tld.enc)) (hlt : r < base) (hr : w.heap.size ≤ r) (b : Below w.heap.size w w') :
    GaveF w ⟨g.held.drop at0, g.out ++ (g.held.take at0).map Hld.told⟩ k (.returned (.tuple #[.agg #[.slice A' p c', .slice A3 q c3], .int .i64 k])) ((w'.setCell ⟨r, 0, none⟩ (.slice A' p c')).setCell ⟨r, 1, none⟩ (.slice A3 q c3)) := by
  subst hn
  subst hm
  subst hp
  subst hq
  have h1 : (g.held.drop at0).length = g.held.length - at0 := List.length_drop ..
  have h2 : (g.out ++ (g.held.take at0).map Hld.told).length = g.out.length + at0 := by simp [List.length_take]; omega
  exact ⟨A', c', A3, c3, by simp only [h1, h2], ⟨hs _ (ownsRow_setCell_below (ownsRow_setCell_below own1 hlt _) hlt _), Sl.of_own Tld.enc_len (ownsRow_setCell_below (ownsRow_setCell_below own2 hlt _) hlt _) h2⟩, (b.setCell hr _).setCell hr _, hA', own_fresh own2 (by omega), by rw [h2]; exact (own_cap own2).1⟩
theorem own_form {w : World} {base e k n c : Nat} {A : Option Addr} {cs : List Value} (h : w.ownsRow base e k (.slice A n c) n cs) : (A = none ∧ n = 0 ∧ c = 0) ∨ ∃ G, A = some ⟨G, 0, none⟩ := by
  rcases h.2 with ⟨h0, _⟩ | ⟨g', cap, cur, hv, hb, hh, hn, hm, hs, ht⟩
  · injection h0 with e1 e2 e3
    exact .inl ⟨e1, e2, e3⟩
  · injection hv with e1 e2 e3
    exact .inr ⟨g', e1⟩
theorem wpList_as {P : Program} {ops : Array Oper} {Q : Exit → Act → World → Prop} {l : List Oper} {a : Act} {w : World} (h : True → wpList P ops Q l a w) : wpList P ops Q l a w := h trivial
structure SureL (w wl : World) (W0s H n m : Nat) (A1 : Option Addr) (c1 : Nat) (g : Gt) (i : Nat) (A3 : Option Addr) (c3 : Nat) : Prop where
  h0 : wl.cell? ⟨H, 0, none⟩ = some (.slice A1 n c1)
  h1 : wl.cell? ⟨H, 1, none⟩ = some (.slice A3 (m + i) c3)
  fh0 : wl.frozen? ⟨H, 0, none⟩ = false
  fh1 : wl.frozen? ⟨H, 1, none⟩ = false
  ltH : H < wl.heap.size
  r0 : wl.cell? ⟨w.heap.size + 1, 0, none⟩ = some (.slice none 0 0)
  r1 : wl.cell? ⟨w.heap.size + 1, 1, none⟩ = some (.slice none 0 0)
  fr0 : wl.frozen? ⟨w.heap.size + 1, 0, none⟩ = false
  fr1 : wl.frozen? ⟨w.heap.size + 1, 1, none⟩ = false
  lt1 : w.heap.size + 1 < wl.heap.size
  own1 : wl.ownsRow W0s 51 3 (.slice A1 n c1) n (g.held.flatMap Hld.enc)
  own2 : wl.ownsRow W0s 28 2 (.slice A3 (m + i) c3) (m + i) ((g.out ++ (g.held.take i).map Hld.told).flatMap Tld.enc)
  b : Below w.heap.size w wl
  ne2 : (Value.slice A3 (m + i) c3).ownBlock ≠ some H

set_option maxHeartbeats 4000000 in
theorem Sure_good (A B : Option Addr) (c d n m : Nat) (k : Int) (g : Gt) (w : World) (hg : GateIn w A B g.held g.out) (hn : g.held.length = n) (hm : g.out.length = m) (hn1 : n ≤ 1000000) (hm1 : m ≤ 1000000)
    (hgood : rightB g.held = true) (hsok : spanB k = true) :
    Calls Try.prog 10 #[.agg #[.slice A n c, .slice B m d], .int .i64 k] w (GaveF w ⟨g.held.drop (belowN g.held k), g.out ++ (g.held.take (belowN g.held k)).map Hld.told⟩ 0) := by
  have cC := fun w1 (hb : Below w.heap.size w w1) => copied_any A B c d n m g.held g.out w1 (hg.below hb) hn hm hn1 hm1
  have cR := fun w1 (hb : Below w.heap.size w w1) => Right_any A B c d n m g.held g.out w1 (hg.below hb) hn
  rw [hgood] at cR
  have hlen := rightB_len hgood
  rw [hn] at hlen
  have hbe := belowN_le g.held k
  rw [hn] at hbe
  have cB := fun w1 (hb : Below w.heap.size w w1) => below_any A B c d n m k g.held g.out w1 (hg.below hb) hn
  generalize hat : belowN g.held k = at0 at *
  have HAT := Lib.hid hat
  clear hgood hat
  have HN := Lib.hid hn
  have HM := Lib.hid hm
  clear hg hn hm
  go_enter Try.func10, Try.ntmps10
  go_wp2_with fail
  obtain ⟨b, e0, e1, r0, r1, fr0, fr1, lt0, lt1⟩ := begin_sure A B c d n m w _ rfl
  generalize ((w.alloc (.cells #[.slice A n c, .slice B m d] 25)).alloc (.cells #[.slice none 0 0, .slice none 0 0] 25)) = W0 at *
  refine (cC _ b).mono ?_
  rintro e w1 ⟨v1, v2, rfl, own1, own2, hb1⟩
  have ltB := lt1
  have bB := b.size
  have ob1 := own1.lt
  have ob2 := own2.lt
  obtain ⟨A1, c1, rfl⟩ := own_shape own1
  obtain ⟨A2, c2, rfl⟩ := own_shape own2
  replace e0 := (hb1.cell (p := ⟨w.heap.size, 0, none⟩) (World.block_lt_of_cell? _ _ e0)).trans e0
  replace e1 := (hb1.cell (p := ⟨w.heap.size, 1, none⟩) (World.block_lt_of_cell? _ _ e1)).trans e1
  replace r0 := (hb1.cell (p := ⟨w.heap.size + 1, 0, none⟩) (World.block_lt_of_cell? _ _ r0)).trans r0
  replace r1 := (hb1.cell (p := ⟨w.heap.size + 1, 1, none⟩) (World.block_lt_of_cell? _ _ r1)).trans r1
  replace fr0 := (hb1.frozen (p := ⟨w.heap.size + 1, 0, none⟩) lt1).trans fr0
  replace fr1 := (hb1.frozen (p := ⟨w.heap.size + 1, 1, none⟩) lt1).trans fr1
  replace lt0 := Nat.lt_of_lt_of_le lt0 hb1.size
  replace lt1 := Nat.lt_of_lt_of_le lt1 hb1.size
  replace b := b.trans (hb1.mono b.size)
  have hsz1 := hb1.size
  clear hb1
  go_wp2_with fail
  replace e0 : (w1.alloc (.cells #[.slice A1 n c1, .slice A2 m c2] 25)).cell? ⟨w.heap.size, 0, none⟩ = some (.slice A n c) := (World.cell?_alloc_lt w1 _ ⟨w.heap.size, 0, none⟩ (World.block_lt_of_cell? _ _ e0)).trans e0
  replace e1 : (w1.alloc (.cells #[.slice A1 n c1, .slice A2 m c2] 25)).cell? ⟨w.heap.size, 1, none⟩ = some (.slice B m d) := (World.cell?_alloc_lt w1 _ ⟨w.heap.size, 1, none⟩ (World.block_lt_of_cell? _ _ e1)).trans e1
  replace r0 : (w1.alloc (.cells #[.slice A1 n c1, .slice A2 m c2] 25)).cell? ⟨w.heap.size + 1, 0, none⟩ = some (.slice none 0 0) := (World.cell?_alloc_lt w1 _ ⟨w.heap.size + 1, 0, none⟩ (World.block_lt_of_cell? _ _ r0)).trans r0
  replace r1 : (w1.alloc (.cells #[.slice A1 n c1, .slice A2 m c2] 25)).cell? ⟨w.heap.size + 1, 1, none⟩ = some (.slice none 0 0) := (World.cell?_alloc_lt w1 _ ⟨w.heap.size + 1, 1, none⟩ (World.block_lt_of_cell? _ _ r1)).trans r1
  replace fr0 : (w1.alloc (.cells #[.slice A1 n c1, .slice A2 m c2] 25)).frozen? ⟨w.heap.size + 1, 0, none⟩ = false := (((Below.refl w1.heap.size w1).alloc (Nat.le_refl _) _).frozen (p := ⟨w.heap.size + 1, 0, none⟩) lt1).trans fr0
  replace fr1 : (w1.alloc (.cells #[.slice A1 n c1, .slice A2 m c2] 25)).frozen? ⟨w.heap.size + 1, 1, none⟩ = false := (((Below.refl w1.heap.size w1).alloc (Nat.le_refl _) _).frozen (p := ⟨w.heap.size + 1, 1, none⟩) lt1).trans fr1
  have h0 : (w1.alloc (.cells #[.slice A1 n c1, .slice A2 m c2] 25)).cell? ⟨w1.heap.size, 0, none⟩ = some (.slice A1 n c1) := World.cell?_alloc_new (w := w1) _ _ _
  have h1 : (w1.alloc (.cells #[.slice A1 n c1, .slice A2 m c2] 25)).cell? ⟨w1.heap.size, 1, none⟩ = some (.slice A2 m c2) := World.cell?_alloc_new (w := w1) _ _ _
  have fh0 : (w1.alloc (.cells #[.slice A1 n c1, .slice A2 m c2] 25)).frozen? ⟨w1.heap.size, 0, none⟩ = false := by go_simp
  have fh1 : (w1.alloc (.cells #[.slice A1 n c1, .slice A2 m c2] 25)).frozen? ⟨w1.heap.size, 1, none⟩ = false := by go_simp
  replace lt0 : _ < (w1.alloc (.cells #[.slice A1 n c1, .slice A2 m c2] 25)).heap.size := Nat.lt_of_lt_of_le lt0 (by simp)
  replace lt1 : _ < (w1.alloc (.cells #[.slice A1 n c1, .slice A2 m c2] 25)).heap.size := Nat.lt_of_lt_of_le lt1 (by simp)
  replace own1 := own1.alloc (.cells #[.slice A1 n c1, .slice A2 m c2] 25)
  replace own2 := own2.alloc (.cells #[.slice A1 n c1, .slice A2 m c2] 25)
  replace b := b.alloc b.size (.cells #[.slice A1 n c1, .slice A2 m c2] 25)
  have ltH : w1.heap.size < (w1.alloc (.cells #[.slice A1 n c1, .slice A2 m c2] 25)).heap.size := by simp
  generalize hw_w2 : w1.alloc (.cells #[.slice A1 n c1, .slice A2 m c2] 25) = w2 at *
  clear hw_w2
  have hWH : W0.heap.size ≤ w1.heap.size := hsz1
  generalize w1.heap.size = H at *
  refine (cR _ b).mono ?_
  rintro e w3 ⟨rfl, hb3⟩
  replace e0 := (hb3.cell (p := ⟨w.heap.size, 0, none⟩) (World.block_lt_of_cell? _ _ e0)).trans e0
  replace e1 := (hb3.cell (p := ⟨w.heap.size, 1, none⟩) (World.block_lt_of_cell? _ _ e1)).trans e1
  replace r0 := (hb3.cell (p := ⟨w.heap.size + 1, 0, none⟩) (World.block_lt_of_cell? _ _ r0)).trans r0
  replace r1 := (hb3.cell (p := ⟨w.heap.size + 1, 1, none⟩) (World.block_lt_of_cell? _ _ r1)).trans r1
  replace h0 := (hb3.cell (p := ⟨H, 0, none⟩) (World.block_lt_of_cell? _ _ h0)).trans h0
  replace h1 := (hb3.cell (p := ⟨H, 1, none⟩) (World.block_lt_of_cell? _ _ h1)).trans h1
  replace fr0 := (hb3.frozen (p := ⟨w.heap.size + 1, 0, none⟩) lt1).trans fr0
  replace fr1 := (hb3.frozen (p := ⟨w.heap.size + 1, 1, none⟩) lt1).trans fr1
  replace fh0 := (hb3.frozen (p := ⟨H, 0, none⟩) ltH).trans fh0
  replace fh1 := (hb3.frozen (p := ⟨H, 1, none⟩) ltH).trans fh1
  replace lt0 := Nat.lt_of_lt_of_le lt0 hb3.size
  replace lt1 := Nat.lt_of_lt_of_le lt1 hb3.size
  replace ltH := Nat.lt_of_lt_of_le ltH hb3.size
  replace own1 := own_below own1 hb3
  replace own2 := own_below own2 hb3
  replace b := b.trans (hb3.mono b.size)
  clear hb3
  go_wp2_with fail
  refine (span_any _ _).mono ?_
  rintro e w4 ⟨rfl, hw4⟩
  have hw4' := hw4.symm
  subst hw4'
  rw [hsok]
  clear hsok
  have hbez : (at0 : Int) ≤ (n : Int) := by omega
  have hbe0 : 0 ≤ (at0 : Int) := by omega
  go_wp2_with fail
  refine (cB _ b).mono ?_
  rintro e w5 ⟨rfl, hb5⟩
  replace e0 := (hb5.cell (p := ⟨w.heap.size, 0, none⟩) (World.block_lt_of_cell? _ _ e0)).trans e0
  replace e1 := (hb5.cell (p := ⟨w.heap.size, 1, none⟩) (World.block_lt_of_cell? _ _ e1)).trans e1
  replace r0 := (hb5.cell (p := ⟨w.heap.size + 1, 0, none⟩) (World.block_lt_of_cell? _ _ r0)).trans r0
  replace r1 := (hb5.cell (p := ⟨w.heap.size + 1, 1, none⟩) (World.block_lt_of_cell? _ _ r1)).trans r1
  replace h0 := (hb5.cell (p := ⟨H, 0, none⟩) (World.block_lt_of_cell? _ _ h0)).trans h0
  replace h1 := (hb5.cell (p := ⟨H, 1, none⟩) (World.block_lt_of_cell? _ _ h1)).trans h1
  replace fr0 := (hb5.frozen (p := ⟨w.heap.size + 1, 0, none⟩) lt1).trans fr0
  replace fr1 := (hb5.frozen (p := ⟨w.heap.size + 1, 1, none⟩) lt1).trans fr1
  replace fh0 := (hb5.frozen (p := ⟨H, 0, none⟩) ltH).trans fh0
  replace fh1 := (hb5.frozen (p := ⟨H, 1, none⟩) ltH).trans fh1
  replace lt0 := Nat.lt_of_lt_of_le lt0 hb5.size
  replace lt1 := Nat.lt_of_lt_of_le lt1 hb5.size
  replace ltH := Nat.lt_of_lt_of_le ltH hb5.size
  replace own1 := own_below own1 hb5
  replace own2 := own_below own2 hb5
  replace b := b.trans (hb5.mono b.size)
  clear hb5
  obtain ⟨hcap, hcapm⟩ := own_cap own1
  have hbec : (at0 : Int) ≤ (c1 : Int) := by omega
  obtain ⟨i0, hi, hz0, hz1, hz2⟩ := info_parts info28
  go_wp2_with fail
  go_loopg [29] at0 (fun gg s29 wl => ∃ (i : Nat) (A3 : Option Addr) (c3 : Nat), i ≤ at0 ∧ at0 - i ≤ gg ∧ s29 = .int .i64 (i : Int) ∧ SureL w wl W0.heap.size H n m A1 c1 g i A3 c3)
  case atStart => exact ⟨0, A2, c2, Nat.zero_le _, by omega, rfl, ⟨h0, h1, fh0, fh1, ltH, r0, r1, fr0, fr1, lt1, own1, by simpa using own2, b, fun e => Nat.lt_irrefl _ (ob2 _ e).2⟩⟩
  case round =>
    obtain ⟨i, A3, c3, hi0, hgg, rfl, L⟩ := hrel
    obtain ⟨h0, h1, fh0, fh1, ltH, r0, r1, fr0, fr1, lt1, own1, own2, b, ne2⟩ := L
    by_cases hlt : i < at0
    · have hltz : (i : Int) < (at0 : Int) := by omega
      have hin : i < g.held.length := by rw [HN.out]; omega
      have HI := Lib.hid hin
      obtain ⟨bb, off, rfl, hq⟩ := (Sl.of_own Hld.enc_len own1 HN.out).at_ i hin
      have q0 := hq 0 _ rfl
      have q1 := hq 1 _ rfl
      have q2 := hq 2 _ rfl
      rw [Nat.add_zero] at q0
      generalize hx : g.held[i]! = x at *
      have HX := Lib.hid hx
      clear hx hq hin
      go_wp2_with (at_builtin; refine wpList_as ?_)
      intro _
      have hs8 : (wr.alloc (.cells #[.int .i64 x.core, .int .u32 x.val, .int .i64 x.span] 51)).heap.size = wr.heap.size + 1 := by simp
      rw [← hs8]
      have hW0 : W0.heap.size ≤ (wr.alloc (.cells #[.int .i64 x.core, .int .u32 x.val, .int .i64 x.span] 51)).heap.size := by have := ltH; simp; omega
      replace h0 : (wr.alloc (.cells #[.int .i64 x.core, .int .u32 x.val, .int .i64 x.span] 51)).cell? ⟨H, 0, none⟩ = some (.slice (some ⟨bb, off, none⟩) n c1) := (World.cell?_alloc_lt wr _ ⟨H, 0, none⟩ (World.block_lt_of_cell? _ _ h0)).trans h0
      replace h1 : (wr.alloc (.cells #[.int .i64 x.core, .int .u32 x.val, .int .i64 x.span] 51)).cell? ⟨H, 1, none⟩ = some (.slice A3 (m + i) c3) := (World.cell?_alloc_lt wr _ ⟨H, 1, none⟩ (World.block_lt_of_cell? _ _ h1)).trans h1
      replace r0 : (wr.alloc (.cells #[.int .i64 x.core, .int .u32 x.val, .int .i64 x.span] 51)).cell? ⟨w.heap.size + 1, 0, none⟩ = some (.slice none 0 0) := (World.cell?_alloc_lt wr _ ⟨w.heap.size + 1, 0, none⟩ (World.block_lt_of_cell? _ _ r0)).trans r0
      replace r1 : (wr.alloc (.cells #[.int .i64 x.core, .int .u32 x.val, .int .i64 x.span] 51)).cell? ⟨w.heap.size + 1, 1, none⟩ = some (.slice none 0 0) := (World.cell?_alloc_lt wr _ ⟨w.heap.size + 1, 1, none⟩ (World.block_lt_of_cell? _ _ r1)).trans r1
      replace fh0 : (wr.alloc (.cells #[.int .i64 x.core, .int .u32 x.val, .int .i64 x.span] 51)).frozen? ⟨H, 0, none⟩ = false := (((Below.refl wr.heap.size wr).alloc (Nat.le_refl _) _).frozen (p := ⟨H, 0, none⟩) ltH).trans fh0
      replace fh1 : (wr.alloc (.cells #[.int .i64 x.core, .int .u32 x.val, .int .i64 x.span] 51)).frozen? ⟨H, 1, none⟩ = false := (((Below.refl wr.heap.size wr).alloc (Nat.le_refl _) _).frozen (p := ⟨H, 1, none⟩) ltH).trans fh1
      replace fr0 : (wr.alloc (.cells #[.int .i64 x.core, .int .u32 x.val, .int .i64 x.span] 51)).frozen? ⟨w.heap.size + 1, 0, none⟩ = false := (((Below.refl wr.heap.size wr).alloc (Nat.le_refl _) _).frozen (p := ⟨w.heap.size + 1, 0, none⟩) lt1).trans fr0
      replace fr1 : (wr.alloc (.cells #[.int .i64 x.core, .int .u32 x.val, .int .i64 x.span] 51)).frozen? ⟨w.heap.size + 1, 1, none⟩ = false := (((Below.refl wr.heap.size wr).alloc (Nat.le_refl _) _).frozen (p := ⟨w.heap.size + 1, 1, none⟩) lt1).trans fr1
      replace ltH : _ < (wr.alloc (.cells #[.int .i64 x.core, .int .u32 x.val, .int .i64 x.span] 51)).heap.size := Nat.lt_of_lt_of_le ltH (by simp)
      replace lt1 : _ < (wr.alloc (.cells #[.int .i64 x.core, .int .u32 x.val, .int .i64 x.span] 51)).heap.size := Nat.lt_of_lt_of_le lt1 (by simp)
      replace own1 := own1.alloc (.cells #[.int .i64 x.core, .int .u32 x.val, .int .i64 x.span] 51)
      replace own2 := own2.alloc (.cells #[.int .i64 x.core, .int .u32 x.val, .int .i64 x.span] 51)
      replace b := b.alloc b.size (.cells #[.int .i64 x.core, .int .u32 x.val, .int .i64 x.span] 51)
      have ltX : wr.heap.size < (wr.alloc (.cells #[.int .i64 x.core, .int .u32 x.val, .int .i64 x.span] 51)).heap.size := by simp
      generalize hw_w8 : wr.alloc (.cells #[.int .i64 x.core, .int .u32 x.val, .int .i64 x.span] 51) = w8 at *
      clear hw_w8
      generalize wr.heap.size = X9 at *
      refine wpList_append_own_at _ rfl _ _ 23 rfl W0.heap.size 28 i0 _ 2 16 Try.underlying23 hi hz0 hz1 hz2 rfl (by decide) _ _ _ rfl (own2.alloc _) ⟨w8.heap.size, 0, none⟩ 1 1 [.int .i64 x.core, .int .u32 x.val] rfl rfl (fun j u hj => cell_new_block w8 _ 28 j u hj) (by intro u hu; simp at hu; rcases hu with rfl | rfl <;> rfl) (by unfold maxLen; omega) (by omega) (by simp; omega) ?_
      intro v' w9 own2' hgrow hnil hat
      have own1' := (own1.alloc (.cells #[.int .i64 x.core, .int .u32 x.val] 28)).kept hgrow (own_two own1 own2 (by decide))
      obtain ⟨cH, fH⟩ := far_append hgrow H ltH ne2
      obtain ⟨cr, fr⟩ := far_append hgrow (w.heap.size + 1) lt1 (fun e => by have := own2.lt _ e; omega)
      replace h0 := (cH 0).trans h0
      replace h1 := (cH 1).trans h1
      replace fh0 := (fH 0).trans fh0
      replace fh1 := (fH 1).trans fh1
      replace r0 := (cr 0).trans r0
      replace r1 := (cr 1).trans r1
      replace fr0 := (fr 0).trans fr0
      replace fr1 := (fr 1).trans fr1
      replace b := below_append (b.alloc b.size _) hgrow (by simp; have := b.size; omega) (own2.alloc _) bB
      have hs5 : w8.heap.size ≤ w9.heap.size := by have := hgrow.size; simp at this; omega
      obtain ⟨A4, c4, rfl⟩ := own_shape own2'
      have ne4 : (Value.slice A4 (m + i + 1) c4).ownBlock ≠ some H := by
        rcases hat with e | e <;> rw [e]
        · exact ne2
        · simp; omega
      replace ltH := Nat.lt_of_lt_of_le ltH hs5
      replace lt1 := Nat.lt_of_lt_of_le lt1 hs5
      have ne1 : (Value.slice (some ⟨bb, off, none⟩) n c1).ownBlock ≠ some H := fun e => Nat.lt_irrefl _ (ob1 _ e).2
      have own3 := ownsRow_setCell_other (a := ⟨H, 1, none⟩) own1' ne1 (.slice A4 (m + i + 1) c4)
      have own4 := ownsRow_setCell_other (a := ⟨H, 1, none⟩) own2' ne4 (.slice A4 (m + i + 1) c4)
      have b6 := b.setCell (p := (⟨H, 1, none⟩ : Addr)) (by simp; omega) (.slice A4 (m + i + 1) c4)
      have hcs : (g.out ++ (g.held.take i).map Hld.told).flatMap Tld.enc ++ [.int .i64 x.core, .int .u32 x.val] = (g.out ++ (g.held.take (i + 1)).map Hld.told).flatMap Tld.enc := told_snoc g.out g.held i HI.out x HX.out
      rw [hcs] at own4
      clear cH fH cr fr hgrow hnil hat hcs own1' own2'
      go_wp2_with fail
      go_roundg (at0 - i - 1)
      case measure => omega
      case rel => exact ⟨i + 1, A4, c4, by omega, by omega, by simp, ⟨by go_simp, (by go_simp; exact Nat.add_assoc m i 1), by go_simp, by go_simp, by simpa using ltH, by go_simp, by go_simp, by go_simp, by go_simp, by simpa using lt1, own3, own4, b6, ne4⟩⟩
    · obtain rfl : at0 = i := by omega
      have ne1 : (Value.slice A1 n c1).ownBlock ≠ some H := fun e => Nat.lt_irrefl _ (ob1 _ e).2
      rcases own_form own1 with ⟨rfl, rfl, rfl⟩ | ⟨G1, rfl⟩
      · obtain rfl : at0 = 0 := by omega
        go_wp2_with fail
        have o1 := ownsRow_setCell_other (a := ⟨H, 0, none⟩) own1 ne1 (.slice none 0 0)
        have o2 := ownsRow_setCell_other (a := ⟨H, 0, none⟩) own2 ne2 (.slice none 0 0)
        exact bodyPost_ret (v := .tuple #[.agg #[.slice (none) (0) (0), .slice A3 (m + 0) c3], .int .i64 0]) (by simp [results, Try.results10, go_sem, r0, r1]) rfl (gave_drop HN.out HM.out hbe (by omega) (by omega) (fun W h => by rw [List.length_eq_zero_iff.1 HN.out]; exact Sl.nil _ _ _ _) (fun a e => by cases e) o1 o2 ltB (by omega) (b.setCell (p := (⟨H, 0, none⟩ : Addr)) (by simp; omega) _))
      · by_cases hAC : at0 = c1
        · have hnc : c1 = n := by omega
          subst hnc
          subst hAC
          go_wp2_with fail
          have o1 := ownsRow_setCell_other (a := ⟨H, 0, none⟩) own1 ne1 (.slice (some ⟨G1, 0, none⟩) 0 0)
          have o2 := ownsRow_setCell_other (a := ⟨H, 0, none⟩) own2 ne2 (.slice (some ⟨G1, 0, none⟩) 0 0)
          exact bodyPost_ret (v := .tuple #[.agg #[.slice ((some ⟨G1, 0, none⟩)) (0) (0), .slice A3 (m + at0) c3], .int .i64 0]) (by simp [results, Try.results10, go_sem, r0, r1]) rfl (gave_drop (A' := some ⟨G1, 0, none⟩) (c' := 0) (p := 0) HN.out HM.out (Nat.le_refl at0) (Nat.sub_self at0) (by omega) (fun W h => by rw [List.drop_eq_nil_of_le (Nat.le_of_eq HN.out)]; exact Sl.nil _ _ _ _) (fun a e => by injection e with e; subst e; exact own_fresh own1 bB ⟨G1, 0, none⟩ rfl) o1 o2 ltB (by omega) (b.setCell (p := (⟨H, 0, none⟩ : Addr)) (by simp; omega) _))
        · have hACz : ¬ (at0 : Int) = (c1 : Int) := by omega
          have hACl : (at0 : Int) < (c1 : Int) := by omega
          go_wp2_with fail
          have o1 := ownsRow_setCell_other (a := ⟨H, 0, none⟩) own1 ne1 (.slice (some ⟨G1, at0 * 3, none⟩) (n - at0) (c1 - at0))
          have o2 := ownsRow_setCell_other (a := ⟨H, 0, none⟩) own2 ne2 (.slice (some ⟨G1, at0 * 3, none⟩) (n - at0) (c1 - at0))
          exact bodyPost_ret (v := .tuple #[.agg #[.slice ((some ⟨G1, at0 * 3, none⟩)) ((n - at0)) ((c1 - at0)), .slice A3 (m + at0) c3], .int .i64 0]) (by simp [results, Try.results10, go_sem, r0, r1]) rfl (gave_drop HN.out HM.out hbe (by omega) (by omega) (fun W h => by have := (Sl.of_own Hld.enc_len h HN.out).drop at0; rwa [Nat.zero_add] at this) (fun a e => by injection e with e; subst e; exact own_fresh own1 bB ⟨G1, 0, none⟩ rfl) o1 o2 ltB (by omega) (b.setCell (p := (⟨H, 0, none⟩ : Addr)) (by simp; omega) _))

theorem Sure_fresh (A B : Option Addr) (c d n m : Nat) (k : Int) (g : Gt) (w : World) (hg : GateIn w A B g.held g.out) (hn : g.held.length = n) (hm : g.out.length = m) (hn1 : n ≤ 1000000) (hm1 : m ≤ 1000000) :
    Calls Try.prog 10 #[.agg #[.slice A n c, .slice B m d], .int .i64 k] w (GaveF w (sureG g k).1 (sureG g k).2) := by
  unfold sureG
  cases hr : rightB g.held with
  | false => simp only [true_or, if_true]; exact Sure_bad A B c d n m k g w hg hn hm hn1 hm1 hr
  | true =>
    cases hs : spanB k with
    | false => simp only [or_true, if_true]; exact Sure_span A B c d n m k g w hg hn hm hn1 hm1 hr hs
    | true => rw [if_neg (by simp)]; exact Sure_good A B c d n m k g w hg hn hm hn1 hm1 hr hs
theorem Sure_any (A B : Option Addr) (c d n m : Nat) (k : Int) (g : Gt) (w : World) (hg : GateIn w A B g.held g.out) (hn : g.held.length = n) (hm : g.out.length = m) (hn1 : n ≤ 1000000) (hm1 : m ≤ 1000000) :
    Calls Try.prog 10 #[.agg #[.slice A n c, .slice B m d], .int .i64 k] w (Gave w (sureG g k).1 (sureG g k).2) :=
  (Sure_fresh A B c d n m k g w hg hn hm hn1 hm1).mono fun _ _ h => h.gave
end Go.Proofs.Ytkkbpcnoamagcaa
