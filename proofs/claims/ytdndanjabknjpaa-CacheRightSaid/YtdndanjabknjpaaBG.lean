/- The walk of the reference's Drop. -/
import Derived.Test.YtdndanjabknjpaaBF
namespace Go.Proofs.Ytdndanjabknjpaa
open Go.RowKit Go.Lib

set_option linter.unusedVariables false
attribute [local go_sem] Act.puts
structure RdR (w0 : World) (base CX YX bb off n c s b2 o2 m c2 k : Nat) (t : Int) (x y : Ca) (l : List Ln) (hs : List Hd) (L : Nat → Bool) (u21 u22 u23 u24 u25 u26 u27 u28 u29 u30 u31 u32 u33 u34 u35 u36 u5 : Value) (wz : World) : Prop where
  b : Below base w0 wz
  b0 : L 16 = false → Below w0.heap.size w0 wz
  s0 : L 0 = true → u21 = .agg #[.int .i64 x.sets, .int .i64 x.ways, .int .i64 x.clock, .slice (some ⟨bb, off, none⟩) n c]
  s1 : L 1 = true → u22 = .int .i64 t
  s2 : L 2 = true → u23 = .pointer (some ⟨CX, 0, none⟩)
  s3 : L 3 = true → u24 = .int .i64 x.sets
  s4 : L 4 = true → u25 = .int .i64 (s : Int)
  s5 : L 5 = true → u26 = .pointer (some ⟨CX, 3, none⟩)
  s6 : L 6 = true → u27 = .slice (some ⟨bb, off, none⟩) n c
  s7 : L 7 = true → u28 = .int .i64 t
  s8 : L 8 = true → u29 = .pointer (some ⟨CX, 0, none⟩)
  s9 : L 9 = true → u30 = .int .i64 x.sets
  s10 : L 10 = true → u31 = .int .i64 (s : Int)
  s11 : L 11 = true → u32 = .pointer (some ⟨bb, off + s, none⟩)
  s12 : L 12 = true → u33 = .slice (some ⟨b2, o2, none⟩) m c2
  s13 : L 13 = true → u34 = .int .i64 (k : Int)
  e14 : L 14 = true → L 16 = false → RowIn wz (fun Y => Y < w0.heap.size) (l.eraseIdx k) u35
  e15 : L 15 = true → L 16 = false → CRes wz (fun Y => Y < w0.heap.size ∧ CFar Y (some ⟨bb, off, none⟩) x.lines hs) y u36
  o16 : L 16 = false → Bx wz YX [.int .i64 0, .int .i64 0, .int .i64 0, .slice none 0 0]
  r16 : L 16 = true → CVar wz (fun Y => Y < w0.heap.size ∧ CFar Y (some ⟨bb, off, none⟩) x.lines hs) y YX
  s17 : L 17 = true → u5 = .int .i64 0
def RdRPhi (w0 : World) (base CX YX bb off n c s b2 o2 m c2 k : Nat) (t : Int) (x y : Ca) (l : List Ln) (hs : List Hd) (L : Nat → Bool) (vs : List Value) (w' : World) : Prop :=
  ∃ u21 u22 u23 u24 u25 u26 u27 u28 u29 u30 u31 u32 u33 u34 u35 u36 u5 wz, vs = [u21, u22, u23, u24, u25, u26, u27, u28, u29, u30, u31, u32, u33, u34, u35, u36, u5] ∧ RdR w0 base CX YX bb off n c s b2 o2 m c2 k t x y l hs L u21 u22 u23 u24 u25 u26 u27 u28 u29 u30 u31 u32 u33 u34 u35 u36 u5 wz ∧ wz = w'

set_option maxHeartbeats 16000000 in
set_option maxRecDepth 100000 in
theorem rDrop_any (A : Option Addr) (c n : Nat) (x : Ca) (hs : List Hd) (t : Int) (w : World) (hc : CIn w A x.lines hs) (hn : x.lines.length = n) (hn1 : n ≤ 1000000) (hb : ∀ s, s < n → x.lines[s]!.length ≤ 1000000) :
    Calls Try.prog 19 #[.agg #[.int .i64 x.sets, .int .i64 x.ways, .int .i64 x.clock, .slice A n c], .int .i64 t] w (GivesX w A x.lines hs (dropC x t)) := by
  have b0 : Below w.heap.size w ((w.alloc (.cells #[.int .i64 x.sets, .int .i64 x.ways, .int .i64 x.clock, .slice A n c] 26)).alloc (.cells #[.int .i64 0, .int .i64 0, .int .i64 0, .slice none 0 0] 26)) := ((Below.refl _ _).alloc (Nat.le_refl _) _).alloc (by simp) _
  have X := (Bx.new w [.int .i64 x.sets, .int .i64 x.ways, .int .i64 x.clock, .slice A n c] 26).alloc (.cells #[.int .i64 0, .int .i64 0, .int .i64 0, .slice none 0 0] 26)
  have Y := Bx.new (w.alloc (.cells #[.int .i64 x.sets, .int .i64 x.ways, .int .i64 x.clock, .slice A n c] 26)) [.int .i64 0, .int .i64 0, .int .i64 0, .slice none 0 0] 26
  rw [show (w.alloc (.cells #[.int .i64 x.sets, .int .i64 x.ways, .int .i64 x.clock, .slice A n c] 26)).heap.size = w.heap.size + 1 by simp] at Y
  have HC := Lib.hid (hc.below b0)
  have HFAR : CFar (w.heap.size + 1) A x.lines hs := hc.far (Nat.le_succ _)
  have HN := Lib.hid hn
  have HB := Lib.hid hb
  have cR := fun w1 (h : CIn w1 A x.lines hs) => rRight_any A c n x hs w1 h hn
  clear hb hc
  cases hr : rightC x with
  | false =>
    have hL : dropC x t = (x, 1) := by unfold dropC; rw [if_neg (fun h => by rw [hr] at h; exact absurd h.1 (by decide))]
    rw [hL]
    rw [hr] at cR
    clear hr hL hn
    have x0 := X.cell 0 _ rfl
    have x1 := X.cell 1 _ rfl
    have x2 := X.cell 2 _ rfl
    have x3 := X.cell 3 _ rfl
    have y0 := Y.cell 0 _ rfl
    have f0 := Y.froz 0
    have y1 := Y.cell 1 _ rfl
    have f1 := Y.froz 1
    have y2 := Y.cell 2 _ rfl
    have f2 := Y.froz 2
    have y3 := Y.cell 3 _ rfl
    have f3 := Y.froz 3
    go_enter Try.func19, Try.ntmps19
    go_wp2_with fail
    generalize ((w.alloc (.cells #[.int .i64 x.sets, .int .i64 x.ways, .int .i64 x.clock, .slice A n c] 26)).alloc (.cells #[.int .i64 0, .int .i64 0, .int .i64 0, .slice none 0 0] 26)) = W0 at *
    refine (cR _ HC.out).mono ?_
    rintro e w1 ⟨rfl, hb1⟩
    replace X := X.below hb1
    replace Y := Y.below hb1
    have b1 := b0.trans (hb1.mono b0.size)
    have HC1 := HC.out.below hb1
    clear x0 x1 x2 x3 y0 y1 y2 y3 f0 f1 f2 f3 cR hb1
    generalize hCX : w.heap.size = CX at X Y HFAR ⊢
    generalize hYX : CX + 1 = YX at X Y HFAR ⊢
    have x0 := X.cell 0 _ rfl
    have x1 := X.cell 1 _ rfl
    have x2 := X.cell 2 _ rfl
    have x3 := X.cell 3 _ rfl
    have y0 := Y.cell 0 _ rfl
    have f0 := Y.froz 0
    have y1 := Y.cell 1 _ rfl
    have f1 := Y.froz 1
    have y2 := Y.cell 2 _ rfl
    have f2 := Y.froz 2
    have y3 := Y.cell 3 _ rfl
    have f3 := Y.froz 3
    go_wp2_with fail
    have bF := ((((b1.setCell (p := ⟨YX, 0, none⟩) (by show w.heap.size ≤ YX; omega) (.int .i64 x.sets)).setCell (p := ⟨YX, 1, none⟩) (by show w.heap.size ≤ YX; omega) (.int .i64 x.ways)).setCell (p := ⟨YX, 2, none⟩) (by show w.heap.size ≤ YX; omega) (.int .i64 x.clock)).setCell (p := ⟨YX, 3, none⟩) (by show w.heap.size ≤ YX; omega) (.slice A n c))
    have cF := (((HC1.setFar HFAR 0 (.int .i64 x.sets)).setFar HFAR 1 (.int .i64 x.ways)).setFar HFAR 2 (.int .i64 x.clock)).setFar HFAR 3 (.slice A n c)
    try go_wp2_with fail
    exact bodyPost_ret (v := .tuple #[.agg #[.int .i64 x.sets, .int .i64 x.ways, .int .i64 x.clock, .slice A n c], .int .i64 1]) (by simp [results, Try.results19, go_sem, y0, y1, y2, y3, x0, x1, x2, x3]) rfl ⟨_, rfl, ⟨A, c, hs, by rw [HN.out], cF, fun Y hY => hY.2⟩, bF⟩
  | true =>
    by_cases ht : 0 ≤ t
    · have hL0 : ∀ s : Nat, t.tmod x.sets = (s : Int) → dropC x t = (if idxA x.lines[s]! t < 0 then (x, 7) else (⟨x.sets, x.ways, x.clock, x.lines.set s (x.lines[s]!.eraseIdx (idxA x.lines[s]! t).toNat)⟩, 0)) := fun s hst => by
        unfold dropC setOf
        rw [if_pos ⟨hr, ht⟩, hst, Int.toNat_natCast]
      obtain ⟨s, hst, hsn, h0⟩ := set_of hr ht
      have hn8 : x.lines.length ≤ 8 := by have := right_facts hr; omega
      have cP := fun w1 (h : CIn w1 A x.lines hs) => at_any A c n s x hs t w1 h hn (by rw [← hn]; exact hsn) hst h0 (by omega)
      have HSN := Lib.hid hsn
      have hsz : (s : Int) < (n : Int) := by omega
      have z1' : decide (t < 0) = false := decide_eq_false (by omega)
      have h0n : ¬ x.sets = 0 := h0
      have h0b : (x.sets == 0) = false := by rw [beq_eq_false_iff_ne]; exact h0
      have HSW := Lib.hid (show IntKind.i64.wrap (s : Int) = (s : Int) from IntWalk.i64_in _ (by omega))
      rw [hr] at cR
      have HST := Lib.hid hst
      have HST2 := Lib.hid (show t % x.sets = (s : Int) by rw [← Int.tmod_eq_emod_of_nonneg ht]; exact hst)
      have hL := hL0 s hst
      clear hL0 hst h0
      rcases idxA_cases x.lines[s]! t with ⟨hi, hno⟩ | ⟨k, hk, hi, hka, hno⟩
      · rw [hi] at hL
        rw [hi] at cP
        rw [if_pos (by omega)] at hL
        rw [hL]
        clear hL hi hno hr hsn hn
        have x0 := X.cell 0 _ rfl
        have x1 := X.cell 1 _ rfl
        have x2 := X.cell 2 _ rfl
        have x3 := X.cell 3 _ rfl
        have y0 := Y.cell 0 _ rfl
        have f0 := Y.froz 0
        have y1 := Y.cell 1 _ rfl
        have f1 := Y.froz 1
        have y2 := Y.cell 2 _ rfl
        have f2 := Y.froz 2
        have y3 := Y.cell 3 _ rfl
        have f3 := Y.froz 3
        go_enter Try.func19, Try.ntmps19
        go_wp2_with fail
        generalize ((w.alloc (.cells #[.int .i64 x.sets, .int .i64 x.ways, .int .i64 x.clock, .slice A n c] 26)).alloc (.cells #[.int .i64 0, .int .i64 0, .int .i64 0, .slice none 0 0] 26)) = W0 at *
        refine (cR _ HC.out).mono ?_
        rintro e w1 ⟨rfl, hb1⟩
        replace X := X.below hb1
        replace Y := Y.below hb1
        have b1 := b0.trans (hb1.mono b0.size)
        have HC1 := HC.out.below hb1
        clear x0 x1 x2 x3 y0 y1 y2 y3 f0 f1 f2 f3 cR hb1
        generalize hCX : w.heap.size = CX at X Y HFAR ⊢
        generalize hYX : CX + 1 = YX at X Y HFAR ⊢
        have x0 := X.cell 0 _ rfl
        have x1 := X.cell 1 _ rfl
        have x2 := X.cell 2 _ rfl
        have x3 := X.cell 3 _ rfl
        have y0 := Y.cell 0 _ rfl
        have f0 := Y.froz 0
        have y1 := Y.cell 1 _ rfl
        have f1 := Y.froz 1
        have y2 := Y.cell 2 _ rfl
        have f2 := Y.froz 2
        have y3 := Y.cell 3 _ rfl
        have f3 := Y.froz 3
        go_wp2_with fail
        refine (cP _ HC1).mono ?_
        rintro e w2 ⟨rfl, hb2⟩
        replace X := X.below hb2
        replace Y := Y.below hb2
        replace b1 := b1.trans (hb2.mono b1.size)
        replace HC1 := HC1.below hb2
        clear y0 y1 y2 y3 f0 f1 f2 f3 x0 x1 x2 x3 hb2
        have x0 := X.cell 0 _ rfl
        have x1 := X.cell 1 _ rfl
        have x2 := X.cell 2 _ rfl
        have x3 := X.cell 3 _ rfl
        have y0 := Y.cell 0 _ rfl
        have f0 := Y.froz 0
        have y1 := Y.cell 1 _ rfl
        have f1 := Y.froz 1
        have y2 := Y.cell 2 _ rfl
        have f2 := Y.froz 2
        have y3 := Y.cell 3 _ rfl
        have f3 := Y.froz 3
        have bF := ((((b1.setCell (p := ⟨YX, 0, none⟩) (by show w.heap.size ≤ YX; omega) (.int .i64 x.sets)).setCell (p := ⟨YX, 1, none⟩) (by show w.heap.size ≤ YX; omega) (.int .i64 x.ways)).setCell (p := ⟨YX, 2, none⟩) (by show w.heap.size ≤ YX; omega) (.int .i64 x.clock)).setCell (p := ⟨YX, 3, none⟩) (by show w.heap.size ≤ YX; omega) (.slice A n c))
        have cF := (((HC1.setFar HFAR 0 (.int .i64 x.sets)).setFar HFAR 1 (.int .i64 x.ways)).setFar HFAR 2 (.int .i64 x.clock)).setFar HFAR 3 (.slice A n c)
        try go_wp2_with fail
        exact bodyPost_ret (v := .tuple #[.agg #[.int .i64 x.sets, .int .i64 x.ways, .int .i64 x.clock, .slice A n c], .int .i64 7]) (by simp [results, Try.results19, go_sem, y0, y1, y2, y3, x0, x1, x2, x3]) rfl ⟨_, rfl, ⟨A, c, hs, by rw [HN.out], cF, fun Y hY => hY.2⟩, bF⟩
      · rw [hi] at hL
        rw [hi] at cP
        rw [if_neg (by omega), Int.toNat_natCast] at hL
        obtain ⟨y, hy⟩ : ∃ y : Ca, y = ⟨x.sets, x.ways, x.clock, x.lines.set s (x.lines[s]!.eraseIdx k)⟩ := ⟨_, rfl⟩
        rw [← hy] at hL
        rw [hL]
        have HYY := Lib.hid hy
        have HK := Lib.hid hk
        clear hL hi hka hno hy hr hsn hn
        have x0 := X.cell 0 _ rfl
        have x1 := X.cell 1 _ rfl
        have x2 := X.cell 2 _ rfl
        have x3 := X.cell 3 _ rfl
        have y0 := Y.cell 0 _ rfl
        have f0 := Y.froz 0
        have y1 := Y.cell 1 _ rfl
        have f1 := Y.froz 1
        have y2 := Y.cell 2 _ rfl
        have f2 := Y.froz 2
        have y3 := Y.cell 3 _ rfl
        have f3 := Y.froz 3
        go_enter Try.func19, Try.ntmps19
        go_wp2_with fail
        generalize ((w.alloc (.cells #[.int .i64 x.sets, .int .i64 x.ways, .int .i64 x.clock, .slice A n c] 26)).alloc (.cells #[.int .i64 0, .int .i64 0, .int .i64 0, .slice none 0 0] 26)) = W0 at *
        refine (cR _ HC.out).mono ?_
        rintro e w1 ⟨rfl, hb1⟩
        replace X := X.below hb1
        replace Y := Y.below hb1
        have b1 := b0.trans (hb1.mono b0.size)
        have HC1 := HC.out.below hb1
        clear x0 x1 x2 x3 y0 y1 y2 y3 f0 f1 f2 f3 cR hb1
        generalize hCX : w.heap.size = CX at X Y HFAR ⊢
        generalize hYX : CX + 1 = YX at X Y HFAR ⊢
        have x0 := X.cell 0 _ rfl
        have x1 := X.cell 1 _ rfl
        have x2 := X.cell 2 _ rfl
        have x3 := X.cell 3 _ rfl
        have y0 := Y.cell 0 _ rfl
        have f0 := Y.froz 0
        have y1 := Y.cell 1 _ rfl
        have f1 := Y.froz 1
        have y2 := Y.cell 2 _ rfl
        have f2 := Y.froz 2
        have y3 := Y.cell 3 _ rfl
        have f3 := Y.froz 3
        go_wp2_with fail
        refine (cP _ HC1).mono ?_
        rintro e w2 ⟨rfl, hb2⟩
        replace X := X.below hb2
        replace Y := Y.below hb2
        replace b1 := b1.trans (hb2.mono b1.size)
        replace HC1 := HC1.below hb2
        clear y0 y1 y2 y3 f0 f1 f2 f3 x0 x1 x2 x3 hb2
        have x0 := X.cell 0 _ rfl
        have x1 := X.cell 1 _ rfl
        have x2 := X.cell 2 _ rfl
        have x3 := X.cell 3 _ rfl
        have y0 := Y.cell 0 _ rfl
        have f0 := Y.froz 0
        have y1 := Y.cell 1 _ rfl
        have f1 := Y.froz 1
        have y2 := Y.cell 2 _ rfl
        have f2 := Y.froz 2
        have y3 := Y.cell 3 _ rfl
        have f3 := Y.froz 3
        go_wp2_with fail
        obtain ⟨bb, off, B2, m, c2, e1, hcell, hm, hmc, _, hsl⟩ := HC1.at_ s HSN.out
        subst e1
        obtain ⟨l, hl⟩ : ∃ l, l = x.lines[s]! := ⟨_, rfl⟩
        rw [← hl] at hm hsl HYY HK
        obtain ⟨b2, o2, e2, _⟩ := hsl.at_ k HK.out
        subst e2
        have hkm : k < m := by rw [← hm]; exact HK.out
        have hm1 : m ≤ 1000000 := by rw [← hm, hl]; exact HB.out s (by rw [← HN.out]; exact HSN.out)
        have HC2 := HC1.below (Below.refl _ _).drew
        replace hsl := hsl.below (Below.refl _ _).drew
        replace hcell : w2.drew.cell? ⟨bb, off + s, none⟩ = _ := hcell
        have hbase : w.heap.size ≤ w2.drew.heap.size := b1.size
        have hb_YX : w.heap.size ≤ YX := by omega
        have P_YX : YX < w2.drew.heap.size ∧ CFar YX (some ⟨bb, off, none⟩) x.lines hs := ⟨Y.lt, HFAR⟩
        have oY := Y.below (Below.refl _ _).drew
        replace x0 : w2.drew.cell? ⟨CX, 0, none⟩ = _ := x0
        replace x1 : w2.drew.cell? ⟨CX, 1, none⟩ = _ := x1
        replace x2 : w2.drew.cell? ⟨CX, 2, none⟩ = _ := x2
        replace x3 : w2.drew.cell? ⟨CX, 3, none⟩ = _ := x3
        have hst := HST.out
        have hst2 := HST2.out
        have hsw := HSW.out
        refine wp_region_rg (by kernel_rfl) (by kernel_rfl) [21, 22, 23, 24, 25, 26, 27, 28, 29, 30, 31, 32, 33, 34, 35, 36, 5] (RdRPhi w2.drew w.heap.size CX YX bb off n c s b2 o2 m c2 k t x y l hs) ?h0 ⟨?q0, ?q1, ?q2, ?q3, ?q4, ?q5, ?q6, ?q7, ?q8, ?q9, ?q10, ?q11, ?q12, ?q13, ?q14, ?q15, ?q16, ?q17, trivial⟩ ?hend
        case h0 => exact ⟨_, _, _, _, _, _, _, _, _, _, _, _, _, _, _, _, _, _, rfl, ⟨Below.refl _ _, (fun _ => Below.refl _ _), (fun h => by cases h), (fun h => by cases h), (fun h => by cases h), (fun h => by cases h), (fun h => by cases h), (fun h => by cases h), (fun h => by cases h), (fun h => by cases h), (fun h => by cases h), (fun h => by cases h), (fun h => by cases h), (fun h => by cases h), (fun h => by cases h), (fun h => by cases h), (fun h => by cases h), (fun h => by cases h), (fun _ => oY), (fun h => by cases h), (fun h => by cases h)⟩, rfl⟩
        case q0 =>
          rintro L vs w' K ⟨u21, u22, u23, u24, u25, u26, u27, u28, u29, u30, u31, u32, u33, u34, u35, u36, u5, wz, rfl, φ, rfl⟩ hL hpre hcl hK G hG
          simp [Region.binds, closedFrom] at hpre hcl
          have L16 : L 16 = false := by
            cases h : L 16 with
            | false => rfl
            | true => simp [h, hL] at hcl
          have hb := φ.b0 L16
          have ce0 := (hb.cell (p := ⟨CX, 0, none⟩) (World.block_lt_of_cell? _ _ x0)).trans x0
          have ce1 := (hb.cell (p := ⟨CX, 1, none⟩) (World.block_lt_of_cell? _ _ x1)).trans x1
          have ce2 := (hb.cell (p := ⟨CX, 2, none⟩) (World.block_lt_of_cell? _ _ x2)).trans x2
          have ce3 := (hb.cell (p := ⟨CX, 3, none⟩) (World.block_lt_of_cell? _ _ x3)).trans x3
          have hk := hK [(.agg #[.int .i64 x.sets, .int .i64 x.ways, .int .i64 x.clock, .slice (some ⟨bb, off, none⟩) n c]), u22, u23, u24, u25, u26, u27, u28, u29, u30, u31, u32, u33, u34, u35, u36, u5] wz ⟨_, _, _, _, _, _, _, _, _, _, _, _, _, _, _, _, _, wz, rfl,
            { b := φ.b,
              b0 := fun h0 => φ.b0 (by simpa using h0),
              s0 := fun _ => rfl,
              s1 := fun h0 => φ.s1 (by simpa using h0),
              s2 := fun h0 => φ.s2 (by simpa using h0),
              s3 := fun h0 => φ.s3 (by simpa using h0),
              s4 := fun h0 => φ.s4 (by simpa using h0),
              s5 := fun h0 => φ.s5 (by simpa using h0),
              s6 := fun h0 => φ.s6 (by simpa using h0),
              s7 := fun h0 => φ.s7 (by simpa using h0),
              s8 := fun h0 => φ.s8 (by simpa using h0),
              s9 := fun h0 => φ.s9 (by simpa using h0),
              s10 := fun h0 => φ.s10 (by simpa using h0),
              s11 := fun h0 => φ.s11 (by simpa using h0),
              s12 := fun h0 => φ.s12 (by simpa using h0),
              s13 := fun h0 => φ.s13 (by simpa using h0),
              e14 := fun h0 h1 => φ.e14 (by simpa using h0) (by simpa using h1),
              e15 := fun h0 h1 => φ.e15 (by simpa using h0) (by simpa using h1),
              o16 := fun h0 => φ.o16 (by simpa using h0),
              r16 := fun h0 => φ.r16 (by simpa using h0),
              s17 := fun h0 => φ.s17 (by simpa using h0) }, rfl⟩
          refine hG ?_
          clear hK φ hG
          revert hk
          go_simp
          first | done | exact fun h => h
        case q1 =>
          rintro L vs w' K ⟨u21, u22, u23, u24, u25, u26, u27, u28, u29, u30, u31, u32, u33, u34, u35, u36, u5, wz, rfl, φ, rfl⟩ hL hpre hcl hK G hG
          simp [Region.binds, closedFrom] at hpre hcl
          have L16 : L 16 = false := by
            cases h : L 16 with
            | false => rfl
            | true => simp [h, hL] at hcl
          have hb := φ.b0 L16
          have hk := hK [u21, (.int .i64 t), u23, u24, u25, u26, u27, u28, u29, u30, u31, u32, u33, u34, u35, u36, u5] wz ⟨_, _, _, _, _, _, _, _, _, _, _, _, _, _, _, _, _, wz, rfl,
            { b := φ.b,
              b0 := fun h0 => φ.b0 (by simpa using h0),
              s0 := fun h0 => φ.s0 (by simpa using h0),
              s1 := fun _ => rfl,
              s2 := fun h0 => φ.s2 (by simpa using h0),
              s3 := fun h0 => φ.s3 (by simpa using h0),
              s4 := fun h0 => φ.s4 (by simpa using h0),
              s5 := fun h0 => φ.s5 (by simpa using h0),
              s6 := fun h0 => φ.s6 (by simpa using h0),
              s7 := fun h0 => φ.s7 (by simpa using h0),
              s8 := fun h0 => φ.s8 (by simpa using h0),
              s9 := fun h0 => φ.s9 (by simpa using h0),
              s10 := fun h0 => φ.s10 (by simpa using h0),
              s11 := fun h0 => φ.s11 (by simpa using h0),
              s12 := fun h0 => φ.s12 (by simpa using h0),
              s13 := fun h0 => φ.s13 (by simpa using h0),
              e14 := fun h0 h1 => φ.e14 (by simpa using h0) (by simpa using h1),
              e15 := fun h0 h1 => φ.e15 (by simpa using h0) (by simpa using h1),
              o16 := fun h0 => φ.o16 (by simpa using h0),
              r16 := fun h0 => φ.r16 (by simpa using h0),
              s17 := fun h0 => φ.s17 (by simpa using h0) }, rfl⟩
          refine hG ?_
          clear hK φ hG
          revert hk
          go_simp
          first | done | exact fun h => h
        case q2 =>
          rintro L vs w' K ⟨u21, u22, u23, u24, u25, u26, u27, u28, u29, u30, u31, u32, u33, u34, u35, u36, u5, wz, rfl, φ, rfl⟩ hL hpre hcl hK G hG
          simp [Region.binds, closedFrom] at hpre hcl
          have L16 : L 16 = false := by
            cases h : L 16 with
            | false => rfl
            | true => simp [h, hL] at hcl
          have hb := φ.b0 L16
          have hk := hK [u21, u22, (.pointer (some ⟨CX, 0, none⟩)), u24, u25, u26, u27, u28, u29, u30, u31, u32, u33, u34, u35, u36, u5] wz ⟨_, _, _, _, _, _, _, _, _, _, _, _, _, _, _, _, _, wz, rfl,
            { b := φ.b,
              b0 := fun h0 => φ.b0 (by simpa using h0),
              s0 := fun h0 => φ.s0 (by simpa using h0),
              s1 := fun h0 => φ.s1 (by simpa using h0),
              s2 := fun _ => rfl,
              s3 := fun h0 => φ.s3 (by simpa using h0),
              s4 := fun h0 => φ.s4 (by simpa using h0),
              s5 := fun h0 => φ.s5 (by simpa using h0),
              s6 := fun h0 => φ.s6 (by simpa using h0),
              s7 := fun h0 => φ.s7 (by simpa using h0),
              s8 := fun h0 => φ.s8 (by simpa using h0),
              s9 := fun h0 => φ.s9 (by simpa using h0),
              s10 := fun h0 => φ.s10 (by simpa using h0),
              s11 := fun h0 => φ.s11 (by simpa using h0),
              s12 := fun h0 => φ.s12 (by simpa using h0),
              s13 := fun h0 => φ.s13 (by simpa using h0),
              e14 := fun h0 h1 => φ.e14 (by simpa using h0) (by simpa using h1),
              e15 := fun h0 h1 => φ.e15 (by simpa using h0) (by simpa using h1),
              o16 := fun h0 => φ.o16 (by simpa using h0),
              r16 := fun h0 => φ.r16 (by simpa using h0),
              s17 := fun h0 => φ.s17 (by simpa using h0) }, rfl⟩
          refine hG ?_
          clear hK φ hG
          revert hk
          go_simp
          first | done | exact fun h => h
        case q3 =>
          rintro L vs w' K ⟨u21, u22, u23, u24, u25, u26, u27, u28, u29, u30, u31, u32, u33, u34, u35, u36, u5, wz, rfl, φ, rfl⟩ hL hpre hcl hK G hG
          simp [Region.binds, closedFrom] at hpre hcl
          have e2 := φ.s2 (by simp [hpre])
          subst e2
          have L16 : L 16 = false := by
            cases h : L 16 with
            | false => rfl
            | true => simp [h, hL] at hcl
          have hb := φ.b0 L16
          have ce0 := (hb.cell (p := ⟨CX, 0, none⟩) (World.block_lt_of_cell? _ _ x0)).trans x0
          have hk := hK [u21, u22, (.pointer (some ⟨CX, 0, none⟩)), (.int .i64 x.sets), u25, u26, u27, u28, u29, u30, u31, u32, u33, u34, u35, u36, u5] wz ⟨_, _, _, _, _, _, _, _, _, _, _, _, _, _, _, _, _, wz, rfl,
            { b := φ.b,
              b0 := fun h0 => φ.b0 (by simpa using h0),
              s0 := fun h0 => φ.s0 (by simpa using h0),
              s1 := fun h0 => φ.s1 (by simpa using h0),
              s2 := fun h0 => φ.s2 (by simpa using h0),
              s3 := fun _ => rfl,
              s4 := fun h0 => φ.s4 (by simpa using h0),
              s5 := fun h0 => φ.s5 (by simpa using h0),
              s6 := fun h0 => φ.s6 (by simpa using h0),
              s7 := fun h0 => φ.s7 (by simpa using h0),
              s8 := fun h0 => φ.s8 (by simpa using h0),
              s9 := fun h0 => φ.s9 (by simpa using h0),
              s10 := fun h0 => φ.s10 (by simpa using h0),
              s11 := fun h0 => φ.s11 (by simpa using h0),
              s12 := fun h0 => φ.s12 (by simpa using h0),
              s13 := fun h0 => φ.s13 (by simpa using h0),
              e14 := fun h0 h1 => φ.e14 (by simpa using h0) (by simpa using h1),
              e15 := fun h0 h1 => φ.e15 (by simpa using h0) (by simpa using h1),
              o16 := fun h0 => φ.o16 (by simpa using h0),
              r16 := fun h0 => φ.r16 (by simpa using h0),
              s17 := fun h0 => φ.s17 (by simpa using h0) }, rfl⟩
          refine hG ?_
          clear hK φ hG
          revert hk
          go_simp
          first | done | exact fun h => h
        case q4 =>
          rintro L vs w' K ⟨u21, u22, u23, u24, u25, u26, u27, u28, u29, u30, u31, u32, u33, u34, u35, u36, u5, wz, rfl, φ, rfl⟩ hL hpre hcl hK G hG
          simp [Region.binds, closedFrom] at hpre hcl
          have e1 := φ.s1 (by simp [hpre])
          subst e1
          have e3 := φ.s3 (by simp [hpre])
          subst e3
          have L16 : L 16 = false := by
            cases h : L 16 with
            | false => rfl
            | true => simp [h, hL] at hcl
          have hb := φ.b0 L16
          have hk := hK [u21, (.int .i64 t), u23, (.int .i64 x.sets), (.int .i64 (s : Int)), u26, u27, u28, u29, u30, u31, u32, u33, u34, u35, u36, u5] wz ⟨_, _, _, _, _, _, _, _, _, _, _, _, _, _, _, _, _, wz, rfl,
            { b := φ.b,
              b0 := fun h0 => φ.b0 (by simpa using h0),
              s0 := fun h0 => φ.s0 (by simpa using h0),
              s1 := fun h0 => φ.s1 (by simpa using h0),
              s2 := fun h0 => φ.s2 (by simpa using h0),
              s3 := fun h0 => φ.s3 (by simpa using h0),
              s4 := fun _ => rfl,
              s5 := fun h0 => φ.s5 (by simpa using h0),
              s6 := fun h0 => φ.s6 (by simpa using h0),
              s7 := fun h0 => φ.s7 (by simpa using h0),
              s8 := fun h0 => φ.s8 (by simpa using h0),
              s9 := fun h0 => φ.s9 (by simpa using h0),
              s10 := fun h0 => φ.s10 (by simpa using h0),
              s11 := fun h0 => φ.s11 (by simpa using h0),
              s12 := fun h0 => φ.s12 (by simpa using h0),
              s13 := fun h0 => φ.s13 (by simpa using h0),
              e14 := fun h0 h1 => φ.e14 (by simpa using h0) (by simpa using h1),
              e15 := fun h0 h1 => φ.e15 (by simpa using h0) (by simpa using h1),
              o16 := fun h0 => φ.o16 (by simpa using h0),
              r16 := fun h0 => φ.r16 (by simpa using h0),
              s17 := fun h0 => φ.s17 (by simpa using h0) }, rfl⟩
          refine hG ?_
          clear hK φ hG
          revert hk
          go_simp
          first | done | exact fun h => h
        case q5 =>
          rintro L vs w' K ⟨u21, u22, u23, u24, u25, u26, u27, u28, u29, u30, u31, u32, u33, u34, u35, u36, u5, wz, rfl, φ, rfl⟩ hL hpre hcl hK G hG
          simp [Region.binds, closedFrom] at hpre hcl
          have L16 : L 16 = false := by
            cases h : L 16 with
            | false => rfl
            | true => simp [h, hL] at hcl
          have hb := φ.b0 L16
          have hk := hK [u21, u22, u23, u24, u25, (.pointer (some ⟨CX, 3, none⟩)), u27, u28, u29, u30, u31, u32, u33, u34, u35, u36, u5] wz ⟨_, _, _, _, _, _, _, _, _, _, _, _, _, _, _, _, _, wz, rfl,
            { b := φ.b,
              b0 := fun h0 => φ.b0 (by simpa using h0),
              s0 := fun h0 => φ.s0 (by simpa using h0),
              s1 := fun h0 => φ.s1 (by simpa using h0),
              s2 := fun h0 => φ.s2 (by simpa using h0),
              s3 := fun h0 => φ.s3 (by simpa using h0),
              s4 := fun h0 => φ.s4 (by simpa using h0),
              s5 := fun _ => rfl,
              s6 := fun h0 => φ.s6 (by simpa using h0),
              s7 := fun h0 => φ.s7 (by simpa using h0),
              s8 := fun h0 => φ.s8 (by simpa using h0),
              s9 := fun h0 => φ.s9 (by simpa using h0),
              s10 := fun h0 => φ.s10 (by simpa using h0),
              s11 := fun h0 => φ.s11 (by simpa using h0),
              s12 := fun h0 => φ.s12 (by simpa using h0),
              s13 := fun h0 => φ.s13 (by simpa using h0),
              e14 := fun h0 h1 => φ.e14 (by simpa using h0) (by simpa using h1),
              e15 := fun h0 h1 => φ.e15 (by simpa using h0) (by simpa using h1),
              o16 := fun h0 => φ.o16 (by simpa using h0),
              r16 := fun h0 => φ.r16 (by simpa using h0),
              s17 := fun h0 => φ.s17 (by simpa using h0) }, rfl⟩
          refine hG ?_
          clear hK φ hG
          revert hk
          go_simp
          first | done | exact fun h => h
        case q6 =>
          rintro L vs w' K ⟨u21, u22, u23, u24, u25, u26, u27, u28, u29, u30, u31, u32, u33, u34, u35, u36, u5, wz, rfl, φ, rfl⟩ hL hpre hcl hK G hG
          simp [Region.binds, closedFrom] at hpre hcl
          have e5 := φ.s5 (by simp [hpre])
          subst e5
          have L16 : L 16 = false := by
            cases h : L 16 with
            | false => rfl
            | true => simp [h, hL] at hcl
          have hb := φ.b0 L16
          have ce0 := (hb.cell (p := ⟨CX, 3, none⟩) (World.block_lt_of_cell? _ _ x3)).trans x3
          have hk := hK [u21, u22, u23, u24, u25, (.pointer (some ⟨CX, 3, none⟩)), (.slice (some ⟨bb, off, none⟩) n c), u28, u29, u30, u31, u32, u33, u34, u35, u36, u5] wz ⟨_, _, _, _, _, _, _, _, _, _, _, _, _, _, _, _, _, wz, rfl,
            { b := φ.b,
              b0 := fun h0 => φ.b0 (by simpa using h0),
              s0 := fun h0 => φ.s0 (by simpa using h0),
              s1 := fun h0 => φ.s1 (by simpa using h0),
              s2 := fun h0 => φ.s2 (by simpa using h0),
              s3 := fun h0 => φ.s3 (by simpa using h0),
              s4 := fun h0 => φ.s4 (by simpa using h0),
              s5 := fun h0 => φ.s5 (by simpa using h0),
              s6 := fun _ => rfl,
              s7 := fun h0 => φ.s7 (by simpa using h0),
              s8 := fun h0 => φ.s8 (by simpa using h0),
              s9 := fun h0 => φ.s9 (by simpa using h0),
              s10 := fun h0 => φ.s10 (by simpa using h0),
              s11 := fun h0 => φ.s11 (by simpa using h0),
              s12 := fun h0 => φ.s12 (by simpa using h0),
              s13 := fun h0 => φ.s13 (by simpa using h0),
              e14 := fun h0 h1 => φ.e14 (by simpa using h0) (by simpa using h1),
              e15 := fun h0 h1 => φ.e15 (by simpa using h0) (by simpa using h1),
              o16 := fun h0 => φ.o16 (by simpa using h0),
              r16 := fun h0 => φ.r16 (by simpa using h0),
              s17 := fun h0 => φ.s17 (by simpa using h0) }, rfl⟩
          refine hG ?_
          clear hK φ hG
          revert hk
          go_simp
          first | done | exact fun h => h
        case q7 =>
          rintro L vs w' K ⟨u21, u22, u23, u24, u25, u26, u27, u28, u29, u30, u31, u32, u33, u34, u35, u36, u5, wz, rfl, φ, rfl⟩ hL hpre hcl hK G hG
          simp [Region.binds, closedFrom] at hpre hcl
          have L16 : L 16 = false := by
            cases h : L 16 with
            | false => rfl
            | true => simp [h, hL] at hcl
          have hb := φ.b0 L16
          have hk := hK [u21, u22, u23, u24, u25, u26, u27, (.int .i64 t), u29, u30, u31, u32, u33, u34, u35, u36, u5] wz ⟨_, _, _, _, _, _, _, _, _, _, _, _, _, _, _, _, _, wz, rfl,
            { b := φ.b,
              b0 := fun h0 => φ.b0 (by simpa using h0),
              s0 := fun h0 => φ.s0 (by simpa using h0),
              s1 := fun h0 => φ.s1 (by simpa using h0),
              s2 := fun h0 => φ.s2 (by simpa using h0),
              s3 := fun h0 => φ.s3 (by simpa using h0),
              s4 := fun h0 => φ.s4 (by simpa using h0),
              s5 := fun h0 => φ.s5 (by simpa using h0),
              s6 := fun h0 => φ.s6 (by simpa using h0),
              s7 := fun _ => rfl,
              s8 := fun h0 => φ.s8 (by simpa using h0),
              s9 := fun h0 => φ.s9 (by simpa using h0),
              s10 := fun h0 => φ.s10 (by simpa using h0),
              s11 := fun h0 => φ.s11 (by simpa using h0),
              s12 := fun h0 => φ.s12 (by simpa using h0),
              s13 := fun h0 => φ.s13 (by simpa using h0),
              e14 := fun h0 h1 => φ.e14 (by simpa using h0) (by simpa using h1),
              e15 := fun h0 h1 => φ.e15 (by simpa using h0) (by simpa using h1),
              o16 := fun h0 => φ.o16 (by simpa using h0),
              r16 := fun h0 => φ.r16 (by simpa using h0),
              s17 := fun h0 => φ.s17 (by simpa using h0) }, rfl⟩
          refine hG ?_
          clear hK φ hG
          revert hk
          go_simp
          first | done | exact fun h => h
        case q8 =>
          rintro L vs w' K ⟨u21, u22, u23, u24, u25, u26, u27, u28, u29, u30, u31, u32, u33, u34, u35, u36, u5, wz, rfl, φ, rfl⟩ hL hpre hcl hK G hG
          simp [Region.binds, closedFrom] at hpre hcl
          have L16 : L 16 = false := by
            cases h : L 16 with
            | false => rfl
            | true => simp [h, hL] at hcl
          have hb := φ.b0 L16
          have hk := hK [u21, u22, u23, u24, u25, u26, u27, u28, (.pointer (some ⟨CX, 0, none⟩)), u30, u31, u32, u33, u34, u35, u36, u5] wz ⟨_, _, _, _, _, _, _, _, _, _, _, _, _, _, _, _, _, wz, rfl,
            { b := φ.b,
              b0 := fun h0 => φ.b0 (by simpa using h0),
              s0 := fun h0 => φ.s0 (by simpa using h0),
              s1 := fun h0 => φ.s1 (by simpa using h0),
              s2 := fun h0 => φ.s2 (by simpa using h0),
              s3 := fun h0 => φ.s3 (by simpa using h0),
              s4 := fun h0 => φ.s4 (by simpa using h0),
              s5 := fun h0 => φ.s5 (by simpa using h0),
              s6 := fun h0 => φ.s6 (by simpa using h0),
              s7 := fun h0 => φ.s7 (by simpa using h0),
              s8 := fun _ => rfl,
              s9 := fun h0 => φ.s9 (by simpa using h0),
              s10 := fun h0 => φ.s10 (by simpa using h0),
              s11 := fun h0 => φ.s11 (by simpa using h0),
              s12 := fun h0 => φ.s12 (by simpa using h0),
              s13 := fun h0 => φ.s13 (by simpa using h0),
              e14 := fun h0 h1 => φ.e14 (by simpa using h0) (by simpa using h1),
              e15 := fun h0 h1 => φ.e15 (by simpa using h0) (by simpa using h1),
              o16 := fun h0 => φ.o16 (by simpa using h0),
              r16 := fun h0 => φ.r16 (by simpa using h0),
              s17 := fun h0 => φ.s17 (by simpa using h0) }, rfl⟩
          refine hG ?_
          clear hK φ hG
          revert hk
          go_simp
          first | done | exact fun h => h
        case q9 =>
          rintro L vs w' K ⟨u21, u22, u23, u24, u25, u26, u27, u28, u29, u30, u31, u32, u33, u34, u35, u36, u5, wz, rfl, φ, rfl⟩ hL hpre hcl hK G hG
          simp [Region.binds, closedFrom] at hpre hcl
          have e8 := φ.s8 (by simp [hpre])
          subst e8
          have L16 : L 16 = false := by
            cases h : L 16 with
            | false => rfl
            | true => simp [h, hL] at hcl
          have hb := φ.b0 L16
          have ce0 := (hb.cell (p := ⟨CX, 0, none⟩) (World.block_lt_of_cell? _ _ x0)).trans x0
          have hk := hK [u21, u22, u23, u24, u25, u26, u27, u28, (.pointer (some ⟨CX, 0, none⟩)), (.int .i64 x.sets), u31, u32, u33, u34, u35, u36, u5] wz ⟨_, _, _, _, _, _, _, _, _, _, _, _, _, _, _, _, _, wz, rfl,
            { b := φ.b,
              b0 := fun h0 => φ.b0 (by simpa using h0),
              s0 := fun h0 => φ.s0 (by simpa using h0),
              s1 := fun h0 => φ.s1 (by simpa using h0),
              s2 := fun h0 => φ.s2 (by simpa using h0),
              s3 := fun h0 => φ.s3 (by simpa using h0),
              s4 := fun h0 => φ.s4 (by simpa using h0),
              s5 := fun h0 => φ.s5 (by simpa using h0),
              s6 := fun h0 => φ.s6 (by simpa using h0),
              s7 := fun h0 => φ.s7 (by simpa using h0),
              s8 := fun h0 => φ.s8 (by simpa using h0),
              s9 := fun _ => rfl,
              s10 := fun h0 => φ.s10 (by simpa using h0),
              s11 := fun h0 => φ.s11 (by simpa using h0),
              s12 := fun h0 => φ.s12 (by simpa using h0),
              s13 := fun h0 => φ.s13 (by simpa using h0),
              e14 := fun h0 h1 => φ.e14 (by simpa using h0) (by simpa using h1),
              e15 := fun h0 h1 => φ.e15 (by simpa using h0) (by simpa using h1),
              o16 := fun h0 => φ.o16 (by simpa using h0),
              r16 := fun h0 => φ.r16 (by simpa using h0),
              s17 := fun h0 => φ.s17 (by simpa using h0) }, rfl⟩
          refine hG ?_
          clear hK φ hG
          revert hk
          go_simp
          first | done | exact fun h => h
        case q10 =>
          rintro L vs w' K ⟨u21, u22, u23, u24, u25, u26, u27, u28, u29, u30, u31, u32, u33, u34, u35, u36, u5, wz, rfl, φ, rfl⟩ hL hpre hcl hK G hG
          simp [Region.binds, closedFrom] at hpre hcl
          have e7 := φ.s7 (by simp [hpre])
          subst e7
          have e9 := φ.s9 (by simp [hpre])
          subst e9
          have L16 : L 16 = false := by
            cases h : L 16 with
            | false => rfl
            | true => simp [h, hL] at hcl
          have hb := φ.b0 L16
          have hk := hK [u21, u22, u23, u24, u25, u26, u27, (.int .i64 t), u29, (.int .i64 x.sets), (.int .i64 (s : Int)), u32, u33, u34, u35, u36, u5] wz ⟨_, _, _, _, _, _, _, _, _, _, _, _, _, _, _, _, _, wz, rfl,
            { b := φ.b,
              b0 := fun h0 => φ.b0 (by simpa using h0),
              s0 := fun h0 => φ.s0 (by simpa using h0),
              s1 := fun h0 => φ.s1 (by simpa using h0),
              s2 := fun h0 => φ.s2 (by simpa using h0),
              s3 := fun h0 => φ.s3 (by simpa using h0),
              s4 := fun h0 => φ.s4 (by simpa using h0),
              s5 := fun h0 => φ.s5 (by simpa using h0),
              s6 := fun h0 => φ.s6 (by simpa using h0),
              s7 := fun h0 => φ.s7 (by simpa using h0),
              s8 := fun h0 => φ.s8 (by simpa using h0),
              s9 := fun h0 => φ.s9 (by simpa using h0),
              s10 := fun _ => rfl,
              s11 := fun h0 => φ.s11 (by simpa using h0),
              s12 := fun h0 => φ.s12 (by simpa using h0),
              s13 := fun h0 => φ.s13 (by simpa using h0),
              e14 := fun h0 h1 => φ.e14 (by simpa using h0) (by simpa using h1),
              e15 := fun h0 h1 => φ.e15 (by simpa using h0) (by simpa using h1),
              o16 := fun h0 => φ.o16 (by simpa using h0),
              r16 := fun h0 => φ.r16 (by simpa using h0),
              s17 := fun h0 => φ.s17 (by simpa using h0) }, rfl⟩
          refine hG ?_
          clear hK φ hG
          revert hk
          go_simp
          first | done | exact fun h => h
        case q11 =>
          rintro L vs w' K ⟨u21, u22, u23, u24, u25, u26, u27, u28, u29, u30, u31, u32, u33, u34, u35, u36, u5, wz, rfl, φ, rfl⟩ hL hpre hcl hK G hG
          simp [Region.binds, closedFrom] at hpre hcl
          have e6 := φ.s6 (by simp [hpre])
          subst e6
          have e10 := φ.s10 (by simp [hpre])
          subst e10
          have L16 : L 16 = false := by
            cases h : L 16 with
            | false => rfl
            | true => simp [h, hL] at hcl
          have hb := φ.b0 L16
          have hk := hK [u21, u22, u23, u24, u25, u26, (.slice (some ⟨bb, off, none⟩) n c), u28, u29, u30, (.int .i64 (s : Int)), (.pointer (some ⟨bb, off + s, none⟩)), u33, u34, u35, u36, u5] wz ⟨_, _, _, _, _, _, _, _, _, _, _, _, _, _, _, _, _, wz, rfl,
            { b := φ.b,
              b0 := fun h0 => φ.b0 (by simpa using h0),
              s0 := fun h0 => φ.s0 (by simpa using h0),
              s1 := fun h0 => φ.s1 (by simpa using h0),
              s2 := fun h0 => φ.s2 (by simpa using h0),
              s3 := fun h0 => φ.s3 (by simpa using h0),
              s4 := fun h0 => φ.s4 (by simpa using h0),
              s5 := fun h0 => φ.s5 (by simpa using h0),
              s6 := fun h0 => φ.s6 (by simpa using h0),
              s7 := fun h0 => φ.s7 (by simpa using h0),
              s8 := fun h0 => φ.s8 (by simpa using h0),
              s9 := fun h0 => φ.s9 (by simpa using h0),
              s10 := fun h0 => φ.s10 (by simpa using h0),
              s11 := fun _ => rfl,
              s12 := fun h0 => φ.s12 (by simpa using h0),
              s13 := fun h0 => φ.s13 (by simpa using h0),
              e14 := fun h0 h1 => φ.e14 (by simpa using h0) (by simpa using h1),
              e15 := fun h0 h1 => φ.e15 (by simpa using h0) (by simpa using h1),
              o16 := fun h0 => φ.o16 (by simpa using h0),
              r16 := fun h0 => φ.r16 (by simpa using h0),
              s17 := fun h0 => φ.s17 (by simpa using h0) }, rfl⟩
          refine hG ?_
          clear hK φ hG
          revert hk
          go_simp
          first | done | exact fun h => h
        case q12 =>
          rintro L vs w' K ⟨u21, u22, u23, u24, u25, u26, u27, u28, u29, u30, u31, u32, u33, u34, u35, u36, u5, wz, rfl, φ, rfl⟩ hL hpre hcl hK G hG
          simp [Region.binds, closedFrom] at hpre hcl
          have e11 := φ.s11 (by simp [hpre])
          subst e11
          have L16 : L 16 = false := by
            cases h : L 16 with
            | false => rfl
            | true => simp [h, hL] at hcl
          have hb := φ.b0 L16
          have ce0 := (hb.cell (p := ⟨bb, off + s, none⟩) (World.block_lt_of_cell? _ _ hcell)).trans hcell
          have hk := hK [u21, u22, u23, u24, u25, u26, u27, u28, u29, u30, u31, (.pointer (some ⟨bb, off + s, none⟩)), (.slice (some ⟨b2, o2, none⟩) m c2), u34, u35, u36, u5] wz ⟨_, _, _, _, _, _, _, _, _, _, _, _, _, _, _, _, _, wz, rfl,
            { b := φ.b,
              b0 := fun h0 => φ.b0 (by simpa using h0),
              s0 := fun h0 => φ.s0 (by simpa using h0),
              s1 := fun h0 => φ.s1 (by simpa using h0),
              s2 := fun h0 => φ.s2 (by simpa using h0),
              s3 := fun h0 => φ.s3 (by simpa using h0),
              s4 := fun h0 => φ.s4 (by simpa using h0),
              s5 := fun h0 => φ.s5 (by simpa using h0),
              s6 := fun h0 => φ.s6 (by simpa using h0),
              s7 := fun h0 => φ.s7 (by simpa using h0),
              s8 := fun h0 => φ.s8 (by simpa using h0),
              s9 := fun h0 => φ.s9 (by simpa using h0),
              s10 := fun h0 => φ.s10 (by simpa using h0),
              s11 := fun h0 => φ.s11 (by simpa using h0),
              s12 := fun _ => rfl,
              s13 := fun h0 => φ.s13 (by simpa using h0),
              e14 := fun h0 h1 => φ.e14 (by simpa using h0) (by simpa using h1),
              e15 := fun h0 h1 => φ.e15 (by simpa using h0) (by simpa using h1),
              o16 := fun h0 => φ.o16 (by simpa using h0),
              r16 := fun h0 => φ.r16 (by simpa using h0),
              s17 := fun h0 => φ.s17 (by simpa using h0) }, rfl⟩
          refine hG ?_
          clear hK φ hG
          revert hk
          go_simp
          first | done | exact fun h => h
        case q13 =>
          rintro L vs w' K ⟨u21, u22, u23, u24, u25, u26, u27, u28, u29, u30, u31, u32, u33, u34, u35, u36, u5, wz, rfl, φ, rfl⟩ hL hpre hcl hK G hG
          simp [Region.binds, closedFrom] at hpre hcl
          have L16 : L 16 = false := by
            cases h : L 16 with
            | false => rfl
            | true => simp [h, hL] at hcl
          have hb := φ.b0 L16
          have hk := hK [u21, u22, u23, u24, u25, u26, u27, u28, u29, u30, u31, u32, u33, (.int .i64 (k : Int)), u35, u36, u5] wz ⟨_, _, _, _, _, _, _, _, _, _, _, _, _, _, _, _, _, wz, rfl,
            { b := φ.b,
              b0 := fun h0 => φ.b0 (by simpa using h0),
              s0 := fun h0 => φ.s0 (by simpa using h0),
              s1 := fun h0 => φ.s1 (by simpa using h0),
              s2 := fun h0 => φ.s2 (by simpa using h0),
              s3 := fun h0 => φ.s3 (by simpa using h0),
              s4 := fun h0 => φ.s4 (by simpa using h0),
              s5 := fun h0 => φ.s5 (by simpa using h0),
              s6 := fun h0 => φ.s6 (by simpa using h0),
              s7 := fun h0 => φ.s7 (by simpa using h0),
              s8 := fun h0 => φ.s8 (by simpa using h0),
              s9 := fun h0 => φ.s9 (by simpa using h0),
              s10 := fun h0 => φ.s10 (by simpa using h0),
              s11 := fun h0 => φ.s11 (by simpa using h0),
              s12 := fun h0 => φ.s12 (by simpa using h0),
              s13 := fun _ => rfl,
              e14 := fun h0 h1 => φ.e14 (by simpa using h0) (by simpa using h1),
              e15 := fun h0 h1 => φ.e15 (by simpa using h0) (by simpa using h1),
              o16 := fun h0 => φ.o16 (by simpa using h0),
              r16 := fun h0 => φ.r16 (by simpa using h0),
              s17 := fun h0 => φ.s17 (by simpa using h0) }, rfl⟩
          refine hG ?_
          clear hK φ hG
          revert hk
          go_simp
          first | done | exact fun h => h
        case q14 =>
          rintro L vs w' K ⟨u21, u22, u23, u24, u25, u26, u27, u28, u29, u30, u31, u32, u33, u34, u35, u36, u5, wz, rfl, φ, rfl⟩ hL hpre hcl hK G hG
          simp [Region.binds, closedFrom] at hpre hcl
          have e12 := φ.s12 (by simp [hpre])
          subst e12
          have e13 := φ.s13 (by simp [hpre])
          subst e13
          have L16 : L 16 = false := by
            cases h : L 16 with
            | false => rfl
            | true => simp [h, hL] at hcl
          have L17 : L 17 = false := by
            cases h : L 17 with
            | false => rfl
            | true => simp [h, hL, L16] at hcl
          have hb := φ.b0 L16
          refine hG (step_call wz rfl 35 #[.tmp 33, .tmp 34] #[40, 3] rfl #[.slice (some ⟨b2, o2, none⟩) m c2, .int .i64 (k : Int)] (by simp [Act.eval, Act.puts, Act.put]) (enters_of Try.func35 (by kernel_rfl) rfl) (show Calls Try.prog 35 _ wz (fun e w' => ∃ v, e = .returned v ∧ RowIn w' (fun Y => Y < w2.drew.heap.size) (l.eraseIdx k) v ∧ Below wz.heap.size wz w') from (without_row _ m c2 k l wz (hsl.below hb) hm hmc hkm hm1).mono fun e w' ⟨v, e1, hv, h⟩ => ⟨v, e1, hv.weak (fun Y hY => Nat.lt_of_lt_of_le hY hb.size), h⟩) ?_)
          rintro e w9 ⟨v9, rfl, hv9, hb9⟩
          refine ⟨_, rfl, ?_⟩
          have hk := hK [u21, u22, u23, u24, u25, u26, u27, u28, u29, u30, u31, u32, (.slice (some ⟨b2, o2, none⟩) m c2), (.int .i64 (k : Int)), (v9), u36, u5] w9 ⟨_, _, _, _, _, _, _, _, _, _, _, _, _, _, _, _, _, w9, rfl,
            { b := φ.b.trans (hb9.mono (Nat.le_trans hbase hb.size)),
              b0 := fun _ => hb.trans (hb9.mono hb.size),
              s0 := fun h0 => φ.s0 (by simpa using h0),
              s1 := fun h0 => φ.s1 (by simpa using h0),
              s2 := fun h0 => φ.s2 (by simpa using h0),
              s3 := fun h0 => φ.s3 (by simpa using h0),
              s4 := fun h0 => φ.s4 (by simpa using h0),
              s5 := fun h0 => φ.s5 (by simpa using h0),
              s6 := fun h0 => φ.s6 (by simpa using h0),
              s7 := fun h0 => φ.s7 (by simpa using h0),
              s8 := fun h0 => φ.s8 (by simpa using h0),
              s9 := fun h0 => φ.s9 (by simpa using h0),
              s10 := fun h0 => φ.s10 (by simpa using h0),
              s11 := fun h0 => φ.s11 (by simpa using h0),
              s12 := fun h0 => φ.s12 (by simpa using h0),
              s13 := fun h0 => φ.s13 (by simpa using h0),
              e14 := fun _ _ => hv9,
              e15 := fun h h2 => (φ.e15 (by simpa using h) (by simpa using h2)).below hb9,
              o16 := fun _ => (φ.o16 L16).below hb9,
              r16 := fun h => by simp [L16] at h,
              s17 := fun h => by simp [L17] at h }, rfl⟩
          clear hK φ hG
          revert hk
          go_simp
          first | done | exact fun h => h
        case q15 =>
          rintro L vs w' K ⟨u21, u22, u23, u24, u25, u26, u27, u28, u29, u30, u31, u32, u33, u34, u35, u36, u5, wz, rfl, φ, rfl⟩ hL hpre hcl hK G hG
          simp [Region.binds, closedFrom] at hpre hcl
          have e0 := φ.s0 (by simp [hpre])
          subst e0
          have e4 := φ.s4 (by simp [hpre])
          subst e4
          have L16 : L 16 = false := by
            cases h : L 16 with
            | false => rfl
            | true => simp [h, hL] at hcl
          have L17 : L 17 = false := by
            cases h : L 17 with
            | false => rfl
            | true => simp [h, hL, L16] at hcl
          have hb := φ.b0 L16
          obtain ⟨B14, m14, d14, rfl, r141, r142, r143, r144, r145⟩ := φ.e14 (by simp [hpre]) L16
          refine hG (step_call wz rfl 36 #[.tmp 21, .tmp 25, .tmp 35] #[26, 3, 40] rfl #[.agg #[.int .i64 x.sets, .int .i64 x.ways, .int .i64 x.clock, .slice (some ⟨bb, off, none⟩) n c], .int .i64 (s : Int), .slice B14 m14 d14] (by simp [Act.eval, Act.puts, Act.put]) (enters_of Try.func36 (by kernel_rfl) rfl) (show Calls Try.prog 36 _ wz (fun e w' => ∃ v, e = .returned v ∧ CRes w' (fun Y => Y < w2.drew.heap.size ∧ CFar Y (some ⟨bb, off, none⟩) x.lines hs) y v ∧ Below wz.heap.size wz w') from (with_any _ c n s x hs B14 m14 d14 (l.eraseIdx k) wz (HC2.below hb) HN.out hn1 (by rw [← HN.out]; exact HSN.out) r141 r142 r143 r144).mono fun e w' ⟨v, e1, hv, h⟩ => ⟨v, e1, by rw [← HYY.out] at hv; exact hv.weak (fun Y hY => ⟨Nat.lt_of_lt_of_le hY.1 hb.size, hY.2, r145 Y hY.1⟩), h⟩) ?_)
          rintro e w9 ⟨v9, rfl, hv9, hb9⟩
          refine ⟨_, rfl, ?_⟩
          have hk := hK [(.agg #[.int .i64 x.sets, .int .i64 x.ways, .int .i64 x.clock, .slice (some ⟨bb, off, none⟩) n c]), u22, u23, u24, (.int .i64 (s : Int)), u26, u27, u28, u29, u30, u31, u32, u33, u34, (.slice B14 m14 d14), (v9), u5] w9 ⟨_, _, _, _, _, _, _, _, _, _, _, _, _, _, _, _, _, w9, rfl,
            { b := φ.b.trans (hb9.mono (Nat.le_trans hbase hb.size)),
              b0 := fun _ => hb.trans (hb9.mono hb.size),
              s0 := fun h0 => φ.s0 (by simpa using h0),
              s1 := fun h0 => φ.s1 (by simpa using h0),
              s2 := fun h0 => φ.s2 (by simpa using h0),
              s3 := fun h0 => φ.s3 (by simpa using h0),
              s4 := fun h0 => φ.s4 (by simpa using h0),
              s5 := fun h0 => φ.s5 (by simpa using h0),
              s6 := fun h0 => φ.s6 (by simpa using h0),
              s7 := fun h0 => φ.s7 (by simpa using h0),
              s8 := fun h0 => φ.s8 (by simpa using h0),
              s9 := fun h0 => φ.s9 (by simpa using h0),
              s10 := fun h0 => φ.s10 (by simpa using h0),
              s11 := fun h0 => φ.s11 (by simpa using h0),
              s12 := fun h0 => φ.s12 (by simpa using h0),
              s13 := fun h0 => φ.s13 (by simpa using h0),
              e14 := fun _ _ => RowIn.below ⟨B14, m14, d14, rfl, r141, r142, r143, r144, r145⟩ hb9,
              e15 := fun _ _ => hv9,
              o16 := fun _ => (φ.o16 L16).below hb9,
              r16 := fun h => by simp [L16] at h,
              s17 := fun h => by simp [L17] at h }, rfl⟩
          clear hK φ hG
          revert hk
          go_simp
          first | done | exact fun h => h
        case q16 =>
          rintro L vs w' K ⟨u21, u22, u23, u24, u25, u26, u27, u28, u29, u30, u31, u32, u33, u34, u35, u36, u5, wz, rfl, φ, rfl⟩ hL hpre hcl hK G hG
          simp [Region.binds, closedFrom] at hpre hcl
          have L17 : L 17 = false := by
            cases h : L 17 with
            | false => rfl
            | true => simp [h, hL] at hcl
          obtain ⟨B, d, hs9, ev, hci, hfar⟩ := φ.e15 (by simp [hpre]) hL
          subst ev
          have BX := φ.o16 hL
          have z0 := BX.cell 0 _ rfl
          have q0 := BX.froz 0
          have z1 := BX.cell 1 _ rfl
          have q1 := BX.froz 1
          have z2 := BX.cell 2 _ rfl
          have q2 := BX.froz 2
          have z3 := BX.cell 3 _ rfl
          have q3 := BX.froz 3
          have hk := hK [u21, u22, u23, u24, u25, u26, u27, u28, u29, u30, u31, u32, u33, u34, u35, (.agg #[.int .i64 y.sets, .int .i64 y.ways, .int .i64 y.clock, .slice B y.lines.length d]), u5] ((((wz.setCell ⟨YX, 0, none⟩ (.int .i64 y.sets)).setCell ⟨YX, 1, none⟩ (.int .i64 y.ways)).setCell ⟨YX, 2, none⟩ (.int .i64 y.clock)).setCell ⟨YX, 3, none⟩ (.slice B y.lines.length d)) ⟨_, _, _, _, _, _, _, _, _, _, _, _, _, _, _, _, _, ((((wz.setCell ⟨YX, 0, none⟩ (.int .i64 y.sets)).setCell ⟨YX, 1, none⟩ (.int .i64 y.ways)).setCell ⟨YX, 2, none⟩ (.int .i64 y.clock)).setCell ⟨YX, 3, none⟩ (.slice B y.lines.length d)), rfl,
            { b := ((((φ.b.setCell (p := ⟨YX, 0, none⟩) hb_YX _).setCell (p := ⟨YX, 1, none⟩) hb_YX _).setCell (p := ⟨YX, 2, none⟩) hb_YX _).setCell (p := ⟨YX, 3, none⟩) hb_YX _),
              b0 := fun h => by simp at h,
              s0 := fun h0 => φ.s0 (by simpa using h0),
              s1 := fun h0 => φ.s1 (by simpa using h0),
              s2 := fun h0 => φ.s2 (by simpa using h0),
              s3 := fun h0 => φ.s3 (by simpa using h0),
              s4 := fun h0 => φ.s4 (by simpa using h0),
              s5 := fun h0 => φ.s5 (by simpa using h0),
              s6 := fun h0 => φ.s6 (by simpa using h0),
              s7 := fun h0 => φ.s7 (by simpa using h0),
              s8 := fun h0 => φ.s8 (by simpa using h0),
              s9 := fun h0 => φ.s9 (by simpa using h0),
              s10 := fun h0 => φ.s10 (by simpa using h0),
              s11 := fun h0 => φ.s11 (by simpa using h0),
              s12 := fun h0 => φ.s12 (by simpa using h0),
              s13 := fun h0 => φ.s13 (by simpa using h0),
              e14 := fun _ h => by simp at h,
              e15 := fun _ h => by simp at h,
              o16 := fun h => by simp at h,
              r16 := fun _ => ⟨B, d, hs9, BX.set4 _ _ _ _, (((hci.setFar (hfar _ P_YX) 0 _).setFar (hfar _ P_YX) 1 _).setFar (hfar _ P_YX) 2 _).setFar (hfar _ P_YX) 3 _, hfar⟩,
              s17 := fun h => by simp [L17] at h }, rfl⟩
          refine hG ?_
          clear hK φ hG
          revert hk
          go_simp
          first | done | exact fun h => h
        case q17 =>
          rintro L vs w' K ⟨u21, u22, u23, u24, u25, u26, u27, u28, u29, u30, u31, u32, u33, u34, u35, u36, u5, wz, rfl, φ, rfl⟩ hL hpre hcl hK G hG
          simp [Region.binds, closedFrom] at hpre hcl
          have hk := hK [u21, u22, u23, u24, u25, u26, u27, u28, u29, u30, u31, u32, u33, u34, u35, u36, (.int .i64 0)] wz ⟨_, _, _, _, _, _, _, _, _, _, _, _, _, _, _, _, _, wz, rfl,
            { b := φ.b,
              b0 := fun h0 => φ.b0 (by simpa using h0),
              s0 := fun h0 => φ.s0 (by simpa using h0),
              s1 := fun h0 => φ.s1 (by simpa using h0),
              s2 := fun h0 => φ.s2 (by simpa using h0),
              s3 := fun h0 => φ.s3 (by simpa using h0),
              s4 := fun h0 => φ.s4 (by simpa using h0),
              s5 := fun h0 => φ.s5 (by simpa using h0),
              s6 := fun h0 => φ.s6 (by simpa using h0),
              s7 := fun h0 => φ.s7 (by simpa using h0),
              s8 := fun h0 => φ.s8 (by simpa using h0),
              s9 := fun h0 => φ.s9 (by simpa using h0),
              s10 := fun h0 => φ.s10 (by simpa using h0),
              s11 := fun h0 => φ.s11 (by simpa using h0),
              s12 := fun h0 => φ.s12 (by simpa using h0),
              s13 := fun h0 => φ.s13 (by simpa using h0),
              e14 := fun h0 h1 => φ.e14 (by simpa using h0) (by simpa using h1),
              e15 := fun h0 h1 => φ.e15 (by simpa using h0) (by simpa using h1),
              o16 := fun h0 => φ.o16 (by simpa using h0),
              r16 := fun h0 => φ.r16 (by simpa using h0),
              s17 := fun _ => rfl }, rfl⟩
          refine hG ?_
          clear hK φ hG
          revert hk
          go_simp
          first | done | exact fun h => h
        case hend =>
          rintro vs w' ⟨u21, u22, u23, u24, u25, u26, u27, u28, u29, u30, u31, u32, u33, u34, u35, u36, u5, wz, rfl, φ, rfl⟩ G hG
          have bz := φ.b
          have r16 := φ.r16 rfl
          obtain rfl := φ.s17 rfl
          clear φ
          refine hG ?_
          clear hG
          have bF : Below w.heap.size w wz := b1.drew.trans bz
          obtain ⟨B9, d9, hs9, bx9, ci9, far9⟩ := r16
          have y0 := bx9.cell 0 _ rfl
          have y1 := bx9.cell 1 _ rfl
          have y2 := bx9.cell 2 _ rfl
          have y3 := bx9.cell 3 _ rfl
          have hw2 : w.heap.size ≤ w2.drew.heap.size := b1.size
          clear bz bx9
          go_simp
          go_wp2_with fail
          exact bodyPost_ret (v := .tuple #[.agg #[.int .i64 y.sets, .int .i64 y.ways, .int .i64 y.clock, .slice B9 y.lines.length d9], .int .i64 0]) (by simp [results, Try.results19, go_sem, y0, y1, y2, y3]) rfl ⟨_, rfl, ⟨B9, d9, hs9, rfl, ci9, fun Y hY => far9 Y ⟨Nat.lt_of_lt_of_le hY.1 hw2, hY.2⟩⟩, bF⟩
    · have hL : dropC x t = (x, 1) := by unfold dropC; rw [if_neg (fun h => ht h.2)]
      rw [hL]
      rw [hr] at cR
      have z1' : decide (t < 0) = true := decide_eq_true (by omega)
      clear hr hL hn
      have x0 := X.cell 0 _ rfl
      have x1 := X.cell 1 _ rfl
      have x2 := X.cell 2 _ rfl
      have x3 := X.cell 3 _ rfl
      have y0 := Y.cell 0 _ rfl
      have f0 := Y.froz 0
      have y1 := Y.cell 1 _ rfl
      have f1 := Y.froz 1
      have y2 := Y.cell 2 _ rfl
      have f2 := Y.froz 2
      have y3 := Y.cell 3 _ rfl
      have f3 := Y.froz 3
      go_enter Try.func19, Try.ntmps19
      go_wp2_with fail
      generalize ((w.alloc (.cells #[.int .i64 x.sets, .int .i64 x.ways, .int .i64 x.clock, .slice A n c] 26)).alloc (.cells #[.int .i64 0, .int .i64 0, .int .i64 0, .slice none 0 0] 26)) = W0 at *
      refine (cR _ HC.out).mono ?_
      rintro e w1 ⟨rfl, hb1⟩
      replace X := X.below hb1
      replace Y := Y.below hb1
      have b1 := b0.trans (hb1.mono b0.size)
      have HC1 := HC.out.below hb1
      clear x0 x1 x2 x3 y0 y1 y2 y3 f0 f1 f2 f3 cR hb1
      generalize hCX : w.heap.size = CX at X Y HFAR ⊢
      generalize hYX : CX + 1 = YX at X Y HFAR ⊢
      have x0 := X.cell 0 _ rfl
      have x1 := X.cell 1 _ rfl
      have x2 := X.cell 2 _ rfl
      have x3 := X.cell 3 _ rfl
      have y0 := Y.cell 0 _ rfl
      have f0 := Y.froz 0
      have y1 := Y.cell 1 _ rfl
      have f1 := Y.froz 1
      have y2 := Y.cell 2 _ rfl
      have f2 := Y.froz 2
      have y3 := Y.cell 3 _ rfl
      have f3 := Y.froz 3
      go_wp2_with fail
      have bF := ((((b1.setCell (p := ⟨YX, 0, none⟩) (by show w.heap.size ≤ YX; omega) (.int .i64 x.sets)).setCell (p := ⟨YX, 1, none⟩) (by show w.heap.size ≤ YX; omega) (.int .i64 x.ways)).setCell (p := ⟨YX, 2, none⟩) (by show w.heap.size ≤ YX; omega) (.int .i64 x.clock)).setCell (p := ⟨YX, 3, none⟩) (by show w.heap.size ≤ YX; omega) (.slice A n c))
      have cF := (((HC1.setFar HFAR 0 (.int .i64 x.sets)).setFar HFAR 1 (.int .i64 x.ways)).setFar HFAR 2 (.int .i64 x.clock)).setFar HFAR 3 (.slice A n c)
      try go_wp2_with fail
      exact bodyPost_ret (v := .tuple #[.agg #[.int .i64 x.sets, .int .i64 x.ways, .int .i64 x.clock, .slice A n c], .int .i64 1]) (by simp [results, Try.results19, go_sem, y0, y1, y2, y3, x0, x1, x2, x3]) rfl ⟨_, rfl, ⟨A, c, hs, by rw [HN.out], cF, fun Y hY => hY.2⟩, bF⟩
end Go.Proofs.Ytdndanjabknjpaa
