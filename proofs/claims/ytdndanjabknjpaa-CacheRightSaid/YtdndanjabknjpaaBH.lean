/- The walk of the reference's Use. -/
import Derived.Test.YtdndanjabknjpaaBG
namespace Go.Proofs.Ytdndanjabknjpaa
open Go.RowKit Go.Lib

set_option linter.unusedVariables false
attribute [local go_sem] Act.puts
structure RuC (w0 : World) (CX bb off n c s m c2 : Nat) (B2 : Option Addr) (t : Int) (x : Ca) (l : List Ln) (L : Nat → Bool) (u27 u28 u29 u30 u31 u32 u33 u34 u35 u36 u7 : Value) (wz : World) : Prop where
  b : Below w0.heap.size w0 wz
  s0 : L 0 = true → L 9 = false → wz.ownsRow w0.heap.size 32 4 u27 0 []
  s1 : L 1 = true → u28 = .pointer (some ⟨CX, 3, none⟩)
  s2 : L 2 = true → u29 = .slice (some ⟨bb, off, none⟩) n c
  s3 : L 3 = true → u30 = .int .i64 t
  s4 : L 4 = true → u31 = .pointer (some ⟨CX, 0, none⟩)
  s5 : L 5 = true → u32 = .int .i64 x.sets
  s6 : L 6 = true → u33 = .int .i64 (s : Int)
  s7 : L 7 = true → u34 = .pointer (some ⟨bb, off + s, none⟩)
  s8 : L 8 = true → u35 = .slice B2 m c2
  s9 : L 9 = true → wz.ownsRow w0.heap.size 32 4 u36 m (l.flatMap Ln.enc)
  s10 : L 10 = true → u7 = u36
def RuCPhi (w0 : World) (CX bb off n c s m c2 : Nat) (B2 : Option Addr) (t : Int) (x : Ca) (l : List Ln) (L : Nat → Bool) (vs : List Value) (w' : World) : Prop :=
  ∃ u27 u28 u29 u30 u31 u32 u33 u34 u35 u36 u7 wz, vs = [u27, u28, u29, u30, u31, u32, u33, u34, u35, u36, u7] ∧ RuC w0 CX bb off n c s m c2 B2 t x l L u27 u28 u29 u30 u31 u32 u33 u34 u35 u36 u7 wz ∧ wz = w'
structure RuR (w0 : World) (base CX YX bb off n c s g m c3 pb : Nat) (t ck : Int) (x y : Ca) (hs : List Hd) (L : Nat → Bool) (u47 u48 u49 u50 u51 u52 u53 u5 : Value) (wz : World) : Prop where
  b : Below base w0 wz
  b0 : L 7 = false → Below w0.heap.size w0 wz
  s0 : L 0 = true → u47 = .agg #[.int .i64 x.sets, .int .i64 x.ways, .int .i64 ck, .slice (some ⟨bb, off, none⟩) n c]
  s1 : L 1 = true → u48 = .int .i64 t
  s2 : L 2 = true → u49 = .pointer (some ⟨CX, 0, none⟩)
  s3 : L 3 = true → u50 = .int .i64 x.sets
  s4 : L 4 = true → u51 = .int .i64 (s : Int)
  s5 : L 5 = true → u52 = .slice (some ⟨g, 0, none⟩) m c3
  e6 : L 6 = true → L 7 = false → CRes wz (fun Y => Y < pb ∧ CFar Y (some ⟨bb, off, none⟩) x.lines hs) y u53
  o7 : L 7 = false → Bx wz YX [.int .i64 0, .int .i64 0, .int .i64 0, .slice none 0 0]
  r7 : L 7 = true → CVar wz (fun Y => Y < pb ∧ CFar Y (some ⟨bb, off, none⟩) x.lines hs) y YX
  s8 : L 8 = true → u5 = .int .i64 0
def RuRPhi (w0 : World) (base CX YX bb off n c s g m c3 pb : Nat) (t ck : Int) (x y : Ca) (hs : List Hd) (L : Nat → Bool) (vs : List Value) (w' : World) : Prop :=
  ∃ u47 u48 u49 u50 u51 u52 u53 u5 wz, vs = [u47, u48, u49, u50, u51, u52, u53, u5] ∧ RuR w0 base CX YX bb off n c s g m c3 pb t ck x y hs L u47 u48 u49 u50 u51 u52 u53 u5 wz ∧ wz = w'

set_option maxHeartbeats 16000000 in
set_option maxRecDepth 100000 in
theorem rUse_any (A : Option Addr) (c n : Nat) (x : Ca) (hs : List Hd) (t : Int) (w : World) (hc : CIn w A x.lines hs) (hn : x.lines.length = n) (hn1 : n ≤ 1000000) (hb : ∀ s, s < n → x.lines[s]!.length ≤ 1000000) :
    Calls Try.prog 16 #[.agg #[.int .i64 x.sets, .int .i64 x.ways, .int .i64 x.clock, .slice A n c], .int .i64 t] w (GivesX w A x.lines hs (useC x t)) := by
  have b0 : Below w.heap.size w ((w.alloc (.cells #[.int .i64 x.sets, .int .i64 x.ways, .int .i64 x.clock, .slice A n c] 26)).alloc (.cells #[.int .i64 0, .int .i64 0, .int .i64 0, .slice none 0 0] 26)) := ((Below.refl _ _).alloc (Nat.le_refl _) _).alloc (by simp) _
  have X := (Bx.new w [.int .i64 x.sets, .int .i64 x.ways, .int .i64 x.clock, .slice A n c] 26).alloc (.cells #[.int .i64 0, .int .i64 0, .int .i64 0, .slice none 0 0] 26)
  have Y := Bx.new (w.alloc (.cells #[.int .i64 x.sets, .int .i64 x.ways, .int .i64 x.clock, .slice A n c] 26)) [.int .i64 0, .int .i64 0, .int .i64 0, .slice none 0 0] 26
  rw [show (w.alloc (.cells #[.int .i64 x.sets, .int .i64 x.ways, .int .i64 x.clock, .slice A n c] 26)).heap.size = w.heap.size + 1 by simp] at Y
  have HC := Lib.hid (hc.below b0)
  have HFAR : CFar (w.heap.size + 1) A x.lines hs := hc.far (Nat.le_succ _)
  have HN := Lib.hid hn
  have HB := Lib.hid hb
  have cR := fun w1 (h : CIn w1 A x.lines hs) => rRight_any A c n x hs w1 h hn
  have HC0 := Lib.hid hc
  clear hb hc
  have bad : mayC x t = false → useC x t = (x, 1) := fun h => by unfold useC; rw [if_neg (by rw [h]; decide)]
  cases hr : rightC x with
  | false =>
    have hL := bad (by unfold mayC; rw [hr]; rfl)
    rw [hL]
    rw [hr] at cR
    clear hr hL hn bad
    have x0 := X.cell 0 _ rfl
    have x1 := X.cell 1 _ rfl
    have x2 := X.cell 2 _ rfl
    have x3 := X.cell 3 _ rfl
    have y0 := Y.cell 0 _ rfl
    have f0 := Y.froz 0
    have y1 := Y.cell 1 _ rfl
    have f1 := Y.froz 1
    have y2 := Y.cell 2 _ rfl
    have f2 := Y.froz 2
    have y3 := Y.cell 3 _ rfl
    have f3 := Y.froz 3
    go_enter Try.func16, Try.ntmps16
    go_wp2_with fail
    generalize ((w.alloc (.cells #[.int .i64 x.sets, .int .i64 x.ways, .int .i64 x.clock, .slice A n c] 26)).alloc (.cells #[.int .i64 0, .int .i64 0, .int .i64 0, .slice none 0 0] 26)) = W0 at *
    refine (cR _ HC.out).mono ?_
    rintro e w1 ⟨rfl, hb1⟩
    replace X := X.below hb1
    replace Y := Y.below hb1
    have b1 := b0.trans (hb1.mono b0.size)
    have HC1 := HC.out.below hb1
    clear x0 x1 x2 x3 y0 y1 y2 y3 f0 f1 f2 f3 cR hb1
    generalize hCX : w.heap.size = CX at X Y HFAR ⊢
    generalize hYX : CX + 1 = YX at X Y HFAR ⊢
    have x0 := X.cell 0 _ rfl
    have x1 := X.cell 1 _ rfl
    have x2 := X.cell 2 _ rfl
    have x3 := X.cell 3 _ rfl
    have y0 := Y.cell 0 _ rfl
    have f0 := Y.froz 0
    have y1 := Y.cell 1 _ rfl
    have f1 := Y.froz 1
    have y2 := Y.cell 2 _ rfl
    have f2 := Y.froz 2
    have y3 := Y.cell 3 _ rfl
    have f3 := Y.froz 3
    go_wp2_with fail
    have bF := ((((b1.setCell (p := ⟨YX, 0, none⟩) (by show w.heap.size ≤ YX; omega) (.int .i64 x.sets)).setCell (p := ⟨YX, 1, none⟩) (by show w.heap.size ≤ YX; omega) (.int .i64 x.ways)).setCell (p := ⟨YX, 2, none⟩) (by show w.heap.size ≤ YX; omega) (.int .i64 x.clock)).setCell (p := ⟨YX, 3, none⟩) (by show w.heap.size ≤ YX; omega) (.slice A n c))
    have cF := (((HC1.setFar HFAR 0 (.int .i64 x.sets)).setFar HFAR 1 (.int .i64 x.ways)).setFar HFAR 2 (.int .i64 x.clock)).setFar HFAR 3 (.slice A n c)
    try go_wp2_with fail
    exact bodyPost_ret (v := .tuple #[.agg #[.int .i64 x.sets, .int .i64 x.ways, .int .i64 x.clock, .slice A n c], .int .i64 1]) (by simp [results, Try.results16, go_sem, y0, y1, y2, y3, x0, x1, x2, x3]) rfl ⟨_, rfl, ⟨A, c, hs, by rw [HN.out], cF, fun Y hY => hY.2⟩, bF⟩
  | true =>
    by_cases ht : 0 ≤ t
    · by_cases hk0 : x.clock < 1099511627776
      · have hmay : mayC x t = true := by unfold mayC; rw [hr]; simp; omega
        have z2' : decide (1099511627776 ≤ x.clock) = false := decide_eq_false (by omega)
        have hL0 : ∀ s : Nat, t.tmod x.sets = (s : Int) → useC x t = (if idxA x.lines[s]! t < 0 then (x, 7) else (usedC x s (idxA x.lines[s]! t).toNat, 0)) := fun s hst => by
          unfold useC setOf
          rw [if_pos hmay, hst, Int.toNat_natCast]
        have hclk0 : 0 ≤ x.clock := by have := right_facts hr; omega
        clear bad hmay
        obtain ⟨s, hst, hsn, h0⟩ := set_of hr ht
        have hn8 : x.lines.length ≤ 8 := by have := right_facts hr; omega
        have cP := fun w1 (h : CIn w1 A x.lines hs) => at_any A c n s x hs t w1 h hn (by rw [← hn]; exact hsn) hst h0 (by omega)
        have HSN := Lib.hid hsn
        have hsz : (s : Int) < (n : Int) := by omega
        have z1' : decide (t < 0) = false := decide_eq_false (by omega)
        have h0n : ¬ x.sets = 0 := h0
        have h0b : (x.sets == 0) = false := by rw [beq_eq_false_iff_ne]; exact h0
        have HSW := Lib.hid (show IntKind.i64.wrap (s : Int) = (s : Int) from IntWalk.i64_in _ (by omega))
        rw [hr] at cR
        have HST := Lib.hid hst
        have HST2 := Lib.hid (show t % x.sets = (s : Int) by rw [← Int.tmod_eq_emod_of_nonneg ht]; exact hst)
        have hL := hL0 s hst
        clear hL0 hst h0
        rcases idxA_cases x.lines[s]! t with ⟨hi, hno⟩ | ⟨k, hk, hi, hka, hno⟩
        · rw [hi] at hL
          rw [hi] at cP
          rw [if_pos (by omega)] at hL
          rw [hL]
          clear hL hi hno hr hsn hn
          have x0 := X.cell 0 _ rfl
          have x1 := X.cell 1 _ rfl
          have x2 := X.cell 2 _ rfl
          have x3 := X.cell 3 _ rfl
          have y0 := Y.cell 0 _ rfl
          have f0 := Y.froz 0
          have y1 := Y.cell 1 _ rfl
          have f1 := Y.froz 1
          have y2 := Y.cell 2 _ rfl
          have f2 := Y.froz 2
          have y3 := Y.cell 3 _ rfl
          have f3 := Y.froz 3
          go_enter Try.func16, Try.ntmps16
          go_wp2_with fail
          generalize ((w.alloc (.cells #[.int .i64 x.sets, .int .i64 x.ways, .int .i64 x.clock, .slice A n c] 26)).alloc (.cells #[.int .i64 0, .int .i64 0, .int .i64 0, .slice none 0 0] 26)) = W0 at *
          refine (cR _ HC.out).mono ?_
          rintro e w1 ⟨rfl, hb1⟩
          replace X := X.below hb1
          replace Y := Y.below hb1
          have b1 := b0.trans (hb1.mono b0.size)
          have HC1 := HC.out.below hb1
          clear x0 x1 x2 x3 y0 y1 y2 y3 f0 f1 f2 f3 cR hb1
          generalize hCX : w.heap.size = CX at X Y HFAR ⊢
          generalize hYX : CX + 1 = YX at X Y HFAR ⊢
          have x0 := X.cell 0 _ rfl
          have x1 := X.cell 1 _ rfl
          have x2 := X.cell 2 _ rfl
          have x3 := X.cell 3 _ rfl
          have y0 := Y.cell 0 _ rfl
          have f0 := Y.froz 0
          have y1 := Y.cell 1 _ rfl
          have f1 := Y.froz 1
          have y2 := Y.cell 2 _ rfl
          have f2 := Y.froz 2
          have y3 := Y.cell 3 _ rfl
          have f3 := Y.froz 3
          go_wp2_with fail
          refine (cP _ HC1).mono ?_
          rintro e w2 ⟨rfl, hb2⟩
          replace X := X.below hb2
          replace Y := Y.below hb2
          replace b1 := b1.trans (hb2.mono b1.size)
          replace HC1 := HC1.below hb2
          clear y0 y1 y2 y3 f0 f1 f2 f3 x0 x1 x2 x3 hb2
          have x0 := X.cell 0 _ rfl
          have x1 := X.cell 1 _ rfl
          have x2 := X.cell 2 _ rfl
          have x3 := X.cell 3 _ rfl
          have y0 := Y.cell 0 _ rfl
          have f0 := Y.froz 0
          have y1 := Y.cell 1 _ rfl
          have f1 := Y.froz 1
          have y2 := Y.cell 2 _ rfl
          have f2 := Y.froz 2
          have y3 := Y.cell 3 _ rfl
          have f3 := Y.froz 3
          have bF := ((((b1.setCell (p := ⟨YX, 0, none⟩) (by show w.heap.size ≤ YX; omega) (.int .i64 x.sets)).setCell (p := ⟨YX, 1, none⟩) (by show w.heap.size ≤ YX; omega) (.int .i64 x.ways)).setCell (p := ⟨YX, 2, none⟩) (by show w.heap.size ≤ YX; omega) (.int .i64 x.clock)).setCell (p := ⟨YX, 3, none⟩) (by show w.heap.size ≤ YX; omega) (.slice A n c))
          have cF := (((HC1.setFar HFAR 0 (.int .i64 x.sets)).setFar HFAR 1 (.int .i64 x.ways)).setFar HFAR 2 (.int .i64 x.clock)).setFar HFAR 3 (.slice A n c)
          try go_wp2_with fail
          exact bodyPost_ret (v := .tuple #[.agg #[.int .i64 x.sets, .int .i64 x.ways, .int .i64 x.clock, .slice A n c], .int .i64 7]) (by simp [results, Try.results16, go_sem, y0, y1, y2, y3, x0, x1, x2, x3]) rfl ⟨_, rfl, ⟨A, c, hs, by rw [HN.out], cF, fun Y hY => hY.2⟩, bF⟩
        · rw [hi] at hL
          rw [hi] at cP
          rw [if_neg (by omega), Int.toNat_natCast] at hL
          obtain ⟨ck, hck⟩ : ∃ ck : Int, x.clock + 1 = ck := ⟨_, rfl⟩
          obtain ⟨y, hy⟩ : ∃ y : Ca, y = ⟨x.sets, x.ways, ck, x.lines.set s (x.lines[s]!.set k ⟨x.lines[s]![k]!.addr, x.lines[s]![k]!.state, x.lines[s]![k]!.val_, ck⟩)⟩ := ⟨_, rfl⟩
          have hyu : usedC x s k = y := by rw [hy, ← hck]; rfl
          rw [hyu] at hL
          rw [hL]
          have HWCK := Lib.hid (show wrap64 (x.clock + 1) = ck by rw [← hck]; unfold wrap64; omega)
          have HCK := Lib.hid hck
          have HYY := Lib.hid hy
          have HK := Lib.hid hk
          clear hL hi hka hno hy hr hsn hn hck hyu hk0 hclk0
          have x0 := X.cell 0 _ rfl
          have x1 := X.cell 1 _ rfl
          have x2 := X.cell 2 _ rfl
          have x3 := X.cell 3 _ rfl
          have y0 := Y.cell 0 _ rfl
          have f0 := Y.froz 0
          have y1 := Y.cell 1 _ rfl
          have f1 := Y.froz 1
          have y2 := Y.cell 2 _ rfl
          have f2 := Y.froz 2
          have y3 := Y.cell 3 _ rfl
          have f3 := Y.froz 3
          go_enter Try.func16, Try.ntmps16
          go_wp2_with fail
          generalize ((w.alloc (.cells #[.int .i64 x.sets, .int .i64 x.ways, .int .i64 x.clock, .slice A n c] 26)).alloc (.cells #[.int .i64 0, .int .i64 0, .int .i64 0, .slice none 0 0] 26)) = W0 at *
          refine (cR _ HC.out).mono ?_
          rintro e w1 ⟨rfl, hb1⟩
          replace X := X.below hb1
          replace Y := Y.below hb1
          have b1 := b0.trans (hb1.mono b0.size)
          have HC1 := HC.out.below hb1
          clear x0 x1 x2 x3 y0 y1 y2 y3 f0 f1 f2 f3 cR hb1
          generalize hCX : w.heap.size = CX at X Y HFAR ⊢
          generalize hYX : CX + 1 = YX at X Y HFAR ⊢
          have x0 := X.cell 0 _ rfl
          have x1 := X.cell 1 _ rfl
          have x2 := X.cell 2 _ rfl
          have x3 := X.cell 3 _ rfl
          have y0 := Y.cell 0 _ rfl
          have f0 := Y.froz 0
          have y1 := Y.cell 1 _ rfl
          have f1 := Y.froz 1
          have y2 := Y.cell 2 _ rfl
          have f2 := Y.froz 2
          have y3 := Y.cell 3 _ rfl
          have f3 := Y.froz 3
          go_wp2_with fail
          refine (cP _ HC1).mono ?_
          rintro e w2 ⟨rfl, hb2⟩
          replace X := X.below hb2
          replace Y := Y.below hb2
          replace b1 := b1.trans (hb2.mono b1.size)
          replace HC1 := HC1.below hb2
          clear y0 y1 y2 y3 f0 f1 f2 f3 x0 x1 x2 x3 hb2
          have x0 := X.cell 0 _ rfl
          have x1 := X.cell 1 _ rfl
          have x2 := X.cell 2 _ rfl
          have x3 := X.cell 3 _ rfl
          have y0 := Y.cell 0 _ rfl
          have f0 := Y.froz 0
          have y1 := Y.cell 1 _ rfl
          have f1 := Y.froz 1
          have y2 := Y.cell 2 _ rfl
          have f2 := Y.froz 2
          have y3 := Y.cell 3 _ rfl
          have f3 := Y.froz 3
          go_wp2_with fail
          obtain ⟨bb, off, B2, m, c2, e1, hcell, hm, hmc, _, hsl⟩ := HC1.at_ s HSN.out
          subst e1
          obtain ⟨l, hl⟩ : ∃ l, l = x.lines[s]! := ⟨_, rfl⟩
          rw [← hl] at hm hsl HYY HK
          have hkm : k < m := by rw [← hm]; exact HK.out
          have hm1 : m ≤ 1000000 := by rw [← hm, hl]; exact HB.out s (by rw [← HN.out]; exact HSN.out)
          replace hsl := hsl.below (Below.refl _ _).drew
          replace hcell : w2.drew.cell? ⟨bb, off + s, none⟩ = _ := hcell
          replace x0 : w2.drew.cell? ⟨CX, 0, none⟩ = _ := x0
          replace x3 : w2.drew.cell? ⟨CX, 3, none⟩ = _ := x3
          obtain ⟨i0, hi0, hz0, hz1, hz2⟩ := info_parts info32
          clear z2'
          have hst := HST.out
          have hst2 := HST2.out
          have hsw := HSW.out
          refine wp_region_rg (by kernel_rfl) (by kernel_rfl) [27, 28, 29, 30, 31, 32, 33, 34, 35, 36, 7] (RuCPhi w2.drew CX bb off n c s m c2 B2 t x l) ?h0 ⟨?q0, ?q1, ?q2, ?q3, ?q4, ?q5, ?q6, ?q7, ?q8, ?q9, ?q10, trivial⟩ ?hend
          case h0 => exact ⟨_, _, _, _, _, _, _, _, _, _, _, _, rfl, ⟨Below.refl _ _, (fun h => by cases h), (fun h => by cases h), (fun h => by cases h), (fun h => by cases h), (fun h => by cases h), (fun h => by cases h), (fun h => by cases h), (fun h => by cases h), (fun h => by cases h), (fun h => by cases h), (fun h => by cases h)⟩, rfl⟩
          case q0 =>
            rintro L vs w' K ⟨u27, u28, u29, u30, u31, u32, u33, u34, u35, u36, u7, wz, rfl, φ, rfl⟩ hL hpre hcl hK G hG
            simp [Region.binds, closedFrom] at hpre hcl
            have L9 : L 9 = false := by
              cases h : L 9 with
              | false => rfl
              | true => simp [h, hL] at hcl
            have hk := hK [(.slice (some ⟨wz.heap.size, 0, none⟩) 0 0), u28, u29, u30, u31, u32, u33, u34, u35, u36, u7] (wz.alloc (.cells #[] 32)) ⟨_, _, _, _, _, _, _, _, _, _, _, (wz.alloc (.cells #[] 32)), rfl,
              { b := φ.b.alloc φ.b.size _,
                s0 := fun _ _ => World.ownsRow_made wz #[] 0 φ.b.size (Nat.zero_le _) (by simp),
                s1 := fun h0 => φ.s1 (by simpa using h0),
                s2 := fun h0 => φ.s2 (by simpa using h0),
                s3 := fun h0 => φ.s3 (by simpa using h0),
                s4 := fun h0 => φ.s4 (by simpa using h0),
                s5 := fun h0 => φ.s5 (by simpa using h0),
                s6 := fun h0 => φ.s6 (by simpa using h0),
                s7 := fun h0 => φ.s7 (by simpa using h0),
                s8 := fun h0 => φ.s8 (by simpa using h0),
                s9 := fun h => by simp [L9] at h,
                s10 := fun h0 => φ.s10 (by simpa using h0) }, rfl⟩
            refine hG ?_
            clear hK φ hG
            revert hk
            go_simp
            first | done | exact fun h => h
          case q1 =>
            rintro L vs w' K ⟨u27, u28, u29, u30, u31, u32, u33, u34, u35, u36, u7, wz, rfl, φ, rfl⟩ hL hpre hcl hK G hG
            simp [Region.binds, closedFrom] at hpre hcl
            have hk := hK [u27, (.pointer (some ⟨CX, 3, none⟩)), u29, u30, u31, u32, u33, u34, u35, u36, u7] wz ⟨_, _, _, _, _, _, _, _, _, _, _, wz, rfl,
              { b := φ.b,
                s0 := fun h0 h1 => φ.s0 (by simpa using h0) (by simpa using h1),
                s1 := fun _ => rfl,
                s2 := fun h0 => φ.s2 (by simpa using h0),
                s3 := fun h0 => φ.s3 (by simpa using h0),
                s4 := fun h0 => φ.s4 (by simpa using h0),
                s5 := fun h0 => φ.s5 (by simpa using h0),
                s6 := fun h0 => φ.s6 (by simpa using h0),
                s7 := fun h0 => φ.s7 (by simpa using h0),
                s8 := fun h0 => φ.s8 (by simpa using h0),
                s9 := fun h0 => φ.s9 (by simpa using h0),
                s10 := fun h0 => φ.s10 (by simpa using h0) }, rfl⟩
            refine hG ?_
            clear hK φ hG
            revert hk
            go_simp
            first | done | exact fun h => h
          case q2 =>
            rintro L vs w' K ⟨u27, u28, u29, u30, u31, u32, u33, u34, u35, u36, u7, wz, rfl, φ, rfl⟩ hL hpre hcl hK G hG
            simp [Region.binds, closedFrom] at hpre hcl
            have e1 := φ.s1 (by simp [hpre])
            subst e1
            have ce := (φ.b.cell (p := ⟨CX, 3, none⟩) (World.block_lt_of_cell? _ _ x3)).trans x3
            have hk := hK [u27, (.pointer (some ⟨CX, 3, none⟩)), (.slice (some ⟨bb, off, none⟩) n c), u30, u31, u32, u33, u34, u35, u36, u7] wz ⟨_, _, _, _, _, _, _, _, _, _, _, wz, rfl,
              { b := φ.b,
                s0 := fun h0 h1 => φ.s0 (by simpa using h0) (by simpa using h1),
                s1 := fun h0 => φ.s1 (by simpa using h0),
                s2 := fun _ => rfl,
                s3 := fun h0 => φ.s3 (by simpa using h0),
                s4 := fun h0 => φ.s4 (by simpa using h0),
                s5 := fun h0 => φ.s5 (by simpa using h0),
                s6 := fun h0 => φ.s6 (by simpa using h0),
                s7 := fun h0 => φ.s7 (by simpa using h0),
                s8 := fun h0 => φ.s8 (by simpa using h0),
                s9 := fun h0 => φ.s9 (by simpa using h0),
                s10 := fun h0 => φ.s10 (by simpa using h0) }, rfl⟩
            refine hG ?_
            clear hK φ hG
            revert hk
            go_simp
            first | done | exact fun h => h
          case q3 =>
            rintro L vs w' K ⟨u27, u28, u29, u30, u31, u32, u33, u34, u35, u36, u7, wz, rfl, φ, rfl⟩ hL hpre hcl hK G hG
            simp [Region.binds, closedFrom] at hpre hcl
            have hk := hK [u27, u28, u29, (.int .i64 t), u31, u32, u33, u34, u35, u36, u7] wz ⟨_, _, _, _, _, _, _, _, _, _, _, wz, rfl,
              { b := φ.b,
                s0 := fun h0 h1 => φ.s0 (by simpa using h0) (by simpa using h1),
                s1 := fun h0 => φ.s1 (by simpa using h0),
                s2 := fun h0 => φ.s2 (by simpa using h0),
                s3 := fun _ => rfl,
                s4 := fun h0 => φ.s4 (by simpa using h0),
                s5 := fun h0 => φ.s5 (by simpa using h0),
                s6 := fun h0 => φ.s6 (by simpa using h0),
                s7 := fun h0 => φ.s7 (by simpa using h0),
                s8 := fun h0 => φ.s8 (by simpa using h0),
                s9 := fun h0 => φ.s9 (by simpa using h0),
                s10 := fun h0 => φ.s10 (by simpa using h0) }, rfl⟩
            refine hG ?_
            clear hK φ hG
            revert hk
            go_simp
            first | done | exact fun h => h
          case q4 =>
            rintro L vs w' K ⟨u27, u28, u29, u30, u31, u32, u33, u34, u35, u36, u7, wz, rfl, φ, rfl⟩ hL hpre hcl hK G hG
            simp [Region.binds, closedFrom] at hpre hcl
            have hk := hK [u27, u28, u29, u30, (.pointer (some ⟨CX, 0, none⟩)), u32, u33, u34, u35, u36, u7] wz ⟨_, _, _, _, _, _, _, _, _, _, _, wz, rfl,
              { b := φ.b,
                s0 := fun h0 h1 => φ.s0 (by simpa using h0) (by simpa using h1),
                s1 := fun h0 => φ.s1 (by simpa using h0),
                s2 := fun h0 => φ.s2 (by simpa using h0),
                s3 := fun h0 => φ.s3 (by simpa using h0),
                s4 := fun _ => rfl,
                s5 := fun h0 => φ.s5 (by simpa using h0),
                s6 := fun h0 => φ.s6 (by simpa using h0),
                s7 := fun h0 => φ.s7 (by simpa using h0),
                s8 := fun h0 => φ.s8 (by simpa using h0),
                s9 := fun h0 => φ.s9 (by simpa using h0),
                s10 := fun h0 => φ.s10 (by simpa using h0) }, rfl⟩
            refine hG ?_
            clear hK φ hG
            revert hk
            go_simp
            first | done | exact fun h => h
          case q5 =>
            rintro L vs w' K ⟨u27, u28, u29, u30, u31, u32, u33, u34, u35, u36, u7, wz, rfl, φ, rfl⟩ hL hpre hcl hK G hG
            simp [Region.binds, closedFrom] at hpre hcl
            have e4 := φ.s4 (by simp [hpre])
            subst e4
            have ce := (φ.b.cell (p := ⟨CX, 0, none⟩) (World.block_lt_of_cell? _ _ x0)).trans x0
            have hk := hK [u27, u28, u29, u30, (.pointer (some ⟨CX, 0, none⟩)), (.int .i64 x.sets), u33, u34, u35, u36, u7] wz ⟨_, _, _, _, _, _, _, _, _, _, _, wz, rfl,
              { b := φ.b,
                s0 := fun h0 h1 => φ.s0 (by simpa using h0) (by simpa using h1),
                s1 := fun h0 => φ.s1 (by simpa using h0),
                s2 := fun h0 => φ.s2 (by simpa using h0),
                s3 := fun h0 => φ.s3 (by simpa using h0),
                s4 := fun h0 => φ.s4 (by simpa using h0),
                s5 := fun _ => rfl,
                s6 := fun h0 => φ.s6 (by simpa using h0),
                s7 := fun h0 => φ.s7 (by simpa using h0),
                s8 := fun h0 => φ.s8 (by simpa using h0),
                s9 := fun h0 => φ.s9 (by simpa using h0),
                s10 := fun h0 => φ.s10 (by simpa using h0) }, rfl⟩
            refine hG ?_
            clear hK φ hG
            revert hk
            go_simp
            first | done | exact fun h => h
          case q6 =>
            rintro L vs w' K ⟨u27, u28, u29, u30, u31, u32, u33, u34, u35, u36, u7, wz, rfl, φ, rfl⟩ hL hpre hcl hK G hG
            simp [Region.binds, closedFrom] at hpre hcl
            have e3 := φ.s3 (by simp [hpre])
            subst e3
            have e5 := φ.s5 (by simp [hpre])
            subst e5
            have hk := hK [u27, u28, u29, (.int .i64 t), u31, (.int .i64 x.sets), (.int .i64 (s : Int)), u34, u35, u36, u7] wz ⟨_, _, _, _, _, _, _, _, _, _, _, wz, rfl,
              { b := φ.b,
                s0 := fun h0 h1 => φ.s0 (by simpa using h0) (by simpa using h1),
                s1 := fun h0 => φ.s1 (by simpa using h0),
                s2 := fun h0 => φ.s2 (by simpa using h0),
                s3 := fun h0 => φ.s3 (by simpa using h0),
                s4 := fun h0 => φ.s4 (by simpa using h0),
                s5 := fun h0 => φ.s5 (by simpa using h0),
                s6 := fun _ => rfl,
                s7 := fun h0 => φ.s7 (by simpa using h0),
                s8 := fun h0 => φ.s8 (by simpa using h0),
                s9 := fun h0 => φ.s9 (by simpa using h0),
                s10 := fun h0 => φ.s10 (by simpa using h0) }, rfl⟩
            refine hG ?_
            clear hK φ hG
            revert hk
            go_simp
            first | done | exact fun h => h
          case q7 =>
            rintro L vs w' K ⟨u27, u28, u29, u30, u31, u32, u33, u34, u35, u36, u7, wz, rfl, φ, rfl⟩ hL hpre hcl hK G hG
            simp [Region.binds, closedFrom] at hpre hcl
            have e2 := φ.s2 (by simp [hpre])
            subst e2
            have e6 := φ.s6 (by simp [hpre])
            subst e6
            have hk := hK [u27, u28, (.slice (some ⟨bb, off, none⟩) n c), u30, u31, u32, (.int .i64 (s : Int)), (.pointer (some ⟨bb, off + s, none⟩)), u35, u36, u7] wz ⟨_, _, _, _, _, _, _, _, _, _, _, wz, rfl,
              { b := φ.b,
                s0 := fun h0 h1 => φ.s0 (by simpa using h0) (by simpa using h1),
                s1 := fun h0 => φ.s1 (by simpa using h0),
                s2 := fun h0 => φ.s2 (by simpa using h0),
                s3 := fun h0 => φ.s3 (by simpa using h0),
                s4 := fun h0 => φ.s4 (by simpa using h0),
                s5 := fun h0 => φ.s5 (by simpa using h0),
                s6 := fun h0 => φ.s6 (by simpa using h0),
                s7 := fun _ => rfl,
                s8 := fun h0 => φ.s8 (by simpa using h0),
                s9 := fun h0 => φ.s9 (by simpa using h0),
                s10 := fun h0 => φ.s10 (by simpa using h0) }, rfl⟩
            refine hG ?_
            clear hK φ hG
            revert hk
            go_simp
            first | done | exact fun h => h
          case q8 =>
            rintro L vs w' K ⟨u27, u28, u29, u30, u31, u32, u33, u34, u35, u36, u7, wz, rfl, φ, rfl⟩ hL hpre hcl hK G hG
            simp [Region.binds, closedFrom] at hpre hcl
            have e7 := φ.s7 (by simp [hpre])
            subst e7
            have ce := (φ.b.cell (p := ⟨bb, off + s, none⟩) (World.block_lt_of_cell? _ _ hcell)).trans hcell
            have hk := hK [u27, u28, u29, u30, u31, u32, u33, (.pointer (some ⟨bb, off + s, none⟩)), (.slice B2 m c2), u36, u7] wz ⟨_, _, _, _, _, _, _, _, _, _, _, wz, rfl,
              { b := φ.b,
                s0 := fun h0 h1 => φ.s0 (by simpa using h0) (by simpa using h1),
                s1 := fun h0 => φ.s1 (by simpa using h0),
                s2 := fun h0 => φ.s2 (by simpa using h0),
                s3 := fun h0 => φ.s3 (by simpa using h0),
                s4 := fun h0 => φ.s4 (by simpa using h0),
                s5 := fun h0 => φ.s5 (by simpa using h0),
                s6 := fun h0 => φ.s6 (by simpa using h0),
                s7 := fun h0 => φ.s7 (by simpa using h0),
                s8 := fun _ => rfl,
                s9 := fun h0 => φ.s9 (by simpa using h0),
                s10 := fun h0 => φ.s10 (by simpa using h0) }, rfl⟩
            refine hG ?_
            clear hK φ hG
            revert hk
            go_simp
            first | done | exact fun h => h
          case q9 =>
            rintro L vs w' K ⟨u27, u28, u29, u30, u31, u32, u33, u34, u35, u36, u7, wz, rfl, φ, rfl⟩ hL hpre hcl hK G hG
            simp [Region.binds, closedFrom] at hpre hcl
            have e8 := φ.s8 (by simp [hpre])
            subst e8
            have o1 := φ.s0 (by simp [hpre]) hL
            have L10 : L 10 = false := by
              cases h : L 10 with
              | false => rfl
              | true => simp [h, hL] at hcl
            refine hG (step_append_sl wz rfl (.tmp 27) (.tmp 35) 40 rfl w2.drew.heap.size 32 i0 _ 4 32 Try.underlying40 hi0 hz0 hz1 hz2 rfl (by decide) u27 0 _ (by simp [Act.eval, Act.puts, Act.put]) o1 Ln.enc Ln.enc_len Ln.enc_one B2 m c2 l (by simp [Act.eval, Act.puts, Act.put]) hm (hsl.below φ.b) (by unfold maxLen; omega) (by omega) φ.b.size ?_)
            intro v' w9 ownN hgrow hat
            have b9 := below_append φ.b hgrow φ.b.size o1 (Nat.le_refl _)
            rw [Nat.zero_add, List.nil_append] at ownN
            have hk := hK [u27, u28, u29, u30, u31, u32, u33, u34, (.slice B2 m c2), (v'), u7] w9 ⟨_, _, _, _, _, _, _, _, _, _, _, w9, rfl,
              { b := b9,
                s0 := fun _ h => by simp at h,
                s1 := fun h0 => φ.s1 (by simpa using h0),
                s2 := fun h0 => φ.s2 (by simpa using h0),
                s3 := fun h0 => φ.s3 (by simpa using h0),
                s4 := fun h0 => φ.s4 (by simpa using h0),
                s5 := fun h0 => φ.s5 (by simpa using h0),
                s6 := fun h0 => φ.s6 (by simpa using h0),
                s7 := fun h0 => φ.s7 (by simpa using h0),
                s8 := fun h0 => φ.s8 (by simpa using h0),
                s9 := fun _ => ownN,
                s10 := fun h => by simp [L10] at h }, rfl⟩
            clear hK φ hG
            revert hk
            go_simp
            first | done | exact fun h => h
          case q10 =>
            rintro L vs w' K ⟨u27, u28, u29, u30, u31, u32, u33, u34, u35, u36, u7, wz, rfl, φ, rfl⟩ hL hpre hcl hK G hG
            simp [Region.binds, closedFrom] at hpre hcl
            have hk := hK [u27, u28, u29, u30, u31, u32, u33, u34, u35, u36, (u36)] wz ⟨_, _, _, _, _, _, _, _, _, _, _, wz, rfl,
              { b := φ.b,
                s0 := fun h0 h1 => φ.s0 (by simpa using h0) (by simpa using h1),
                s1 := fun h0 => φ.s1 (by simpa using h0),
                s2 := fun h0 => φ.s2 (by simpa using h0),
                s3 := fun h0 => φ.s3 (by simpa using h0),
                s4 := fun h0 => φ.s4 (by simpa using h0),
                s5 := fun h0 => φ.s5 (by simpa using h0),
                s6 := fun h0 => φ.s6 (by simpa using h0),
                s7 := fun h0 => φ.s7 (by simpa using h0),
                s8 := fun h0 => φ.s8 (by simpa using h0),
                s9 := fun h0 => φ.s9 (by simpa using h0),
                s10 := fun _ => rfl }, rfl⟩
            refine hG ?_
            clear hK φ hG
            revert hk
            go_simp
            first | done | exact fun h => h
          case hend =>
            rintro vs w' ⟨u27, u28, u29, u30, u31, u32, u33, u34, u35, u36, u7, wz, rfl, φ, rfl⟩ G hG
            have o9 := φ.s9 rfl
            have b9 := φ.b
            obtain rfl := φ.s10 rfl
            clear φ
            refine hG ?_
            clear hG hst hst2 hsw hcell x0 x1 x2 x3 y0 y1 y2 y3 f0 f1 f2 f3
            obtain ⟨g, c3, rfl⟩ := own_slice o9 (by omega)
            have hg : w2.heap.size ≤ g := (own_block o9).1
            have hm3 := (own_cap o9).1
            have b5 := b1.drew.trans (b9.mono b1.size)
            have hXl := X.lt
            have hYl := Y.lt
            have b9w : Below w2.heap.size w2 wz := (Below.refl w2.heap.size w2).drew.trans b9
            replace X := X.below b9w
            replace Y := Y.below b9w
            have x0 := X.cell 0 _ rfl
            have x1 := X.cell 1 _ rfl
            have x2 := X.cell 2 _ rfl
            have x3 := X.cell 3 _ rfl
            have fx2 := X.froz 2
            have hkl : k < l.length := by rw [hm]; exact hkm
            have gq := flat_at Ln.enc_len l k 3 _ hkl rfl
            have gc := own_cell o9 _ _ gq
            have gf := own_frozen o9 (k * 4 + 3)
            have ng1 : g ≠ CX := by omega
            have ng2 := ng1.symm
            have ng3 : g ≠ YX := by omega
            have hkz : (k : Int) < (m : Int) := by omega
            obtain ⟨l', hl'e⟩ : ∃ l', l' = l.set k ⟨l[k]!.addr, l[k]!.state, l[k]!.val_, ck⟩ := ⟨_, rfl⟩
            have hl' : l'.length = m := by rw [hl'e, List.length_set]; exact hm
            have o5 := own_set (own_far o9 (show CX < w2.drew.heap.size from hXl) 2 (.int .i64 ck)) (k * 4 + 3) (.int .i64 ck)
            rw [flat_set Ln.enc_len l k 3 ⟨l[k]!.addr, l[k]!.state, l[k]!.val_, ck⟩ (.int .i64 ck) hkl (by decide) rfl, ← hl'e] at o5
            have X5 := (X.set 2 (.int .i64 ck) (by simp)).far (Y := g) ng1 (k * 4 + 3) (.int .i64 ck)
            have Y5 := (Y.far (Y := CX) (by omega) 2 (.int .i64 ck)).far (Y := g) ng3 (k * 4 + 3) (.int .i64 ck)
            have b6 := (b5.setCell (p := ⟨CX, 2, none⟩) (by show w.heap.size ≤ CX; omega) (.int .i64 ck)).setCell (p := ⟨g, k * 4 + 3, none⟩) (by show w.heap.size ≤ g; have := b1.size; omega) (.int .i64 ck)
            have hsz5 : w2.heap.size ≤ ((((wz.setCell ⟨CX, 2, none⟩ (.int .i64 ck))).setCell ⟨g, k * 4 + 3, none⟩ (.int .i64 ck))).heap.size := by have := b9.size; simp; exact this
            rw [← hl'e] at HYY
            clear X Y b5 b9 b9w gq hmc hsl
            have hwck := HWCK.out
            go_simp
            go_wp2_with fail
            clear x0 x1 x2 x3 fx2 gc gf hwck o9
            generalize (((wz.setCell ⟨CX, 2, none⟩ (.int .i64 ck))).setCell ⟨g, k * 4 + 3, none⟩ (.int .i64 ck)) = W5 at *
            have HC5 := HC0.out.below b6.drew
            have hsl5 := (Sl.of_own Ln.enc_len o5 hl').below (Below.refl W5.heap.size W5).drew
            have hw25 : w2.heap.size ≤ W5.drew.heap.size := hsz5
            replace X5 : Bx W5 CX [.int .i64 x.sets, .int .i64 x.ways, .int .i64 ck, .slice (some ⟨bb, off, none⟩) n c] := X5
            have x0 : W5.drew.cell? ⟨CX, 0, none⟩ = _ := X5.cell 0 _ rfl
            have x1 : W5.drew.cell? ⟨CX, 1, none⟩ = _ := X5.cell 1 _ rfl
            have x2 : W5.drew.cell? ⟨CX, 2, none⟩ = _ := X5.cell 2 _ rfl
            have x3 : W5.drew.cell? ⟨CX, 3, none⟩ = _ := X5.cell 3 _ rfl
            have hbase : w.heap.size ≤ W5.drew.heap.size := b6.size
            have hb_YX : w.heap.size ≤ YX := by omega
            have P_YX : YX < w2.heap.size ∧ CFar YX (some ⟨bb, off, none⟩) x.lines hs := ⟨hYl, HFAR⟩
            have oY := Y5.below (Below.refl _ _).drew
            have hst := HST.out
            have hst2 := HST2.out
            have hsw := HSW.out
            refine wp_region_rg (by kernel_rfl) (by kernel_rfl) [47, 48, 49, 50, 51, 52, 53, 5] (RuRPhi W5.drew w.heap.size CX YX bb off n c s g m c3 w2.heap.size t ck x y hs) ?h0 ⟨?q0, ?q1, ?q2, ?q3, ?q4, ?q5, ?q6, ?q7, ?q8, trivial⟩ ?hend
            case h0 => exact ⟨_, _, _, _, _, _, _, _, _, rfl, ⟨Below.refl _ _, (fun _ => Below.refl _ _), (fun h => by cases h), (fun h => by cases h), (fun h => by cases h), (fun h => by cases h), (fun h => by cases h), (fun h => by cases h), (fun h => by cases h), (fun _ => oY), (fun h => by cases h), (fun h => by cases h)⟩, rfl⟩
            case q0 =>
              rintro L vs w' K ⟨u47, u48, u49, u50, u51, u52, u53, u5, wz, rfl, φ, rfl⟩ hL hpre hcl hK G hG
              simp [Region.binds, closedFrom] at hpre hcl
              have L7 : L 7 = false := by
                cases h : L 7 with
                | false => rfl
                | true => simp [h, hL] at hcl
              have hb := φ.b0 L7
              have ce0 := (hb.cell (p := ⟨CX, 0, none⟩) (World.block_lt_of_cell? _ _ x0)).trans x0
              have ce1 := (hb.cell (p := ⟨CX, 1, none⟩) (World.block_lt_of_cell? _ _ x1)).trans x1
              have ce2 := (hb.cell (p := ⟨CX, 2, none⟩) (World.block_lt_of_cell? _ _ x2)).trans x2
              have ce3 := (hb.cell (p := ⟨CX, 3, none⟩) (World.block_lt_of_cell? _ _ x3)).trans x3
              have hk := hK [(.agg #[.int .i64 x.sets, .int .i64 x.ways, .int .i64 ck, .slice (some ⟨bb, off, none⟩) n c]), u48, u49, u50, u51, u52, u53, u5] wz ⟨_, _, _, _, _, _, _, _, wz, rfl,
                { b := φ.b,
                  b0 := fun h0 => φ.b0 (by simpa using h0),
                  s0 := fun _ => rfl,
                  s1 := fun h0 => φ.s1 (by simpa using h0),
                  s2 := fun h0 => φ.s2 (by simpa using h0),
                  s3 := fun h0 => φ.s3 (by simpa using h0),
                  s4 := fun h0 => φ.s4 (by simpa using h0),
                  s5 := fun h0 => φ.s5 (by simpa using h0),
                  e6 := fun h0 h1 => φ.e6 (by simpa using h0) (by simpa using h1),
                  o7 := fun h0 => φ.o7 (by simpa using h0),
                  r7 := fun h0 => φ.r7 (by simpa using h0),
                  s8 := fun h0 => φ.s8 (by simpa using h0) }, rfl⟩
              refine hG ?_
              clear hK φ hG
              revert hk
              go_simp
              first | done | exact fun h => h
            case q1 =>
              rintro L vs w' K ⟨u47, u48, u49, u50, u51, u52, u53, u5, wz, rfl, φ, rfl⟩ hL hpre hcl hK G hG
              simp [Region.binds, closedFrom] at hpre hcl
              have L7 : L 7 = false := by
                cases h : L 7 with
                | false => rfl
                | true => simp [h, hL] at hcl
              have hb := φ.b0 L7
              have hk := hK [u47, (.int .i64 t), u49, u50, u51, u52, u53, u5] wz ⟨_, _, _, _, _, _, _, _, wz, rfl,
                { b := φ.b,
                  b0 := fun h0 => φ.b0 (by simpa using h0),
                  s0 := fun h0 => φ.s0 (by simpa using h0),
                  s1 := fun _ => rfl,
                  s2 := fun h0 => φ.s2 (by simpa using h0),
                  s3 := fun h0 => φ.s3 (by simpa using h0),
                  s4 := fun h0 => φ.s4 (by simpa using h0),
                  s5 := fun h0 => φ.s5 (by simpa using h0),
                  e6 := fun h0 h1 => φ.e6 (by simpa using h0) (by simpa using h1),
                  o7 := fun h0 => φ.o7 (by simpa using h0),
                  r7 := fun h0 => φ.r7 (by simpa using h0),
                  s8 := fun h0 => φ.s8 (by simpa using h0) }, rfl⟩
              refine hG ?_
              clear hK φ hG
              revert hk
              go_simp
              first | done | exact fun h => h
            case q2 =>
              rintro L vs w' K ⟨u47, u48, u49, u50, u51, u52, u53, u5, wz, rfl, φ, rfl⟩ hL hpre hcl hK G hG
              simp [Region.binds, closedFrom] at hpre hcl
              have L7 : L 7 = false := by
                cases h : L 7 with
                | false => rfl
                | true => simp [h, hL] at hcl
              have hb := φ.b0 L7
              have hk := hK [u47, u48, (.pointer (some ⟨CX, 0, none⟩)), u50, u51, u52, u53, u5] wz ⟨_, _, _, _, _, _, _, _, wz, rfl,
                { b := φ.b,
                  b0 := fun h0 => φ.b0 (by simpa using h0),
                  s0 := fun h0 => φ.s0 (by simpa using h0),
                  s1 := fun h0 => φ.s1 (by simpa using h0),
                  s2 := fun _ => rfl,
                  s3 := fun h0 => φ.s3 (by simpa using h0),
                  s4 := fun h0 => φ.s4 (by simpa using h0),
                  s5 := fun h0 => φ.s5 (by simpa using h0),
                  e6 := fun h0 h1 => φ.e6 (by simpa using h0) (by simpa using h1),
                  o7 := fun h0 => φ.o7 (by simpa using h0),
                  r7 := fun h0 => φ.r7 (by simpa using h0),
                  s8 := fun h0 => φ.s8 (by simpa using h0) }, rfl⟩
              refine hG ?_
              clear hK φ hG
              revert hk
              go_simp
              first | done | exact fun h => h
            case q3 =>
              rintro L vs w' K ⟨u47, u48, u49, u50, u51, u52, u53, u5, wz, rfl, φ, rfl⟩ hL hpre hcl hK G hG
              simp [Region.binds, closedFrom] at hpre hcl
              have e2 := φ.s2 (by simp [hpre])
              subst e2
              have L7 : L 7 = false := by
                cases h : L 7 with
                | false => rfl
                | true => simp [h, hL] at hcl
              have hb := φ.b0 L7
              have ce0 := (hb.cell (p := ⟨CX, 0, none⟩) (World.block_lt_of_cell? _ _ x0)).trans x0
              have hk := hK [u47, u48, (.pointer (some ⟨CX, 0, none⟩)), (.int .i64 x.sets), u51, u52, u53, u5] wz ⟨_, _, _, _, _, _, _, _, wz, rfl,
                { b := φ.b,
                  b0 := fun h0 => φ.b0 (by simpa using h0),
                  s0 := fun h0 => φ.s0 (by simpa using h0),
                  s1 := fun h0 => φ.s1 (by simpa using h0),
                  s2 := fun h0 => φ.s2 (by simpa using h0),
                  s3 := fun _ => rfl,
                  s4 := fun h0 => φ.s4 (by simpa using h0),
                  s5 := fun h0 => φ.s5 (by simpa using h0),
                  e6 := fun h0 h1 => φ.e6 (by simpa using h0) (by simpa using h1),
                  o7 := fun h0 => φ.o7 (by simpa using h0),
                  r7 := fun h0 => φ.r7 (by simpa using h0),
                  s8 := fun h0 => φ.s8 (by simpa using h0) }, rfl⟩
              refine hG ?_
              clear hK φ hG
              revert hk
              go_simp
              first | done | exact fun h => h
            case q4 =>
              rintro L vs w' K ⟨u47, u48, u49, u50, u51, u52, u53, u5, wz, rfl, φ, rfl⟩ hL hpre hcl hK G hG
              simp [Region.binds, closedFrom] at hpre hcl
              have e1 := φ.s1 (by simp [hpre])
              subst e1
              have e3 := φ.s3 (by simp [hpre])
              subst e3
              have L7 : L 7 = false := by
                cases h : L 7 with
                | false => rfl
                | true => simp [h, hL] at hcl
              have hb := φ.b0 L7
              have hk := hK [u47, (.int .i64 t), u49, (.int .i64 x.sets), (.int .i64 (s : Int)), u52, u53, u5] wz ⟨_, _, _, _, _, _, _, _, wz, rfl,
                { b := φ.b,
                  b0 := fun h0 => φ.b0 (by simpa using h0),
                  s0 := fun h0 => φ.s0 (by simpa using h0),
                  s1 := fun h0 => φ.s1 (by simpa using h0),
                  s2 := fun h0 => φ.s2 (by simpa using h0),
                  s3 := fun h0 => φ.s3 (by simpa using h0),
                  s4 := fun _ => rfl,
                  s5 := fun h0 => φ.s5 (by simpa using h0),
                  e6 := fun h0 h1 => φ.e6 (by simpa using h0) (by simpa using h1),
                  o7 := fun h0 => φ.o7 (by simpa using h0),
                  r7 := fun h0 => φ.r7 (by simpa using h0),
                  s8 := fun h0 => φ.s8 (by simpa using h0) }, rfl⟩
              refine hG ?_
              clear hK φ hG
              revert hk
              go_simp
              first | done | exact fun h => h
            case q5 =>
              rintro L vs w' K ⟨u47, u48, u49, u50, u51, u52, u53, u5, wz, rfl, φ, rfl⟩ hL hpre hcl hK G hG
              simp [Region.binds, closedFrom] at hpre hcl
              have L7 : L 7 = false := by
                cases h : L 7 with
                | false => rfl
                | true => simp [h, hL] at hcl
              have hb := φ.b0 L7
              have hk := hK [u47, u48, u49, u50, u51, (.slice (some ⟨g, 0, none⟩) m c3), u53, u5] wz ⟨_, _, _, _, _, _, _, _, wz, rfl,
                { b := φ.b,
                  b0 := fun h0 => φ.b0 (by simpa using h0),
                  s0 := fun h0 => φ.s0 (by simpa using h0),
                  s1 := fun h0 => φ.s1 (by simpa using h0),
                  s2 := fun h0 => φ.s2 (by simpa using h0),
                  s3 := fun h0 => φ.s3 (by simpa using h0),
                  s4 := fun h0 => φ.s4 (by simpa using h0),
                  s5 := fun _ => rfl,
                  e6 := fun h0 h1 => φ.e6 (by simpa using h0) (by simpa using h1),
                  o7 := fun h0 => φ.o7 (by simpa using h0),
                  r7 := fun h0 => φ.r7 (by simpa using h0),
                  s8 := fun h0 => φ.s8 (by simpa using h0) }, rfl⟩
              refine hG ?_
              clear hK φ hG
              revert hk
              go_simp
              first | done | exact fun h => h
            case q6 =>
              rintro L vs w' K ⟨u47, u48, u49, u50, u51, u52, u53, u5, wz, rfl, φ, rfl⟩ hL hpre hcl hK G hG
              simp [Region.binds, closedFrom] at hpre hcl
              have e0 := φ.s0 (by simp [hpre])
              subst e0
              have e4 := φ.s4 (by simp [hpre])
              subst e4
              have e5 := φ.s5 (by simp [hpre])
              subst e5
              have L7 : L 7 = false := by
                cases h : L 7 with
                | false => rfl
                | true => simp [h, hL] at hcl
              have L8 : L 8 = false := by
                cases h : L 8 with
                | false => rfl
                | true => simp [h, hL, L7] at hcl
              have hb := φ.b0 L7
              refine hG (step_call wz rfl 36 #[.tmp 47, .tmp 51, .tmp 52] #[26, 3, 40] rfl #[.agg #[.int .i64 x.sets, .int .i64 x.ways, .int .i64 ck, .slice (some ⟨bb, off, none⟩) n c], .int .i64 (s : Int), .slice (some ⟨g, 0, none⟩) m c3] (by simp [Act.eval, Act.puts, Act.put]) (enters_of Try.func36 (by kernel_rfl) rfl) (show Calls Try.prog 36 _ wz (fun e w' => ∃ v, e = .returned v ∧ CRes w' (fun Y => Y < w2.heap.size ∧ CFar Y (some ⟨bb, off, none⟩) x.lines hs) y v ∧ Below wz.heap.size wz w') from (with_any _ c n s ⟨x.sets, x.ways, ck, x.lines⟩ hs (some ⟨g, 0, none⟩) m c3 l' wz (HC5.below hb) HN.out hn1 (by rw [← HN.out]; exact HSN.out) hl' hm3 (fun e => by cases e) (hsl5.below hb)).mono fun e w' ⟨v, e1, hv, h⟩ => ⟨v, e1, by rw [← HYY.out] at hv; exact hv.weak (fun Y hY => ⟨Nat.lt_of_lt_of_le hY.1 (Nat.le_trans hw25 hb.size), hY.2, fun _ a e => by have := hY.1; rw [← Option.some.inj e]; show g ≠ Y; omega⟩), h⟩) ?_)
              rintro e w9 ⟨v9, rfl, hv9, hb9⟩
              refine ⟨_, rfl, ?_⟩
              have hk := hK [(.agg #[.int .i64 x.sets, .int .i64 x.ways, .int .i64 ck, .slice (some ⟨bb, off, none⟩) n c]), u48, u49, u50, (.int .i64 (s : Int)), (.slice (some ⟨g, 0, none⟩) m c3), (v9), u5] w9 ⟨_, _, _, _, _, _, _, _, w9, rfl,
                { b := φ.b.trans (hb9.mono (Nat.le_trans hbase hb.size)),
                  b0 := fun _ => hb.trans (hb9.mono hb.size),
                  s0 := fun h0 => φ.s0 (by simpa using h0),
                  s1 := fun h0 => φ.s1 (by simpa using h0),
                  s2 := fun h0 => φ.s2 (by simpa using h0),
                  s3 := fun h0 => φ.s3 (by simpa using h0),
                  s4 := fun h0 => φ.s4 (by simpa using h0),
                  s5 := fun h0 => φ.s5 (by simpa using h0),
                  e6 := fun _ _ => hv9,
                  o7 := fun _ => (φ.o7 L7).below hb9,
                  r7 := fun h => by simp [L7] at h,
                  s8 := fun h => by simp [L8] at h }, rfl⟩
              clear hK φ hG
              revert hk
              go_simp
              first | done | exact fun h => h
            case q7 =>
              rintro L vs w' K ⟨u47, u48, u49, u50, u51, u52, u53, u5, wz, rfl, φ, rfl⟩ hL hpre hcl hK G hG
              simp [Region.binds, closedFrom] at hpre hcl
              have L8 : L 8 = false := by
                cases h : L 8 with
                | false => rfl
                | true => simp [h, hL] at hcl
              obtain ⟨B, d, hs9, ev, hci, hfar⟩ := φ.e6 (by simp [hpre]) hL
              subst ev
              have BX := φ.o7 hL
              have z0 := BX.cell 0 _ rfl
              have q0 := BX.froz 0
              have z1 := BX.cell 1 _ rfl
              have q1 := BX.froz 1
              have z2 := BX.cell 2 _ rfl
              have q2 := BX.froz 2
              have z3 := BX.cell 3 _ rfl
              have q3 := BX.froz 3
              have hk := hK [u47, u48, u49, u50, u51, u52, (.agg #[.int .i64 y.sets, .int .i64 y.ways, .int .i64 y.clock, .slice B y.lines.length d]), u5] ((((wz.setCell ⟨YX, 0, none⟩ (.int .i64 y.sets)).setCell ⟨YX, 1, none⟩ (.int .i64 y.ways)).setCell ⟨YX, 2, none⟩ (.int .i64 y.clock)).setCell ⟨YX, 3, none⟩ (.slice B y.lines.length d)) ⟨_, _, _, _, _, _, _, _, ((((wz.setCell ⟨YX, 0, none⟩ (.int .i64 y.sets)).setCell ⟨YX, 1, none⟩ (.int .i64 y.ways)).setCell ⟨YX, 2, none⟩ (.int .i64 y.clock)).setCell ⟨YX, 3, none⟩ (.slice B y.lines.length d)), rfl,
                { b := ((((φ.b.setCell (p := ⟨YX, 0, none⟩) hb_YX _).setCell (p := ⟨YX, 1, none⟩) hb_YX _).setCell (p := ⟨YX, 2, none⟩) hb_YX _).setCell (p := ⟨YX, 3, none⟩) hb_YX _),
                  b0 := fun h => by simp at h,
                  s0 := fun h0 => φ.s0 (by simpa using h0),
                  s1 := fun h0 => φ.s1 (by simpa using h0),
                  s2 := fun h0 => φ.s2 (by simpa using h0),
                  s3 := fun h0 => φ.s3 (by simpa using h0),
                  s4 := fun h0 => φ.s4 (by simpa using h0),
                  s5 := fun h0 => φ.s5 (by simpa using h0),
                  e6 := fun _ h => by simp at h,
                  o7 := fun h => by simp at h,
                  r7 := fun _ => ⟨B, d, hs9, BX.set4 _ _ _ _, (((hci.setFar (hfar _ P_YX) 0 _).setFar (hfar _ P_YX) 1 _).setFar (hfar _ P_YX) 2 _).setFar (hfar _ P_YX) 3 _, hfar⟩,
                  s8 := fun h => by simp [L8] at h }, rfl⟩
              refine hG ?_
              clear hK φ hG
              revert hk
              go_simp
              first | done | exact fun h => h
            case q8 =>
              rintro L vs w' K ⟨u47, u48, u49, u50, u51, u52, u53, u5, wz, rfl, φ, rfl⟩ hL hpre hcl hK G hG
              simp [Region.binds, closedFrom] at hpre hcl
              have hk := hK [u47, u48, u49, u50, u51, u52, u53, (.int .i64 0)] wz ⟨_, _, _, _, _, _, _, _, wz, rfl,
                { b := φ.b,
                  b0 := fun h0 => φ.b0 (by simpa using h0),
                  s0 := fun h0 => φ.s0 (by simpa using h0),
                  s1 := fun h0 => φ.s1 (by simpa using h0),
                  s2 := fun h0 => φ.s2 (by simpa using h0),
                  s3 := fun h0 => φ.s3 (by simpa using h0),
                  s4 := fun h0 => φ.s4 (by simpa using h0),
                  s5 := fun h0 => φ.s5 (by simpa using h0),
                  e6 := fun h0 h1 => φ.e6 (by simpa using h0) (by simpa using h1),
                  o7 := fun h0 => φ.o7 (by simpa using h0),
                  r7 := fun h0 => φ.r7 (by simpa using h0),
                  s8 := fun _ => rfl }, rfl⟩
              refine hG ?_
              clear hK φ hG
              revert hk
              go_simp
              first | done | exact fun h => h
            case hend =>
              rintro vs w' ⟨u47, u48, u49, u50, u51, u52, u53, u5, wz, rfl, φ, rfl⟩ G hG
              have bz := φ.b
              have r7 := φ.r7 rfl
              obtain rfl := φ.s8 rfl
              clear φ
              refine hG ?_
              clear hG
              have bF : Below w.heap.size w wz := b6.drew.trans bz
              obtain ⟨B9, d9, hs9, bx9, ci9, far9⟩ := r7
              have y0 := bx9.cell 0 _ rfl
              have y1 := bx9.cell 1 _ rfl
              have y2 := bx9.cell 2 _ rfl
              have y3 := bx9.cell 3 _ rfl
              have hw2 : w.heap.size ≤ w2.heap.size := b1.size
              clear bz bx9
              go_simp
              go_wp2_with fail
              exact bodyPost_ret (v := .tuple #[.agg #[.int .i64 y.sets, .int .i64 y.ways, .int .i64 y.clock, .slice B9 y.lines.length d9], .int .i64 0]) (by simp [results, Try.results16, go_sem, y0, y1, y2, y3]) rfl ⟨_, rfl, ⟨B9, d9, hs9, rfl, ci9, fun Y hY => far9 Y ⟨Nat.lt_of_lt_of_le hY.1 hw2, hY.2⟩⟩, bF⟩
      · have z2' : decide (1099511627776 ≤ x.clock) = true := decide_eq_true (by omega)
        have z1' : decide (t < 0) = false := decide_eq_false (by omega)
        have hL := bad (by unfold mayC; rw [hr]; simp; omega)
        rw [hL]
        rw [hr] at cR
        clear hr hL hn bad
        have x0 := X.cell 0 _ rfl
        have x1 := X.cell 1 _ rfl
        have x2 := X.cell 2 _ rfl
        have x3 := X.cell 3 _ rfl
        have y0 := Y.cell 0 _ rfl
        have f0 := Y.froz 0
        have y1 := Y.cell 1 _ rfl
        have f1 := Y.froz 1
        have y2 := Y.cell 2 _ rfl
        have f2 := Y.froz 2
        have y3 := Y.cell 3 _ rfl
        have f3 := Y.froz 3
        go_enter Try.func16, Try.ntmps16
        go_wp2_with fail
        generalize ((w.alloc (.cells #[.int .i64 x.sets, .int .i64 x.ways, .int .i64 x.clock, .slice A n c] 26)).alloc (.cells #[.int .i64 0, .int .i64 0, .int .i64 0, .slice none 0 0] 26)) = W0 at *
        refine (cR _ HC.out).mono ?_
        rintro e w1 ⟨rfl, hb1⟩
        replace X := X.below hb1
        replace Y := Y.below hb1
        have b1 := b0.trans (hb1.mono b0.size)
        have HC1 := HC.out.below hb1
        clear x0 x1 x2 x3 y0 y1 y2 y3 f0 f1 f2 f3 cR hb1
        generalize hCX : w.heap.size = CX at X Y HFAR ⊢
        generalize hYX : CX + 1 = YX at X Y HFAR ⊢
        have x0 := X.cell 0 _ rfl
        have x1 := X.cell 1 _ rfl
        have x2 := X.cell 2 _ rfl
        have x3 := X.cell 3 _ rfl
        have y0 := Y.cell 0 _ rfl
        have f0 := Y.froz 0
        have y1 := Y.cell 1 _ rfl
        have f1 := Y.froz 1
        have y2 := Y.cell 2 _ rfl
        have f2 := Y.froz 2
        have y3 := Y.cell 3 _ rfl
        have f3 := Y.froz 3
        go_wp2_with fail
        have bF := ((((b1.setCell (p := ⟨YX, 0, none⟩) (by show w.heap.size ≤ YX; omega) (.int .i64 x.sets)).setCell (p := ⟨YX, 1, none⟩) (by show w.heap.size ≤ YX; omega) (.int .i64 x.ways)).setCell (p := ⟨YX, 2, none⟩) (by show w.heap.size ≤ YX; omega) (.int .i64 x.clock)).setCell (p := ⟨YX, 3, none⟩) (by show w.heap.size ≤ YX; omega) (.slice A n c))
        have cF := (((HC1.setFar HFAR 0 (.int .i64 x.sets)).setFar HFAR 1 (.int .i64 x.ways)).setFar HFAR 2 (.int .i64 x.clock)).setFar HFAR 3 (.slice A n c)
        try go_wp2_with fail
        exact bodyPost_ret (v := .tuple #[.agg #[.int .i64 x.sets, .int .i64 x.ways, .int .i64 x.clock, .slice A n c], .int .i64 1]) (by simp [results, Try.results16, go_sem, y0, y1, y2, y3, x0, x1, x2, x3]) rfl ⟨_, rfl, ⟨A, c, hs, by rw [HN.out], cF, fun Y hY => hY.2⟩, bF⟩
    · have hL := bad (by unfold mayC; rw [hr]; simp; omega)
      rw [hL]
      rw [hr] at cR
      have z1' : decide (t < 0) = true := decide_eq_true (by omega)
      clear hr hL hn bad
      have x0 := X.cell 0 _ rfl
      have x1 := X.cell 1 _ rfl
      have x2 := X.cell 2 _ rfl
      have x3 := X.cell 3 _ rfl
      have y0 := Y.cell 0 _ rfl
      have f0 := Y.froz 0
      have y1 := Y.cell 1 _ rfl
      have f1 := Y.froz 1
      have y2 := Y.cell 2 _ rfl
      have f2 := Y.froz 2
      have y3 := Y.cell 3 _ rfl
      have f3 := Y.froz 3
      go_enter Try.func16, Try.ntmps16
      go_wp2_with fail
      generalize ((w.alloc (.cells #[.int .i64 x.sets, .int .i64 x.ways, .int .i64 x.clock, .slice A n c] 26)).alloc (.cells #[.int .i64 0, .int .i64 0, .int .i64 0, .slice none 0 0] 26)) = W0 at *
      refine (cR _ HC.out).mono ?_
      rintro e w1 ⟨rfl, hb1⟩
      replace X := X.below hb1
      replace Y := Y.below hb1
      have b1 := b0.trans (hb1.mono b0.size)
      have HC1 := HC.out.below hb1
      clear x0 x1 x2 x3 y0 y1 y2 y3 f0 f1 f2 f3 cR hb1
      generalize hCX : w.heap.size = CX at X Y HFAR ⊢
      generalize hYX : CX + 1 = YX at X Y HFAR ⊢
      have x0 := X.cell 0 _ rfl
      have x1 := X.cell 1 _ rfl
      have x2 := X.cell 2 _ rfl
      have x3 := X.cell 3 _ rfl
      have y0 := Y.cell 0 _ rfl
      have f0 := Y.froz 0
      have y1 := Y.cell 1 _ rfl
      have f1 := Y.froz 1
      have y2 := Y.cell 2 _ rfl
      have f2 := Y.froz 2
      have y3 := Y.cell 3 _ rfl
      have f3 := Y.froz 3
      go_wp2_with fail
      have bF := ((((b1.setCell (p := ⟨YX, 0, none⟩) (by show w.heap.size ≤ YX; omega) (.int .i64 x.sets)).setCell (p := ⟨YX, 1, none⟩) (by show w.heap.size ≤ YX; omega) (.int .i64 x.ways)).setCell (p := ⟨YX, 2, none⟩) (by show w.heap.size ≤ YX; omega) (.int .i64 x.clock)).setCell (p := ⟨YX, 3, none⟩) (by show w.heap.size ≤ YX; omega) (.slice A n c))
      have cF := (((HC1.setFar HFAR 0 (.int .i64 x.sets)).setFar HFAR 1 (.int .i64 x.ways)).setFar HFAR 2 (.int .i64 x.clock)).setFar HFAR 3 (.slice A n c)
      try go_wp2_with fail
      exact bodyPost_ret (v := .tuple #[.agg #[.int .i64 x.sets, .int .i64 x.ways, .int .i64 x.clock, .slice A n c], .int .i64 1]) (by simp [results, Try.results16, go_sem, y0, y1, y2, y3, x0, x1, x2, x3]) rfl ⟨_, rfl, ⟨A, c, hs, by rw [HN.out], cF, fun Y hY => hY.2⟩, bF⟩
end Go.Proofs.Ytdndanjabknjpaa
