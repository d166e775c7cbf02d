/- The walk of the reference's Look. -/
import Derived.Test.YtdndanjabknjpaaBE
import Derived.Test.YtdndanjabknjpaaAE
namespace Go.Proofs.Ytdndanjabknjpaa
open Go.RowKit Go.Lib

set_option linter.unusedVariables false
attribute [local go_sem] Act.puts
theorem without_row (A : Option Addr) (n c k : Nat) (l : List Ln) (w : World) (hs : Sl 4 Ln.enc w A l) (hn : l.length = n) (hnc : n ≤ c) (hk : k < n) (hn1 : n ≤ 1000000) :
    Calls Try.prog 35 #[.slice A n c, .int .i64 (k : Int)] w fun e w' => ∃ v, e = .returned v ∧ RowIn w' (fun Y => Y < w.heap.size) (l.eraseIdx k) v ∧ Below w.heap.size w w' :=
  (without_any A n c k l w hs hn hnc hk hn1).mono fun e w' ⟨v, e1, own, hb⟩ => by
    obtain ⟨B, d, rfl⟩ := own_shape own
    have hl : (l.eraseIdx k).length = n - 1 := by rw [List.length_eraseIdx]; rw [if_pos (by omega), hn]
    have hf := own_fresh own (Nat.le_refl _)
    refine ⟨_, e1, ⟨B, n - 1, d, rfl, hl, (own_cap own).1, fun e => ?_, Sl.of_own Ln.enc_len own hl, fun Y hY _ a e h => ?_⟩, hb⟩
    · rcases own_form own with h | ⟨G, h⟩
      · exact h.2.2
      · rw [h] at e; cases e
    · have := hf a e
      omega
structure RlR (w0 : World) (base CX YX bb off n c s b2 o2 m c2 k : Nat) (t : Int) (x : Ca) (y : Ln) (L : Nat → Bool) (u20 u21 u22 u23 u24 u25 u26 u27 u28 u29 u30 u31 u32 u5 : Value) (wz : World) : Prop where
  b : Below base w0 wz
  b0 : L 13 = false → Below w0.heap.size w0 wz
  s0 : L 0 = true → u20 = .pointer (some ⟨CX, 3, none⟩)
  s1 : L 1 = true → u21 = .slice (some ⟨bb, off, none⟩) n c
  s2 : L 2 = true → u22 = .int .i64 t
  s3 : L 3 = true → u23 = .pointer (some ⟨CX, 0, none⟩)
  s4 : L 4 = true → u24 = .int .i64 x.sets
  s5 : L 5 = true → u25 = .int .i64 (s : Int)
  s6 : L 6 = true → u26 = .pointer (some ⟨bb, off + s, none⟩)
  s7 : L 7 = true → u27 = .slice (some ⟨b2, o2, none⟩) m c2
  s8 : L 8 = true → u28 = .agg #[.int .i64 x.sets, .int .i64 x.ways, .int .i64 x.clock, .slice (some ⟨bb, off, none⟩) n c]
  s9 : L 9 = true → u29 = .int .i64 t
  s10 : L 10 = true → u30 = .int .i64 (k : Int)
  s11 : L 11 = true → u31 = .pointer (some ⟨b2, o2 + k * 4, none⟩)
  s12 : L 12 = true → u32 = .agg #[.int .i64 y.addr, .int .i64 y.state, .int .u32 y.val_, .int .i64 y.used]
  o13 : L 13 = false → Bx wz YX [.int .i64 0, .int .i64 0, .int .u32 0, .int .i64 0]
  r13 : L 13 = true → Bx wz YX [.int .i64 y.addr, .int .i64 y.state, .int .u32 y.val_, .int .i64 y.used]
  s14 : L 14 = true → u5 = .bool true
def RlRPhi (w0 : World) (base CX YX bb off n c s b2 o2 m c2 k : Nat) (t : Int) (x : Ca) (y : Ln) (L : Nat → Bool) (vs : List Value) (w' : World) : Prop :=
  ∃ u20 u21 u22 u23 u24 u25 u26 u27 u28 u29 u30 u31 u32 u5 wz, vs = [u20, u21, u22, u23, u24, u25, u26, u27, u28, u29, u30, u31, u32, u5] ∧ RlR w0 base CX YX bb off n c s b2 o2 m c2 k t x y L u20 u21 u22 u23 u24 u25 u26 u27 u28 u29 u30 u31 u32 u5 wz ∧ wz = w'

set_option maxHeartbeats 16000000 in
set_option maxRecDepth 100000 in
theorem rLook_any (A : Option Addr) (c n : Nat) (x : Ca) (hs : List Hd) (t : Int) (w : World) (hc : CIn w A x.lines hs) (hn : x.lines.length = n) :
    Calls Try.prog 11 #[.agg #[.int .i64 x.sets, .int .i64 x.ways, .int .i64 x.clock, .slice A n c], .int .i64 t] w fun e w' => e = .returned (.tuple #[.agg #[.int .i64 (lookC x t).1.addr, .int .i64 (lookC x t).1.state, .int .u32 (lookC x t).1.val_, .int .i64 (lookC x t).1.used], .bool (lookC x t).2]) ∧ Below w.heap.size w w' := by
  have b0 : Below w.heap.size w ((w.alloc (.cells #[.int .i64 x.sets, .int .i64 x.ways, .int .i64 x.clock, .slice A n c] 26)).alloc (.cells #[.int .i64 0, .int .i64 0, .int .u32 0, .int .i64 0] 32)) := ((Below.refl _ _).alloc (Nat.le_refl _) _).alloc (by simp) _
  have X := (Bx.new w [.int .i64 x.sets, .int .i64 x.ways, .int .i64 x.clock, .slice A n c] 26).alloc (.cells #[.int .i64 0, .int .i64 0, .int .u32 0, .int .i64 0] 32)
  have Y := Bx.new (w.alloc (.cells #[.int .i64 x.sets, .int .i64 x.ways, .int .i64 x.clock, .slice A n c] 26)) [.int .i64 0, .int .i64 0, .int .u32 0, .int .i64 0] 32
  rw [show (w.alloc (.cells #[.int .i64 x.sets, .int .i64 x.ways, .int .i64 x.clock, .slice A n c] 26)).heap.size = w.heap.size + 1 by simp] at Y
  have HC := Lib.hid (hc.below b0)
  have HN := Lib.hid hn
  have cR := fun w1 (h : CIn w1 A x.lines hs) => rRight_any A c n x hs w1 h hn
  cases hr : rightC x with
  | false =>
    have hL : lookC x t = (zeroL, false) := by unfold lookC; rw [if_neg (fun h => by rw [hr] at h; exact absurd h.1 (by decide))]
    rw [hL]
    rw [hr] at cR
    clear hr hL hc hn
    have x0 := X.cell 0 _ rfl
    have x1 := X.cell 1 _ rfl
    have x2 := X.cell 2 _ rfl
    have x3 := X.cell 3 _ rfl
    have y0 := Y.cell 0 _ rfl
    have f0 := Y.froz 0
    have y1 := Y.cell 1 _ rfl
    have f1 := Y.froz 1
    have y2 := Y.cell 2 _ rfl
    have f2 := Y.froz 2
    have y3 := Y.cell 3 _ rfl
    have f3 := Y.froz 3
    go_enter Try.func11, Try.ntmps11
    go_wp2_with fail
    generalize ((w.alloc (.cells #[.int .i64 x.sets, .int .i64 x.ways, .int .i64 x.clock, .slice A n c] 26)).alloc (.cells #[.int .i64 0, .int .i64 0, .int .u32 0, .int .i64 0] 32)) = W0 at *
    refine (cR _ HC.out).mono ?_
    rintro e w1 ⟨rfl, hb1⟩
    replace X := X.below hb1
    replace Y := Y.below hb1
    have b1 := b0.trans (hb1.mono b0.size)
    clear x0 x1 x2 x3 y0 y1 y2 y3 f0 f1 f2 f3 cR
    generalize hCX : w.heap.size = CX at X Y ⊢
    generalize hYX : CX + 1 = YX at X Y ⊢
    have x0 := X.cell 0 _ rfl
    have x1 := X.cell 1 _ rfl
    have x2 := X.cell 2 _ rfl
    have x3 := X.cell 3 _ rfl
    have y0 := Y.cell 0 _ rfl
    have f0 := Y.froz 0
    have y1 := Y.cell 1 _ rfl
    have f1 := Y.froz 1
    have y2 := Y.cell 2 _ rfl
    have f2 := Y.froz 2
    have y3 := Y.cell 3 _ rfl
    have f3 := Y.froz 3
    go_wp2_with fail
    have bF := ((((b1.setCell (p := ⟨YX, 0, none⟩) (by show w.heap.size ≤ YX; omega) (.int .i64 0)).setCell (p := ⟨YX, 1, none⟩) (by show w.heap.size ≤ YX; omega) (.int .i64 0)).setCell (p := ⟨YX, 2, none⟩) (by show w.heap.size ≤ YX; omega) (.int .u32 0)).setCell (p := ⟨YX, 3, none⟩) (by show w.heap.size ≤ YX; omega) (.int .i64 0))
    try go_wp2_with fail
    exact bodyPost_ret (v := .tuple #[.agg #[.int .i64 zeroL.addr, .int .i64 zeroL.state, .int .u32 zeroL.val_, .int .i64 zeroL.used], .bool false]) (by simp [results, Try.results11, go_sem, y0, y1, y2, y3, zeroL]) rfl ⟨rfl, bF⟩
  | true =>
    by_cases ht : 0 ≤ t
    · obtain ⟨s, hst, hsn, h0⟩ := set_of hr ht
      have hn8 : x.lines.length ≤ 8 := by have := right_facts hr; omega
      have hL : lookC x t = (if idxA x.lines[s]! t < 0 then (zeroL, false) else (x.lines[s]![(idxA x.lines[s]! t).toNat]!, true)) := by
        unfold lookC setOf
        rw [if_pos ⟨hr, ht⟩, hst, Int.toNat_natCast]
      have cP := fun w1 (h : CIn w1 A x.lines hs) => at_any A c n s x hs t w1 h hn (by rw [← hn]; exact hsn) hst h0 (by omega)
      have HSN := Lib.hid hsn
      have hsz : (s : Int) < (n : Int) := by omega
      have z1' : decide (t < 0) = false := decide_eq_false (by omega)
      have h0n : ¬ x.sets = 0 := h0
      have h0b : (x.sets == 0) = false := by rw [beq_eq_false_iff_ne]; exact h0
      have hsw : IntKind.i64.wrap (s : Int) = (s : Int) := IntWalk.i64_in _ (by omega)
      rw [hr] at cR
      have hst2 : t % x.sets = (s : Int) := by rw [← Int.tmod_eq_emod_of_nonneg ht]; exact hst
      rcases idxA_cases x.lines[s]! t with ⟨hi, hno⟩ | ⟨k, hk, hi, hka, hno⟩
      · rw [hi] at hL
        rw [hi] at cP
        rw [if_pos (by omega)] at hL
        rw [hL]
        clear hL hi hno hr hsn hc hn hst hst2 hsw
        have x0 := X.cell 0 _ rfl
        have x1 := X.cell 1 _ rfl
        have x2 := X.cell 2 _ rfl
        have x3 := X.cell 3 _ rfl
        have y0 := Y.cell 0 _ rfl
        have f0 := Y.froz 0
        have y1 := Y.cell 1 _ rfl
        have f1 := Y.froz 1
        have y2 := Y.cell 2 _ rfl
        have f2 := Y.froz 2
        have y3 := Y.cell 3 _ rfl
        have f3 := Y.froz 3
        go_enter Try.func11, Try.ntmps11
        go_wp2_with fail
        generalize ((w.alloc (.cells #[.int .i64 x.sets, .int .i64 x.ways, .int .i64 x.clock, .slice A n c] 26)).alloc (.cells #[.int .i64 0, .int .i64 0, .int .u32 0, .int .i64 0] 32)) = W0 at *
        refine (cR _ HC.out).mono ?_
        rintro e w1 ⟨rfl, hb1⟩
        replace X := X.below hb1
        replace Y := Y.below hb1
        have b1 := b0.trans (hb1.mono b0.size)
        clear x0 x1 x2 x3 y0 y1 y2 y3 f0 f1 f2 f3 cR
        generalize hCX : w.heap.size = CX at X Y ⊢
        generalize hYX : CX + 1 = YX at X Y ⊢
        have x0 := X.cell 0 _ rfl
        have x1 := X.cell 1 _ rfl
        have x2 := X.cell 2 _ rfl
        have x3 := X.cell 3 _ rfl
        have y0 := Y.cell 0 _ rfl
        have f0 := Y.froz 0
        have y1 := Y.cell 1 _ rfl
        have f1 := Y.froz 1
        have y2 := Y.cell 2 _ rfl
        have f2 := Y.froz 2
        have y3 := Y.cell 3 _ rfl
        have f3 := Y.froz 3
        go_wp2_with fail
        refine (cP _ (HC.out.below hb1)).mono ?_
        rintro e w2 ⟨rfl, hb2⟩
        replace X := X.below hb2
        replace Y := Y.below hb2
        replace b1 := b1.trans (hb2.mono b1.size)
        clear y0 y1 y2 y3 f0 f1 f2 f3 x0 x1 x2 x3
        have x0 := X.cell 0 _ rfl
        have x1 := X.cell 1 _ rfl
        have x2 := X.cell 2 _ rfl
        have x3 := X.cell 3 _ rfl
        have y0 := Y.cell 0 _ rfl
        have f0 := Y.froz 0
        have y1 := Y.cell 1 _ rfl
        have f1 := Y.froz 1
        have y2 := Y.cell 2 _ rfl
        have f2 := Y.froz 2
        have y3 := Y.cell 3 _ rfl
        have f3 := Y.froz 3
        have bF := ((((b1.setCell (p := ⟨YX, 0, none⟩) (by show w.heap.size ≤ YX; omega) (.int .i64 0)).setCell (p := ⟨YX, 1, none⟩) (by show w.heap.size ≤ YX; omega) (.int .i64 0)).setCell (p := ⟨YX, 2, none⟩) (by show w.heap.size ≤ YX; omega) (.int .u32 0)).setCell (p := ⟨YX, 3, none⟩) (by show w.heap.size ≤ YX; omega) (.int .i64 0))
        try go_wp2_with fail
        exact bodyPost_ret (v := .tuple #[.agg #[.int .i64 zeroL.addr, .int .i64 zeroL.state, .int .u32 zeroL.val_, .int .i64 zeroL.used], .bool false]) (by simp [results, Try.results11, go_sem, y0, y1, y2, y3, zeroL]) rfl ⟨rfl, bF⟩
      · rw [hi] at hL
        rw [hi] at cP
        rw [if_neg (by omega), Int.toNat_natCast] at hL
        obtain ⟨y, hy⟩ : ∃ y, y = x.lines[s]![k]! := ⟨_, rfl⟩
        rw [← hy] at hL
        rw [hL]
        have HY := Lib.hid hy
        have HK := Lib.hid hk
        clear hL hi hka hno hy hr hsn hc hn
        have HST := Lib.hid hst
        have HST2 := Lib.hid hst2
        have HSW := Lib.hid hsw
        clear hst hst2 hsw
        have x0 := X.cell 0 _ rfl
        have x1 := X.cell 1 _ rfl
        have x2 := X.cell 2 _ rfl
        have x3 := X.cell 3 _ rfl
        have y0 := Y.cell 0 _ rfl
        have f0 := Y.froz 0
        have y1 := Y.cell 1 _ rfl
        have f1 := Y.froz 1
        have y2 := Y.cell 2 _ rfl
        have f2 := Y.froz 2
        have y3 := Y.cell 3 _ rfl
        have f3 := Y.froz 3
        go_enter Try.func11, Try.ntmps11
        go_wp2_with fail
        generalize ((w.alloc (.cells #[.int .i64 x.sets, .int .i64 x.ways, .int .i64 x.clock, .slice A n c] 26)).alloc (.cells #[.int .i64 0, .int .i64 0, .int .u32 0, .int .i64 0] 32)) = W0 at *
        refine (cR _ HC.out).mono ?_
        rintro e w1 ⟨rfl, hb1⟩
        replace X := X.below hb1
        replace Y := Y.below hb1
        have b1 := b0.trans (hb1.mono b0.size)
        clear x0 x1 x2 x3 y0 y1 y2 y3 f0 f1 f2 f3 cR
        generalize hCX : w.heap.size = CX at X Y ⊢
        generalize hYX : CX + 1 = YX at X Y ⊢
        have x0 := X.cell 0 _ rfl
        have x1 := X.cell 1 _ rfl
        have x2 := X.cell 2 _ rfl
        have x3 := X.cell 3 _ rfl
        have y0 := Y.cell 0 _ rfl
        have f0 := Y.froz 0
        have y1 := Y.cell 1 _ rfl
        have f1 := Y.froz 1
        have y2 := Y.cell 2 _ rfl
        have f2 := Y.froz 2
        have y3 := Y.cell 3 _ rfl
        have f3 := Y.froz 3
        go_wp2_with fail
        refine (cP _ (HC.out.below hb1)).mono ?_
        rintro e w2 ⟨rfl, hb2⟩
        replace X := X.below hb2
        replace Y := Y.below hb2
        replace b1 := b1.trans (hb2.mono b1.size)
        have HC2 := (HC.out.below hb1).below hb2
        clear y0 y1 y2 y3 f0 f1 f2 f3 x0 x1 x2 x3 hb1 hb2
        have hst := HST.out
        have hst2 := HST2.out
        have hsw := HSW.out
        obtain ⟨bb, off, B2, m, c2, e1, hcell, hm, hmc, _, hsl⟩ := HC2.at_ s HSN.out
        subst e1
        obtain ⟨b2, o2, e2, hq⟩ := hsl.at_ k HK.out
        subst e2
        have hkm : (k : Int) < (m : Int) := by have := HK.out; omega
        have q0 := hq 0 _ rfl
        have q1 := hq 1 _ rfl
        have q2 := hq 2 _ rfl
        have q3 := hq 3 _ rfl
        rw [Nat.add_zero] at q0
        rw [← HY.out] at q0 q1 q2 q3
        clear hq hsl hm
        have x0 := X.cell 0 _ rfl
        have x1 := X.cell 1 _ rfl
        have x2 := X.cell 2 _ rfl
        have x3 := X.cell 3 _ rfl
        have y0 := Y.cell 0 _ rfl
        have f0 := Y.froz 0
        have y1 := Y.cell 1 _ rfl
        have f1 := Y.froz 1
        have y2 := Y.cell 2 _ rfl
        have f2 := Y.froz 2
        have y3 := Y.cell 3 _ rfl
        have f3 := Y.froz 3
        go_wp2_with fail
        have cP := fun wz (hb : Below w2.drew.heap.size w2.drew wz) => cP wz ((HC2.below (Below.refl _ _).drew).below hb)
        have hbase : w.heap.size ≤ w2.drew.heap.size := b1.size
        have hb_YX : w.heap.size ≤ YX := by omega
        have oY := Y.below (Below.refl _ _).drew
        replace x0 : w2.drew.cell? ⟨CX, 0, none⟩ = _ := x0
        replace x1 : w2.drew.cell? ⟨CX, 1, none⟩ = _ := x1
        replace x2 : w2.drew.cell? ⟨CX, 2, none⟩ = _ := x2
        replace x3 : w2.drew.cell? ⟨CX, 3, none⟩ = _ := x3
        replace q0 : w2.drew.cell? ⟨b2, o2 + k * 4, none⟩ = _ := q0
        replace q1 : w2.drew.cell? ⟨b2, o2 + k * 4 + 1, none⟩ = _ := q1
        replace q2 : w2.drew.cell? ⟨b2, o2 + k * 4 + 2, none⟩ = _ := q2
        replace q3 : w2.drew.cell? ⟨b2, o2 + k * 4 + 3, none⟩ = _ := q3
        replace hcell : w2.drew.cell? ⟨bb, off + s, none⟩ = _ := hcell
        refine wp_region_rg (by kernel_rfl) (by kernel_rfl) [20, 21, 22, 23, 24, 25, 26, 27, 28, 29, 30, 31, 32, 5] (RlRPhi w2.drew w.heap.size CX YX bb off n c s b2 o2 m c2 k t x y) ?h0 ⟨?q0, ?q1, ?q2, ?q3, ?q4, ?q5, ?q6, ?q7, ?q8, ?q9, ?q10, ?q11, ?q12, ?q13, ?q14, trivial⟩ ?hend
        case h0 => exact ⟨_, _, _, _, _, _, _, _, _, _, _, _, _, _, _, rfl, ⟨Below.refl _ _, (fun _ => Below.refl _ _), (fun h => by cases h), (fun h => by cases h), (fun h => by cases h), (fun h => by cases h), (fun h => by cases h), (fun h => by cases h), (fun h => by cases h), (fun h => by cases h), (fun h => by cases h), (fun h => by cases h), (fun h => by cases h), (fun h => by cases h), (fun h => by cases h), (fun _ => oY), (fun h => by cases h), (fun h => by cases h)⟩, rfl⟩
        case q0 =>
          rintro L vs w' K ⟨u20, u21, u22, u23, u24, u25, u26, u27, u28, u29, u30, u31, u32, u5, wz, rfl, φ, rfl⟩ hL hpre hcl hK G hG
          simp [Region.binds, closedFrom] at hpre hcl
          have L13 : L 13 = false := by
            cases h : L 13 with
            | false => rfl
            | true => simp [h, hL] at hcl
          have hb := φ.b0 L13
          have hk := hK [(.pointer (some ⟨CX, 3, none⟩)), u21, u22, u23, u24, u25, u26, u27, u28, u29, u30, u31, u32, u5] wz ⟨_, _, _, _, _, _, _, _, _, _, _, _, _, _, wz, rfl,
            { b := φ.b,
              b0 := fun h0 => φ.b0 (by simpa using h0),
              s0 := fun _ => rfl,
              s1 := fun h0 => φ.s1 (by simpa using h0),
              s2 := fun h0 => φ.s2 (by simpa using h0),
              s3 := fun h0 => φ.s3 (by simpa using h0),
              s4 := fun h0 => φ.s4 (by simpa using h0),
              s5 := fun h0 => φ.s5 (by simpa using h0),
              s6 := fun h0 => φ.s6 (by simpa using h0),
              s7 := fun h0 => φ.s7 (by simpa using h0),
              s8 := fun h0 => φ.s8 (by simpa using h0),
              s9 := fun h0 => φ.s9 (by simpa using h0),
              s10 := fun h0 => φ.s10 (by simpa using h0),
              s11 := fun h0 => φ.s11 (by simpa using h0),
              s12 := fun h0 => φ.s12 (by simpa using h0),
              o13 := fun h0 => φ.o13 (by simpa using h0),
              r13 := fun h0 => φ.r13 (by simpa using h0),
              s14 := fun h0 => φ.s14 (by simpa using h0) }, rfl⟩
          refine hG ?_
          clear hK φ hG
          revert hk
          go_simp
          first | done | exact fun h => h
        case q1 =>
          rintro L vs w' K ⟨u20, u21, u22, u23, u24, u25, u26, u27, u28, u29, u30, u31, u32, u5, wz, rfl, φ, rfl⟩ hL hpre hcl hK G hG
          simp [Region.binds, closedFrom] at hpre hcl
          have e0 := φ.s0 (by simp [hpre])
          subst e0
          have L13 : L 13 = false := by
            cases h : L 13 with
            | false => rfl
            | true => simp [h, hL] at hcl
          have hb := φ.b0 L13
          have ce0 := (hb.cell (p := ⟨CX, 3, none⟩) (World.block_lt_of_cell? _ _ x3)).trans x3
          have hk := hK [(.pointer (some ⟨CX, 3, none⟩)), (.slice (some ⟨bb, off, none⟩) n c), u22, u23, u24, u25, u26, u27, u28, u29, u30, u31, u32, u5] wz ⟨_, _, _, _, _, _, _, _, _, _, _, _, _, _, wz, rfl,
            { b := φ.b,
              b0 := fun h0 => φ.b0 (by simpa using h0),
              s0 := fun h0 => φ.s0 (by simpa using h0),
              s1 := fun _ => rfl,
              s2 := fun h0 => φ.s2 (by simpa using h0),
              s3 := fun h0 => φ.s3 (by simpa using h0),
              s4 := fun h0 => φ.s4 (by simpa using h0),
              s5 := fun h0 => φ.s5 (by simpa using h0),
              s6 := fun h0 => φ.s6 (by simpa using h0),
              s7 := fun h0 => φ.s7 (by simpa using h0),
              s8 := fun h0 => φ.s8 (by simpa using h0),
              s9 := fun h0 => φ.s9 (by simpa using h0),
              s10 := fun h0 => φ.s10 (by simpa using h0),
              s11 := fun h0 => φ.s11 (by simpa using h0),
              s12 := fun h0 => φ.s12 (by simpa using h0),
              o13 := fun h0 => φ.o13 (by simpa using h0),
              r13 := fun h0 => φ.r13 (by simpa using h0),
              s14 := fun h0 => φ.s14 (by simpa using h0) }, rfl⟩
          refine hG ?_
          clear hK φ hG
          revert hk
          go_simp
          first | done | exact fun h => h
        case q2 =>
          rintro L vs w' K ⟨u20, u21, u22, u23, u24, u25, u26, u27, u28, u29, u30, u31, u32, u5, wz, rfl, φ, rfl⟩ hL hpre hcl hK G hG
          simp [Region.binds, closedFrom] at hpre hcl
          have L13 : L 13 = false := by
            cases h : L 13 with
            | false => rfl
            | true => simp [h, hL] at hcl
          have hb := φ.b0 L13
          have hk := hK [u20, u21, (.int .i64 t), u23, u24, u25, u26, u27, u28, u29, u30, u31, u32, u5] wz ⟨_, _, _, _, _, _, _, _, _, _, _, _, _, _, wz, rfl,
            { b := φ.b,
              b0 := fun h0 => φ.b0 (by simpa using h0),
              s0 := fun h0 => φ.s0 (by simpa using h0),
              s1 := fun h0 => φ.s1 (by simpa using h0),
              s2 := fun _ => rfl,
              s3 := fun h0 => φ.s3 (by simpa using h0),
              s4 := fun h0 => φ.s4 (by simpa using h0),
              s5 := fun h0 => φ.s5 (by simpa using h0),
              s6 := fun h0 => φ.s6 (by simpa using h0),
              s7 := fun h0 => φ.s7 (by simpa using h0),
              s8 := fun h0 => φ.s8 (by simpa using h0),
              s9 := fun h0 => φ.s9 (by simpa using h0),
              s10 := fun h0 => φ.s10 (by simpa using h0),
              s11 := fun h0 => φ.s11 (by simpa using h0),
              s12 := fun h0 => φ.s12 (by simpa using h0),
              o13 := fun h0 => φ.o13 (by simpa using h0),
              r13 := fun h0 => φ.r13 (by simpa using h0),
              s14 := fun h0 => φ.s14 (by simpa using h0) }, rfl⟩
          refine hG ?_
          clear hK φ hG
          revert hk
          go_simp
          first | done | exact fun h => h
        case q3 =>
          rintro L vs w' K ⟨u20, u21, u22, u23, u24, u25, u26, u27, u28, u29, u30, u31, u32, u5, wz, rfl, φ, rfl⟩ hL hpre hcl hK G hG
          simp [Region.binds, closedFrom] at hpre hcl
          have L13 : L 13 = false := by
            cases h : L 13 with
            | false => rfl
            | true => simp [h, hL] at hcl
          have hb := φ.b0 L13
          have hk := hK [u20, u21, u22, (.pointer (some ⟨CX, 0, none⟩)), u24, u25, u26, u27, u28, u29, u30, u31, u32, u5] wz ⟨_, _, _, _, _, _, _, _, _, _, _, _, _, _, wz, rfl,
            { b := φ.b,
              b0 := fun h0 => φ.b0 (by simpa using h0),
              s0 := fun h0 => φ.s0 (by simpa using h0),
              s1 := fun h0 => φ.s1 (by simpa using h0),
              s2 := fun h0 => φ.s2 (by simpa using h0),
              s3 := fun _ => rfl,
              s4 := fun h0 => φ.s4 (by simpa using h0),
              s5 := fun h0 => φ.s5 (by simpa using h0),
              s6 := fun h0 => φ.s6 (by simpa using h0),
              s7 := fun h0 => φ.s7 (by simpa using h0),
              s8 := fun h0 => φ.s8 (by simpa using h0),
              s9 := fun h0 => φ.s9 (by simpa using h0),
              s10 := fun h0 => φ.s10 (by simpa using h0),
              s11 := fun h0 => φ.s11 (by simpa using h0),
              s12 := fun h0 => φ.s12 (by simpa using h0),
              o13 := fun h0 => φ.o13 (by simpa using h0),
              r13 := fun h0 => φ.r13 (by simpa using h0),
              s14 := fun h0 => φ.s14 (by simpa using h0) }, rfl⟩
          refine hG ?_
          clear hK φ hG
          revert hk
          go_simp
          first | done | exact fun h => h
        case q4 =>
          rintro L vs w' K ⟨u20, u21, u22, u23, u24, u25, u26, u27, u28, u29, u30, u31, u32, u5, wz, rfl, φ, rfl⟩ hL hpre hcl hK G hG
          simp [Region.binds, closedFrom] at hpre hcl
          have e3 := φ.s3 (by simp [hpre])
          subst e3
          have L13 : L 13 = false := by
            cases h : L 13 with
            | false => rfl
            | true => simp [h, hL] at hcl
          have hb := φ.b0 L13
          have ce0 := (hb.cell (p := ⟨CX, 0, none⟩) (World.block_lt_of_cell? _ _ x0)).trans x0
          have hk := hK [u20, u21, u22, (.pointer (some ⟨CX, 0, none⟩)), (.int .i64 x.sets), u25, u26, u27, u28, u29, u30, u31, u32, u5] wz ⟨_, _, _, _, _, _, _, _, _, _, _, _, _, _, wz, rfl,
            { b := φ.b,
              b0 := fun h0 => φ.b0 (by simpa using h0),
              s0 := fun h0 => φ.s0 (by simpa using h0),
              s1 := fun h0 => φ.s1 (by simpa using h0),
              s2 := fun h0 => φ.s2 (by simpa using h0),
              s3 := fun h0 => φ.s3 (by simpa using h0),
              s4 := fun _ => rfl,
              s5 := fun h0 => φ.s5 (by simpa using h0),
              s6 := fun h0 => φ.s6 (by simpa using h0),
              s7 := fun h0 => φ.s7 (by simpa using h0),
              s8 := fun h0 => φ.s8 (by simpa using h0),
              s9 := fun h0 => φ.s9 (by simpa using h0),
              s10 := fun h0 => φ.s10 (by simpa using h0),
              s11 := fun h0 => φ.s11 (by simpa using h0),
              s12 := fun h0 => φ.s12 (by simpa using h0),
              o13 := fun h0 => φ.o13 (by simpa using h0),
              r13 := fun h0 => φ.r13 (by simpa using h0),
              s14 := fun h0 => φ.s14 (by simpa using h0) }, rfl⟩
          refine hG ?_
          clear hK φ hG
          revert hk
          go_simp
          first | done | exact fun h => h
        case q5 =>
          rintro L vs w' K ⟨u20, u21, u22, u23, u24, u25, u26, u27, u28, u29, u30, u31, u32, u5, wz, rfl, φ, rfl⟩ hL hpre hcl hK G hG
          simp [Region.binds, closedFrom] at hpre hcl
          have e2 := φ.s2 (by simp [hpre])
          subst e2
          have e4 := φ.s4 (by simp [hpre])
          subst e4
          have L13 : L 13 = false := by
            cases h : L 13 with
            | false => rfl
            | true => simp [h, hL] at hcl
          have hb := φ.b0 L13
          have hk := hK [u20, u21, (.int .i64 t), u23, (.int .i64 x.sets), (.int .i64 (s : Int)), u26, u27, u28, u29, u30, u31, u32, u5] wz ⟨_, _, _, _, _, _, _, _, _, _, _, _, _, _, wz, rfl,
            { b := φ.b,
              b0 := fun h0 => φ.b0 (by simpa using h0),
              s0 := fun h0 => φ.s0 (by simpa using h0),
              s1 := fun h0 => φ.s1 (by simpa using h0),
              s2 := fun h0 => φ.s2 (by simpa using h0),
              s3 := fun h0 => φ.s3 (by simpa using h0),
              s4 := fun h0 => φ.s4 (by simpa using h0),
              s5 := fun _ => rfl,
              s6 := fun h0 => φ.s6 (by simpa using h0),
              s7 := fun h0 => φ.s7 (by simpa using h0),
              s8 := fun h0 => φ.s8 (by simpa using h0),
              s9 := fun h0 => φ.s9 (by simpa using h0),
              s10 := fun h0 => φ.s10 (by simpa using h0),
              s11 := fun h0 => φ.s11 (by simpa using h0),
              s12 := fun h0 => φ.s12 (by simpa using h0),
              o13 := fun h0 => φ.o13 (by simpa using h0),
              r13 := fun h0 => φ.r13 (by simpa using h0),
              s14 := fun h0 => φ.s14 (by simpa using h0) }, rfl⟩
          refine hG ?_
          clear hK φ hG
          revert hk
          go_simp
          first | done | exact fun h => h
        case q6 =>
          rintro L vs w' K ⟨u20, u21, u22, u23, u24, u25, u26, u27, u28, u29, u30, u31, u32, u5, wz, rfl, φ, rfl⟩ hL hpre hcl hK G hG
          simp [Region.binds, closedFrom] at hpre hcl
          have e1 := φ.s1 (by simp [hpre])
          subst e1
          have e5 := φ.s5 (by simp [hpre])
          subst e5
          have L13 : L 13 = false := by
            cases h : L 13 with
            | false => rfl
            | true => simp [h, hL] at hcl
          have hb := φ.b0 L13
          have hk := hK [u20, (.slice (some ⟨bb, off, none⟩) n c), u22, u23, u24, (.int .i64 (s : Int)), (.pointer (some ⟨bb, off + s, none⟩)), u27, u28, u29, u30, u31, u32, u5] wz ⟨_, _, _, _, _, _, _, _, _, _, _, _, _, _, wz, rfl,
            { b := φ.b,
              b0 := fun h0 => φ.b0 (by simpa using h0),
              s0 := fun h0 => φ.s0 (by simpa using h0),
              s1 := fun h0 => φ.s1 (by simpa using h0),
              s2 := fun h0 => φ.s2 (by simpa using h0),
              s3 := fun h0 => φ.s3 (by simpa using h0),
              s4 := fun h0 => φ.s4 (by simpa using h0),
              s5 := fun h0 => φ.s5 (by simpa using h0),
              s6 := fun _ => rfl,
              s7 := fun h0 => φ.s7 (by simpa using h0),
              s8 := fun h0 => φ.s8 (by simpa using h0),
              s9 := fun h0 => φ.s9 (by simpa using h0),
              s10 := fun h0 => φ.s10 (by simpa using h0),
              s11 := fun h0 => φ.s11 (by simpa using h0),
              s12 := fun h0 => φ.s12 (by simpa using h0),
              o13 := fun h0 => φ.o13 (by simpa using h0),
              r13 := fun h0 => φ.r13 (by simpa using h0),
              s14 := fun h0 => φ.s14 (by simpa using h0) }, rfl⟩
          refine hG ?_
          clear hK φ hG
          revert hk
          go_simp
          first | done | exact fun h => h
        case q7 =>
          rintro L vs w' K ⟨u20, u21, u22, u23, u24, u25, u26, u27, u28, u29, u30, u31, u32, u5, wz, rfl, φ, rfl⟩ hL hpre hcl hK G hG
          simp [Region.binds, closedFrom] at hpre hcl
          have e6 := φ.s6 (by simp [hpre])
          subst e6
          have L13 : L 13 = false := by
            cases h : L 13 with
            | false => rfl
            | true => simp [h, hL] at hcl
          have hb := φ.b0 L13
          have ce0 := (hb.cell (p := ⟨bb, off + s, none⟩) (World.block_lt_of_cell? _ _ hcell)).trans hcell
          have hk := hK [u20, u21, u22, u23, u24, u25, (.pointer (some ⟨bb, off + s, none⟩)), (.slice (some ⟨b2, o2, none⟩) m c2), u28, u29, u30, u31, u32, u5] wz ⟨_, _, _, _, _, _, _, _, _, _, _, _, _, _, wz, rfl,
            { b := φ.b,
              b0 := fun h0 => φ.b0 (by simpa using h0),
              s0 := fun h0 => φ.s0 (by simpa using h0),
              s1 := fun h0 => φ.s1 (by simpa using h0),
              s2 := fun h0 => φ.s2 (by simpa using h0),
              s3 := fun h0 => φ.s3 (by simpa using h0),
              s4 := fun h0 => φ.s4 (by simpa using h0),
              s5 := fun h0 => φ.s5 (by simpa using h0),
              s6 := fun h0 => φ.s6 (by simpa using h0),
              s7 := fun _ => rfl,
              s8 := fun h0 => φ.s8 (by simpa using h0),
              s9 := fun h0 => φ.s9 (by simpa using h0),
              s10 := fun h0 => φ.s10 (by simpa using h0),
              s11 := fun h0 => φ.s11 (by simpa using h0),
              s12 := fun h0 => φ.s12 (by simpa using h0),
              o13 := fun h0 => φ.o13 (by simpa using h0),
              r13 := fun h0 => φ.r13 (by simpa using h0),
              s14 := fun h0 => φ.s14 (by simpa using h0) }, rfl⟩
          refine hG ?_
          clear hK φ hG
          revert hk
          go_simp
          first | done | exact fun h => h
        case q8 =>
          rintro L vs w' K ⟨u20, u21, u22, u23, u24, u25, u26, u27, u28, u29, u30, u31, u32, u5, wz, rfl, φ, rfl⟩ hL hpre hcl hK G hG
          simp [Region.binds, closedFrom] at hpre hcl
          have L13 : L 13 = false := by
            cases h : L 13 with
            | false => rfl
            | true => simp [h, hL] at hcl
          have hb := φ.b0 L13
          have ce0 := (hb.cell (p := ⟨CX, 0, none⟩) (World.block_lt_of_cell? _ _ x0)).trans x0
          have ce1 := (hb.cell (p := ⟨CX, 1, none⟩) (World.block_lt_of_cell? _ _ x1)).trans x1
          have ce2 := (hb.cell (p := ⟨CX, 2, none⟩) (World.block_lt_of_cell? _ _ x2)).trans x2
          have ce3 := (hb.cell (p := ⟨CX, 3, none⟩) (World.block_lt_of_cell? _ _ x3)).trans x3
          have hk := hK [u20, u21, u22, u23, u24, u25, u26, u27, (.agg #[.int .i64 x.sets, .int .i64 x.ways, .int .i64 x.clock, .slice (some ⟨bb, off, none⟩) n c]), u29, u30, u31, u32, u5] wz ⟨_, _, _, _, _, _, _, _, _, _, _, _, _, _, wz, rfl,
            { b := φ.b,
              b0 := fun h0 => φ.b0 (by simpa using h0),
              s0 := fun h0 => φ.s0 (by simpa using h0),
              s1 := fun h0 => φ.s1 (by simpa using h0),
              s2 := fun h0 => φ.s2 (by simpa using h0),
              s3 := fun h0 => φ.s3 (by simpa using h0),
              s4 := fun h0 => φ.s4 (by simpa using h0),
              s5 := fun h0 => φ.s5 (by simpa using h0),
              s6 := fun h0 => φ.s6 (by simpa using h0),
              s7 := fun h0 => φ.s7 (by simpa using h0),
              s8 := fun _ => rfl,
              s9 := fun h0 => φ.s9 (by simpa using h0),
              s10 := fun h0 => φ.s10 (by simpa using h0),
              s11 := fun h0 => φ.s11 (by simpa using h0),
              s12 := fun h0 => φ.s12 (by simpa using h0),
              o13 := fun h0 => φ.o13 (by simpa using h0),
              r13 := fun h0 => φ.r13 (by simpa using h0),
              s14 := fun h0 => φ.s14 (by simpa using h0) }, rfl⟩
          refine hG ?_
          clear hK φ hG
          revert hk
          go_simp
          first | done | exact fun h => h
        case q9 =>
          rintro L vs w' K ⟨u20, u21, u22, u23, u24, u25, u26, u27, u28, u29, u30, u31, u32, u5, wz, rfl, φ, rfl⟩ hL hpre hcl hK G hG
          simp [Region.binds, closedFrom] at hpre hcl
          have L13 : L 13 = false := by
            cases h : L 13 with
            | false => rfl
            | true => simp [h, hL] at hcl
          have hb := φ.b0 L13
          have hk := hK [u20, u21, u22, u23, u24, u25, u26, u27, u28, (.int .i64 t), u30, u31, u32, u5] wz ⟨_, _, _, _, _, _, _, _, _, _, _, _, _, _, wz, rfl,
            { b := φ.b,
              b0 := fun h0 => φ.b0 (by simpa using h0),
              s0 := fun h0 => φ.s0 (by simpa using h0),
              s1 := fun h0 => φ.s1 (by simpa using h0),
              s2 := fun h0 => φ.s2 (by simpa using h0),
              s3 := fun h0 => φ.s3 (by simpa using h0),
              s4 := fun h0 => φ.s4 (by simpa using h0),
              s5 := fun h0 => φ.s5 (by simpa using h0),
              s6 := fun h0 => φ.s6 (by simpa using h0),
              s7 := fun h0 => φ.s7 (by simpa using h0),
              s8 := fun h0 => φ.s8 (by simpa using h0),
              s9 := fun _ => rfl,
              s10 := fun h0 => φ.s10 (by simpa using h0),
              s11 := fun h0 => φ.s11 (by simpa using h0),
              s12 := fun h0 => φ.s12 (by simpa using h0),
              o13 := fun h0 => φ.o13 (by simpa using h0),
              r13 := fun h0 => φ.r13 (by simpa using h0),
              s14 := fun h0 => φ.s14 (by simpa using h0) }, rfl⟩
          refine hG ?_
          clear hK φ hG
          revert hk
          go_simp
          first | done | exact fun h => h
        case q10 =>
          rintro L vs w' K ⟨u20, u21, u22, u23, u24, u25, u26, u27, u28, u29, u30, u31, u32, u5, wz, rfl, φ, rfl⟩ hL hpre hcl hK G hG
          simp [Region.binds, closedFrom] at hpre hcl
          have e8 := φ.s8 (by simp [hpre])
          subst e8
          have e9 := φ.s9 (by simp [hpre])
          subst e9
          have L13 : L 13 = false := by
            cases h : L 13 with
            | false => rfl
            | true => simp [h, hL] at hcl
          have L14 : L 14 = false := by
            cases h : L 14 with
            | false => rfl
            | true => simp [h, hL, L13] at hcl
          have hb := φ.b0 L13
          refine hG (step_call wz rfl 29 #[.tmp 28, .tmp 29] #[26, 3] rfl #[.agg #[.int .i64 x.sets, .int .i64 x.ways, .int .i64 x.clock, .slice (some ⟨bb, off, none⟩) n c], .int .i64 t] (by simp [Act.eval, Act.puts, Act.put]) (enters_of Try.func29 (by kernel_rfl) rfl) (cP wz hb) ?_)
          rintro e w9 ⟨rfl, hb9⟩
          refine ⟨_, rfl, ?_⟩
          have hk := hK [u20, u21, u22, u23, u24, u25, u26, u27, (.agg #[.int .i64 x.sets, .int .i64 x.ways, .int .i64 x.clock, .slice (some ⟨bb, off, none⟩) n c]), (.int .i64 t), (.int .i64 (k : Int)), u31, u32, u5] w9 ⟨_, _, _, _, _, _, _, _, _, _, _, _, _, _, w9, rfl,
            { b := φ.b.trans (hb9.mono (Nat.le_trans hbase hb.size)),
              b0 := fun _ => hb.trans (hb9.mono hb.size),
              s0 := fun h0 => φ.s0 (by simpa using h0),
              s1 := fun h0 => φ.s1 (by simpa using h0),
              s2 := fun h0 => φ.s2 (by simpa using h0),
              s3 := fun h0 => φ.s3 (by simpa using h0),
              s4 := fun h0 => φ.s4 (by simpa using h0),
              s5 := fun h0 => φ.s5 (by simpa using h0),
              s6 := fun h0 => φ.s6 (by simpa using h0),
              s7 := fun h0 => φ.s7 (by simpa using h0),
              s8 := fun h0 => φ.s8 (by simpa using h0),
              s9 := fun h0 => φ.s9 (by simpa using h0),
              s10 := fun _ => rfl,
              s11 := fun h0 => φ.s11 (by simpa using h0),
              s12 := fun h0 => φ.s12 (by simpa using h0),
              o13 := fun _ => (φ.o13 L13).below hb9,
              r13 := fun h => by simp [L13] at h,
              s14 := fun h => by simp [L14] at h }, rfl⟩
          clear hK φ hG
          revert hk
          go_simp
          first | done | exact fun h => h
        case q11 =>
          rintro L vs w' K ⟨u20, u21, u22, u23, u24, u25, u26, u27, u28, u29, u30, u31, u32, u5, wz, rfl, φ, rfl⟩ hL hpre hcl hK G hG
          simp [Region.binds, closedFrom] at hpre hcl
          have e7 := φ.s7 (by simp [hpre])
          subst e7
          have e10 := φ.s10 (by simp [hpre])
          subst e10
          have L13 : L 13 = false := by
            cases h : L 13 with
            | false => rfl
            | true => simp [h, hL] at hcl
          have hb := φ.b0 L13
          have hk := hK [u20, u21, u22, u23, u24, u25, u26, (.slice (some ⟨b2, o2, none⟩) m c2), u28, u29, (.int .i64 (k : Int)), (.pointer (some ⟨b2, o2 + k * 4, none⟩)), u32, u5] wz ⟨_, _, _, _, _, _, _, _, _, _, _, _, _, _, wz, rfl,
            { b := φ.b,
              b0 := fun h0 => φ.b0 (by simpa using h0),
              s0 := fun h0 => φ.s0 (by simpa using h0),
              s1 := fun h0 => φ.s1 (by simpa using h0),
              s2 := fun h0 => φ.s2 (by simpa using h0),
              s3 := fun h0 => φ.s3 (by simpa using h0),
              s4 := fun h0 => φ.s4 (by simpa using h0),
              s5 := fun h0 => φ.s5 (by simpa using h0),
              s6 := fun h0 => φ.s6 (by simpa using h0),
              s7 := fun h0 => φ.s7 (by simpa using h0),
              s8 := fun h0 => φ.s8 (by simpa using h0),
              s9 := fun h0 => φ.s9 (by simpa using h0),
              s10 := fun h0 => φ.s10 (by simpa using h0),
              s11 := fun _ => rfl,
              s12 := fun h0 => φ.s12 (by simpa using h0),
              o13 := fun h0 => φ.o13 (by simpa using h0),
              r13 := fun h0 => φ.r13 (by simpa using h0),
              s14 := fun h0 => φ.s14 (by simpa using h0) }, rfl⟩
          refine hG ?_
          clear hK φ hG
          revert hk
          go_simp
          first | done | exact fun h => h
        case q12 =>
          rintro L vs w' K ⟨u20, u21, u22, u23, u24, u25, u26, u27, u28, u29, u30, u31, u32, u5, wz, rfl, φ, rfl⟩ hL hpre hcl hK G hG
          simp [Region.binds, closedFrom] at hpre hcl
          have e11 := φ.s11 (by simp [hpre])
          subst e11
          have L13 : L 13 = false := by
            cases h : L 13 with
            | false => rfl
            | true => simp [h, hL] at hcl
          have hb := φ.b0 L13
          have ce0 := (hb.cell (p := ⟨b2, o2 + k * 4, none⟩) (World.block_lt_of_cell? _ _ q0)).trans q0
          have ce1 := (hb.cell (p := ⟨b2, o2 + k * 4 + 1, none⟩) (World.block_lt_of_cell? _ _ q1)).trans q1
          have ce2 := (hb.cell (p := ⟨b2, o2 + k * 4 + 2, none⟩) (World.block_lt_of_cell? _ _ q2)).trans q2
          have ce3 := (hb.cell (p := ⟨b2, o2 + k * 4 + 3, none⟩) (World.block_lt_of_cell? _ _ q3)).trans q3
          have hk := hK [u20, u21, u22, u23, u24, u25, u26, u27, u28, u29, u30, (.pointer (some ⟨b2, o2 + k * 4, none⟩)), (.agg #[.int .i64 y.addr, .int .i64 y.state, .int .u32 y.val_, .int .i64 y.used]), u5] wz ⟨_, _, _, _, _, _, _, _, _, _, _, _, _, _, wz, rfl,
            { b := φ.b,
              b0 := fun h0 => φ.b0 (by simpa using h0),
              s0 := fun h0 => φ.s0 (by simpa using h0),
              s1 := fun h0 => φ.s1 (by simpa using h0),
              s2 := fun h0 => φ.s2 (by simpa using h0),
              s3 := fun h0 => φ.s3 (by simpa using h0),
              s4 := fun h0 => φ.s4 (by simpa using h0),
              s5 := fun h0 => φ.s5 (by simpa using h0),
              s6 := fun h0 => φ.s6 (by simpa using h0),
              s7 := fun h0 => φ.s7 (by simpa using h0),
              s8 := fun h0 => φ.s8 (by simpa using h0),
              s9 := fun h0 => φ.s9 (by simpa using h0),
              s10 := fun h0 => φ.s10 (by simpa using h0),
              s11 := fun h0 => φ.s11 (by simpa using h0),
              s12 := fun _ => rfl,
              o13 := fun h0 => φ.o13 (by simpa using h0),
              r13 := fun h0 => φ.r13 (by simpa using h0),
              s14 := fun h0 => φ.s14 (by simpa using h0) }, rfl⟩
          refine hG ?_
          clear hK φ hG
          revert hk
          go_simp
          first | done | exact fun h => h
        case q13 =>
          rintro L vs w' K ⟨u20, u21, u22, u23, u24, u25, u26, u27, u28, u29, u30, u31, u32, u5, wz, rfl, φ, rfl⟩ hL hpre hcl hK G hG
          simp [Region.binds, closedFrom] at hpre hcl
          have L14 : L 14 = false := by
            cases h : L 14 with
            | false => rfl
            | true => simp [h, hL] at hcl
          have e12 := φ.s12 (by simp [hpre])
          subst e12
          have BX := φ.o13 hL
          have z0 := BX.cell 0 _ rfl
          have q0 := BX.froz 0
          have z1 := BX.cell 1 _ rfl
          have q1 := BX.froz 1
          have z2 := BX.cell 2 _ rfl
          have q2 := BX.froz 2
          have z3 := BX.cell 3 _ rfl
          have q3 := BX.froz 3
          have hk := hK [u20, u21, u22, u23, u24, u25, u26, u27, u28, u29, u30, u31, (.agg #[.int .i64 y.addr, .int .i64 y.state, .int .u32 y.val_, .int .i64 y.used]), u5] ((((wz.setCell ⟨YX, 0, none⟩ (.int .i64 y.addr)).setCell ⟨YX, 1, none⟩ (.int .i64 y.state)).setCell ⟨YX, 2, none⟩ (.int .u32 y.val_)).setCell ⟨YX, 3, none⟩ (.int .i64 y.used)) ⟨_, _, _, _, _, _, _, _, _, _, _, _, _, _, ((((wz.setCell ⟨YX, 0, none⟩ (.int .i64 y.addr)).setCell ⟨YX, 1, none⟩ (.int .i64 y.state)).setCell ⟨YX, 2, none⟩ (.int .u32 y.val_)).setCell ⟨YX, 3, none⟩ (.int .i64 y.used)), rfl,
            { b := ((((φ.b.setCell (p := ⟨YX, 0, none⟩) hb_YX _).setCell (p := ⟨YX, 1, none⟩) hb_YX _).setCell (p := ⟨YX, 2, none⟩) hb_YX _).setCell (p := ⟨YX, 3, none⟩) hb_YX _),
              b0 := fun h => by simp at h,
              s0 := fun h0 => φ.s0 (by simpa using h0),
              s1 := fun h0 => φ.s1 (by simpa using h0),
              s2 := fun h0 => φ.s2 (by simpa using h0),
              s3 := fun h0 => φ.s3 (by simpa using h0),
              s4 := fun h0 => φ.s4 (by simpa using h0),
              s5 := fun h0 => φ.s5 (by simpa using h0),
              s6 := fun h0 => φ.s6 (by simpa using h0),
              s7 := fun h0 => φ.s7 (by simpa using h0),
              s8 := fun h0 => φ.s8 (by simpa using h0),
              s9 := fun h0 => φ.s9 (by simpa using h0),
              s10 := fun h0 => φ.s10 (by simpa using h0),
              s11 := fun h0 => φ.s11 (by simpa using h0),
              s12 := fun h0 => φ.s12 (by simpa using h0),
              o13 := fun h => by simp at h,
              r13 := fun _ => BX.set4 _ _ _ _,
              s14 := fun h => by simp [L14] at h }, rfl⟩
          refine hG ?_
          clear hK φ hG
          revert hk
          go_simp
          first | done | exact fun h => h
        case q14 =>
          rintro L vs w' K ⟨u20, u21, u22, u23, u24, u25, u26, u27, u28, u29, u30, u31, u32, u5, wz, rfl, φ, rfl⟩ hL hpre hcl hK G hG
          simp [Region.binds, closedFrom] at hpre hcl
          have hk := hK [u20, u21, u22, u23, u24, u25, u26, u27, u28, u29, u30, u31, u32, (.bool true)] wz ⟨_, _, _, _, _, _, _, _, _, _, _, _, _, _, wz, rfl,
            { b := φ.b,
              b0 := fun h0 => φ.b0 (by simpa using h0),
              s0 := fun h0 => φ.s0 (by simpa using h0),
              s1 := fun h0 => φ.s1 (by simpa using h0),
              s2 := fun h0 => φ.s2 (by simpa using h0),
              s3 := fun h0 => φ.s3 (by simpa using h0),
              s4 := fun h0 => φ.s4 (by simpa using h0),
              s5 := fun h0 => φ.s5 (by simpa using h0),
              s6 := fun h0 => φ.s6 (by simpa using h0),
              s7 := fun h0 => φ.s7 (by simpa using h0),
              s8 := fun h0 => φ.s8 (by simpa using h0),
              s9 := fun h0 => φ.s9 (by simpa using h0),
              s10 := fun h0 => φ.s10 (by simpa using h0),
              s11 := fun h0 => φ.s11 (by simpa using h0),
              s12 := fun h0 => φ.s12 (by simpa using h0),
              o13 := fun h0 => φ.o13 (by simpa using h0),
              r13 := fun h0 => φ.r13 (by simpa using h0),
              s14 := fun _ => rfl }, rfl⟩
          refine hG ?_
          clear hK φ hG
          revert hk
          go_simp
          first | done | exact fun h => h
        case hend =>
          rintro vs w' ⟨u20, u21, u22, u23, u24, u25, u26, u27, u28, u29, u30, u31, u32, u5, wz, rfl, φ, rfl⟩ G hG
          have bz := φ.b
          have r13 := φ.r13 rfl
          obtain rfl := φ.s14 rfl
          clear φ
          refine hG ?_
          clear hG
          have bF : Below w.heap.size w wz := b1.drew.trans bz
          have y0 := r13.cell 0 _ rfl
          have y1 := r13.cell 1 _ rfl
          have y2 := r13.cell 2 _ rfl
          have y3 := r13.cell 3 _ rfl
          clear r13 bz
          go_simp
          go_wp2_with fail
          exact bodyPost_ret (v := .tuple #[.agg #[.int .i64 y.addr, .int .i64 y.state, .int .u32 y.val_, .int .i64 y.used], .bool true]) (by simp [results, Try.results11, go_sem, y0, y1, y2, y3]) rfl ⟨rfl, bF⟩
    · have hL : lookC x t = (zeroL, false) := by unfold lookC; rw [if_neg (fun h => ht h.2)]
      rw [hL]
      rw [hr] at cR
      have z1' : decide (t < 0) = true := decide_eq_true (by omega)
      clear hr hL hc hn
      have x0 := X.cell 0 _ rfl
      have x1 := X.cell 1 _ rfl
      have x2 := X.cell 2 _ rfl
      have x3 := X.cell 3 _ rfl
      have y0 := Y.cell 0 _ rfl
      have f0 := Y.froz 0
      have y1 := Y.cell 1 _ rfl
      have f1 := Y.froz 1
      have y2 := Y.cell 2 _ rfl
      have f2 := Y.froz 2
      have y3 := Y.cell 3 _ rfl
      have f3 := Y.froz 3
      go_enter Try.func11, Try.ntmps11
      go_wp2_with fail
      generalize ((w.alloc (.cells #[.int .i64 x.sets, .int .i64 x.ways, .int .i64 x.clock, .slice A n c] 26)).alloc (.cells #[.int .i64 0, .int .i64 0, .int .u32 0, .int .i64 0] 32)) = W0 at *
      refine (cR _ HC.out).mono ?_
      rintro e w1 ⟨rfl, hb1⟩
      replace X := X.below hb1
      replace Y := Y.below hb1
      have b1 := b0.trans (hb1.mono b0.size)
      clear x0 x1 x2 x3 y0 y1 y2 y3 f0 f1 f2 f3 cR
      generalize hCX : w.heap.size = CX at X Y ⊢
      generalize hYX : CX + 1 = YX at X Y ⊢
      have x0 := X.cell 0 _ rfl
      have x1 := X.cell 1 _ rfl
      have x2 := X.cell 2 _ rfl
      have x3 := X.cell 3 _ rfl
      have y0 := Y.cell 0 _ rfl
      have f0 := Y.froz 0
      have y1 := Y.cell 1 _ rfl
      have f1 := Y.froz 1
      have y2 := Y.cell 2 _ rfl
      have f2 := Y.froz 2
      have y3 := Y.cell 3 _ rfl
      have f3 := Y.froz 3
      go_wp2_with fail
      have bF := ((((b1.setCell (p := ⟨YX, 0, none⟩) (by show w.heap.size ≤ YX; omega) (.int .i64 0)).setCell (p := ⟨YX, 1, none⟩) (by show w.heap.size ≤ YX; omega) (.int .i64 0)).setCell (p := ⟨YX, 2, none⟩) (by show w.heap.size ≤ YX; omega) (.int .u32 0)).setCell (p := ⟨YX, 3, none⟩) (by show w.heap.size ≤ YX; omega) (.int .i64 0))
      try go_wp2_with fail
      exact bodyPost_ret (v := .tuple #[.agg #[.int .i64 zeroL.addr, .int .i64 zeroL.state, .int .u32 zeroL.val_, .int .i64 zeroL.used], .bool false]) (by simp [results, Try.results11, go_sem, y0, y1, y2, y3, zeroL]) rfl ⟨rfl, bF⟩
end Go.Proofs.Ytdndanjabknjpaa
