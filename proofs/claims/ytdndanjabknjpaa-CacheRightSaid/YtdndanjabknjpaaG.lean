/- The walk of cache.Look. -/
import Derived.Test.YtdndanjabknjpaaF
namespace Go.Proofs.Ytdndanjabknjpaa
open Go.RowKit Go.Lib
set_option linter.unusedVariables false

def zeroL : Ln := ⟨0, 0, 0, 0⟩
def setOf (x : Ca) (t : Int) : List Ln := x.lines[(t.tmod x.sets).toNat]!
def lookC (x : Ca) (t : Int) : Ln × Bool := if rightC x = true ∧ 0 ≤ t then (if idxA (setOf x t) t < 0 then (zeroL, false) else ((setOf x t)[(idxA (setOf x t) t).toNat]!, true)) else (zeroL, false)
/-- Behind a box of a cache and a line of one's own. -/
theorem begin_two (A : Option Addr) (c n : Nat) (x : Ca) (w W0 : World) (hW : W0 = (w.alloc (.cells #[.int .i64 x.sets, .int .i64 x.ways, .int .i64 x.clock, .slice A n c] 26)).alloc (.cells #[.int .i64 0, .int .i64 0, .int .u32 0, .int .i64 0] 32)) :
    w.heap.size + 1 < W0.heap.size ∧ Below w.heap.size w W0 ∧ (W0.cell? ⟨w.heap.size, 0, none⟩ = some (.int .i64 x.sets) ∧ W0.cell? ⟨w.heap.size, 1, none⟩ = some (.int .i64 x.ways) ∧ W0.cell? ⟨w.heap.size, 2, none⟩ = some (.int .i64 x.clock) ∧ W0.cell? ⟨w.heap.size, 3, none⟩ = some (.slice A n c)) ∧
    (W0.cell? ⟨w.heap.size + 1, 0, none⟩ = some (.int .i64 0) ∧ W0.cell? ⟨w.heap.size + 1, 1, none⟩ = some (.int .i64 0) ∧ W0.cell? ⟨w.heap.size + 1, 2, none⟩ = some (.int .u32 0) ∧ W0.cell? ⟨w.heap.size + 1, 3, none⟩ = some (.int .i64 0)) ∧
    (W0.frozen? ⟨w.heap.size + 1, 0, none⟩ = false ∧ W0.frozen? ⟨w.heap.size + 1, 1, none⟩ = false ∧ W0.frozen? ⟨w.heap.size + 1, 2, none⟩ = false ∧ W0.frozen? ⟨w.heap.size + 1, 3, none⟩ = false) := by
  subst hW
  refine ⟨by simp, ((Below.refl _ _).alloc (Nat.le_refl _) _).alloc (by simp) _, ⟨by go_simp, by go_simp, by go_simp, by go_simp⟩, ⟨by go_simp, by go_simp, by go_simp, by go_simp⟩, ⟨by go_simp, by go_simp, by go_simp, by go_simp⟩⟩

set_option maxHeartbeats 16000000 in
theorem look_any (A : Option Addr) (c n : Nat) (x : Ca) (hs : List Hd) (t : Int) (w : World) (hc : CIn w A x.lines hs) (hn : x.lines.length = n) (hwf : WfC x) :
    Calls Try.prog 9 #[.agg #[.int .i64 x.sets, .int .i64 x.ways, .int .i64 x.clock, .slice A n c], .int .i64 t] w fun e w' => e = .returned (.tuple #[.agg #[.int .i64 (lookC x t).1.addr, .int .i64 (lookC x t).1.state, .int .u32 (lookC x t).1.val_, .int .i64 (lookC x t).1.used], .bool (lookC x t).2]) ∧ Below w.heap.size w w' := by
  obtain ⟨lt1, b0, ⟨x0, x1, x2, x3⟩, ⟨z0, z1, z2, z3⟩, ⟨f0, f1, f2, f3⟩⟩ := begin_two A c n x w _ rfl
  have lt0 := Nat.lt_of_le_of_lt (Nat.le_succ w.heap.size) lt1
  have HC := Lib.hid (hc.below b0)
  have cR := fun w1 (h : CIn w1 A x.lines hs) => right_any A c n x hs w1 h hn hwf
  have HN := Lib.hid hn
  clear hc hn hwf
  cases hr : rightC x with
  | false =>
    have hL : lookC x t = (zeroL, false) := by unfold lookC; rw [if_neg (fun h => by rw [hr] at h; exact absurd h.1 (by decide))]
    rw [hL]
    rw [hr] at cR
    clear hr hL
    go_enter Try.func9, Try.ntmps9
    go_wp2_with fail
    generalize (w.alloc (.cells #[.int .i64 x.sets, .int .i64 x.ways, .int .i64 x.clock, .slice A n c] 26)).alloc (.cells #[.int .i64 0, .int .i64 0, .int .u32 0, .int .i64 0] 32) = W0 at *
    refine (cR _ HC.out).mono ?_
    rintro e w1 ⟨rfl, hb1⟩
    have HC1 := HC.out.below hb1
    have b1 := b0.trans (hb1.mono b0.size)
    replace x0 := (hb1.cell (p := ⟨w.heap.size, 0, none⟩) lt0).trans x0
    replace x1 := (hb1.cell (p := ⟨w.heap.size, 1, none⟩) lt0).trans x1
    replace x2 := (hb1.cell (p := ⟨w.heap.size, 2, none⟩) lt0).trans x2
    replace x3 := (hb1.cell (p := ⟨w.heap.size, 3, none⟩) lt0).trans x3
    replace z0 := (hb1.cell (p := ⟨w.heap.size + 1, 0, none⟩) lt1).trans z0
    replace f0 := (hb1.frozen (p := ⟨w.heap.size + 1, 0, none⟩) lt1).trans f0
    replace z1 := (hb1.cell (p := ⟨w.heap.size + 1, 1, none⟩) lt1).trans z1
    replace f1 := (hb1.frozen (p := ⟨w.heap.size + 1, 1, none⟩) lt1).trans f1
    replace z2 := (hb1.cell (p := ⟨w.heap.size + 1, 2, none⟩) lt1).trans z2
    replace f2 := (hb1.frozen (p := ⟨w.heap.size + 1, 2, none⟩) lt1).trans f2
    replace z3 := (hb1.cell (p := ⟨w.heap.size + 1, 3, none⟩) lt1).trans z3
    replace f3 := (hb1.frozen (p := ⟨w.heap.size + 1, 3, none⟩) lt1).trans f3
    replace lt0 := Nat.lt_of_lt_of_le lt0 hb1.size
    replace lt1 := Nat.lt_of_lt_of_le lt1 hb1.size
    clear cR
    go_wp2_with fail
    have bF := ((((b1.setCell (p := ⟨w.heap.size + 1, 0, none⟩) (Nat.le_succ _) (.int .i64 0)).setCell (p := ⟨w.heap.size + 1, 1, none⟩) (Nat.le_succ _) (.int .i64 0)).setCell (p := ⟨w.heap.size + 1, 2, none⟩) (Nat.le_succ _) (.int .u32 0)).setCell (p := ⟨w.heap.size + 1, 3, none⟩) (Nat.le_succ _) (.int .i64 0))
    exact bodyPost_ret (v := .tuple #[.agg #[.int .i64 zeroL.addr, .int .i64 zeroL.state, .int .u32 zeroL.val_, .int .i64 zeroL.used], .bool false]) (by simp [results, Try.results9, go_sem, z0, z1, z2, z3, zeroL]) rfl ⟨rfl, bF⟩
  | true =>
    by_cases ht : 0 ≤ t
    · obtain ⟨s, hst, hsn, h0⟩ := set_of hr ht
      have hn8 : x.lines.length ≤ 8 := by have := right_facts hr; omega
      have hL : lookC x t = (if idxA x.lines[s]! t < 0 then (zeroL, false) else (x.lines[s]![(idxA x.lines[s]! t).toNat]!, true)) := by
        unfold lookC setOf
        rw [if_pos ⟨hr, ht⟩, hst, Int.toNat_natCast]
      have cP := fun w1 (h : CIn w1 A x.lines hs) => place_any A c n s x hs t w1 h HN.out (by rw [← HN.out]; exact hsn) hst h0 (by have := HN.out; omega)
      have HSN := Lib.hid hsn
      have hsz : (s : Int) < (n : Int) := by have := HN.out; omega
      have z1' : decide (t < 0) = false := decide_eq_false (by omega)
      rw [hr] at cR
      clear hr hst h0 hsn
      rcases idxA_cases x.lines[s]! t with ⟨hi, hno⟩ | ⟨k, hk, hi, hka, hno⟩
      · rw [hi] at hL
        rw [hi] at cP
        rw [if_pos (by omega)] at hL
        rw [hL]
        clear hL hi hno
        go_enter Try.func9, Try.ntmps9
        go_wp2_with fail
        generalize (w.alloc (.cells #[.int .i64 x.sets, .int .i64 x.ways, .int .i64 x.clock, .slice A n c] 26)).alloc (.cells #[.int .i64 0, .int .i64 0, .int .u32 0, .int .i64 0] 32) = W0 at *
        refine (cR _ HC.out).mono ?_
        rintro e w1 ⟨rfl, hb1⟩
        have HC1 := HC.out.below hb1
        have b1 := b0.trans (hb1.mono b0.size)
        replace x0 := (hb1.cell (p := ⟨w.heap.size, 0, none⟩) lt0).trans x0
        replace x1 := (hb1.cell (p := ⟨w.heap.size, 1, none⟩) lt0).trans x1
        replace x2 := (hb1.cell (p := ⟨w.heap.size, 2, none⟩) lt0).trans x2
        replace x3 := (hb1.cell (p := ⟨w.heap.size, 3, none⟩) lt0).trans x3
        replace z0 := (hb1.cell (p := ⟨w.heap.size + 1, 0, none⟩) lt1).trans z0
        replace f0 := (hb1.frozen (p := ⟨w.heap.size + 1, 0, none⟩) lt1).trans f0
        replace z1 := (hb1.cell (p := ⟨w.heap.size + 1, 1, none⟩) lt1).trans z1
        replace f1 := (hb1.frozen (p := ⟨w.heap.size + 1, 1, none⟩) lt1).trans f1
        replace z2 := (hb1.cell (p := ⟨w.heap.size + 1, 2, none⟩) lt1).trans z2
        replace f2 := (hb1.frozen (p := ⟨w.heap.size + 1, 2, none⟩) lt1).trans f2
        replace z3 := (hb1.cell (p := ⟨w.heap.size + 1, 3, none⟩) lt1).trans z3
        replace f3 := (hb1.frozen (p := ⟨w.heap.size + 1, 3, none⟩) lt1).trans f3
        replace lt0 := Nat.lt_of_lt_of_le lt0 hb1.size
        replace lt1 := Nat.lt_of_lt_of_le lt1 hb1.size
        clear cR
        go_wp2_with fail
        have cQ := cP _ HC1
        clear cP
        refine cQ.mono ?_
        rintro e w2 ⟨rfl, hb2⟩
        replace HC1 := HC1.below hb2
        replace b1 := b1.trans (hb2.mono b1.size)
        replace x0 := (hb2.cell (p := ⟨w.heap.size, 0, none⟩) lt0).trans x0
        replace x1 := (hb2.cell (p := ⟨w.heap.size, 1, none⟩) lt0).trans x1
        replace x2 := (hb2.cell (p := ⟨w.heap.size, 2, none⟩) lt0).trans x2
        replace x3 := (hb2.cell (p := ⟨w.heap.size, 3, none⟩) lt0).trans x3
        replace z0 := (hb2.cell (p := ⟨w.heap.size + 1, 0, none⟩) lt1).trans z0
        replace f0 := (hb2.frozen (p := ⟨w.heap.size + 1, 0, none⟩) lt1).trans f0
        replace z1 := (hb2.cell (p := ⟨w.heap.size + 1, 1, none⟩) lt1).trans z1
        replace f1 := (hb2.frozen (p := ⟨w.heap.size + 1, 1, none⟩) lt1).trans f1
        replace z2 := (hb2.cell (p := ⟨w.heap.size + 1, 2, none⟩) lt1).trans z2
        replace f2 := (hb2.frozen (p := ⟨w.heap.size + 1, 2, none⟩) lt1).trans f2
        replace z3 := (hb2.cell (p := ⟨w.heap.size + 1, 3, none⟩) lt1).trans z3
        replace f3 := (hb2.frozen (p := ⟨w.heap.size + 1, 3, none⟩) lt1).trans f3
        go_wp2_with fail
        have bF := ((((b1.setCell (p := ⟨w.heap.size + 1, 0, none⟩) (Nat.le_succ _) (.int .i64 0)).setCell (p := ⟨w.heap.size + 1, 1, none⟩) (Nat.le_succ _) (.int .i64 0)).setCell (p := ⟨w.heap.size + 1, 2, none⟩) (Nat.le_succ _) (.int .u32 0)).setCell (p := ⟨w.heap.size + 1, 3, none⟩) (Nat.le_succ _) (.int .i64 0))
        exact bodyPost_ret (v := .tuple #[.agg #[.int .i64 zeroL.addr, .int .i64 zeroL.state, .int .u32 zeroL.val_, .int .i64 zeroL.used], .bool false]) (by simp [results, Try.results9, go_sem, z0, z1, z2, z3, zeroL]) rfl ⟨rfl, bF⟩
      · rw [hi] at hL
        rw [hi] at cP
        rw [if_neg (by omega), Int.toNat_natCast] at hL
        obtain ⟨y, hy⟩ : ∃ y, y = x.lines[s]![k]! := ⟨_, rfl⟩
        rw [← hy] at hL
        rw [hL]
        have HY := Lib.hid hy
        have HK := Lib.hid hk
        clear hL hi hk hka hno hy
        go_enter Try.func9, Try.ntmps9
        go_wp2_with fail
        generalize (w.alloc (.cells #[.int .i64 x.sets, .int .i64 x.ways, .int .i64 x.clock, .slice A n c] 26)).alloc (.cells #[.int .i64 0, .int .i64 0, .int .u32 0, .int .i64 0] 32) = W0 at *
        refine (cR _ HC.out).mono ?_
        rintro e w1 ⟨rfl, hb1⟩
        have HC1 := HC.out.below hb1
        have b1 := b0.trans (hb1.mono b0.size)
        replace x0 := (hb1.cell (p := ⟨w.heap.size, 0, none⟩) lt0).trans x0
        replace x1 := (hb1.cell (p := ⟨w.heap.size, 1, none⟩) lt0).trans x1
        replace x2 := (hb1.cell (p := ⟨w.heap.size, 2, none⟩) lt0).trans x2
        replace x3 := (hb1.cell (p := ⟨w.heap.size, 3, none⟩) lt0).trans x3
        replace z0 := (hb1.cell (p := ⟨w.heap.size + 1, 0, none⟩) lt1).trans z0
        replace f0 := (hb1.frozen (p := ⟨w.heap.size + 1, 0, none⟩) lt1).trans f0
        replace z1 := (hb1.cell (p := ⟨w.heap.size + 1, 1, none⟩) lt1).trans z1
        replace f1 := (hb1.frozen (p := ⟨w.heap.size + 1, 1, none⟩) lt1).trans f1
        replace z2 := (hb1.cell (p := ⟨w.heap.size + 1, 2, none⟩) lt1).trans z2
        replace f2 := (hb1.frozen (p := ⟨w.heap.size + 1, 2, none⟩) lt1).trans f2
        replace z3 := (hb1.cell (p := ⟨w.heap.size + 1, 3, none⟩) lt1).trans z3
        replace f3 := (hb1.frozen (p := ⟨w.heap.size + 1, 3, none⟩) lt1).trans f3
        replace lt0 := Nat.lt_of_lt_of_le lt0 hb1.size
        replace lt1 := Nat.lt_of_lt_of_le lt1 hb1.size
        clear cR
        go_wp2_with fail
        have cQ := cP _ HC1
        clear cP
        refine cQ.mono ?_
        rintro e w2 ⟨rfl, hb2⟩
        replace HC1 := HC1.below hb2
        replace b1 := b1.trans (hb2.mono b1.size)
        replace x0 := (hb2.cell (p := ⟨w.heap.size, 0, none⟩) lt0).trans x0
        replace x1 := (hb2.cell (p := ⟨w.heap.size, 1, none⟩) lt0).trans x1
        replace x2 := (hb2.cell (p := ⟨w.heap.size, 2, none⟩) lt0).trans x2
        replace x3 := (hb2.cell (p := ⟨w.heap.size, 3, none⟩) lt0).trans x3
        replace z0 := (hb2.cell (p := ⟨w.heap.size + 1, 0, none⟩) lt1).trans z0
        replace f0 := (hb2.frozen (p := ⟨w.heap.size + 1, 0, none⟩) lt1).trans f0
        replace z1 := (hb2.cell (p := ⟨w.heap.size + 1, 1, none⟩) lt1).trans z1
        replace f1 := (hb2.frozen (p := ⟨w.heap.size + 1, 1, none⟩) lt1).trans f1
        replace z2 := (hb2.cell (p := ⟨w.heap.size + 1, 2, none⟩) lt1).trans z2
        replace f2 := (hb2.frozen (p := ⟨w.heap.size + 1, 2, none⟩) lt1).trans f2
        replace z3 := (hb2.cell (p := ⟨w.heap.size + 1, 3, none⟩) lt1).trans z3
        replace f3 := (hb2.frozen (p := ⟨w.heap.size + 1, 3, none⟩) lt1).trans f3
        obtain ⟨bb, off, B2, m, c2, e1, hcell, hm, hmc, _, hsl⟩ := HC1.at_ s HSN.out
        subst e1
        obtain ⟨b2, o2, e2, hq⟩ := hsl.at_ k HK.out
        subst e2
        have hkm : (k : Int) < (m : Int) := by have := HK.out; omega
        have q0 := hq 0 _ rfl
        have q1 := hq 1 _ rfl
        have q2 := hq 2 _ rfl
        have q3 := hq 3 _ rfl
        rw [Nat.add_zero] at q0
        rw [← HY.out] at q0 q1 q2 q3
        clear hq hsl hm
        have bF := ((((b1.setCell (p := ⟨w.heap.size + 1, 0, none⟩) (Nat.le_succ _) (.int .i64 y.addr)).setCell (p := ⟨w.heap.size + 1, 1, none⟩) (Nat.le_succ _) (.int .i64 y.state)).setCell (p := ⟨w.heap.size + 1, 2, none⟩) (Nat.le_succ _) (.int .u32 y.val_)).setCell (p := ⟨w.heap.size + 1, 3, none⟩) (Nat.le_succ _) (.int .i64 y.used))
        have BF := Lib.hid bF
        clear bF
        go_wp2_with fail
        exact bodyPost_ret (v := .tuple #[.agg #[.int .i64 y.addr, .int .i64 y.state, .int .u32 y.val_, .int .i64 y.used], .bool true]) (by simp [results, Try.results9, go_sem, z0, z1, z2, z3]) rfl ⟨rfl, BF.out⟩
    · have hL : lookC x t = (zeroL, false) := by unfold lookC; rw [if_neg (fun h => ht h.2)]
      rw [hL]
      rw [hr] at cR
      have z1' : decide (t < 0) = true := decide_eq_true (by omega)
      clear hr hL
      go_enter Try.func9, Try.ntmps9
      go_wp2_with fail
      generalize (w.alloc (.cells #[.int .i64 x.sets, .int .i64 x.ways, .int .i64 x.clock, .slice A n c] 26)).alloc (.cells #[.int .i64 0, .int .i64 0, .int .u32 0, .int .i64 0] 32) = W0 at *
      refine (cR _ HC.out).mono ?_
      rintro e w1 ⟨rfl, hb1⟩
      have HC1 := HC.out.below hb1
      have b1 := b0.trans (hb1.mono b0.size)
      replace x0 := (hb1.cell (p := ⟨w.heap.size, 0, none⟩) lt0).trans x0
      replace x1 := (hb1.cell (p := ⟨w.heap.size, 1, none⟩) lt0).trans x1
      replace x2 := (hb1.cell (p := ⟨w.heap.size, 2, none⟩) lt0).trans x2
      replace x3 := (hb1.cell (p := ⟨w.heap.size, 3, none⟩) lt0).trans x3
      replace z0 := (hb1.cell (p := ⟨w.heap.size + 1, 0, none⟩) lt1).trans z0
      replace f0 := (hb1.frozen (p := ⟨w.heap.size + 1, 0, none⟩) lt1).trans f0
      replace z1 := (hb1.cell (p := ⟨w.heap.size + 1, 1, none⟩) lt1).trans z1
      replace f1 := (hb1.frozen (p := ⟨w.heap.size + 1, 1, none⟩) lt1).trans f1
      replace z2 := (hb1.cell (p := ⟨w.heap.size + 1, 2, none⟩) lt1).trans z2
      replace f2 := (hb1.frozen (p := ⟨w.heap.size + 1, 2, none⟩) lt1).trans f2
      replace z3 := (hb1.cell (p := ⟨w.heap.size + 1, 3, none⟩) lt1).trans z3
      replace f3 := (hb1.frozen (p := ⟨w.heap.size + 1, 3, none⟩) lt1).trans f3
      replace lt0 := Nat.lt_of_lt_of_le lt0 hb1.size
      replace lt1 := Nat.lt_of_lt_of_le lt1 hb1.size
      clear cR
      go_wp2_with fail
      have bF := ((((b1.setCell (p := ⟨w.heap.size + 1, 0, none⟩) (Nat.le_succ _) (.int .i64 0)).setCell (p := ⟨w.heap.size + 1, 1, none⟩) (Nat.le_succ _) (.int .i64 0)).setCell (p := ⟨w.heap.size + 1, 2, none⟩) (Nat.le_succ _) (.int .u32 0)).setCell (p := ⟨w.heap.size + 1, 3, none⟩) (Nat.le_succ _) (.int .i64 0))
      exact bodyPost_ret (v := .tuple #[.agg #[.int .i64 zeroL.addr, .int .i64 zeroL.state, .int .u32 zeroL.val_, .int .i64 zeroL.used], .bool false]) (by simp [results, Try.results9, go_sem, z0, z1, z2, z3, zeroL]) rfl ⟨rfl, bF⟩
end Go.Proofs.Ytdndanjabknjpaa
