/- The walk of cache.Right. -/
import Derived.Test.YtdndanjabknjpaaC
import Derived.Test.YtdndanjabknjpaaRg
namespace Go.Proofs.Ytdndanjabknjpaa
open Go.RowKit Go.Lib
set_option linter.unusedVariables false
attribute [local go_sem] Act.puts
structure RtUp (w0 : World) (BB M1 M2 Y q : Nat) (k1 k2 : Int) (ks us : List Int) (L : Nat → Bool) (u79 u80 u81 u82 u83 u84 : Value) (wz : World) : Prop where
  b : Below BB w0 wz
  s0 : L 0 = true → u79 = .map (some M1)
  s1 : L 1 = true → u80 = .pointer (some ⟨Y, 0, none⟩)
  s2 : L 2 = true → u81 = .int .i64 k1
  s3 : L 3 = true → u82 = .map (some M2)
  s4 : L 4 = true → u83 = .pointer (some ⟨Y, 3, none⟩)
  s5 : L 5 = true → u84 = .int .i64 k2
  c1 : wz.cell? ⟨Y, 0, none⟩ = some (.int .i64 k1)
  c2 : wz.cell? ⟨Y, 3, none⟩ = some (.int .i64 k2)
  m0 : L 6 = false → Seen wz M1 q ks
  m1 : L 6 = true → Seen wz M1 (q + 1) (k1 :: ks)
  n0 : L 7 = false → Seen wz M2 q us
  n1 : L 7 = true → Seen wz M2 (q + 1) (k2 :: us)
def RtUpPhi (w0 : World) (BB M1 M2 Y q : Nat) (k1 k2 : Int) (ks us : List Int) (L : Nat → Bool) (vs : List Value) (w' : World) : Prop :=
  ∃ u79 u80 u81 u82 u83 u84 wz, vs = [u79, u80, u81, u82, u83, u84] ∧ RtUp w0 BB M1 M2 Y q k1 k2 ks us L u79 u80 u81 u82 u83 u84 wz ∧ wz = w'

/-- Addresses are whole numbers of 64 bits. -/
def WfC (x : Ca) : Prop := ∀ s i, s < x.lines.length → i < x.lines[s]!.length → (Lit.int .i64 x.lines[s]![i]!.addr).wf = true
set_option maxHeartbeats 32000000 in
set_option maxRecDepth 100000 in
theorem right_any (A : Option Addr) (c n : Nat) (x : Ca) (hs : List Hd) (w : World) (hc : CIn w A x.lines hs) (hn : x.lines.length = n) (hwf : WfC x) :
    Calls Try.prog 22 #[.agg #[.int .i64 x.sets, .int .i64 x.ways, .int .i64 x.clock, .slice A n c]] w fun e w' => e = .returned (.bool (rightC x)) ∧ Below w.heap.size w w' := by
  have hmm := @run_makeMap Try.prog
  have b0 : Below w.heap.size w (w.alloc (.cells #[.int .i64 x.sets, .int .i64 x.ways, .int .i64 x.clock, .slice A n c] 26)) := (Below.refl _ _).alloc (Nat.le_refl _) _
  have x0 : (w.alloc (.cells #[.int .i64 x.sets, .int .i64 x.ways, .int .i64 x.clock, .slice A n c] 26)).cell? ⟨w.heap.size, 0, none⟩ = some (.int .i64 x.sets) := World.cell?_alloc_new (w := w) _ _ _
  have x1 : (w.alloc (.cells #[.int .i64 x.sets, .int .i64 x.ways, .int .i64 x.clock, .slice A n c] 26)).cell? ⟨w.heap.size, 1, none⟩ = some (.int .i64 x.ways) := World.cell?_alloc_new (w := w) _ _ _
  have x2 : (w.alloc (.cells #[.int .i64 x.sets, .int .i64 x.ways, .int .i64 x.clock, .slice A n c] 26)).cell? ⟨w.heap.size, 2, none⟩ = some (.int .i64 x.clock) := World.cell?_alloc_new (w := w) _ _ _
  have x3 : (w.alloc (.cells #[.int .i64 x.sets, .int .i64 x.ways, .int .i64 x.clock, .slice A n c] 26)).cell? ⟨w.heap.size, 3, none⟩ = some (.slice A n c) := World.cell?_alloc_new (w := w) _ _ _
  have ltx : w.heap.size < (w.alloc (.cells #[.int .i64 x.sets, .int .i64 x.ways, .int .i64 x.clock, .slice A n c] 26)).heap.size := by simp
  have cF := fun w1 => formed_any A c n x w1 hn
  have HC := Lib.hid hc
  have HN := Lib.hid hn
  have HWF := Lib.hid hwf
  clear hc hn hwf
  cases hf : formedB x with
  | false =>
    rw [hf] at cF
    have HF := Lib.hid (bad_formed hf)
    clear hf hmm
    go_enter Try.func22, Try.ntmps22
    go_wp2_with fail
    generalize w.alloc (.cells #[.int .i64 x.sets, .int .i64 x.ways, .int .i64 x.clock, .slice A n c] 26) = w0 at *
    refine (cF _).mono ?_
    rintro e w1 ⟨rfl, hb1⟩
    have b1 := b0.trans (hb1.mono b0.size)
    clear cF
    go_wp2_with fail
    go_ret
    rw [HF.out]
    exact ⟨rfl, b1⟩
  | true =>
    rw [hf] at cF
    have HF := Lib.hid hf
    have hfb : 1 ≤ x.sets ∧ x.sets ≤ 8 ∧ 1 ≤ x.ways ∧ x.ways ≤ 8 ∧ 0 ≤ x.clock ∧ x.clock ≤ 1099511627776 ∧ (n : Int) ≤ x.sets ∧ x.sets ≤ (n : Int) := by
      have := hf
      simp only [formedB, decide_eq_true_eq] at this
      rw [HN.out] at this
      omega
    obtain ⟨f1, f2, f3, f4, f5, f6, f7, f8⟩ := hfb
    clear hf
    go_enter Try.func22, Try.ntmps22
    go_wp2_with fail
    generalize w.alloc (.cells #[.int .i64 x.sets, .int .i64 x.ways, .int .i64 x.clock, .slice A n c] 26) = w0 at *
    refine (cF _).mono ?_
    rintro e w1 ⟨rfl, hb1⟩
    have b1 := b0.trans (hb1.mono b0.size)
    replace x0 := (hb1.cell (p := ⟨w.heap.size, 0, none⟩) ltx).trans x0
    replace x1 := (hb1.cell (p := ⟨w.heap.size, 1, none⟩) ltx).trans x1
    replace x2 := (hb1.cell (p := ⟨w.heap.size, 2, none⟩) ltx).trans x2
    replace x3 := (hb1.cell (p := ⟨w.heap.size, 3, none⟩) ltx).trans x3
    replace ltx := Nat.lt_of_lt_of_le ltx hb1.size
    clear cF hb1
    have sm1 := (Seen.made w1).below ((Below.refl _ _).alloc (Nat.le_refl _) (.map #[] 0))
    have sm2 := Seen.made (w1.alloc (.map #[] 0))
    have B1 : Below w1.heap.size w1 ((w1.alloc (.map #[] 0)).alloc (.map #[] 0)) := ((Below.refl _ _).alloc (Nat.le_refl _) _).alloc (by simp) _
    have hM2 : (w1.alloc (.map #[] 0)).heap.size = w1.heap.size + 1 := by simp
    rw [hM2] at sm2
    have S0 := SoFar.start x
    go_wp2_with fail
    clear hmm hM2
    obtain ⟨M1, hM1⟩ : ∃ M1, w1.heap.size = M1 := ⟨_, rfl⟩
    have hMa : M1 ≤ w1.heap.size := by omega
    have hMb : w1.heap.size ≤ M1 := by omega
    rw [hM1] at sm1 sm2 ⊢
    clear hM1
    generalize (w1.alloc (.map #[] 0)).alloc (.map #[] 0) = W2 at *
    go_loopg [17] n (fun gg s17 wr => ∃ s : Nat, s ≤ n ∧ n - s ≤ gg ∧ s17 = .int .i64 (s : Int) ∧ Aside (SoFar x s 0) ∧ Aside (Seen wr M1 (upC x s 0).length ((upC x s 0).map Ln.addr).reverse) ∧ Aside (Seen wr (M1 + 1) (upC x s 0).length ((upC x s 0).map Ln.used).reverse) ∧ Aside (Below w1.heap.size w1 wr))
    case atStart => exact ⟨0, Nat.zero_le _, by omega, rfl, S0, (show Aside _ from by rw [upC_zero]; exact sm1), (show Aside _ from by rw [upC_zero]; exact sm2), B1⟩
    case round =>
      clear sm1 sm2 B1 S0
      obtain ⟨s, hsn, hg, rfl, HSO, H1, H2, HB⟩ := hrel
      have B := HB.out
      have x0r := (B.cell (p := ⟨w.heap.size, 0, none⟩) ltx).trans x0
      have x1r := (B.cell (p := ⟨w.heap.size, 1, none⟩) ltx).trans x1
      have x2r := (B.cell (p := ⟨w.heap.size, 2, none⟩) ltx).trans x2
      have x3r := (B.cell (p := ⟨w.heap.size, 3, none⟩) ltx).trans x3
      by_cases hlt : s < n
      · have hltz : (s : Int) < (n : Int) := by omega
        have hsl : s < x.lines.length := by rw [HN.out]; exact hlt
        have HSL := Lib.hid hsl
        obtain ⟨bb, off, B2, m, c2, e1, hcell1, hm, hmc, _, hsl2⟩ := (HC.out.below b1).at_ s hsl
        subst e1
        have hcell := (B.cell (World.block_lt_of_cell? _ _ hcell1)).trans hcell1
        clear hcell1
        have HM := Lib.hid hm
        by_cases hw : (m : Int) ≤ x.ways
        · have hwz : ¬ x.ways < (m : Int) := by omega
          have HW := Lib.hid (show (x.lines[s]!.length : Int) ≤ x.ways by rw [hm]; exact hw)
          have hm8 : m ≤ 8 := by omega
          have HS2 := Lib.hid hsl2
          clear hm hsl2 hsl
          go_wp2_with fail
          go_loopg [29] m (fun gg s29 wq => ∃ i : Nat, i ≤ m ∧ m - i ≤ gg ∧ s29 = .int .i64 (i : Int) ∧ Aside (SoFar x s i) ∧ Aside (Seen wq M1 (upC x s i).length ((upC x s i).map Ln.addr).reverse) ∧ Aside (Seen wq (M1 + 1) (upC x s i).length ((upC x s i).map Ln.used).reverse) ∧ Aside (Below w1.heap.size w1 wq))
          case atStart => exact ⟨0, Nat.zero_le _, by omega, rfl, HSO, H1, H2, HB⟩
          case round =>
            clear HSO H1 H2 HB x0r x1r x2r x3r hcell
            obtain ⟨i, hi, hgi, rfl, HSO, H1, H2, HB⟩ := hrel
            have B := HB.out
            by_cases hil : i < m
            · have hilz : (i : Int) < (m : Int) := by omega
              have hi4 : i < x.lines[s]!.length := by rw [HM.out]; exact hil
              obtain ⟨b2, o2, e2, hq0⟩ := (HS2.out.below B).at_ i hi4
              have hwf := HWF.out s i HSL.out hi4
              have bad1 : ¬ okLine x s x.lines[s]![i]! → rightC x = false := bad_line HSL.out hi4
              have bad2 : x.lines[s]![i]!.addr ∈ (upC x s i).map Ln.addr → rightC x = false := bad_addr HSL.out hi4
              have bad3 : x.lines[s]![i]!.used ∈ (upC x s i).map Ln.used → rightC x = false := bad_used HSL.out hi4
              have nxt : okLine x s x.lines[s]![i]! → x.lines[s]![i]!.addr ∉ (upC x s i).map Ln.addr → x.lines[s]![i]!.used ∉ (upC x s i).map Ln.used → SoFar x s (i + 1) := HSO.out.next hi4
              have ups := upC_succ hi4
              have hlen := upC_len f4 s i (Nat.le_of_lt HSL.out) HSO.out.before (by omega)
              have q0 := hq0 0 _ rfl
              have q1 := hq0 1 _ rfl
              have q2 := hq0 2 _ rfl
              have q3 := hq0 3 _ rfl
              rw [Nat.add_zero] at q0
              subst e2
              clear hq0 hi4
              generalize x.lines[s]![i]! = y at *
              have x0r := (B.cell (p := ⟨w.heap.size, 0, none⟩) ltx).trans x0
              have x1r := (B.cell (p := ⟨w.heap.size, 1, none⟩) ltx).trans x1
              have x2r := (B.cell (p := ⟨w.heap.size, 2, none⟩) ltx).trans x2
              have ltr := Nat.lt_of_lt_of_le ltx B.size
              have hner : w.heap.size ≠ wr.heap.size := by omega
              have bF := (b1.trans (B.mono b1.size)).alloc (by omega) (.cells #[.int .i64 y.addr, .int .i64 y.state, .int .u32 y.val_, .int .i64 y.used] 32)
              have yb : Below wr.heap.size wr (wr.alloc (.cells #[.int .i64 y.addr, .int .i64 y.state, .int .u32 y.val_, .int .i64 y.used] 32)) := (Below.refl _ _).alloc (Nat.le_refl _) _
              have xa0 := (yb.cell (p := ⟨w.heap.size, 0, none⟩) ltr).trans x0r
              have xa2 := (yb.cell (p := ⟨w.heap.size, 2, none⟩) ltr).trans x2r
              have look1 := (H1.out.below yb).lookup hwf
              have S1 := Lib.hid (H1.out.below yb)
              have S2 := Lib.hid (H2.out.below yb)
              have hM1r := H1.out.lt
              have hM2r := H2.out.lt
              have BF := Lib.hid bF
              have BA := Lib.hid (B.alloc B.size (.cells #[.int .i64 y.addr, .int .i64 y.state, .int .u32 y.val_, .int .i64 y.used] 32))
              have NXT := Lib.hid nxt
              have UPS := Lib.hid ups
              clear nxt ups bF H1 H2 HSO yb x0r x1r x2r
              have hs0 : x.sets ≠ 0 := by omega
              have hs0b : (x.sets == 0) = false := by rw [beq_eq_false_iff_ne]; exact hs0
              by_cases g1 : y.addr < 0
              · have z1 : decide (y.addr < 0) = true := decide_eq_true g1
                have HF2 := Lib.hid (bad1 (fun h => by have := h.1; omega))
                go_wp2_with fail
                go_ret
                rw [HF2.out]
                exact ⟨rfl, BF.out⟩
              · have z1 : decide (y.addr < 0) = false := decide_eq_false g1
                obtain ⟨r, hr, hr0, hr8⟩ : ∃ r, y.addr.tmod x.sets = r ∧ 0 ≤ r ∧ r < 8 := by
                  rw [Int.tmod_eq_emod_of_nonneg (by omega)]
                  exact ⟨_, rfl, Int.emod_nonneg _ hs0, by have := Int.emod_lt_of_pos y.addr (show 0 < x.sets by omega); omega⟩
                have hrw : IntKind.i64.wrap r = r := IntWalk.i64_in _ (by omega)
                by_cases g2 : r ≠ (s : Int)
                · have z2 : (r != (s : Int)) = true := by rw [bne_iff_ne]; exact g2
                  have HF2 := Lib.hid (bad1 (fun h => g2 (by rw [← hr]; exact h.2.1)))
                  go_wp2_with fail
                  go_ret
                  rw [HF2.out]
                  exact ⟨rfl, BF.out⟩
                · have g2' : r = (s : Int) := by omega
                  have z2 : (r != (s : Int)) = false := by rw [bne_eq_false_iff_eq]; exact g2'
                  by_cases g3 : y.addr ∈ (upC x s i).map Ln.addr
                  · have HF2 := Lib.hid (bad2 g3)
                    rw [decide_eq_true (List.mem_reverse.2 g3)] at look1
                    clear g3
                    go_wp2_with fail
                    go_ret
                    rw [HF2.out]
                    exact ⟨rfl, BF.out⟩
                  · rw [decide_eq_false (fun h => g3 (List.mem_reverse.1 h))] at look1
                    by_cases g4 : y.state < 1
                    · have z4 : decide (y.state < 1) = true := decide_eq_true g4
                      have HF2 := Lib.hid (bad1 (fun h => by have := h.2.2.1; omega))
                      go_wp2_with fail
                      go_ret
                      rw [HF2.out]
                      exact ⟨rfl, BF.out⟩
                    · have z4 : decide (y.state < 1) = false := decide_eq_false g4
                      by_cases g5 : 4 < y.state
                      · have z5 : decide (4 < y.state) = true := decide_eq_true g5
                        have HF2 := Lib.hid (bad1 (fun h => by have := h.2.2.2.1; omega))
                        go_wp2_with fail
                        go_ret
                        rw [HF2.out]
                        exact ⟨rfl, BF.out⟩
                      · have z5 : decide (4 < y.state) = false := decide_eq_false g5
                        by_cases g6 : y.used < 1
                        · have z6 : decide (y.used < 1) = true := decide_eq_true g6
                          have HF2 := Lib.hid (bad1 (fun h => by have := h.2.2.2.2.1; omega))
                          go_wp2_with fail
                          go_ret
                          rw [HF2.out]
                          exact ⟨rfl, BF.out⟩
                        · have z6 : decide (y.used < 1) = false := decide_eq_false g6
                          by_cases g7 : x.clock < y.used
                          · have z7 : decide (x.clock < y.used) = true := decide_eq_true g7
                            have HF2 := Lib.hid (bad1 (fun h => by have := h.2.2.2.2.2; omega))
                            go_wp2_with fail
                            go_ret
                            rw [HF2.out]
                            exact ⟨rfl, BF.out⟩
                          · have z7 : decide (x.clock < y.used) = false := decide_eq_false g7
                            have hwu : (Lit.int .i64 y.used).wf = true := wf_int (by omega) (by omega)
                            have look2 := S2.out.lookup hwu
                            by_cases g8 : y.used ∈ (upC x s i).map Ln.used
                            · have HF2 := Lib.hid (bad3 g8)
                              rw [decide_eq_true (List.mem_reverse.2 g8)] at look2
                              clear g8
                              go_wp2_with fail
                              go_ret
                              rw [HF2.out]
                              exact ⟨rfl, BF.out⟩
                            · rw [decide_eq_false (fun h => g8 (List.mem_reverse.1 h))] at look2
                              have HNEW := Lib.hid (NXT.out ⟨by omega, by rw [hr]; exact g2', by omega, by omega, by omega, by omega⟩ g3 g8)
                              clear g3 g8 bad1 bad2 bad3 NXT g2 g2'
                              go_wp2_with fail
                              generalize hqn : (upC x s i).length = q at *
                              have hqm : q < maxLen := by unfold maxLen; omega
                              have yd0 : (wr.alloc (.cells #[.int .i64 y.addr, .int .i64 y.state, .int .u32 y.val_, .int .i64 y.used] 32)).drew.cell? ⟨wr.heap.size, 0, none⟩ = some (.int .i64 y.addr) := World.cell?_alloc_new (w := wr) _ _ _
                              have yd3 : (wr.alloc (.cells #[.int .i64 y.addr, .int .i64 y.state, .int .u32 y.val_, .int .i64 y.used] 32)).drew.cell? ⟨wr.heap.size, 3, none⟩ = some (.int .i64 y.used) := World.cell?_alloc_new (w := wr) _ _ _
                              have hwd : (wr.alloc (.cells #[.int .i64 y.addr, .int .i64 y.state, .int .u32 y.val_, .int .i64 y.used] 32)).drew.heap.size = wr.heap.size + 1 := by simp
                              have SD1 := S1.out.below (Below.refl _ _).drew
                              have SD2 := S2.out.below (Below.refl _ _).drew
                              have HQN := Lib.hid hqn
                              have hBs := B.size
                              clear hqn xa0 xa2 look1 look2
                              refine wp_region_rg (by kernel_rfl) (by kernel_rfl) [79, 80, 81, 82, 83, 84] (RtUpPhi (wr.alloc (.cells #[.int .i64 y.addr, .int .i64 y.state, .int .u32 y.val_, .int .i64 y.used] 32)).drew w1.heap.size M1 (M1 + 1) wr.heap.size q y.addr y.used ((upC x s i).map Ln.addr).reverse ((upC x s i).map Ln.used).reverse) ?h0 ⟨?q0, ?q1, ?q2, ?q3, ?q4, ?q5, ?q6, ?q7, trivial⟩ ?hend
                              case h0 => exact ⟨_, _, _, _, _, _, _, rfl, ⟨Below.refl _ _, (fun h => by cases h), (fun h => by cases h), (fun h => by cases h), (fun h => by cases h), (fun h => by cases h), (fun h => by cases h), (yd0), (yd3), (fun _ => SD1), (fun h => by cases h), (fun _ => SD2), (fun h => by cases h)⟩, rfl⟩
                              case q0 =>
                                rintro L vs w' K ⟨u79, u80, u81, u82, u83, u84, wz, rfl, φ, rfl⟩ hL hpre hcl hK G hG
                                simp [Region.binds, closedFrom] at hpre hcl
                                have hk := hK [(.map (some M1)), u80, u81, u82, u83, u84] wz ⟨_, _, _, _, _, _, wz, rfl,
                                  { b := φ.b,
                                    s0 := fun _ => rfl,
                                    s1 := fun h0 => φ.s1 (by simpa using h0),
                                    s2 := fun h0 => φ.s2 (by simpa using h0),
                                    s3 := fun h0 => φ.s3 (by simpa using h0),
                                    s4 := fun h0 => φ.s4 (by simpa using h0),
                                    s5 := fun h0 => φ.s5 (by simpa using h0),
                                    c1 := φ.c1,
                                    c2 := φ.c2,
                                    m0 := fun h0 => φ.m0 (by simpa using h0),
                                    m1 := fun h0 => φ.m1 (by simpa using h0),
                                    n0 := fun h0 => φ.n0 (by simpa using h0),
                                    n1 := fun h0 => φ.n1 (by simpa using h0) }, rfl⟩
                                refine hG ?_
                                clear hK φ hG
                                revert hk
                                go_simp
                                first | done | exact fun h => h
                              case q1 =>
                                rintro L vs w' K ⟨u79, u80, u81, u82, u83, u84, wz, rfl, φ, rfl⟩ hL hpre hcl hK G hG
                                simp [Region.binds, closedFrom] at hpre hcl
                                have hk := hK [u79, (.pointer (some ⟨wr.heap.size, 0, none⟩)), u81, u82, u83, u84] wz ⟨_, _, _, _, _, _, wz, rfl,
                                  { b := φ.b,
                                    s0 := fun h0 => φ.s0 (by simpa using h0),
                                    s1 := fun _ => rfl,
                                    s2 := fun h0 => φ.s2 (by simpa using h0),
                                    s3 := fun h0 => φ.s3 (by simpa using h0),
                                    s4 := fun h0 => φ.s4 (by simpa using h0),
                                    s5 := fun h0 => φ.s5 (by simpa using h0),
                                    c1 := φ.c1,
                                    c2 := φ.c2,
                                    m0 := fun h0 => φ.m0 (by simpa using h0),
                                    m1 := fun h0 => φ.m1 (by simpa using h0),
                                    n0 := fun h0 => φ.n0 (by simpa using h0),
                                    n1 := fun h0 => φ.n1 (by simpa using h0) }, rfl⟩
                                refine hG ?_
                                clear hK φ hG
                                revert hk
                                go_simp
                                first | done | exact fun h => h
                              case q2 =>
                                rintro L vs w' K ⟨u79, u80, u81, u82, u83, u84, wz, rfl, φ, rfl⟩ hL hpre hcl hK G hG
                                simp [Region.binds, closedFrom] at hpre hcl
                                have e1 := φ.s1 (by simp [hpre])
                                subst e1
                                have ce := φ.c1
                                have hk := hK [u79, (.pointer (some ⟨wr.heap.size, 0, none⟩)), (.int .i64 y.addr), u82, u83, u84] wz ⟨_, _, _, _, _, _, wz, rfl,
                                  { b := φ.b,
                                    s0 := fun h0 => φ.s0 (by simpa using h0),
                                    s1 := fun h0 => φ.s1 (by simpa using h0),
                                    s2 := fun _ => rfl,
                                    s3 := fun h0 => φ.s3 (by simpa using h0),
                                    s4 := fun h0 => φ.s4 (by simpa using h0),
                                    s5 := fun h0 => φ.s5 (by simpa using h0),
                                    c1 := φ.c1,
                                    c2 := φ.c2,
                                    m0 := fun h0 => φ.m0 (by simpa using h0),
                                    m1 := fun h0 => φ.m1 (by simpa using h0),
                                    n0 := fun h0 => φ.n0 (by simpa using h0),
                                    n1 := fun h0 => φ.n1 (by simpa using h0) }, rfl⟩
                                refine hG ?_
                                clear hK φ hG
                                revert hk
                                go_simp
                                first | done | exact fun h => h
                              case q3 =>
                                rintro L vs w' K ⟨u79, u80, u81, u82, u83, u84, wz, rfl, φ, rfl⟩ hL hpre hcl hK G hG
                                simp [Region.binds, closedFrom] at hpre hcl
                                have hk := hK [u79, u80, u81, (.map (some (M1 + 1))), u83, u84] wz ⟨_, _, _, _, _, _, wz, rfl,
                                  { b := φ.b,
                                    s0 := fun h0 => φ.s0 (by simpa using h0),
                                    s1 := fun h0 => φ.s1 (by simpa using h0),
                                    s2 := fun h0 => φ.s2 (by simpa using h0),
                                    s3 := fun _ => rfl,
                                    s4 := fun h0 => φ.s4 (by simpa using h0),
                                    s5 := fun h0 => φ.s5 (by simpa using h0),
                                    c1 := φ.c1,
                                    c2 := φ.c2,
                                    m0 := fun h0 => φ.m0 (by simpa using h0),
                                    m1 := fun h0 => φ.m1 (by simpa using h0),
                                    n0 := fun h0 => φ.n0 (by simpa using h0),
                                    n1 := fun h0 => φ.n1 (by simpa using h0) }, rfl⟩
                                refine hG ?_
                                clear hK φ hG
                                revert hk
                                go_simp
                                first | done | exact fun h => h
                              case q4 =>
                                rintro L vs w' K ⟨u79, u80, u81, u82, u83, u84, wz, rfl, φ, rfl⟩ hL hpre hcl hK G hG
                                simp [Region.binds, closedFrom] at hpre hcl
                                have hk := hK [u79, u80, u81, u82, (.pointer (some ⟨wr.heap.size, 3, none⟩)), u84] wz ⟨_, _, _, _, _, _, wz, rfl,
                                  { b := φ.b,
                                    s0 := fun h0 => φ.s0 (by simpa using h0),
                                    s1 := fun h0 => φ.s1 (by simpa using h0),
                                    s2 := fun h0 => φ.s2 (by simpa using h0),
                                    s3 := fun h0 => φ.s3 (by simpa using h0),
                                    s4 := fun _ => rfl,
                                    s5 := fun h0 => φ.s5 (by simpa using h0),
                                    c1 := φ.c1,
                                    c2 := φ.c2,
                                    m0 := fun h0 => φ.m0 (by simpa using h0),
                                    m1 := fun h0 => φ.m1 (by simpa using h0),
                                    n0 := fun h0 => φ.n0 (by simpa using h0),
                                    n1 := fun h0 => φ.n1 (by simpa using h0) }, rfl⟩
                                refine hG ?_
                                clear hK φ hG
                                revert hk
                                go_simp
                                first | done | exact fun h => h
                              case q5 =>
                                rintro L vs w' K ⟨u79, u80, u81, u82, u83, u84, wz, rfl, φ, rfl⟩ hL hpre hcl hK G hG
                                simp [Region.binds, closedFrom] at hpre hcl
                                have e4 := φ.s4 (by simp [hpre])
                                subst e4
                                have ce := φ.c2
                                have hk := hK [u79, u80, u81, u82, (.pointer (some ⟨wr.heap.size, 3, none⟩)), (.int .i64 y.used)] wz ⟨_, _, _, _, _, _, wz, rfl,
                                  { b := φ.b,
                                    s0 := fun h0 => φ.s0 (by simpa using h0),
                                    s1 := fun h0 => φ.s1 (by simpa using h0),
                                    s2 := fun h0 => φ.s2 (by simpa using h0),
                                    s3 := fun h0 => φ.s3 (by simpa using h0),
                                    s4 := fun h0 => φ.s4 (by simpa using h0),
                                    s5 := fun _ => rfl,
                                    c1 := φ.c1,
                                    c2 := φ.c2,
                                    m0 := fun h0 => φ.m0 (by simpa using h0),
                                    m1 := fun h0 => φ.m1 (by simpa using h0),
                                    n0 := fun h0 => φ.n0 (by simpa using h0),
                                    n1 := fun h0 => φ.n1 (by simpa using h0) }, rfl⟩
                                refine hG ?_
                                clear hK φ hG
                                revert hk
                                go_simp
                                first | done | exact fun h => h
                              case q6 =>
                                rintro L vs w' K ⟨u79, u80, u81, u82, u83, u84, wz, rfl, φ, rfl⟩ hL hpre hcl hK G hG
                                simp [Region.binds, closedFrom] at hpre hcl
                                have e0 := φ.s0 (by simp [hpre])
                                subst e0
                                have e2 := φ.s2 (by simp [hpre])
                                subst e2
                                obtain ⟨w9, hup, sm9, g9⟩ := (φ.m0 hL).update hwf hqm
                                have hbs := φ.b.size
                                have hk := hK [(.map (some M1)), u80, (.int .i64 y.addr), u82, u83, u84] w9 ⟨_, _, _, _, _, _, w9, rfl,
                                  { b := φ.b.grown g9 (by omega) (fun k hk => by injection hk with hk; omega),
                                    s0 := fun h0 => φ.s0 (by simpa using h0),
                                    s1 := fun h0 => φ.s1 (by simpa using h0),
                                    s2 := fun h0 => φ.s2 (by simpa using h0),
                                    s3 := fun h0 => φ.s3 (by simpa using h0),
                                    s4 := fun h0 => φ.s4 (by simpa using h0),
                                    s5 := fun h0 => φ.s5 (by simpa using h0),
                                    c1 := g9.cell φ.c1 (by simp; omega),
                                    c2 := g9.cell φ.c2 (by simp; omega),
                                    m0 := fun h => by simp at h,
                                    m1 := fun _ => sm9,
                                    n0 := fun h => (φ.n0 (by simpa using h)).grown g9 (by omega),
                                    n1 := fun h => (φ.n1 (by simpa using h)).grown g9 (by omega) }, rfl⟩
                                refine hG ?_
                                clear hK φ hG
                                revert hk
                                go_simp
                                first | done | exact fun h => h
                              case q7 =>
                                rintro L vs w' K ⟨u79, u80, u81, u82, u83, u84, wz, rfl, φ, rfl⟩ hL hpre hcl hK G hG
                                simp [Region.binds, closedFrom] at hpre hcl
                                have e3 := φ.s3 (by simp [hpre])
                                subst e3
                                have e5 := φ.s5 (by simp [hpre])
                                subst e5
                                obtain ⟨w9, hup, sm9, g9⟩ := (φ.n0 hL).update hwu hqm
                                have hbs := φ.b.size
                                have hk := hK [u79, u80, u81, (.map (some (M1 + 1))), u83, (.int .i64 y.used)] w9 ⟨_, _, _, _, _, _, w9, rfl,
                                  { b := φ.b.grown g9 (by omega) (fun k hk => by injection hk with hk; omega),
                                    s0 := fun h0 => φ.s0 (by simpa using h0),
                                    s1 := fun h0 => φ.s1 (by simpa using h0),
                                    s2 := fun h0 => φ.s2 (by simpa using h0),
                                    s3 := fun h0 => φ.s3 (by simpa using h0),
                                    s4 := fun h0 => φ.s4 (by simpa using h0),
                                    s5 := fun h0 => φ.s5 (by simpa using h0),
                                    c1 := g9.cell φ.c1 (by simp; omega),
                                    c2 := g9.cell φ.c2 (by simp; omega),
                                    m0 := fun h => (φ.m0 (by simpa using h)).grown g9 (by omega),
                                    m1 := fun h => (φ.m1 (by simpa using h)).grown g9 (by omega),
                                    n0 := fun h => by simp at h,
                                    n1 := fun _ => sm9 }, rfl⟩
                                refine hG ?_
                                clear hK φ hG
                                revert hk
                                go_simp
                                first | done | exact fun h => h
                              case hend =>
                                rintro vs w' ⟨u79, u80, u81, u82, u83, u84, wz, rfl, φ, rfl⟩ G hG
                                have t1 := φ.m1 rfl
                                have t2 := φ.n1 rfl
                                have b9 := φ.b
                                clear φ
                                refine hG ?_
                                clear hG
                                have T1 := Lib.hid t1
                                have T2 := Lib.hid t2
                                have B9 := Lib.hid ((BA.out.drew).trans b9)
                                clear t1 t2 b9 SD1 SD2 yd0 yd3
                                go_simp
                                go_wp2_with fail
                                go_roundg (m - (i + 1))
                                case measure => omega
                                case rel =>
                                  refine ⟨i + 1, by omega, by omega, by go_num, (show Aside _ from HNEW.out), ?_, ?_, (show Aside _ from B9.out)⟩
                                  · show Seen _ _ _ _
                                    rw [UPS.out, List.map_append, List.reverse_append, List.length_append, HQN.out]
                                    exact T1.out
                                  · show Seen _ _ _ _
                                    rw [UPS.out, List.map_append, List.reverse_append, List.length_append, HQN.out]
                                    exact T2.out
            · obtain rfl : i = m := by omega
              have hilz : ¬ (i : Int) < (i : Int) := by omega
              have HSO2 := Lib.hid (show SoFar x (s + 1) 0 from SoFar.set (by rw [HM.out]; exact HSO.out) HSL.out HW.out)
              have hupa : upC x (s + 1) 0 = upC x s i := by rw [upC_zero, ← upC_all HSL.out, HM.out]
              have HUPA := Lib.hid hupa
              clear hupa
              go_wp2_with fail
              go_roundg (n - (s + 1))
              case measure => omega
              case rel => exact ⟨s + 1, by omega, by omega, by go_num, (show Aside _ from HSO2.out), (show Aside _ from by rw [HUPA.out]; exact H1.out), (show Aside _ from by rw [HUPA.out]; exact H2.out), (show Aside _ from HB.out)⟩
        · have hwz : x.ways < (m : Int) := by omega
          have HF2 := Lib.hid (bad_ways hsl (by rw [hm]; exact hw))
          have bF := b1.trans (B.mono b1.size)
          clear hm hsl2 hsl
          go_wp2_with fail
          go_ret
          rw [HF2.out]
          exact ⟨rfl, bF⟩
      · obtain rfl : s = n := by omega
        have hltz : ¬ (s : Int) < (s : Int) := by omega
        have HF2 := Lib.hid (HSO.out.right HN.out.symm HF.out)
        have bF := b1.trans (B.mono b1.size)
        go_wp2_with fail
        go_ret
        rw [HF2.out]
        exact ⟨rfl, bF⟩
end Go.Proofs.Ytdndanjabknjpaa
