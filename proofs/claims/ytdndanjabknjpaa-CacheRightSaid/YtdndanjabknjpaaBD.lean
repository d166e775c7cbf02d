/- The walk of the reference's Right. -/
import Derived.Test.YtdndanjabknjpaaBC
namespace Go.Proofs.Ytdndanjabknjpaa
open Go.RowKit Go.Lib

set_option linter.unusedVariables false
theorem pair_nodup {l : List Ln} {f : Ln → Int} (h : ∀ a b, b < a → a < l.length → f l[a]! ≠ f l[b]!) : (l.map f).Nodup := by
  rw [List.Nodup, List.pairwise_map, List.pairwise_iff_getElem]
  intro i j hi hj hij e
  have := h j i hij hj
  rw [getElem!_pos l i hi, getElem!_pos l j hj] at this
  exact this e.symm
theorem nodup_pair {l : List Ln} {f : Ln → Int} (h : (l.map f).Nodup) {a b : Nat} (hab : b < a) (ha : a < l.length) : f l[a]! ≠ f l[b]! := by
  rw [List.Nodup, List.pairwise_map, List.pairwise_iff_getElem] at h
  have := h b a (by omega) ha hab
  rw [getElem!_pos l a ha, getElem!_pos l b (by omega)]
  exact Ne.symm this
set_option maxHeartbeats 16000000 in
set_option maxRecDepth 100000 in
theorem rRight_any (A : Option Addr) (c n : Nat) (x : Ca) (hs : List Hd) (w : World) (hc : CIn w A x.lines hs) (hn : x.lines.length = n) :
    Calls Try.prog 23 #[.agg #[.int .i64 x.sets, .int .i64 x.ways, .int .i64 x.clock, .slice A n c]] w fun e w' => e = .returned (.bool (rightC x)) ∧ Below w.heap.size w w' := by
  have b0 : Below w.heap.size w (w.alloc (.cells #[.int .i64 x.sets, .int .i64 x.ways, .int .i64 x.clock, .slice A n c] 26)) := (Below.refl _ _).alloc (Nat.le_refl _) _
  have X := Bx.new w [.int .i64 x.sets, .int .i64 x.ways, .int .i64 x.clock, .slice A n c] 26
  have x0 := X.cell 0 _ rfl
  have x1 := X.cell 1 _ rfl
  have x2 := X.cell 2 _ rfl
  have x3 := X.cell 3 _ rfl
  have HC := Lib.hid (hc.below b0)
  have HN := Lib.hid hn
  obtain ⟨r, hr⟩ : ∃ r, rightC x = r := ⟨_, rfl⟩
  rw [hr]
  have HR := Lib.hid hr
  have bad : ¬ (1 ≤ x.sets ∧ x.sets ≤ 8 ∧ 1 ≤ x.ways ∧ x.ways ≤ 8 ∧ 0 ≤ x.clock ∧ x.clock ≤ 1099511627776 ∧ (n : Int) = x.sets) → r = false := fun h => by
    rw [← HR.out, ← Bool.not_eq_true]
    intro h2
    have := right_facts h2
    rw [HN.out] at this
    exact h this
  have fb : (1 ≤ x.sets ∧ x.sets ≤ 8 ∧ 1 ≤ x.ways ∧ x.ways ≤ 8 ∧ 0 ≤ x.clock ∧ x.clock ≤ 1099511627776 ∧ (n : Int) = x.sets) → formedB x = true := fun h => by
    simpa only [formedB, decide_eq_true_eq, HN.out] using h
  have FB := Lib.hid fb
  clear hr hc hn fb
  by_cases h0 : x.sets < 1
  · have q0 : decide (x.sets < 1) = true := decide_eq_true h0
    obtain rfl := bad (by omega)
    clear bad
    go_enter Try.func23, Try.ntmps23
    go_wp2_with fail
    go_ret
    exact ⟨rfl, b0⟩
  · have q0 : decide (x.sets < 1) = false := decide_eq_false h0
    by_cases h1 : 8 < x.sets
    · have q1 : decide (8 < x.sets) = true := decide_eq_true h1
      obtain rfl := bad (by omega)
      clear bad
      go_enter Try.func23, Try.ntmps23
      go_wp2_with fail
      go_ret
      exact ⟨rfl, b0⟩
    · have q1 : decide (8 < x.sets) = false := decide_eq_false h1
      by_cases h2 : x.ways < 1
      · have q2 : decide (x.ways < 1) = true := decide_eq_true h2
        obtain rfl := bad (by omega)
        clear bad
        go_enter Try.func23, Try.ntmps23
        go_wp2_with fail
        go_ret
        exact ⟨rfl, b0⟩
      · have q2 : decide (x.ways < 1) = false := decide_eq_false h2
        by_cases h3 : 8 < x.ways
        · have q3 : decide (8 < x.ways) = true := decide_eq_true h3
          obtain rfl := bad (by omega)
          clear bad
          go_enter Try.func23, Try.ntmps23
          go_wp2_with fail
          go_ret
          exact ⟨rfl, b0⟩
        · have q3 : decide (8 < x.ways) = false := decide_eq_false h3
          by_cases h4 : x.clock < 0
          · have q4 : decide (x.clock < 0) = true := decide_eq_true h4
            obtain rfl := bad (by omega)
            clear bad
            go_enter Try.func23, Try.ntmps23
            go_wp2_with fail
            go_ret
            exact ⟨rfl, b0⟩
          · have q4 : decide (x.clock < 0) = false := decide_eq_false h4
            by_cases h5 : 1099511627776 < x.clock
            · have q5 : decide (1099511627776 < x.clock) = true := decide_eq_true h5
              obtain rfl := bad (by omega)
              clear bad
              go_enter Try.func23, Try.ntmps23
              go_wp2_with fail
              go_ret
              exact ⟨rfl, b0⟩
            · have q5 : decide (1099511627776 < x.clock) = false := decide_eq_false h5
              by_cases h6 : (n : Int) = x.sets
              · have q6 : ((n : Int) != x.sets) = false := by rw [bne_eq_false_iff_eq]; exact h6
                have hform := FB.out ⟨by omega, by omega, by omega, by omega, by omega, by omega, h6⟩
                have HFORM := Lib.hid hform
                have hn8 : n ≤ 8 := by omega
                have hsz0 := b0.size
                have h0b : (x.sets == 0) = false := by rw [beq_eq_false_iff_ne]; omega
                clear bad hform
                go_enter Try.func23, Try.ntmps23
                go_wp2_with fail
                generalize w.alloc (.cells #[.int .i64 x.sets, .int .i64 x.ways, .int .i64 x.clock, .slice A n c] 26) = W1 at *
                clear x0 x1 x2 x3
                go_loopg [3] n (fun gg s3 wr => ∃ s : Nat, s ≤ n ∧ n - s ≤ gg ∧ s3 = .int .i64 (s : Int) ∧ Aside (∀ t, t < s → okSet x t) ∧ Aside (Below W1.heap.size W1 wr))
                case atStart => exact ⟨0, Nat.zero_le _, by omega, rfl, (show Aside _ from fun t ht => absurd ht (Nat.not_lt_zero _)), (show Aside _ from Below.refl _ _)⟩
                case round =>
                  obtain ⟨s, hsn, hgs, rfl, HSR, HB⟩ := hrel
                  have XB := X.below HB.out
                  have x0 := XB.cell 0 _ rfl
                  have x1 := XB.cell 1 _ rfl
                  have x2 := XB.cell 2 _ rfl
                  have x3 := XB.cell 3 _ rfl
                  have bF := b0.trans (HB.out.mono hsz0)
                  by_cases hlt : s < n
                  · have hltz : (s : Int) < x.sets := by omega
                    have hltn : (s : Int) < (n : Int) := by omega
                    obtain ⟨bb, off, B2, m, c2, e1, hcell, hm, hmc, _, hsl⟩ := (HC.out.below HB.out).at_ s (by rw [HN.out]; exact hlt)
                    subst e1
                    have hbig := hsl.big
                    rw [hm] at hbig
                    have HM := Lib.hid hm
                    have HSL := Lib.hid hsl
                    clear hm hsl hmc
                    by_cases hw : x.ways < (m : Int)
                    · have hwd : decide (x.ways < (m : Int)) = true := decide_eq_true hw
                      obtain rfl : r = false := by
                        rw [← HR.out]
                        refine decide_eq_false fun h => ?_
                        have h0 := (h.sets s (by rw [HN.out]; exact hlt)).1
                        rw [HM.out] at h0
                        omega
                      go_wp2_with fail
                      go_quiet (fail)
                      go_wp2_with fail
                      go_ret
                      exact ⟨rfl, bdrewN bF _⟩
                    · have hwd : decide (x.ways < (m : Int)) = false := decide_eq_false hw
                      have HW : Hid ((m : Int) ≤ x.ways) := Lib.hid (by omega)
                      have hm8 : m ≤ 8 := by omega
                      clear hbig hw
                      go_wp2_with fail
                      go_quiet (fail)
                      go_wp2_with fail
                      have HSL2 := Lib.hid (HSL.out.below (bdrewN (Below.refl _ _) nq))
                      have XB2 := XB.below (bdrewN (Below.refl _ _) nq)
                      have hcell2 : (wr.drewN nq).cell? ⟨bb, off + s, none⟩ = some (.slice B2 m c2) := by rw [← hcell]; exact (bdrewN (Below.refl wr.heap.size wr) nq).cell (World.block_lt_of_cell? _ _ hcell)
                      have HB2 := Lib.hid (bdrewN HB.out nq)
                      clear x0 x1 x2 x3 hcell hwd
                      generalize wr.drewN nq = W2 at *
                      clear bF
                      go_loopg [4] m (fun gg s4 wr => ∃ i : Nat, i ≤ m ∧ m - i ≤ gg ∧ s4 = .int .i64 (i : Int) ∧ Aside (∀ j, j < i → okLine x s x.lines[s]![j]!) ∧ Aside (Below W2.heap.size W2 wr))
                      case atStart => exact ⟨0, Nat.zero_le _, by omega, rfl, (show Aside _ from fun j hj => absurd hj (Nat.not_lt_zero _)), (show Aside _ from Below.refl _ _)⟩
                      case round =>
                        obtain ⟨i, him, hgi, rfl, HIR, HB3⟩ := hrel
                        have XB3 := XB2.below HB3.out
                        have x0 := XB3.cell 0 _ rfl
                        have x1 := XB3.cell 1 _ rfl
                        have x2 := XB3.cell 2 _ rfl
                        have x3 := XB3.cell 3 _ rfl
                        have hcell3 := (HB3.out.cell (p := ⟨bb, off + s, none⟩) (World.block_lt_of_cell? _ _ hcell2)).trans hcell2
                        by_cases hilt : i < m
                        · have hiltz : (i : Int) < (m : Int) := by omega
                          have hil : i < x.lines[s]!.length := by rw [HM.out]; exact hilt
                          obtain ⟨b2, o2, e2, hq⟩ := (HSL2.out.below HB3.out).at_ i hil
                          have y0 := hq 0 _ rfl
                          have y1 := hq 1 _ rfl
                          have y2 := hq 2 _ rfl
                          have y3 := hq 3 _ rfl
                          rw [Nat.add_zero] at y0
                          subst e2
                          obtain ⟨q, hqq⟩ : ∃ q, x.lines[s]![i]! = q := ⟨_, rfl⟩
                          rw [hqq] at y0 y1 y2 y3
                          have HQ := Lib.hid hqq
                          have LB := Bx.new wr [.int .i64 q.addr, .int .i64 q.state, .int .u32 q.val_, .int .i64 q.used] 32
                          have l0 := LB.cell 0 _ rfl
                          have l1 := LB.cell 1 _ rfl
                          have l3 := LB.cell 3 _ rfl
                          have XB4 := XB3.alloc (.cells #[.int .i64 q.addr, .int .i64 q.state, .int .u32 q.val_, .int .i64 q.used] 32)
                          have xx0 := XB4.cell 0 _ rfl
                          have xx2 := XB4.cell 2 _ rfl
                          have bN := Lib.hid (HB3.out.alloc HB3.out.size (.cells #[.int .i64 q.addr, .int .i64 q.state, .int .u32 q.val_, .int .i64 q.used] 32))
                          have bF := (b0.trans (HB2.out.mono hsz0)).trans (bN.out.mono (b0.trans (HB2.out.mono hsz0)).size)
                          have htw : 0 ≤ q.addr → IntKind.i64.wrap (q.addr.tmod x.sets) = q.addr.tmod x.sets := fun h => by
                            refine IntWalk.i64_in _ ?_
                            rw [Int.tmod_eq_emod_of_nonneg h]
                            have h1 := Int.emod_nonneg q.addr (show x.sets ≠ 0 by omega)
                            have h2 := Int.emod_lt_of_pos q.addr (show 0 < x.sets by omega)
                            omega
                          have HTW := Lib.hid htw
                          clear hq hqq LB XB4 htw
                          by_cases k0 : q.addr < 0
                          · have p0 : decide (q.addr < 0) = true := decide_eq_true k0
                            obtain rfl : r = false := by
                              rw [← HR.out]
                              refine decide_eq_false fun h => ?_
                              have h0 := (h.sets s (by rw [HN.out]; exact hlt)).2 i hil
                              rw [HQ.out] at h0
                              unfold okLine at h0
                              omega
                            clear HQ HIR
                            go_wp2_with fail
                            go_ret
                            exact ⟨rfl, bF⟩
                          · have p0 : decide (q.addr < 0) = false := decide_eq_false k0
                            obtain ⟨rm, hrmA, hrmB⟩ : ∃ rm, q.addr.tmod x.sets = rm ∧ q.addr % x.sets = rm := ⟨_, rfl, (Int.tmod_eq_emod_of_nonneg (by omega)).symm⟩
                            have htw0 := HTW.out (by omega)
                            rw [hrmA] at htw0
                            have HTW := Lib.hid htw0
                            clear htw0
                            by_cases k1 : rm = (s : Int)
                            · have p1 : (rm != (s : Int)) = false := by rw [bne_eq_false_iff_eq]; exact k1
                              by_cases k2 : q.state < 1
                              · have p2 : decide (q.state < 1) = true := decide_eq_true k2
                                obtain rfl : r = false := by
                                  rw [← HR.out]
                                  refine decide_eq_false fun h => ?_
                                  have h0 := (h.sets s (by rw [HN.out]; exact hlt)).2 i hil
                                  rw [HQ.out] at h0
                                  unfold okLine at h0
                                  omega
                                clear HQ HIR
                                have htw := HTW.out
                                go_wp2_with fail
                                go_ret
                                exact ⟨rfl, bF⟩
                              · have p2 : decide (q.state < 1) = false := decide_eq_false k2
                                by_cases k3 : 4 < q.state
                                · have p3 : decide (4 < q.state) = true := decide_eq_true k3
                                  obtain rfl : r = false := by
                                    rw [← HR.out]
                                    refine decide_eq_false fun h => ?_
                                    have h0 := (h.sets s (by rw [HN.out]; exact hlt)).2 i hil
                                    rw [HQ.out] at h0
                                    unfold okLine at h0
                                    omega
                                  clear HQ HIR
                                  have htw := HTW.out
                                  go_wp2_with fail
                                  go_ret
                                  exact ⟨rfl, bF⟩
                                · have p3 : decide (4 < q.state) = false := decide_eq_false k3
                                  by_cases k4 : q.used < 1
                                  · have p4 : decide (q.used < 1) = true := decide_eq_true k4
                                    obtain rfl : r = false := by
                                      rw [← HR.out]
                                      refine decide_eq_false fun h => ?_
                                      have h0 := (h.sets s (by rw [HN.out]; exact hlt)).2 i hil
                                      rw [HQ.out] at h0
                                      unfold okLine at h0
                                      omega
                                    clear HQ HIR
                                    have htw := HTW.out
                                    go_wp2_with fail
                                    go_ret
                                    exact ⟨rfl, bF⟩
                                  · have p4 : decide (q.used < 1) = false := decide_eq_false k4
                                    by_cases k5 : x.clock < q.used
                                    · have p5 : decide (x.clock < q.used) = true := decide_eq_true k5
                                      obtain rfl : r = false := by
                                        rw [← HR.out]
                                        refine decide_eq_false fun h => ?_
                                        have h0 := (h.sets s (by rw [HN.out]; exact hlt)).2 i hil
                                        rw [HQ.out] at h0
                                        unfold okLine at h0
                                        omega
                                      clear HQ HIR
                                      have htw := HTW.out
                                      go_wp2_with fail
                                      go_ret
                                      exact ⟨rfl, bF⟩
                                    · have p5 : decide (x.clock < q.used) = false := decide_eq_false k5
                                      have hok : okLine x s q := by unfold okLine; omega
                                      have HOK := Lib.hid hok
                                      have htw := HTW.out
                                      clear hok k0 k1 k2 k3 k4 k5
                                      go_wp2_with fail
                                      go_roundg (m - (i + 1))
                                      case measure => omega
                                      case rel =>
                                        refine ⟨i + 1, by omega, by omega, by first | rfl | go_num, (show Aside _ from fun j hj => ?_), (show Aside _ from bN.out)⟩
                                        by_cases e : j = i
                                        · subst e; rw [HQ.out]; exact HOK.out
                                        · exact HIR.out j (by omega)
                            · have p1 : (rm != (s : Int)) = true := by rw [bne_iff_ne]; exact k1
                              obtain rfl : r = false := by
                                rw [← HR.out]
                                refine decide_eq_false fun h => ?_
                                have h0 := (h.sets s (by rw [HN.out]; exact hlt)).2 i hil
                                rw [HQ.out] at h0
                                unfold okLine at h0
                                omega
                              clear HQ HIR
                              have htw := HTW.out
                              go_wp2_with fail
                              go_ret
                              exact ⟨rfl, bF⟩
                        · obtain rfl : i = m := by omega
                          have hiltz : ¬ (i : Int) < (i : Int) := by omega
                          have hok : okSet x s := ⟨by rw [HM.out]; exact HW.out, fun j hj => HIR.out j (by rw [← HM.out]; exact hj)⟩
                          have HOK := Lib.hid hok
                          clear hok
                          go_wp2_with fail
                          go_roundg (n - (s + 1))
                          case measure => omega
                          case rel =>
                            refine ⟨s + 1, by omega, by omega, by first | rfl | go_num, (show Aside _ from fun t ht => ?_), (show Aside _ from HB2.out.trans (HB3.out.mono HB2.out.size))⟩
                            by_cases e : t = s
                            · subst e; exact HOK.out
                            · exact HSR.out t (by omega)
                  · obtain rfl : s = n := by omega
                    have hltz : ¬ (s : Int) < x.sets := by omega
                    have hall : ∀ t, t < x.lines.length → okSet x t := fun t ht => HSR.out t (by rw [← HN.out]; exact ht)
                    have hT64 : x.lines.flatten.length ≤ 72 := by
                      have := upC_len (x := x) (by omega) x.lines.length 0 (Nat.le_refl _) hall (by omega)
                      have hns := HN.out
                      rw [upC_zero, List.take_of_length_le (Nat.le_refl _)] at this
                      omega
                    have HALL := Lib.hid hall
                    have cF := fun w1 (h : CIn w1 A x.lines hs) => flat_any A c s x hs w1 h HN.out (by omega)
                    have HCB := HC.out.below HB.out
                    obtain ⟨wo, rfl⟩ : ∃ wo, wo = wr := ⟨_, rfl⟩
                    clear hall
                    go_wp2_with fail
                    refine (cF _ HCB).mono ?_
                    rintro e w2 ⟨v2, rfl, own2, hb2⟩
                    obtain ⟨l, hl⟩ : ∃ l, l = x.lines.flatten := ⟨_, rfl⟩
                    rw [← hl] at own2 hT64
                    have HLL := Lib.hid hl
                    obtain ⟨T, hT⟩ : ∃ T, l.length = T := ⟨_, rfl⟩
                    rw [hT] at own2 hT64
                    have HT := Lib.hid hT
                    obtain ⟨A2, c2, rfl⟩ := own_shape own2
                    have HSL := Lib.hid (Sl.of_own Ln.enc_len own2 hT)
                    replace bF := bF.trans (hb2.mono bF.size)
                    clear cF HCB own2 hb2 hT hl x0 x1 x2 x3 XB
                    go_wp2_with fail
                    go_loopg [7] T (fun gg s7 wr => ∃ i : Nat, i ≤ T ∧ T - i ≤ gg ∧ s7 = .int .i64 (i : Int) ∧ Aside (∀ a b, b < a → a < i → l[a]!.addr ≠ l[b]!.addr ∧ l[a]!.used ≠ l[b]!.used) ∧ Aside (Below w2.heap.size w2 wr))
                    case atStart => exact ⟨0, Nat.zero_le _, by omega, rfl, (show Aside _ from fun a b _ h => absurd h (Nat.not_lt_zero _)), (show Aside _ from Below.refl _ _)⟩
                    case round =>
                      obtain ⟨i, hiT, hgi, rfl, HP, HB3⟩ := hrel
                      by_cases hit : i < T
                      · have hitz : (i : Int) < (T : Int) := by omega
                        go_wp2_with fail
                        obtain ⟨w3, rfl⟩ : ∃ w3, w3 = wr := ⟨_, rfl⟩
                        go_loopg [8] i (fun gg s8 wr => ∃ k : Nat, k ≤ i ∧ i - k ≤ gg ∧ s8 = .int .i64 (k : Int) ∧ Aside (∀ b, b < k → l[i]!.addr ≠ l[b]!.addr ∧ l[i]!.used ≠ l[b]!.used) ∧ Aside (Below w2.heap.size w2 wr))
                        case atStart => exact ⟨0, Nat.zero_le _, by omega, rfl, (show Aside _ from fun b hb => absurd hb (Nat.not_lt_zero _)), HB3⟩
                        case round =>
                          clear HB3
                          obtain ⟨k, hki0, hgk, rfl, HK, HB4⟩ := hrel
                          have bF := bF.trans (HB4.out.mono bF.size)
                          by_cases hki : k < i
                          · have hkiz : (k : Int) < (i : Int) := by omega
                            have hkTz : (k : Int) < (T : Int) := by omega
                            obtain ⟨b2, o2, rfl, hq⟩ := (HSL.out.below HB4.out).at_ i (by rw [HT.out]; exact hit)
                            obtain ⟨b2', o2', e2, hq2⟩ := (HSL.out.below HB4.out).at_ k (by rw [HT.out]; omega)
                            obtain ⟨rfl, rfl⟩ : b2 = b2' ∧ o2 = o2' := by simpa using e2
                            have u0 := hq 0 _ rfl
                            have u3 := hq 3 _ rfl
                            have v0 := hq2 0 _ rfl
                            have v3 := hq2 3 _ rfl
                            rw [Nat.add_zero] at u0 v0
                            clear hq hq2 e2
                            by_cases ha : l[i]!.addr = l[k]!.addr
                            · have z0 : (l[i]!.addr == l[k]!.addr) = true := by rw [beq_iff_eq]; exact ha
                              obtain rfl : r = false := by
                                rw [← HR.out]
                                refine decide_eq_false fun h => ?_
                                exact nodup_pair h.addrs hki (show i < x.lines.flatten.length by rw [← HLL.out, HT.out]; exact hit) (by rw [← HLL.out]; exact ha)
                              rw [ha] at u0
                              clear ha z0
                              generalize l[k]!.addr = ak at u0 v0
                              have z0 : (ak == ak) = true := by simp
                              go_wp2_with fail
                              go_quiet (fail)
                              go_wp2_with fail
                              go_ret
                              exact ⟨rfl, bdrewN bF _⟩
                            · have z0 : (l[i]!.addr == l[k]!.addr) = false := by rw [beq_eq_false_iff_ne]; exact ha
                              by_cases hu : l[i]!.used = l[k]!.used
                              · have z1 : (l[i]!.used == l[k]!.used) = true := by rw [beq_iff_eq]; exact hu
                                obtain rfl : r = false := by
                                  rw [← HR.out]
                                  refine decide_eq_false fun h => ?_
                                  exact nodup_pair h.uses hki (show i < x.lines.flatten.length by rw [← HLL.out, HT.out]; exact hit) (by rw [← HLL.out]; exact hu)
                                clear ha
                                rw [hu] at u3
                                clear hu z1
                                generalize l[i]!.addr = ai at u0 z0
                                generalize l[k]!.addr = ak at v0 z0
                                generalize l[k]!.used = uk at u3 v3
                                have z1 : (uk == uk) = true := by simp
                                go_wp2_with fail
                                go_quiet (fail)
                                go_wp2_with fail
                                go_ret
                                exact ⟨rfl, bdrewN bF _⟩
                              · have z1 : (l[i]!.used == l[k]!.used) = false := by rw [beq_eq_false_iff_ne]; exact hu
                                have HD := Lib.hid (And.intro ha hu)
                                clear ha hu
                                generalize l[i]!.addr = ai at u0 z0
                                generalize l[i]!.used = ui at u3 z1
                                generalize l[k]!.addr = ak at v0 z0
                                generalize l[k]!.used = uk at v3 z1
                                go_wp2_with fail
                                go_quiet (fail)
                                go_wp2_with fail
                                go_roundg (i - (k + 1))
                                case measure => omega
                                case rel =>
                                  refine ⟨k + 1, by omega, by omega, by first | rfl | go_num, (show Aside _ from fun b hb => ?_), (show Aside _ from bdrewN HB4.out _)⟩
                                  by_cases e : b = k
                                  · subst e; exact HD.out
                                  · exact HK.out b (by omega)
                          · obtain rfl : k = i := by omega
                            have hkiz : ¬ (k : Int) < (k : Int) := by omega
                            go_wp2_with fail
                            go_roundg (T - (k + 1))
                            case measure => omega
                            case rel =>
                              refine ⟨k + 1, by omega, by omega, by first | rfl | go_num, (show Aside _ from fun a b hab ha => ?_), (show Aside _ from HB4.out)⟩
                              by_cases e : a = k
                              · subst e; exact HK.out b hab
                              · exact HP.out a b hab (by omega)
                      · obtain rfl : i = T := by omega
                        have hitz : ¬ (i : Int) < (i : Int) := by omega
                        obtain rfl : r = true := by
                          rw [← HR.out]
                          refine decide_eq_true ⟨HFORM.out, HALL.out, ?_, ?_⟩
                          · rw [← HLL.out]
                            exact pair_nodup fun a b hab ha => (HP.out a b hab (by rw [← HT.out]; exact ha)).1
                          · rw [← HLL.out]
                            exact pair_nodup fun a b hab ha => (HP.out a b hab (by rw [← HT.out]; exact ha)).2
                        have bG := bF.trans (HB3.out.mono bF.size)
                        go_wp2_with fail
                        go_ret
                        exact ⟨rfl, bG⟩
              · have q6 : ((n : Int) != x.sets) = true := by rw [bne_iff_ne]; exact h6
                obtain rfl := bad (by omega)
                clear bad
                go_enter Try.func23, Try.ntmps23
                go_wp2_with fail
                go_ret
                exact ⟨rfl, b0⟩
end Go.Proofs.Ytdndanjabknjpaa
