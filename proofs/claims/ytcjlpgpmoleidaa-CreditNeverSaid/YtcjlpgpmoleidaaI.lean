/- Walks of the reference's functions of layer 20: Move, New. -/
import Derived.Test.YtcjlpgpmoleidaaH
namespace Go.Proofs.Ytcjlpgpmoleidaa
open Go.RowKit Go.Lib

theorem set_self_cls (l : List Cls) (j : Nat) (hj : j < l.length) : l.set j l[j]! = l := by
  rw [getElem!_pos l j hj, List.set_getElem_self]
theorem mv_same (l : List Cls) (j : Nat) (hj : j < l.length) (many : Int) : mv1 (mv1 l j many) j (-many) = l := by
  simp only [mv1, Int.toNat_natCast]
  rw [getElem!_pos (l.set j ⟨l[j]!.most - many, l[j]!.used⟩) j (by simpa using hj)]
  simp only [List.getElem_set_self, List.set_set]
  rw [show l[j]!.most - many - -many = l[j]!.most by omega]
  exact set_self_cls l j hj
theorem mv_two (l : List Cls) (j i : Nat) (hi : i < l.length) (hne : ¬ j = i) (many : Int) : mv1 (mv1 l j many) i (-many) = (l.set j ⟨l[j]!.most - many, l[j]!.used⟩).set i ⟨l[i]!.most + many, l[i]!.used⟩ := by
  simp only [mv1, Int.toNat_natCast]
  rw [getElem!_pos (l.set j ⟨l[j]!.most - many, l[j]!.used⟩) i (by simpa using hi), List.getElem_set_ne hne, ← getElem!_pos l i hi]
  rw [show l[i]!.most - -many = l[i]!.most + many by omega]

set_option maxHeartbeats 2000000 in
theorem rMove_any (A : Option Addr) (c : Nat) (l : List Cls) (a b many : Int) (w : World) (hs : Sl 2 Cls.enc w A l) (hsm : l.length ≤ 1000000) :
    Calls Try.prog 13 #[.slice A l.length c, .int .i64 a, .int .i64 b, .int .i64 many] w (RGives w (moveL l a b many)) := by
  have hbig := hs.big
  have hhas := fun n w1 (hb : Below w.heap.size w w1) => rhas_any A c l n w1 (hs.below hb)
  have ha := hhas a w (Below.refl _ _)
  have hb := hhas b
  clear hhas
  unfold moveL
  cases hh : hasB l a with
  | false =>
    rw [hh] at ha
    simp only [true_or, if_true]
    have HS := Lib.hid hs
    clear hh hs hb
    go_enter Try.func13, Try.ntmps13
    go_wp2_with (go_at_call 22; with_reducible refine ha.mono ?_; rintro e w2 ⟨rfl, hb2⟩)
    go_ret2
    exact ⟨_, _, rfl, HS.out.below hb2, hb2⟩
  | true =>
    rw [hh] at ha
    cases hk : hasB l b with
    | false =>
      rw [hk] at hb
      simp only [true_or, or_true, if_true]
      have HS := Lib.hid hs
      clear hh hk hs
      go_enter Try.func13, Try.ntmps13
      go_wp2_with (first | (go_at_call 22; with_reducible refine ha.mono ?_; rintro e w2 ⟨rfl, hb2⟩) | (go_at_call 22; with_reducible refine (hb w2 hb2).mono ?_; rintro e w3 ⟨rfl, hb3⟩))
      go_ret2
      exact ⟨_, _, rfl, HS.out.below (hb2.trans (hb3.mono hb2.size)), hb2.trans (hb3.mono hb2.size)⟩
    | true =>
      rw [hk] at hb
      simp only [Bool.true_eq_false, false_or]
      by_cases hm : many < 0
      · simp only [hm, if_true]
        have HS := Lib.hid hs
        clear hh hk hs
        go_enter Try.func13, Try.ntmps13
        go_wp2_with (first | (go_at_call 22; with_reducible refine ha.mono ?_; rintro e w2 ⟨rfl, hb2⟩) | (go_at_call 22; with_reducible refine (hb w2 hb2).mono ?_; rintro e w3 ⟨rfl, hb3⟩))
        go_ret2
        exact ⟨_, _, rfl, HS.out.below (hb2.trans (hb3.mono hb2.size)), hb2.trans (hb3.mono hb2.size)⟩
      · simp only [hm, if_false]
        obtain ⟨hr, h1, h2⟩ := hasB_iff.1 hh
        obtain ⟨_, h3, h4⟩ := hasB_iff.1 hk
        obtain ⟨j, rfl⟩ := Int.eq_ofNat_of_zero_le h1
        obtain ⟨i, rfl⟩ := Int.eq_ofNat_of_zero_le h3
        have hj : j < l.length := by omega
        have hi : i < l.length := by omega
        obtain ⟨g1, g2, g3, g4⟩ := rightB_at hr j hj
        obtain ⟨f1, f2, f3, f4⟩ := rightB_at hr i hi
        have hri : roomI l j = l[j]!.most - l[j]!.used := by simp [roomI, hh]
        rw [hri]
        obtain ⟨bb, off, rfl, hq0⟩ := hs.at_ j hj
        obtain ⟨bb', off', hbe, hp0⟩ := hs.at_ i hi
        obtain ⟨rfl, rfl⟩ : bb = bb' ∧ off = off' := by simpa using hbe
        have q1 := hq0 0 _ rfl
        have q2 := hq0 1 _ rfl
        have p1 := hp0 0 _ rfl
        have p2 := hp0 1 _ rfl
        rw [Nat.add_zero] at q1 p1
        have hwith := fun w1 (hb : Below w.heap.size w w1) => with_any (some ⟨bb, off, none⟩) c l j (l[j]!.most - many) l[j]!.used w1 (hs.below hb) hsm hj
        have hwith2 := fun A' c' w1 (hs' : Sl 2 Cls.enc w1 A' (l.set j ⟨l[j]!.most - many, l[j]!.used⟩)) => with_any A' c' (l.set j ⟨l[j]!.most - many, l[j]!.used⟩) i (l[i]!.most + many) l[i]!.used w1 hs' (by simpa using hsm) (by simpa using hi)
        simp only [List.length_set] at hwith2
        have HS := Lib.hid hs
        clear hh hk hs hri hq0 hp0 hbe
        have hmv := mv_same l j hj many
        have hmv2 := mv_two l j i hi
        simp only [Int.toNat_natCast]
        by_cases hf : l[j]!.most - l[j]!.used < many
        · simp only [hf, true_or, if_true]
          clear hwith hwith2 hmv hmv2
          generalize l[j]!.most = y0 at *
          generalize l[j]!.used = y1 at *
          generalize l[i]!.most = z0 at *
          generalize l[i]!.used = z1 at *
          by_cases hm2 : 1000 < many
          · go_enter Try.func13, Try.ntmps13
            go_wp2_with (first | (go_at_call 22; with_reducible refine ha.mono ?_; rintro e w2 ⟨rfl, hb2⟩) | (go_at_call 22; with_reducible refine (hb w2 hb2).mono ?_; rintro e w3 ⟨rfl, hb3⟩))
            go_quiet (fail)
            go_wp2
            go_ret2
            exact ⟨_, _, rfl, HS.out.below (bdrewN (hb2.trans (hb3.mono hb2.size)) _), bdrewN (hb2.trans (hb3.mono hb2.size)) _⟩
          · have hx : decide (y0 - many < y1) = true := by simp; omega
            have hx2 : decide (1000 < many) = false := by simp; omega
            have hwr : IntKind.i64.wrap (y0 - many) = y0 - many := IntWalk.i64_in _ (by omega)
            go_enter Try.func13, Try.ntmps13
            go_wp2_with (first | (go_at_call 22; with_reducible refine ha.mono ?_; rintro e w2 ⟨rfl, hb2⟩) | (go_at_call 22; with_reducible refine (hb w2 hb2).mono ?_; rintro e w3 ⟨rfl, hb3⟩; have hb4 := hb2.trans (hb3.mono hb2.size); rw [← hb4.cell (World.block_lt_of_cell? w _ q1)] at q1; rw [← hb4.cell (World.block_lt_of_cell? w _ q2)] at q2))
            go_quiet (fail)
            go_wp2
            go_ret2
            exact ⟨_, _, rfl, HS.out.below (bdrewN hb4 _), bdrewN hb4 _⟩
        · by_cases hij : i = j
          · subst hij
            have hx0 : ¬ (l[i]!.most - l[i]!.used < many ∨ ((i : Int) ≠ (i : Int) ∧ 1000 - l[i]!.most < many)) := by rintro (h | ⟨h, _⟩); exact hf h; exact h rfl
            simp only [hx0, if_false]
            rw [hmv]
            clear hwith hwith2 hmv hmv2 hx0 p1 p2
            generalize l[i]!.most = y0 at *
            generalize l[i]!.used = y1 at *
            have hx : decide (y0 - many < y1) = false := by simp; omega
            have hx2 : decide (1000 < many) = false := by simp; omega
            have hx3 : ((i : Int) != (i : Int)) = false := by simp
            have hx4 : ((i : Int) == (i : Int)) = true := by simp
            have hwr : IntKind.i64.wrap (y0 - many) = y0 - many := IntWalk.i64_in _ (by omega)
            go_enter Try.func13, Try.ntmps13
            go_wp2_with (first | (go_at_call 22; with_reducible refine ha.mono ?_; rintro e w2 ⟨rfl, hb2⟩) | (go_at_call 22; with_reducible refine (hb w2 hb2).mono ?_; rintro e w3 ⟨rfl, hb3⟩; have hb4 := hb2.trans (hb3.mono hb2.size); rw [← hb4.cell (World.block_lt_of_cell? w _ q1)] at q1; rw [← hb4.cell (World.block_lt_of_cell? w _ q2)] at q2))
            go_quiet (fail)
            go_wp2
            go_ret2
            exact ⟨_, _, rfl, HS.out.below (bdrewN hb4 _), bdrewN hb4 _⟩
          · have hji : ¬ j = i := fun e => hij e.symm
            have hij1 : ((j : Int) == (i : Int)) = false := by rw [beq_eq_false_iff_ne]; omega
            have hij2 : ((j : Int) != (i : Int)) = true := by rw [bne_iff_ne]; omega
            by_cases hg : 1000 - l[i]!.most < many
            · have hx0 : (l[j]!.most - l[j]!.used < many ∨ ((j : Int) ≠ (i : Int) ∧ 1000 - l[i]!.most < many)) := .inr ⟨by omega, hg⟩
              simp only [hx0, if_true]
              clear hwith hwith2 hmv hmv2 hx0
              generalize l[j]!.most = y0 at *
              generalize l[j]!.used = y1 at *
              generalize l[i]!.most = z0 at *
              generalize l[i]!.used = z1 at *
              have hx : decide (y0 - many < y1) = false := by simp; omega
              have hx2 : decide (1000 < many) = false := by simp; omega
              have hx5 : decide (1000 < z0 + many) = true := by simp; omega
              have hwr : IntKind.i64.wrap (y0 - many) = y0 - many := IntWalk.i64_in _ (by omega)
              have hwr2 : IntKind.i64.wrap (z0 + many) = z0 + many := IntWalk.i64_in _ (by omega)
              go_enter Try.func13, Try.ntmps13
              go_wp2_with (first | (go_at_call 22; with_reducible refine ha.mono ?_; rintro e w2 ⟨rfl, hb2⟩) | (go_at_call 22; with_reducible refine (hb w2 hb2).mono ?_; rintro e w3 ⟨rfl, hb3⟩; have hb4 := hb2.trans (hb3.mono hb2.size); rw [← hb4.cell (World.block_lt_of_cell? w _ q1)] at q1; rw [← hb4.cell (World.block_lt_of_cell? w _ q2)] at q2; rw [← hb4.cell (World.block_lt_of_cell? w _ p1)] at p1; rw [← hb4.cell (World.block_lt_of_cell? w _ p2)] at p2))
              go_quiet (fail)
              go_wp2
              go_ret2
              exact ⟨_, _, rfl, HS.out.below (bdrewN hb4 _), bdrewN hb4 _⟩
            · have hx0 : ¬ (l[j]!.most - l[j]!.used < many ∨ ((j : Int) ≠ (i : Int) ∧ 1000 - l[i]!.most < many)) := by rintro (h | ⟨_, h⟩); exact hf h; exact hg h
              simp only [hx0, if_false]
              rw [hmv2 hji]
              clear hmv hmv2 hx0
              generalize l[j]!.most = y0 at *
              generalize l[j]!.used = y1 at *
              generalize l[i]!.most = z0 at *
              generalize l[i]!.used = z1 at *
              have hx : decide (y0 - many < y1) = false := by simp; omega
              have hx2 : decide (1000 < many) = false := by simp; omega
              have hx5 : decide (1000 < z0 + many) = false := by simp; omega
              have hwr : IntKind.i64.wrap (y0 - many) = y0 - many := IntWalk.i64_in _ (by omega)
              have hwr2 : IntKind.i64.wrap (z0 + many) = z0 + many := IntWalk.i64_in _ (by omega)
              go_enter Try.func13, Try.ntmps13
              go_wp2_with (first | (go_at_call 22; with_reducible refine ha.mono ?_; rintro e w2 ⟨rfl, hb2⟩) | (go_at_call 22; with_reducible refine (hb w2 hb2).mono ?_; rintro e w3 ⟨rfl, hb3⟩; have hb4 := hb2.trans (hb3.mono hb2.size); rw [← hb4.cell (World.block_lt_of_cell? w _ q1)] at q1; rw [← hb4.cell (World.block_lt_of_cell? w _ q2)] at q2; rw [← hb4.cell (World.block_lt_of_cell? w _ p1)] at p1; rw [← hb4.cell (World.block_lt_of_cell? w _ p2)] at p2))
              go_quiet (fail)
              go_wp2
              clear hx hx2 hx5
              have hb5 : Below w.heap.size w (w3.drewN nq) := bdrewN hb4 _
              change (w3.drewN nq).cell? _ = _ at q1
              change (w3.drewN nq).cell? _ = _ at q2
              change (w3.drewN nq).cell? _ = _ at p1
              change (w3.drewN nq).cell? _ = _ at p2
              generalize w3.drewN nq = w4 at *
              clear hb4 hb3 hb2 ha hb
              go_still_tail 14, (by kernel_rfl)
              change wpList _ _ _ _ _ w4.drew
              have hb6 := hb5.drew
              change w4.drew.cell? _ = _ at p1
              change w4.drew.cell? _ = _ at p2
              generalize w4.drew = w5 at *
              clear q1 q2
              go_wp2_with (go_at_call 23; refine (hwith w5 hb6).mono ?_; rintro e w6 ⟨v, rfl, hn⟩; have hb7 := hb6.trans (hn.2.mono hb6.size); obtain ⟨A2, c2, rfl, hs2⟩ := hn.sl; rw [List.length_set]; rw [← hn.2.cell (World.block_lt_of_cell? w5 _ p1)] at p1; rw [← hn.2.cell (World.block_lt_of_cell? w5 _ p2)] at p2)
              go_still_tail 14, (by kernel_rfl)
              change wpList _ _ _ _ _ w6.drew
              have hb8 := hb7.drew
              have hs3 : Sl 2 Cls.enc w6.drew A2 _ := hs2.below (Below.refl _ _).drew
              generalize w6.drew = w7 at *
              go_wp2_with (go_at_call 23; refine (hwith2 A2 c2 w7 hs3).mono ?_; rintro e w8 ⟨v, rfl, hn2⟩)
              go_ret2
              obtain ⟨A3, c3, rfl, hs4⟩ := hn2.sl
              exact ⟨A3, c3, rfl, hs4, hb8.trans (hn2.2.mono hb8.size)⟩
end Go.Proofs.Ytcjlpgpmoleidaa
