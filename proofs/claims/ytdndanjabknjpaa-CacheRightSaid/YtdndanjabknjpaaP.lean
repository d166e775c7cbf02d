/- Walks of the reference: Lines. -/
import Derived.Test.YtdndanjabknjpaaO
namespace Go.Proofs.Ytdndanjabknjpaa
open Go.RowKit Go.Lib
set_option linter.unusedVariables false
attribute [local go_sem high] eq32
set_option maxHeartbeats 2000000 in
theorem lines_any (A B : Option Addr) (c d n m : Nat) (l p : List Ln) (w : World) (hs : Sl 4 Ln.enc w A l) (ht : Sl 4 Ln.enc w B p) (hn : l.length = n) (hm : p.length = m) :
    Calls Try.prog 12 #[.slice A n c, .slice B m d] w fun e w' => e = .returned (.bool (decide (l = p))) ∧ Below w.heap.size w w' := by
  have hbig := hs.big
  have hbig2 := ht.big
  rw [hn] at hbig
  rw [hm] at hbig2
  have b : Below w.heap.size w w := Below.refl _ _
  have hs0 := hs
  have ht0 := ht
  clear hs ht
  by_cases hlen : n = m
  · have h1 : ((n : Int) != (m : Int)) = false := by rw [bne_eq_false_iff_eq]; omega
    have HS := Lib.hid hs0
    have HT := Lib.hid ht0
    have HN := Lib.hid hn
    have HM := Lib.hid hm
    have HL := Lib.hid hlen
    clear hs0 ht0 hn hm hlen
    go_enter Try.func12, Try.ntmps12
    go_wp2_with fail
    go_loopg [5] n (fun gg s5 wr => ∃ kk : Nat, kk ≤ n ∧ n - kk ≤ gg ∧ s5 = .int .i64 kk ∧ Aside (Below w.heap.size w wr) ∧ Aside (∀ j, j < kk → l[j]! = p[j]!))
    case atStart => exact ⟨0, Nat.zero_le _, by omega, rfl, Below.refl _ _, fun j hj => absurd hj (Nat.not_lt_zero _)⟩
    case round =>
      obtain ⟨kk, hkk, hg, rfl, BW, AA⟩ := hrel
      have b2 := BW.out
      by_cases hlt : kk < n
      · have hltz : (kk : Int) < (n : Int) := by omega
        have hlt2z : (kk : Int) < (m : Int) := by have := HL.out; omega
        obtain ⟨b', off, rfl, hq0⟩ := HS.out.at_ kk (by rw [HN.out]; exact hlt)
        obtain ⟨b'', off', rfl, hp0⟩ := HT.out.at_ kk (by rw [HM.out]; have := HL.out; omega)
        have q0 := hq0 0 _ rfl
        have p0 := hp0 0 _ rfl
        have q1 := hq0 1 _ rfl
        have p1 := hp0 1 _ rfl
        have q2 := hq0 2 _ rfl
        have p2 := hp0 2 _ rfl
        have q3 := hq0 3 _ rfl
        have p3 := hp0 3 _ rfl
        rw [Nat.add_zero] at q0 p0
        rw [← BW.out.cell (World.block_lt_of_cell? _ _ q0)] at q0
        rw [← BW.out.cell (World.block_lt_of_cell? _ _ p0)] at p0
        rw [← BW.out.cell (World.block_lt_of_cell? _ _ q1)] at q1
        rw [← BW.out.cell (World.block_lt_of_cell? _ _ p1)] at p1
        rw [← BW.out.cell (World.block_lt_of_cell? _ _ q2)] at q2
        rw [← BW.out.cell (World.block_lt_of_cell? _ _ p2)] at p2
        rw [← BW.out.cell (World.block_lt_of_cell? _ _ q3)] at q3
        rw [← BW.out.cell (World.block_lt_of_cell? _ _ p3)] at p3
        clear hq0 hp0
        by_cases he : l[kk]! = p[kk]!
        · have hcmp := ln_beq l[kk]! p[kk]!
          rw [decide_eq_true he] at hcmp
          have hE0 := Lib.hid he
          clear he
          generalize l[kk]! = xx at hcmp q0 q1 q2 q3
          generalize p[kk]! = yy at hcmp p0 p1 p2 p3
          go_wp2_with fail
          go_quiet (fail)
          go_wp2_with fail
          go_roundg (n - (kk + 1))
          case measure => omega
          case rel =>
            refine ⟨kk + 1, by omega, by omega, by go_num, (show Aside _ from bdrewN BW.out _), (show Aside _ from fun j hj => ?_)⟩
            by_cases e : j = kk
            · subst e
              exact hE0.out
            · exact AA.out j (by omega)
        · have hcmp := ln_beq l[kk]! p[kk]!
          rw [decide_eq_false he] at hcmp
          have hne : (decide (l = p)) = false := by
            rw [decide_eq_false_iff_not]; rintro rfl; exact he rfl
          have hE := Lib.hid hne
          clear he hne
          generalize l[kk]! = xx at hcmp q0 q1 q2 q3
          generalize p[kk]! = yy at hcmp p0 p1 p2 p3
          go_wp2_with fail
          go_quiet (fail)
          go_wp2_with fail
          go_ret
          rw [hE.out]
          exact ⟨rfl, bdrewN b2 _⟩
      · have hltz : ¬ (kk : Int) < (n : Int) := by omega
        have hkn : kk = n := by omega
        have hfin : decide (l = p) = true := by
          rw [decide_eq_true_iff]
          refine List.ext_getElem (by rw [HN.out, HM.out]; exact HL.out) fun j h1 h2 => ?_
          have := AA.out j (by rw [HN.out] at h1; omega)
          rwa [getElem!_pos l j h1, getElem!_pos p j h2] at this
        have HF := Lib.hid hfin
        clear hfin hkn
        go_wp2_with fail
        go_ret
        rw [HF.out]
        exact ⟨rfl, b2⟩
  · have h1 : ((n : Int) != (m : Int)) = true := by rw [bne_iff_ne]; omega
    have hne : (decide (l = p)) = false := by
      rw [decide_eq_false_iff_not]; rintro rfl; exact hlen (hn.symm.trans hm)
    rw [hne]
    clear hs0 ht0 hlen hne hn hm
    go_enter Try.func12, Try.ntmps12
    go_wp2_with fail
    go_ret
    exact ⟨rfl, b⟩

end Go.Proofs.Ytdndanjabknjpaa
