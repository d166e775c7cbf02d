/- Walks of the reference's functions of layer 20: Right, has, Room, with, Same. -/
import Derived.Test.YtcjlpgpmoleidaaE
import Derived.StillTailTactics
namespace Go.Proofs.Ytcjlpgpmoleidaa
open Go.RowKit Go.Lib

theorem okC_iff (m u : Int) : okC m u = true ↔ ¬ u < 0 ∧ ¬ m < u ∧ ¬ 1000 < m := by simp [okC]; omega

set_option maxHeartbeats 2000000 in
theorem rRight_any (A : Option Addr) (c : Nat) (l : List Cls) (w : World) (hs : Sl 2 Cls.enc w A l) :
    Calls Try.prog 17 #[.slice A l.length c] w fun e w' => e = .returned (.bool (rightB l)) ∧ Below w.heap.size w w' := by
  have hbig := hs.big
  by_cases h0 : l.length = 0
  · have hr : rightB l = false := by simp [rightB, h0]
    have h1 : ((l.length : Int) == 0) = true := by rw [beq_iff_eq]; omega
    rw [hr]
    clear hr hs h0
    go_enter Try.func17, Try.ntmps17
    go_wp2
    go_ret
    exact ⟨rfl, Below.refl _ _⟩
  · have h1 : ((l.length : Int) == 0) = false := by rw [beq_eq_false_iff_ne]; omega
    by_cases h2 : 8 < l.length
    · have hr : rightB l = false := by simp [rightB]; omega
      rw [hr]
      have h3 : 8 < (l.length : Int) := by omega
      clear hr hs h0
      go_enter Try.func17, Try.ntmps17
      go_wp2
      go_ret
      exact ⟨rfl, Below.refl _ _⟩
    · have h3 : ¬ 8 < (l.length : Int) := by omega
      have hr : rightB l = l.all fun x => okC x.most x.used := by simp [rightB]; omega
      rw [hr]
      have HS := Lib.hid hs
      clear hr hs h0
      go_enter Try.func17, Try.ntmps17
      go_wp2
      go_loopg [3] l.length (fun gg s3 wr => ∃ kk : Nat, kk ≤ l.length ∧ l.length - kk ≤ gg ∧ s3 = .int .i64 kk ∧ Aside (Below w.heap.size w wr) ∧ Aside (∀ j, j < kk → okC l[j]!.most l[j]!.used = true))
      case atStart => exact ⟨0, Nat.zero_le _, by omega, rfl, Below.refl _ w, fun j hj => absurd hj (Nat.not_lt_zero _)⟩
      case round =>
        obtain ⟨kk, hkk, hg, rfl, BW, AA⟩ := hrel
        by_cases hlt : kk < l.length
        · have hltz : (kk : Int) < (l.length : Int) := by omega
          obtain ⟨b, off, rfl, hq0⟩ := HS.out.at_ kk hlt
          have q1 := hq0 0 _ rfl
          have q2 := hq0 1 _ rfl
          rw [Nat.add_zero] at q1
          rw [← BW.out.cell (World.block_lt_of_cell? w _ q1)] at q1
          rw [← BW.out.cell (World.block_lt_of_cell? w _ q2)] at q2
          have hok := okC_iff l[kk]!.most l[kk]!.used
          have hfin : okC l[kk]!.most l[kk]!.used = false → (l.all fun x => okC x.most x.used) = false := fun hf => by
            rw [List.all_eq_false]; exact ⟨l[kk], List.getElem_mem hlt, by rw [getElem!_pos l kk hlt] at hf; simp [hf]⟩
          have HF := Lib.hid hfin
          clear hq0 hfin
          generalize hy : l[kk]! = y at *
          have B : Aside (l[kk]! = y) := hy
          clear hy
          by_cases c1 : y.used < 0
          · have HK := Lib.hid (HF.out (by cases h : okC y.most y.used; rfl; exact absurd c1 (hok.1 h).1))
            clear hok HF
            go_wp2
            go_quiet (fail)
            go_wp2
            go_ret
            rw [HK.out]
            exact ⟨rfl, bdrewN BW.out _⟩
          · by_cases c2 : y.most < y.used
            · have HK := Lib.hid (HF.out (by cases h : okC y.most y.used; rfl; exact absurd c2 (hok.1 h).2.1))
              clear hok HF
              go_wp2
              go_quiet (fail)
              go_wp2
              go_ret
              rw [HK.out]
              exact ⟨rfl, bdrewN BW.out _⟩
            · by_cases c3 : 1000 < y.most
              · have HK := Lib.hid (HF.out (by cases h : okC y.most y.used; rfl; exact absurd c3 (hok.1 h).2.2))
                clear hok HF
                go_wp2
                go_quiet (fail)
                go_wp2
                go_ret
                rw [HK.out]
                exact ⟨rfl, bdrewN BW.out _⟩
              · have HK := Lib.hid (hok.2 ⟨c1, c2, c3⟩)
                clear hok HF
                go_wp2
                go_quiet (fail)
                go_wp2
                go_roundg (l.length - (kk + 1))
                case measure => omega
                case rel =>
                  refine ⟨kk + 1, by omega, by omega, by go_num, (show Aside _ from bdrewN BW.out _), (show Aside _ from fun j hj => ?_)⟩
                  by_cases e : j = kk
                  · subst e
                    rw [B.out]; exact HK.out
                  · exact AA.out j (by omega)
        · have hltz : ¬ (kk : Int) < (l.length : Int) := by omega
          have : kk = l.length := by omega
          subst this
          have hfin : (l.all fun x => okC x.most x.used) = true := by
            rw [List.all_eq_true]
            intro x hx
            obtain ⟨j, hj, rfl⟩ := List.mem_iff_getElem.1 hx
            have := AA.out j hj
            rwa [getElem!_pos l j hj] at this
          have HF := Lib.hid hfin
          clear hfin
          go_wp2
          go_ret
          rw [HF.out]
          exact ⟨rfl, BW.out⟩

set_option maxHeartbeats 400000 in
theorem rhas_any (A : Option Addr) (c : Nat) (l : List Cls) (n : Int) (w : World) (hs : Sl 2 Cls.enc w A l) :
    Calls Try.prog 22 #[.slice A l.length c, .int .i64 n] w fun e w' => e = .returned (.bool (hasB l n)) ∧ Below w.heap.size w w' := by
  have hbig := hs.big
  have h := rRight_any A c l w hs
  unfold hasB
  generalize rightB l = r at h
  cases r with
  | false =>
    simp only [Bool.false_and]
    go_enter Try.func22, Try.ntmps22
    go_wp2_with (go_at_call 17; refine h.mono ?_; rintro e w' ⟨rfl, hb'⟩)
    go_ret
    exact ⟨rfl, hb'⟩
  | true =>
    simp only [Bool.true_and]
    by_cases h1 : 0 ≤ n
    · by_cases h2 : n < l.length
      all_goals
        simp only [h1, h2, true_and, and_self, decide_true, decide_false]
        go_enter Try.func22, Try.ntmps22
        go_wp2_with (go_at_call 17; refine h.mono ?_; rintro e w' ⟨rfl, hb'⟩)
        go_ret
        exact ⟨by simp [h2], hb'⟩
    · simp only [h1, false_and, decide_false]
      go_enter Try.func22, Try.ntmps22
      go_wp2_with (go_at_call 17; refine h.mono ?_; rintro e w' ⟨rfl, hb'⟩)
      go_ret
      exact ⟨rfl, hb'⟩

set_option maxHeartbeats 400000 in
theorem rRoom_any (A : Option Addr) (c : Nat) (l : List Cls) (n : Int) (w : World) (hs : Sl 2 Cls.enc w A l) :
    Calls Try.prog 19 #[.slice A l.length c, .int .i64 n] w fun e w' => e = .returned (.int .i64 (roomI l n)) ∧ Below w.heap.size w w' := by
  have hbig := hs.big
  have h := rhas_any A c l n w hs
  unfold roomI
  cases hh : hasB l n with
  | false =>
    rw [hh] at h
    simp only [Bool.false_eq_true, if_false]
    clear hh
    go_enter Try.func19, Try.ntmps19
    go_wp2_with (go_at_call 22; refine h.mono ?_; rintro e w' ⟨rfl, hb'⟩)
    go_ret
    exact ⟨rfl, hb'⟩
  | true =>
    rw [hh] at h
    simp only [if_true]
    obtain ⟨hr, h1, h2⟩ : rightB l = true ∧ 0 ≤ n ∧ n < l.length := by simpa [hasB] using hh
    obtain ⟨j, rfl⟩ := Int.eq_ofNat_of_zero_le h1
    rw [Int.toNat_natCast]
    have hj : j < l.length := by omega
    obtain ⟨g1, g2, g3, g4⟩ := rightB_at hr j hj
    obtain ⟨b, off, rfl, hq0⟩ := hs.at_ j hj
    have q1 := hq0 0 _ rfl
    have q2 := hq0 1 _ rfl
    rw [Nat.add_zero] at q1
    clear hh hs hr hq0
    generalize l[j]! = y at *
    go_enter Try.func19, Try.ntmps19
    go_wp2_with (go_at_call 22; refine h.mono ?_; rintro e w' ⟨rfl, hb'⟩; rw [← hb'.cell (World.block_lt_of_cell? w _ q1)] at q1; rw [← hb'.cell (World.block_lt_of_cell? w _ q2)] at q2)
    go_quiet (fail)
    go_wp2
    go_ret
    exact ⟨by simp, bdrewN hb' _⟩
end Go.Proofs.Ytcjlpgpmoleidaa
