/- Walks of the reference's functions of layer 20: Take, Give, Move, New. -/
import Derived.Test.YtcjlpgpmoleidaaG
import Derived.IntWalk
namespace Go.Proofs.Ytcjlpgpmoleidaa
open Go.RowKit Go.Lib

def RGives (w : World) (r : List Cls × Int) (e : Ending) (w' : World) : Prop := ∃ A c, e = .returned (.tuple #[.slice A r.1.length c, .int .i64 r.2]) ∧ Sl 2 Cls.enc w' A r.1 ∧ Below w.heap.size w w'
theorem NewRow.sl {w w' : World} {v : Value} {l : List Cls} (h : NewRow w w' v l) : ∃ A c, v = .slice A l.length c ∧ Sl 2 Cls.enc w' A l := by
  obtain ⟨A, c, e, _, hs⟩ := Sl.own Cls.enc_len h.1
  exact ⟨A, c, e, hs⟩

set_option maxHeartbeats 2000000 in
theorem rTake_any (A : Option Addr) (c : Nat) (l : List Cls) (n many : Int) (w : World) (hs : Sl 2 Cls.enc w A l) (hsm : l.length ≤ 1000000) :
    Calls Try.prog 8 #[.slice A l.length c, .int .i64 n, .int .i64 many] w (RGives w (takeL l n many)) := by
  have hbig := hs.big
  have hhas := fun w1 (hb : Below w.heap.size w w1) => rhas_any A c l n w1 (hs.below hb)
  unfold takeL
  cases hh : hasB l n with
  | false =>
    have h := hhas w (Below.refl _ _)
    rw [hh] at h
    simp only [true_or, if_true]
    have HS := Lib.hid hs
    clear hh hs hhas
    go_enter Try.func8, Try.ntmps8
    go_wp2_with (go_at_call 22; refine h.mono ?_; rintro e w2 ⟨rfl, hb2⟩)
    go_ret2
    exact ⟨_, _, rfl, HS.out.below hb2, hb2⟩
  | true =>
    have h := hhas w (Below.refl _ _)
    rw [hh] at h
    simp only [Bool.true_eq_false, false_or]
    by_cases hm : many < 0
    · simp only [hm, if_true]
      have HS := Lib.hid hs
      clear hh hs hhas
      go_enter Try.func8, Try.ntmps8
      go_wp2_with (go_at_call 22; refine h.mono ?_; rintro e w2 ⟨rfl, hb2⟩)
      go_ret2
      exact ⟨_, _, rfl, HS.out.below hb2, hb2⟩
    · simp only [hm, if_false]
      obtain ⟨hr, h1, h2⟩ := hasB_iff.1 hh
      obtain ⟨j, rfl⟩ := Int.eq_ofNat_of_zero_le h1
      have hj : j < l.length := by omega
      obtain ⟨g1, g2, g3, g4⟩ := rightB_at hr j hj
      have hri : roomI l j = l[j]!.most - l[j]!.used := by simp [roomI, hh]
      rw [hri, Int.toNat_natCast]
      obtain ⟨b, off, rfl, hq0⟩ := hs.at_ j hj
      have q1 := hq0 0 _ rfl
      have q2 := hq0 1 _ rfl
      rw [Nat.add_zero] at q1
      have hwith := fun w1 (hb : Below w.heap.size w w1) => with_any (some ⟨b, off, none⟩) c l j l[j]!.most (l[j]!.used + many) w1 (hs.below hb) hsm hj
      have HS := Lib.hid hs
      clear hh hs hhas hri hq0
      by_cases hf : l[j]!.most - l[j]!.used < many
      · simp only [hf, if_true]
        generalize l[j]!.most = y0 at *
        generalize l[j]!.used = y1 at *
        clear hwith
        by_cases hm2 : 1000 < many
        · go_enter Try.func8, Try.ntmps8
          go_wp2_with (go_at_call 22; refine h.mono ?_; rintro e w2 ⟨rfl, hb2⟩; rw [← hb2.cell (World.block_lt_of_cell? w _ q1)] at q1; rw [← hb2.cell (World.block_lt_of_cell? w _ q2)] at q2)
          go_quiet (fail)
          go_wp2
          go_ret2
          exact ⟨_, _, rfl, HS.out.below (bdrewN hb2 _), bdrewN hb2 _⟩
        · have hx : y0 < y1 + many := by omega
          have hwr : IntKind.i64.wrap (y1 + many) = y1 + many := IntWalk.i64_in _ (by omega)
          go_enter Try.func8, Try.ntmps8
          go_wp2_with (go_at_call 22; refine h.mono ?_; rintro e w2 ⟨rfl, hb2⟩; rw [← hb2.cell (World.block_lt_of_cell? w _ q1)] at q1; rw [← hb2.cell (World.block_lt_of_cell? w _ q2)] at q2)
          go_quiet (fail)
          go_wp2
          go_ret2
          exact ⟨_, _, rfl, HS.out.below (bdrewN hb2 _), bdrewN hb2 _⟩
      · simp only [hf, if_false]
        generalize l[j]!.most = y0 at *
        generalize l[j]!.used = y1 at *
        have hx : ¬ y0 < y1 + many := by omega
        have hm2 : ¬ 1000 < many := by omega
        have hwr : IntKind.i64.wrap (y1 + many) = y1 + many := IntWalk.i64_in _ (by omega)
        go_enter Try.func8, Try.ntmps8
        go_wp2_with (go_at_call 22; refine h.mono ?_; rintro e w2 ⟨rfl, hb2⟩; rw [← hb2.cell (World.block_lt_of_cell? w _ q1)] at q1; rw [← hb2.cell (World.block_lt_of_cell? w _ q2)] at q2)
        go_quiet (fail)
        go_wp2
        have hb3 : Below w.heap.size w (w2.drewN nq) := bdrewN hb2 _
        change (w2.drewN nq).cell? _ = _ at q1
        change (w2.drewN nq).cell? _ = _ at q2
        generalize w2.drewN nq = w3 at *
        clear hb2
        go_still_tail 14, (by kernel_rfl)
        change wpList _ _ _ _ _ w3.drew
        have hb4 := hb3.drew
        generalize w3.drew = w4 at *
        go_wp2_with (go_at_call 23; refine (hwith _ hb4).mono ?_; rintro e w5 ⟨v, rfl, hn⟩)
        go_ret2
        obtain ⟨A2, c2, rfl, hs2⟩ := hn.sl
        exact ⟨A2, c2, rfl, hs2, hb4.trans (hn.2.mono hb4.size)⟩
set_option maxHeartbeats 2000000 in
theorem rGive_any (A : Option Addr) (c : Nat) (l : List Cls) (n many : Int) (w : World) (hs : Sl 2 Cls.enc w A l) (hsm : l.length ≤ 1000000) :
    Calls Try.prog 11 #[.slice A l.length c, .int .i64 n, .int .i64 many] w (RGives w (giveL l n many)) := by
  have hbig := hs.big
  have hhas := fun w1 (hb : Below w.heap.size w w1) => rhas_any A c l n w1 (hs.below hb)
  unfold giveL
  cases hh : hasB l n with
  | false =>
    have h := hhas w (Below.refl _ _)
    rw [hh] at h
    simp only [true_or, if_true]
    have HS := Lib.hid hs
    clear hh hs hhas
    go_enter Try.func11, Try.ntmps11
    go_wp2_with (go_at_call 22; refine h.mono ?_; rintro e w2 ⟨rfl, hb2⟩)
    go_ret2
    exact ⟨_, _, rfl, HS.out.below hb2, hb2⟩
  | true =>
    have h := hhas w (Below.refl _ _)
    rw [hh] at h
    simp only [Bool.true_eq_false, false_or]
    by_cases hm : many < 0
    · simp only [hm, if_true]
      have HS := Lib.hid hs
      clear hh hs hhas
      go_enter Try.func11, Try.ntmps11
      go_wp2_with (go_at_call 22; refine h.mono ?_; rintro e w2 ⟨rfl, hb2⟩)
      go_ret2
      exact ⟨_, _, rfl, HS.out.below hb2, hb2⟩
    · simp only [hm, if_false]
      obtain ⟨hr, h1, h2⟩ := hasB_iff.1 hh
      obtain ⟨j, rfl⟩ := Int.eq_ofNat_of_zero_le h1
      have hj : j < l.length := by omega
      obtain ⟨g1, g2, g3, g4⟩ := rightB_at hr j hj
      rw [Int.toNat_natCast]
      obtain ⟨b, off, rfl, hq0⟩ := hs.at_ j hj
      have q1 := hq0 0 _ rfl
      have q2 := hq0 1 _ rfl
      rw [Nat.add_zero] at q1
      have hwith := fun w1 (hb : Below w.heap.size w w1) => with_any (some ⟨b, off, none⟩) c l j l[j]!.most (l[j]!.used - many) w1 (hs.below hb) hsm hj
      have HS := Lib.hid hs
      clear hh hs hhas hq0
      by_cases hf : l[j]!.used < many
      · simp only [hf, if_true]
        generalize l[j]!.most = y0 at *
        generalize l[j]!.used = y1 at *
        clear hwith
        by_cases hm2 : 1000 < many
        · go_enter Try.func11, Try.ntmps11
          go_wp2_with (go_at_call 22; refine h.mono ?_; rintro e w2 ⟨rfl, hb2⟩; rw [← hb2.cell (World.block_lt_of_cell? w _ q1)] at q1; rw [← hb2.cell (World.block_lt_of_cell? w _ q2)] at q2)
          go_ret2
          exact ⟨_, _, rfl, HS.out.below hb2, hb2⟩
        · have hx : y1 - many < 0 := by omega
          have hwr : IntKind.i64.wrap (y1 - many) = y1 - many := IntWalk.i64_in _ (by omega)
          go_enter Try.func11, Try.ntmps11
          go_wp2_with (go_at_call 22; refine h.mono ?_; rintro e w2 ⟨rfl, hb2⟩; rw [← hb2.cell (World.block_lt_of_cell? w _ q1)] at q1; rw [← hb2.cell (World.block_lt_of_cell? w _ q2)] at q2)
          go_ret2
          exact ⟨_, _, rfl, HS.out.below hb2, hb2⟩
      · simp only [hf, if_false]
        generalize l[j]!.most = y0 at *
        generalize l[j]!.used = y1 at *
        have hx : ¬ y1 - many < 0 := by omega
        have hm2 : ¬ 1000 < many := by omega
        have hwr : IntKind.i64.wrap (y1 - many) = y1 - many := IntWalk.i64_in _ (by omega)
        go_enter Try.func11, Try.ntmps11
        go_wp2_with (go_at_call 22; refine h.mono ?_; rintro e w2 ⟨rfl, hb2⟩; rw [← hb2.cell (World.block_lt_of_cell? w _ q1)] at q1; rw [← hb2.cell (World.block_lt_of_cell? w _ q2)] at q2)
        go_still_tail 14, (by kernel_rfl)
        change wpList _ _ _ _ _ w2.drew
        have hb4 := hb2.drew
        generalize w2.drew = w4 at *
        go_wp2_with (go_at_call 23; refine (hwith _ hb4).mono ?_; rintro e w5 ⟨v, rfl, hn⟩)
        go_ret2
        obtain ⟨A2, c2, rfl, hs2⟩ := hn.sl
        exact ⟨A2, c2, rfl, hs2, hb4.trans (hn.2.mono hb4.size)⟩
end Go.Proofs.Ytcjlpgpmoleidaa
