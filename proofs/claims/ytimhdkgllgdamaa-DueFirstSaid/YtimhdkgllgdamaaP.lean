/- The walks of due.Drop, First, Come. -/
import Derived.Test.YtimhdkgllgdamaaO
namespace Go.Proofs.Ytimhdkgllgdamaa
open Go.RowKit Go.Lib D
set_option linter.unusedVariables false

set_option maxHeartbeats 16000000 in
theorem drop_any (A : Option Addr) (c n : Nat) (l : List Du) (t : Int) (w : World) (hs : Sl 2 Du.enc w A l) (hn : l.length = n) (hn1 : n ≤ 1000000) :
    Calls Try.prog 13 #[.slice A n c, .int .i64 t] w (Gives w (dropD l t)) := by
  have cC := clone_any A c n l w hs hn hn1
  have HN := Lib.hid hn
  clear hn hs
  cases hr : rightD l with
  | false =>
    have hA : dropD l t = (l, 1) := by unfold dropD; rw [if_neg (fun h => by rw [hr] at h; exact absurd h (by decide))]
    rw [hA]
    clear hA
    go_enter Try.func13, Try.ntmps13
    go_wp2_with fail
    refine cC.mono ?_
    rintro e w1 ⟨v1, rfl, own1, hb1⟩
    clear cC
    obtain ⟨A3, c3, rfl⟩ := own_shape own1
    have cR := right_any A3 c3 n l w1 (Sl.of_own Du.enc_len own1 HN.out) HN.out hn1
    rw [hr] at cR
    clear hr
    go_wp2_with fail
    refine cR.mono ?_
    rintro e w2 ⟨rfl, hb2⟩
    replace own1 := own_below own1 hb2
    replace hb1 := hb1.trans (hb2.mono hb1.size)
    clear cR hb2
    go_wp2_with fail
    go_ret2
    exact gives_of own1 HN.out (Nat.le_refl _) hb1
  | true =>
    have hA : dropD l t = if (restD l t).length = l.length then (l, 7) else (restD l t, 0) := by unfold dropD; rw [if_pos hr]
    rcases place_cases l t with ⟨hp, hmiss⟩ | ⟨k, hk, hp, hkw⟩
    · rw [rest_miss hmiss, if_pos rfl] at hA
      rw [hA]
      clear hA
      go_enter Try.func13, Try.ntmps13
      go_wp2_with fail
      refine cC.mono ?_
      rintro e w1 ⟨v1, rfl, own1, hb1⟩
      clear cC
      obtain ⟨A3, c3, rfl⟩ := own_shape own1
      have cR := right_any A3 c3 n l w1 (Sl.of_own Du.enc_len own1 HN.out) HN.out hn1
      rw [hr] at cR
      clear hr
      go_wp2_with fail
      refine cR.mono ?_
      rintro e w2 ⟨rfl, hb2⟩
      replace own1 := own_below own1 hb2
      replace hb1 := hb1.trans (hb2.mono hb1.size)
      have cP := place_any A3 c3 n l t w2 (Sl.of_own Du.enc_len own1 HN.out) HN.out
      rw [hp] at cP
      clear cR hb2 hp hmiss
      go_wp2_with fail
      refine cP.mono ?_
      rintro e w3 ⟨rfl, hb2⟩
      replace own1 := own_below own1 hb2
      replace hb1 := hb1.trans (hb2.mono hb1.size)
      clear cP hb2
      go_wp2_with fail
      go_ret2
      exact gives_of own1 HN.out (Nat.le_refl _) hb1
    · rw [rest_hit hr hk hkw, if_neg (by rw [List.length_eraseIdx, if_pos hk]; omega)] at hA
      rw [hA]
      have hlE : (l.eraseIdx k).length = n - 1 := by rw [List.length_eraseIdx, if_pos hk, HN.out]
      have HLE := Lib.hid hlE
      have hkn : k < n := by rw [← HN.out]; exact hk
      have z0 : ¬ (k : Int) < 0 := by omega
      clear hA hlE
      go_enter Try.func13, Try.ntmps13
      go_wp2_with fail
      refine cC.mono ?_
      rintro e w1 ⟨v1, rfl, own1, hb1⟩
      clear cC
      obtain ⟨g, c3, rfl⟩ := own_slice own1 (by omega)
      have cR := right_any _ c3 n l w1 (Sl.of_own Du.enc_len own1 HN.out) HN.out hn1
      rw [hr] at cR
      clear hr
      go_wp2_with fail
      refine cR.mono ?_
      rintro e w2 ⟨rfl, hb2⟩
      replace own1 := own_below own1 hb2
      replace hb1 := hb1.trans (hb2.mono hb1.size)
      have cP := place_any _ c3 n l t w2 (Sl.of_own Du.enc_len own1 HN.out) HN.out
      rw [hp] at cP
      clear cR hb2 hp hk hkw
      go_wp2_with fail
      refine cP.mono ?_
      rintro e w3 ⟨rfl, hb2⟩
      replace own1 := own_below own1 hb2
      replace hb1 := hb1.trans (hb2.mono hb1.size)
      have hgb := own1.lt g rfl
      have cD := delete_any g w.heap.size n c3 k l w3 own1 HN.out hkn hn1
      clear cP hb2
      go_wp2_with fail
      refine cD.mono ?_
      rintro e w4 ⟨rfl, own4, hg4⟩
      have hb4 := hb1.grown hg4 hb1.size (fun j hj => by injection hj with hj; omega)
      clear cD hb1
      go_wp2_with fail
      go_ret2
      exact gives_of own4 HLE.out (Nat.le_refl _) hb4

set_option maxHeartbeats 16000000 in
theorem first_any (A : Option Addr) (c n : Nat) (l : List Du) (w : World) (hs : Sl 2 Du.enc w A l) (hn : l.length = n) (hn1 : n ≤ 1000000) :
    Calls Try.prog 17 #[.slice A n c] w fun e w' => e = .returned (.tuple #[.int .i64 (firstD l).1, .bool (firstD l).2]) ∧ Below w.heap.size w w' := by
  have cR := right_any A c n l w hs hn hn1
  cases hr : rightD l with
  | false =>
    have hF : firstD l = (0, false) := by unfold firstD; rw [if_neg (fun h => by rw [hr] at h; exact absurd h.1 (by decide))]
    rw [hF]
    rw [hr] at cR
    clear hF hr hn hs
    go_enter Try.func17, Try.ntmps17
    go_wp2_with fail
    refine cR.mono ?_
    rintro e w1 ⟨rfl, hb1⟩
    clear cR
    go_wp2_with fail
    go_ret2
    exact ⟨rfl, hb1⟩
  | true =>
    rw [hr] at cR
    by_cases h0 : n = 0
    · have hF : firstD l = (0, false) := by unfold firstD; rw [if_neg (fun h => h.2 (List.length_eq_zero_iff.1 (by omega)))]
      rw [hF]
      subst h0
      clear hF hr hn hs
      go_enter Try.func17, Try.ntmps17
      go_wp2_with fail
      refine cR.mono ?_
      rintro e w1 ⟨rfl, hb1⟩
      clear cR
      go_wp2_with fail
      go_ret2
      exact ⟨rfl, hb1⟩
    · have hF : firstD l = (l[0]!.when_, true) := by unfold firstD; rw [if_pos ⟨hr, fun e => h0 (by rw [← hn, e]; rfl)⟩]
      rw [hF]
      obtain ⟨bb, off, rfl, hq⟩ := hs.at_ 0 (by omega)
      have q0 : w.cell? ⟨bb, off, none⟩ = some (.int .i64 l[0]!.when_) := by have := hq 0 _ rfl; simpa using this
      have z1 : ((n : Int) == 0) = false := by rw [beq_eq_false_iff_ne]; omega
      have z2 : (0 : Int) < (n : Int) := by omega
      have z3 : 0 < n := by omega
      generalize l[0]!.when_ = tt at *
      clear hF hr hn hs hq h0
      go_enter Try.func17, Try.ntmps17
      go_wp2_with fail
      refine cR.mono ?_
      rintro e w1 ⟨rfl, hb1⟩
      have q1 := (hb1.cell (World.block_lt_of_cell? _ _ q0)).trans q0
      clear cR
      go_wp2_with fail
      go_ret2
      exact ⟨rfl, hb1⟩
end Go.Proofs.Ytimhdkgllgdamaa
