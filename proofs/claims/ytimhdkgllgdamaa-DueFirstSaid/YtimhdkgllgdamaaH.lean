/- Walks of container/heap at the queue: up; the queue's Pop. -/
import Derived.Test.YtimhdkgllgdamaaG
namespace Go.Proofs.Ytimhdkgllgdamaa
open Go.RowKit Go.Lib D
set_option linter.unusedVariables false

set_option maxHeartbeats 16000000 in
theorem up_any (QX base b n c j0 : Nat) (l : List Du) (w : World) (h : HQ w QX base b n c l) (hn1 : n ≤ 1000000) (hj0 : j0 < n) (f : Nat) (hf : j0 ≤ f) :
    Calls Try.prog 38 #[.iface 52 (.pointer (some ⟨QX, 0, none⟩)), .int .i64 (j0 : Int)] w fun e w' => e = .returned (.tuple #[]) ∧ HQ w' QX base b n c (upF f l j0) ∧ w.grownBy w' (some b) := by
  have HH := Lib.hid h
  have G0 : w.grownBy w (some b) := World.grownBy.refl w _
  clear h
  go_enter Try.func38, Try.ntmps38
  go_wp2_with fail
  go_loopg [1] j0 (fun gg s1 wr => ∃ (j f' : Nat) (l' : List Du), j < n ∧ j ≤ f' ∧ j ≤ gg ∧ s1 = .int .i64 (j : Int) ∧ HQ wr QX base b n c l' ∧ Aside (upF f' l' j = upF f l j0) ∧ Aside (w.grownBy wr (some b)))
  case atStart => exact ⟨j0, f, l, hj0, hf, Nat.le_refl _, rfl, HH.out, rfl, G0⟩
  case round =>
    obtain ⟨j, f', l', hj, hf', hg, rfl, h, HE, HG⟩ := hrel
    by_cases h0 : j = 0
    · subst h0
      have HX := Lib.hid (HE.out.symm.trans (upF_stop (.inl rfl)))
      clear HE
      have z1 : IntKind.i64.wrap ((0 : Int) - 1) = -1 := by decide
      have z2 : IntKind.i64.wrap (((0 : Int) - 1).tdiv 2) = 0 := by decide
      go_wp2_with fail
      go_end0
      rw [HX.out]
      exact ⟨by simp, h, HG.out⟩
    · obtain ⟨q, hq⟩ : ∃ q, (j - 1) / 2 = q := ⟨_, rfl⟩
      have hqj : q < j := by omega
      have z1 : ((j : Int) - 1).tdiv 2 = (q : Int) := by
        rw [Int.tdiv_eq_ediv_of_nonneg (by omega)]; omega
      have z3 : (q : Int) ≠ (j : Int) := by omega
      have z4 : ((q : Int) == (j : Int)) = false := by rw [beq_eq_false_iff_ne]; exact z3
      have cA := fun w1 (h : HQ w1 QX base b n c l') => qless_any (some ⟨b, 0, none⟩) n c j q l' w1 h.sl h.len (by omega) (by omega) hn1
      by_cases hl : lessD l'[j]! l'[q]! = true
      · obtain ⟨f2, rfl⟩ : ∃ f2, f' = f2 + 1 := ⟨f' - 1, by omega⟩
        have hgo := upF_go (f := f2) h0 (by rw [hq]; exact hl)
        rw [hq] at hgo
        have HGO := Lib.hid (hgo.symm.trans HE.out)
        rw [hl] at cA
        have cS := fun w1 (h : HQ w1 QX base b n c l') => swap_any base b n c q j l' w1 h.own h.len (by omega) (by omega) hn1
        clear hgo hl HE hq
        have hm1 := h.less
        go_wp2_with fail
        refine (cA _ h).mono ?_
        rintro e w2 ⟨rfl, hb2⟩
        replace h := h.below hb2
        replace HG : Aside _ := grown_of_below HG.out hb2
        have hm2 := h.swap
        go_wp2_with fail
        refine (cS _ h).mono ?_
        rintro e w4 ⟨rfl, own4, hg4⟩
        have h4 := h.turn (l' := swapL l' q j) hg4 own4 (by rw [swapL_len]; exact h.len)
        have hg5 := HG.out.trans hg4
        clear hm2 own4 hg4
        go_wp2_with fail
        go_roundg q
        case measure => omega
        case rel => exact ⟨q, f2, swapL l' q j, by omega, by omega, by omega, by go_num, h4, (show Aside _ from HGO.out), (show Aside _ from hg5)⟩
      · have hl2 : lessD l'[j]! l'[q]! = false := by simpa using hl
        have HX := Lib.hid (HE.out.symm.trans (upF_stop (.inr (by rw [hq]; exact hl2))))
        rw [hl2] at cA
        clear hl hl2 HE hq
        have hm1 := h.less
        go_wp2_with fail
        refine (cA _ h).mono ?_
        rintro e w2 ⟨rfl, hb2⟩
        replace h := h.below hb2
        have hg3 := grown_of_below HG.out hb2
        go_wp2_with fail
        go_end0
        rw [HX.out]
        exact ⟨by simp, h, hg3⟩
end Go.Proofs.Ytimhdkgllgdamaa
