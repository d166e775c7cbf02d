/- Walks of commit's reference: span, Right, split. -/
import Derived.Test.YtkkbpcnoamagcaaI
namespace Go.Proofs.Ytkkbpcnoamagcaa
open Go.RowKit Go.Lib

theorem rspan_any (n : Int) (w : World) : Calls Try.prog 21 #[.int .i64 n] w fun e w' => e = .returned (.bool (spanB n)) ∧ w' = w := by
  by_cases h1 : 0 ≤ n
  · by_cases h2 : n ≤ 1099511627776
    all_goals
      have hk : spanB n = decide (n ≤ 1099511627776) := by simp [spanB, h1]
      rw [hk]; clear hk
      go_enter Try.func21, Try.ntmps21
      go_wp2
      go_ret
      exact ⟨by simp [h2], rfl⟩
  · have hk : spanB n = false := by simp [spanB]; omega
    rw [hk]; clear hk
    go_enter Try.func21, Try.ntmps21
    go_wp2
    go_ret
    exact ⟨rfl, rfl⟩

theorem spanB_bd {n : Int} (h : spanB n = true) : 0 ≤ n ∧ n ≤ 1099511627776 := by simpa [spanB] using h
def RAt (h : List Hld) (j : Nat) : Prop := j ≤ 63 ∧ spanB h[j]!.span = true ∧ (0 < j → h[j - 1]!.span ≤ h[j]!.span)
theorem rightB_iff (h : List Hld) : rightB h = true ↔ ∀ j, j < h.length → RAt h j := by
  simp only [rightB, Bool.and_eq_true, decide_eq_true_eq, List.all_eq_true, sortB, RAt]
  constructor
  · rintro ⟨h1, h2, h3⟩ j hj
    refine ⟨by omega, by rw [getElem!_pos h j hj]; exact h2 _ (List.getElem_mem hj), fun h0 => ?_⟩
    have := h3 (j - 1) (by omega)
    rwa [show j - 1 + 1 = j by omega] at this
  · intro H
    refine ⟨?_, fun x hx => ?_, fun i hi => ?_⟩
    · by_cases h0 : h.length = 0
      · omega
      · have := (H (h.length - 1) (by omega)).1; omega
    · obtain ⟨j, hj, rfl⟩ := List.getElem_of_mem hx
      have := (H j hj).2.1
      rwa [getElem!_pos h j hj] at this
    · have := (H (i + 1) (by omega)).2.2 (by omega)
      simpa using this
theorem rightB_not {h : List Hld} {j : Nat} (hj : j < h.length) (hn : ¬ RAt h j) : rightB h = false := by
  cases hr : rightB h with
  | false => rfl
  | true => exact absurd ((rightB_iff h).1 hr j hj) hn

set_option maxHeartbeats 8000000 in
theorem rRight_any (A B : Option Addr) (c d n m : Nat) (h : List Hld) (t : List Tld) (w : World) (hg : GateIn w A B h t) (hn : h.length = n) :
    Calls Try.prog 15 #[.agg #[.slice A n c, .slice B m d]] w fun e w' => e = .returned (.bool (rightB h)) ∧ Below w.heap.size w w' := by
  have hbig := hg.held.big
  rw [hn] at hbig
  have b0 : Below w.heap.size w (w.alloc (.cells #[.slice A n c, .slice B m d] 25)) := (Below.refl _ _).alloc (Nat.le_refl _) _
  have e0 : (w.alloc (.cells #[.slice A n c, .slice B m d] 25)).cell? ⟨w.heap.size, 0, none⟩ = some (.slice A n c) := by go_simp
  have HS := Lib.hid (hg.held.below b0)
  have HN := Lib.hid hn
  clear hg hn
  go_enter Try.func15, Try.ntmps15
  go_wp2_with fail
  generalize w.alloc (.cells #[.slice A n c, .slice B m d] 25) = w0 at *
  go_loopg [3] n (fun gg s3 wr => ∃ kk : Nat, kk ≤ n ∧ n - kk ≤ gg ∧ s3 = .int .i64 kk ∧ Aside (Below w0.heap.size w0 wr) ∧ Aside (∀ j, j < kk → RAt h j))
  case atStart => exact ⟨0, Nat.zero_le _, by omega, rfl, Below.refl _ _, fun j hj => absurd hj (Nat.not_lt_zero _)⟩
  case round =>
    obtain ⟨kk, hkk, hg, rfl, BW, AA⟩ := hrel
    have e0r := (BW.out.cell (World.block_lt_of_cell? _ _ e0)).trans e0
    clear e0
    have b2 := b0.trans (BW.out.mono b0.size)
    by_cases hlt : kk < n
    · have hltz : (kk : Int) < (n : Int) := by omega
      have hin : kk < h.length := by rw [HN.out]; exact hlt
      have HI := Lib.hid hin
      obtain ⟨b, off, rfl, hq0⟩ := HS.out.at_ kk hin
      have q2 := hq0 2 _ rfl
      rw [← BW.out.cell (World.block_lt_of_cell? _ _ q2)] at q2
      by_cases h63 : 63 < (kk : Int)
      · have HK := Lib.hid (rightB_not hin (fun hr => by have := hr.1; omega))
        clear hq0 hin
        generalize h[kk]! = y at q2
        go_wp2_with fail
        go_quiet ((go_at_call 21; exact Calls.quiet_of_same (rspan_any _ _)))
        go_wp2_with fail
        go_ret
        rw [HK.out]
        exact ⟨rfl, bdrewN b2 _⟩
      · have h63d : decide (63 < (kk : Int)) = false := by simpa using h63
        have hsp := fun w => rspan_any h[kk]!.span w
        by_cases hs : spanB h[kk]!.span = true
        · simp only [hs] at hsp
          by_cases hk0 : kk = 0
          · have hrat : RAt h kk := ⟨by omega, hs, fun hh => absurd hk0 (by omega)⟩
            have HR := Lib.hid hrat
            have hz : ¬ 0 < (kk : Int) := by omega
            have hzd : decide (0 < kk) = false := by rw [decide_eq_false_iff_not]; omega
            clear hq0 hin hrat hs
            generalize h[kk]! = y at q2 hsp
            have HKK := Lib.hid hk0
            clear hk0
            go_wp2_with fail
            go_quiet ((go_at_call 21; exact Calls.quiet_of_same (hsp _)))
            go_wp2_with fail
            go_roundg (n - (kk + 1))
            case measure => omega
            case rel =>
              refine ⟨kk + 1, by omega, by omega, by go_num, (show Aside _ from bdrewN BW.out _), (show Aside _ from fun j hj => ?_)⟩
              by_cases e : j = kk
              · subst e
                exact HR.out
              · exact AA.out j (by omega)
          · obtain ⟨m', hmk⟩ : ∃ m' : Nat, kk = m' + 1 := ⟨kk - 1, by omega⟩
            have hm0 : m' < h.length := by omega
            have hm0z : (m' : Int) < (n : Int) := by omega
            have hz : 0 < (kk : Int) := by omega
            have hzd : decide (0 < kk) = true := by rw [decide_eq_true_iff]; omega
            obtain ⟨b', off', hbe, hp0⟩ := HS.out.at_ m' hm0
            obtain ⟨rfl, rfl⟩ : b = b' ∧ off = off' := by simpa using hbe
            have p2 := hp0 2 _ rfl
            rw [← BW.out.cell (World.block_lt_of_cell? _ _ p2)] at p2
            have hwr : IntKind.i64.wrap ((kk : Int) - 1) = (m' : Int) := by rw [IntWalk.i64_in _ (by omega)]; omega
            have hm00 : 0 ≤ (m' : Int) := by omega
            by_cases hle : h[m']!.span ≤ h[kk]!.span
            · have hrat : RAt h kk := ⟨by omega, hs, fun _ => by rw [hmk]; rw [hmk] at hle; simpa using hle⟩
              have HR := Lib.hid hrat
              have hc : decide (h[kk]!.span < h[m']!.span) = false := by rw [decide_eq_false_iff_not]; omega
              clear hq0 hp0 hbe hin hrat hs hle hm0 hk0
              generalize h[kk]! = y at q2 hsp hc
              generalize h[m']! = z at p2 hc
              have HKK := Lib.hid hmk
              clear hmk
              go_wp2_with fail
              go_quiet ((go_at_call 21; exact Calls.quiet_of_same (hsp _)))
              go_wp2_with fail
              go_roundg (n - (kk + 1))
              case measure => omega
              case rel =>
                refine ⟨kk + 1, by omega, by omega, by go_num, (show Aside _ from bdrewN BW.out _), (show Aside _ from fun j hj => ?_)⟩
                by_cases e : j = kk
                · subst e
                  exact HR.out
                · exact AA.out j (by omega)
            · have HK := Lib.hid (rightB_not hin (fun hr => by have := hr.2.2 (by omega); rw [hmk] at this hle; exact hle (by simpa using this)))
              have hc : decide (h[kk]!.span < h[m']!.span) = true := by rw [decide_eq_true_iff]; omega
              clear hq0 hp0 hbe hin hs hle hm0 hk0
              generalize h[kk]! = y at q2 hsp hc
              generalize h[m']! = z at p2 hc
              have HKK := Lib.hid hmk
              clear hmk
              go_wp2_with fail
              go_quiet ((go_at_call 21; exact Calls.quiet_of_same (hsp _)))
              go_wp2_with fail
              go_ret
              rw [HK.out]
              exact ⟨rfl, bdrewN b2 _⟩
        · have hs' : spanB h[kk]!.span = false := by simpa using hs
          simp only [hs'] at hsp
          have HK := Lib.hid (rightB_not hin (fun hr => hs hr.2.1))
          clear hq0 hin hs hs'
          generalize h[kk]! = y at q2 hsp
          go_wp2_with fail
          go_quiet ((go_at_call 21; exact Calls.quiet_of_same (hsp _)))
          go_wp2_with fail
          go_ret
          rw [HK.out]
          exact ⟨rfl, bdrewN b2 _⟩
    · have hltz : ¬ (kk : Int) < (n : Int) := by omega
      have hfin : rightB h = true := (rightB_iff h).2 fun j hj => AA.out j (by rw [HN.out] at hj; omega)
      have HF := Lib.hid hfin
      clear hfin
      go_wp2_with fail
      go_ret
      rw [HF.out]
      exact ⟨rfl, b2⟩

end Go.Proofs.Ytkkbpcnoamagcaa
