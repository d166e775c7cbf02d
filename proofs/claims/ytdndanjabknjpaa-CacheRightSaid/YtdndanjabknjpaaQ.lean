/- Walks of the reference: at. -/
import Derived.Test.YtdndanjabknjpaaP
namespace Go.Proofs.Ytdndanjabknjpaa
open Go.RowKit Go.Lib
set_option linter.unusedVariables false
set_option maxHeartbeats 8000000 in
theorem at_any (A : Option Addr) (c n s : Nat) (x : Ca) (hs : List Hd) (t : Int) (w : World) (hc : CIn w A x.lines hs) (hn : x.lines.length = n) (hsn : s < n) (hst : t.tmod x.sets = (s : Int)) (h0 : x.sets ≠ 0) (hn1 : n ≤ 1000000) :
    Calls Try.prog 29 #[.agg #[.int .i64 x.sets, .int .i64 x.ways, .int .i64 x.clock, .slice A n c], .int .i64 t] w fun e w' => e = .returned (.int .i64 (idxA x.lines[s]! t)) ∧ Below w.heap.size w w' := by
  have b0 : Below w.heap.size w (w.alloc (.cells #[.int .i64 x.sets, .int .i64 x.ways, .int .i64 x.clock, .slice A n c] 26)) := (Below.refl _ _).alloc (Nat.le_refl _) _
  obtain ⟨bb, off, B2, m, c2, e1, hcell, hm, hmc, _, hsl⟩ := (hc.below b0).at_ s (by rw [hn]; exact hsn)
  subst e1
  have X := Bx.new w [.int .i64 x.sets, .int .i64 x.ways, .int .i64 x.clock, .slice (some ⟨bb, off, none⟩) n c] 26
  have x0 := X.cell 0 _ rfl
  have x3 := X.cell 3 _ rfl
  have hsz : (s : Int) < (n : Int) := by omega
  have hsw : IntKind.i64.wrap (s : Int) = (s : Int) := IntWalk.i64_in _ (by omega)
  have h0b : (x.sets == 0) = false := by rw [beq_eq_false_iff_ne]; exact h0
  have hbig := hsl.big
  rw [hm] at hbig
  have HS := Lib.hid hsl
  have HM := Lib.hid hm
  obtain ⟨l, hl⟩ : ∃ l, l = x.lines[s]! := ⟨_, rfl⟩
  rw [← hl] at HS HM ⊢
  clear hn hc hsl hm hl
  go_enter Try.func29, Try.ntmps29
  go_wp2_with fail
  go_quiet (fail)
  go_wp2_with fail
  have HS1 := Lib.hid (HS.out.below (bdrewN (Below.refl _ _) nq))
  have b1 := bdrewN b0 nq
  generalize (w.alloc (.cells #[.int .i64 x.sets, .int .i64 x.ways, .int .i64 x.clock, .slice (some ⟨bb, off, none⟩) n c] 26)).drewN nq = W1 at *
  go_loopg [6] m (fun gg s6 wr => ∃ i : Nat, i ≤ m ∧ m - i ≤ gg ∧ s6 = .int .i64 (i : Int) ∧ wr = W1 ∧ Aside (∀ j, j < i → decide (l[j]!.addr = t) = false))
  case atStart => exact ⟨0, Nat.zero_le _, by omega, rfl, rfl, fun j hj => absurd hj (Nat.not_lt_zero _)⟩
  case round =>
    obtain ⟨i, him, hg, rfl, rfl, AA⟩ := hrel
    by_cases hlt : i < m
    · have hltz : (i : Int) < (m : Int) := by omega
      have hil : i < l.length := by rw [HM.out]; exact hlt
      obtain ⟨b2, o2, e2, hq⟩ := HS1.out.at_ i hil
      have y0 := hq 0 _ rfl
      rw [Nat.add_zero] at y0
      subst e2
      by_cases he : l[i]!.addr = t
      · have hr : idxA l t = (i : Int) := by
          have := Lib.idxBy_hit (fun _ y => decide (y.addr = t)) l l.length i (default : Ln) hil (Nat.le_refl _) (by simpa using he) AA.out
          rwa [List.take_length] at this
        have HR := Lib.hid hr
        rw [he] at y0
        have z1 : (t == t) = true := by simp
        clear hr he hq hil
        go_wp2_with fail
        go_ret
        rw [HR.out]
        exact ⟨rfl, b1⟩
      · have z1 : (l[i]!.addr == t) = false := by rw [beq_eq_false_iff_ne]; exact he
        have HE := Lib.hid (decide_eq_false he)
        clear he hq hil
        generalize hv : l[i]!.addr = v at y0 z1
        have HV := Lib.hid hv
        clear hv
        go_wp2_with fail
        go_roundg (m - (i + 1))
        case measure => omega
        case rel =>
          refine ⟨i + 1, by omega, by omega, by go_num, rfl, (show Aside _ from fun j hj => ?_)⟩
          by_cases e : j = i
          · subst e; exact HE.out
          · exact AA.out j (by omega)
    · obtain rfl : i = m := by omega
      have hltz : ¬ (i : Int) < (i : Int) := by omega
      have hr : idxA l t = -1 := by
        have := Lib.idxBy_miss (fun _ y => decide (y.addr = t)) l l.length (default : Ln) (by rw [HM.out]; exact AA.out)
        rwa [List.take_length] at this
      have HR := Lib.hid hr
      clear hr
      go_wp2_with fail
      go_ret
      rw [HR.out]
      exact ⟨rfl, b1⟩
end Go.Proofs.Ytdndanjabknjpaa
