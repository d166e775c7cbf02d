/- The walk of the reference's New. -/
import Derived.Test.YtdndanjabknjpaaBD
namespace Go.Proofs.Ytdndanjabknjpaa
open Go.RowKit Go.Lib

set_option linter.unusedVariables false
set_option maxHeartbeats 4000000 in
set_option maxRecDepth 100000 in
theorem rNew_any (a b : Int) (w : World) : Calls Try.prog 21 #[.int .i64 a, .int .i64 b] w (GivesC w (newC a b)) := by
  have b0 : Below w.heap.size w (w.alloc (.cells #[.int .i64 0, .int .i64 0, .int .i64 0, .slice none 0 0] 26)) := (Below.refl _ _).alloc (Nat.le_refl _) _
  have X := Bx.new w [.int .i64 0, .int .i64 0, .int .i64 0, .slice none 0 0] 26
  have z0 := X.cell 0 _ rfl
  have z1 := X.cell 1 _ rfl
  have z2 := X.cell 2 _ rfl
  have z3 := X.cell 3 _ rfl
  have f0 := X.froz 0
  have f1 := X.froz 1
  have f2 := X.froz 2
  have f3 := X.froz 3
  have bad : ¬ (1 ≤ a ∧ a ≤ 8 ∧ 1 ≤ b ∧ b ≤ 8) → newC a b = (⟨0, 0, 0, []⟩, 1) := fun h => by unfold newC; rw [if_neg h]
  by_cases h0 : a < 1
  · have q0 : decide (a < 1) = true := decide_eq_true h0
    have HU := Lib.hid (bad (by omega))
    have OF := Lib.hid b0
    clear bad X
    go_enter Try.func21, Try.ntmps21
    go_wp2_with fail
    refine bodyPost_ret (v := .tuple #[.agg #[.int .i64 0, .int .i64 0, .int .i64 0, .slice none 0 0], .int .i64 1]) (by simp [results, Try.results21, go_sem]) rfl ?_
    rw [HU.out]
    exact ⟨none, 0, rfl, ⟨[], OwnC.nil _ _⟩, OF.out⟩
  · have q0 : decide (a < 1) = false := decide_eq_false h0
    by_cases h1 : 8 < a
    · have q1 : decide (8 < a) = true := decide_eq_true h1
      have HU := Lib.hid (bad (by omega))
      have OF := Lib.hid b0
      clear bad X
      go_enter Try.func21, Try.ntmps21
      go_wp2_with fail
      refine bodyPost_ret (v := .tuple #[.agg #[.int .i64 0, .int .i64 0, .int .i64 0, .slice none 0 0], .int .i64 1]) (by simp [results, Try.results21, go_sem]) rfl ?_
      rw [HU.out]
      exact ⟨none, 0, rfl, ⟨[], OwnC.nil _ _⟩, OF.out⟩
    · have q1 : decide (8 < a) = false := decide_eq_false h1
      by_cases h2 : b < 1
      · have q2 : decide (b < 1) = true := decide_eq_true h2
        have HU := Lib.hid (bad (by omega))
        have OF := Lib.hid b0
        clear bad X
        go_enter Try.func21, Try.ntmps21
        go_wp2_with fail
        refine bodyPost_ret (v := .tuple #[.agg #[.int .i64 0, .int .i64 0, .int .i64 0, .slice none 0 0], .int .i64 1]) (by simp [results, Try.results21, go_sem]) rfl ?_
        rw [HU.out]
        exact ⟨none, 0, rfl, ⟨[], OwnC.nil _ _⟩, OF.out⟩
      · have q2 : decide (b < 1) = false := decide_eq_false h2
        by_cases h3 : 8 < b
        · have q3 : decide (8 < b) = true := decide_eq_true h3
          have HU := Lib.hid (bad (by omega))
          have OF := Lib.hid b0
          clear bad X
          go_enter Try.func21, Try.ntmps21
          go_wp2_with fail
          refine bodyPost_ret (v := .tuple #[.agg #[.int .i64 0, .int .i64 0, .int .i64 0, .slice none 0 0], .int .i64 1]) (by simp [results, Try.results21, go_sem]) rfl ?_
          rw [HU.out]
          exact ⟨none, 0, rfl, ⟨[], OwnC.nil _ _⟩, OF.out⟩
        · have q3 : decide (8 < b) = false := decide_eq_false h3
          obtain ⟨n, rfl⟩ : ∃ n : Nat, a = (n : Int) := ⟨a.toNat, by omega⟩
          obtain ⟨i0, hi0, hz0, hz1, hz2⟩ := info_parts info40
          have hU : newC (n : Int) b = (⟨n, b, 0, List.replicate n []⟩, 0) := by unfold newC; rw [if_pos (by omega), Int.toNat_natCast]
          have HU := Lib.hid hU
          have hn8 : n ≤ 8 := by omega
          have hn1 : 1 ≤ n := by omega
          have hmk : ∀ W, (Instr.makeSlice 24 (.int .i64 (n : Int)) (.int .i64 (n : Int))).run Try.prog W = .ok (.slice (some ⟨W.heap.size, 0, none⟩) n n) (W.alloc (.cells (rowOf n) 40)) := fun W => by
            have := run_make (P := Try.prog) W 24 40 i0 (.slice none 0 0) Try.underlying24 hi0 hz0 .i64 .i64 (n : Int) (n : Int) (by omega) (Int.le_refl _) (by rw [hz2]; omega) (by omega)
            rw [hz1, Int.toNat_natCast] at this
            exact this
          have hO := madeC (w.alloc (.cells #[.int .i64 (n : Int), .int .i64 b, .int .i64 0, .slice (some ⟨w.heap.size + 1, 0, none⟩) n n] 26)) (w.heap.size + 1) n (by omega) (by simp)
          rw [show (w.alloc (.cells #[.int .i64 (n : Int), .int .i64 b, .int .i64 0, .slice (some ⟨w.heap.size + 1, 0, none⟩) n n] 26)).heap.size = w.heap.size + 1 by simp] at hO
          have OF := Lib.hid hO
          have BF := Lib.hid (((Below.refl w.heap.size w).alloc (Nat.le_refl _) (.cells #[.int .i64 (n : Int), .int .i64 b, .int .i64 0, .slice (some ⟨w.heap.size + 1, 0, none⟩) n n] 26)).alloc (by simp) (.cells (rowOf n) 40))
          clear bad hU hO b0
          go_enter Try.func21, Try.ntmps21
          go_wp2_with fail
          refine bodyPost_ret (v := .tuple #[.agg #[.int .i64 (n : Int), .int .i64 b, .int .i64 0, .slice (some ⟨w.heap.size + 1, 0, none⟩) n n], .int .i64 0]) (by simp [results, Try.results21, go_sem]) rfl ?_
          rw [HU.out]
          unfold GivesC
          simp only [List.length_replicate]
          exact ⟨_, _, rfl, ⟨_, OF.out.weaken (Nat.le_succ _)⟩, BF.out⟩
end Go.Proofs.Ytdndanjabknjpaa
