/- Walks of cache: place, may, Look. -/
import Derived.Test.YtdndanjabknjpaaE
namespace Go.Proofs.Ytdndanjabknjpaa
open Go.RowKit Go.Lib
set_option linter.unusedVariables false

set_option maxHeartbeats 8000000 in
theorem place_any (A : Option Addr) (c n s : Nat) (x : Ca) (hs : List Hd) (t : Int) (w : World) (hc : CIn w A x.lines hs) (hn : x.lines.length = n) (hsn : s < n) (hst : t.tmod x.sets = (s : Int)) (h0 : x.sets ≠ 0) (hn1 : n ≤ 1000000) :
    Calls Try.prog 26 #[.agg #[.int .i64 x.sets, .int .i64 x.ways, .int .i64 x.clock, .slice A n c], .int .i64 t] w fun e w' => e = .returned (.tuple #[.int .i64 (s : Int), .int .i64 (idxA x.lines[s]! t)]) ∧ Below w.heap.size w w' := by
  have b0 : Below w.heap.size w ((w.alloc (.cells #[.int .i64 x.sets, .int .i64 x.ways, .int .i64 x.clock, .slice A n c] 26)).alloc (.cells #[.int .i64 t] 3)) := ((Below.refl _ _).alloc (Nat.le_refl _) _).alloc (by simp) _
  obtain ⟨bb, off, B2, m, c2, e1, hcell, hm, hmc, _, hsl⟩ := (hc.below b0).at_ s (by rw [hn]; exact hsn)
  subst e1
  have htc : ((w.alloc (.cells #[.int .i64 x.sets, .int .i64 x.ways, .int .i64 x.clock, .slice (some ⟨bb, off, none⟩) n c] 26)).alloc (.cells #[.int .i64 t] 3)).cell? ⟨w.heap.size + 1, 0, none⟩ = some (.int .i64 t) := by go_simp
  have hcI := indexFunc_any 41 #[.pointer (some ⟨w.heap.size + 1, 0, none⟩)] (fun x => decide (x.addr = t)) (enters_of Try.func41 (by kernel_rfl) rfl) B2 c2 m x.lines[s]! _ (addr_pred t (w.heap.size + 1) _ htc (by simp)) hsl hm
  have hR : idxA x.lines[s]! t = Lib.idxBy (fun _ y => decide (y.addr = t)) x.lines[s]! default := rfl
  rw [← hR] at hcI
  generalize idxA x.lines[s]! t = r at *
  have hsz : (s : Int) < (n : Int) := by omega
  have hsw : IntKind.i64.wrap (s : Int) = (s : Int) := IntWalk.i64_in _ (by omega)
  have h0b : (x.sets == 0) = false := by rw [beq_eq_false_iff_ne]; exact h0
  clear hn hc hR hsl hm
  go_enter Try.func26, Try.ntmps26
  go_wp2_with (go_at_call 40; refine hcI.mono ?_; rintro e w' ⟨rfl, hb'⟩)
  go_ret2
  exact ⟨rfl, b0.trans (hb'.mono b0.size)⟩

def mayC (x : Ca) (t : Int) : Bool := rightC x && (decide (0 ≤ t) && decide (x.clock < 1099511627776))
set_option maxHeartbeats 8000000 in
theorem may_any (A : Option Addr) (c n : Nat) (x : Ca) (hs : List Hd) (t : Int) (w : World) (hc : CIn w A x.lines hs) (hn : x.lines.length = n) (hwf : WfC x) :
    Calls Try.prog 25 #[.agg #[.int .i64 x.sets, .int .i64 x.ways, .int .i64 x.clock, .slice A n c], .int .i64 t] w fun e w' => e = .returned (.bool (mayC x t)) ∧ Below w.heap.size w w' := by
  have b0 : Below w.heap.size w (w.alloc (.cells #[.int .i64 x.sets, .int .i64 x.ways, .int .i64 x.clock, .slice A n c] 26)) := (Below.refl _ _).alloc (Nat.le_refl _) _
  have cR := right_any A c n x hs _ (hc.below b0) hn hwf
  have x2 : (w.alloc (.cells #[.int .i64 x.sets, .int .i64 x.ways, .int .i64 x.clock, .slice A n c] 26)).cell? ⟨w.heap.size, 2, none⟩ = some (.int .i64 x.clock) := World.cell?_alloc_new (w := w) _ _ _
  have ltx : w.heap.size < (w.alloc (.cells #[.int .i64 x.sets, .int .i64 x.ways, .int .i64 x.clock, .slice A n c] 26)).heap.size := by simp
  unfold mayC
  clear hc hn hwf
  cases hr : rightC x with
  | false =>
    rw [hr] at cR
    clear hr
    go_enter Try.func25, Try.ntmps25
    go_wp2_with fail
    refine cR.mono ?_
    rintro e w1 ⟨rfl, hb1⟩
    have b1 := b0.trans (hb1.mono b0.size)
    go_wp2_with fail
    go_ret
    exact ⟨rfl, b1⟩
  | true =>
    rw [hr] at cR
    clear hr
    by_cases h1 : 0 ≤ t
    · have z1 : decide (0 ≤ t) = true := decide_eq_true h1
      go_enter Try.func25, Try.ntmps25
      go_wp2_with fail
      generalize w.alloc (.cells #[.int .i64 x.sets, .int .i64 x.ways, .int .i64 x.clock, .slice A n c] 26) = w0 at *
      refine cR.mono ?_
      rintro e w1 ⟨rfl, hb1⟩
      have b1 := b0.trans (hb1.mono b0.size)
      replace x2 := (hb1.cell (p := ⟨w.heap.size, 2, none⟩) ltx).trans x2
      go_wp2_with fail
      go_ret
      rw [z1]
      exact ⟨by simp, b1⟩
    · have z1 : decide (0 ≤ t) = false := decide_eq_false h1
      go_enter Try.func25, Try.ntmps25
      go_wp2_with fail
      refine cR.mono ?_
      rintro e w1 ⟨rfl, hb1⟩
      have b1 := b0.trans (hb1.mono b0.size)
      go_wp2_with fail
      go_ret
      rw [z1]
      exact ⟨by simp, b1⟩

/-- What idxA finds. -/
theorem idxA_cases (l : List Ln) (t : Int) : (idxA l t = -1 ∧ ∀ j, j < l.length → decide (l[j]!.addr = t) = false) ∨ ∃ k, k < l.length ∧ idxA l t = (k : Int) ∧ l[k]!.addr = t ∧ ∀ j, j < k → decide (l[j]!.addr = t) = false := by
  rcases first_hit (fun x : Ln => decide (x.addr = t)) l with h | ⟨k, h1, h2, h3⟩
  · left
    refine ⟨?_, h⟩
    have := Lib.idxBy_miss (fun _ y => decide (y.addr = t)) l l.length (default : Ln) h
    rw [List.take_length] at this
    exact this
  · right
    refine ⟨k, h1, ?_, by simpa using h2, h3⟩
    have := Lib.idxBy_hit (fun _ y => decide (y.addr = t)) l l.length k (default : Ln) h1 (Nat.le_refl _) h2 h3
    rw [List.take_length] at this
    exact this
/-- The set of an address in a cache that is right. -/
theorem right_facts {x : Ca} (h : rightC x = true) : 1 ≤ x.sets ∧ x.sets ≤ 8 ∧ 1 ≤ x.ways ∧ x.ways ≤ 8 ∧ 0 ≤ x.clock ∧ x.clock ≤ 1099511627776 ∧ (x.lines.length : Int) = x.sets := by
  have h2 := (of_decide_eq_true h).formed
  simpa only [formedB, decide_eq_true_eq] using h2
theorem set_of {x : Ca} (h : rightC x = true) {t : Int} (ht : 0 ≤ t) : ∃ s : Nat, t.tmod x.sets = (s : Int) ∧ s < x.lines.length ∧ x.sets ≠ 0 := by
  obtain ⟨f1, f2, f3, f4, f5, f6, f7⟩ := right_facts h
  have h0 : x.sets ≠ 0 := by omega
  rw [Int.tmod_eq_emod_of_nonneg ht]
  have h1 := Int.emod_nonneg t h0
  have h2 := Int.emod_lt_of_pos t (show 0 < x.sets by omega)
  exact ⟨(t % x.sets).toNat, by omega, by omega, h0⟩
end Go.Proofs.Ytdndanjabknjpaa
