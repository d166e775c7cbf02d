/- Walks of commit's inner functions: span, Right, copied. -/
import Derived.Test.YtkkbpcnoamagcaaA
namespace Go.Proofs.Ytkkbpcnoamagcaa
open Go.RowKit Go.Lib

def spanB (n : Int) : Bool := decide (0 ≤ n ∧ n ≤ 1099511627776)

theorem span_any (n : Int) (w : World) : Calls Try.prog 20 #[.int .i64 n] w fun e w' => e = .returned (.bool (spanB n)) ∧ w' = w := by
  by_cases h1 : 0 ≤ n
  · by_cases h2 : n ≤ 1099511627776
    all_goals
      have hk : spanB n = decide (n ≤ 1099511627776) := by simp [spanB, h1]
      rw [hk]; clear hk
      go_enter Try.func20, Try.ntmps20
      go_wp2
      go_ret
      exact ⟨by simp [h2], rfl⟩
  · have hk : spanB n = false := by simp [spanB]; omega
    rw [hk]; clear hk
    go_enter Try.func20, Try.ntmps20
    go_wp2
    go_ret
    exact ⟨rfl, rfl⟩

set_option maxHeartbeats 400000 in
theorem lit1_any (x : Hld) (w : World) : Calls Try.prog 25 #[.agg #[.int .i64 x.core, .int .u32 x.val, .int .i64 x.span]] w fun e w' => e = .returned (.bool (!spanB x.span)) ∧ Below w.heap.size w w' := by
  go_enter Try.func25, Try.ntmps25
  go_wp2_with (go_at_call 20; refine (span_any _ _).mono ?_; rintro e w1 ⟨rfl, rfl⟩)
  go_ret
  exact ⟨rfl, (Below.refl _ _).alloc (Nat.le_refl _) _⟩

set_option maxHeartbeats 400000 in
theorem lit2_any (x y : Hld) (w : World) (hx : spanB x.span = true) (hy : spanB y.span = true) :
    Calls Try.prog 27 #[.agg #[.int .i64 x.core, .int .u32 x.val, .int .i64 x.span], .agg #[.int .i64 y.core, .int .u32 y.val, .int .i64 y.span]] w fun e w' => e = .returned (.int .i64 (x.span - y.span)) ∧ Below w.heap.size w w' := by
  simp only [spanB, decide_eq_true_eq] at hx hy
  obtain ⟨x1, x2⟩ := hx
  obtain ⟨y1, y2⟩ := hy
  go_enter Try.func27, Try.ntmps27
  go_wp2
  go_ret
  exact ⟨by simp, ((Below.refl _ _).alloc (Nat.le_refl _) _).alloc (by simp) _⟩

def sortB (l : List Hld) : Bool := decide (∀ i, i < l.length - 1 → l[i]!.span ≤ l[i + 1]!.span)

set_option maxHeartbeats 1000000 in
theorem isSorted_any (A : Option Addr) (c n : Nat) (l : List Hld) (w : World) (hs : Sl 3 Hld.enc w A l) (hn : l.length = n) (hsp : ∀ x ∈ l, spanB x.span = true) :
    Calls Try.prog 26 #[.slice A n c, .func (.func 27) #[] #[]] w fun e w' => e = .returned (.bool (sortB l)) ∧ Below w.heap.size w w' := by
  subst hn
  have hbig := hs.big
  have HC := Lib.hid hs
  have eg := enters_of Try.func27 (by kernel_rfl) rfl
  clear hs
  go_enter Try.func26, Try.ntmps26
  go_wp2
  go_loopg [5] l.length (fun gg s5 wr => ∃ i : Int, -1 ≤ i ∧ i < l.length ∧ i ≤ gg ∧ s5 = .int .i64 i ∧ Aside (Below w.heap.size w wr) ∧ Aside (∀ j : Nat, i ≤ j → j < l.length - 1 → l[j]!.span ≤ l[j + 1]!.span))
  case atStart => exact ⟨(l.length : Int) - 1, by omega, by omega, by omega, rfl, Below.refl _ w, fun j h1 h2 => by omega⟩
  case round =>
    obtain ⟨i, hi0, hi1, hg, rfl, BW, AA⟩ := hrel
    by_cases hlt : 0 < i
    · obtain ⟨k, m, hmk, rfl⟩ : ∃ k m : Nat, m = k + 1 ∧ i = (m : Int) := ⟨(i - 1).toNat, i.toNat, by omega, by omega⟩
      have hk1 : m < l.length := by omega
      have hk1z : (m : Int) < (l.length : Int) := by omega
      have hk0 : k < l.length := by omega
      have hk0z : (k : Int) < (l.length : Int) := by omega
      obtain ⟨b, off, rfl, hq0⟩ := HC.out.at_ m hk1
      obtain ⟨b', off', hbe, hp0⟩ := HC.out.at_ k hk0
      obtain ⟨rfl, rfl⟩ : b = b' ∧ off = off' := by simpa using hbe
      have hx := hsp _ (by rw [getElem!_pos l m hk1]; exact List.getElem_mem hk1 : l[m]! ∈ l)
      have hy := hsp _ (by rw [getElem!_pos l k hk0]; exact List.getElem_mem hk0 : l[k]! ∈ l)
      have q0 := hq0 0 _ rfl
      have q1 := hq0 1 _ rfl
      have q2 := hq0 2 _ rfl
      have p0 := hp0 0 _ rfl
      have p1 := hp0 1 _ rfl
      have p2 := hp0 2 _ rfl
      rw [Nat.add_zero] at q0 p0
      rw [← BW.out.cell (World.block_lt_of_cell? w _ q0)] at q0
      rw [← BW.out.cell (World.block_lt_of_cell? w _ q1)] at q1
      rw [← BW.out.cell (World.block_lt_of_cell? w _ q2)] at q2
      rw [← BW.out.cell (World.block_lt_of_cell? w _ p0)] at p0
      rw [← BW.out.cell (World.block_lt_of_cell? w _ p1)] at p1
      rw [← BW.out.cell (World.block_lt_of_cell? w _ p2)] at p2
      have hcall := fun w1 => lit2_any l[m]! l[k]! w1 hx hy
      have hwr : IntKind.i64.wrap ((m : Int) - 1) = (k : Int) := by rw [IntWalk.i64_in _ (by omega)]; omega
      have hstep : Hid (m = k + 1) := Lib.hid hmk
      clear hq0 hp0 hbe hx hy hmk
      generalize hX : l[m]! = x at *
      generalize hY : l[k]! = y at *
      have HX := Lib.hid hX
      have HY := Lib.hid hY
      clear hX hY
      go_wp2_with fail
      go_still_tail 10, (by kernel_rfl)
      change wpList _ _ _ _ _ wr.drew
      have BW2 : Below w.heap.size w wr.drew := BW.out.drew
      generalize wr.drew = w2 at *
      by_cases hlt2 : x.span - y.span < 0
      · have hfin : sortB l = false := by
          simp only [sortB, decide_eq_false_iff_not]
          intro h
          have := h k (by have := hstep.out; omega)
          rw [← hstep.out, HX.out, HY.out] at this
          omega
        have HF := Lib.hid hfin
        clear hfin
        go_wp2_with (go_at_call 27; refine (hcall _).mono ?_; rintro e w3 ⟨rfl, hb3⟩)
        go_ret
        rw [HF.out]
        exact ⟨rfl, BW2.trans (hb3.mono BW2.size)⟩
      · go_wp2_with (go_at_call 27; refine (hcall _).mono ?_; rintro e w3 ⟨rfl, hb3⟩)
        go_roundg k
        case measure => have := hstep.out; omega
        case rel =>
          have := hstep.out
          refine ⟨(k : Int), by omega, by omega, by omega, by subst this; go_num, BW2.trans (hb3.mono BW2.size), (show Aside _ from fun j h1 h2 => ?_)⟩
          by_cases e : j = k
          · subst e
            rw [← this, HX.out, HY.out]; omega
          · exact AA.out j (by omega) h2
    · have hfin : sortB l = true := by
        simp only [sortB, decide_eq_true_eq]
        exact fun j hj => AA.out j (by omega) hj
      have HF := Lib.hid hfin
      clear hfin
      go_wp2
      go_ret
      rw [HF.out]
      exact ⟨rfl, BW.out⟩
end Go.Proofs.Ytkkbpcnoamagcaa
