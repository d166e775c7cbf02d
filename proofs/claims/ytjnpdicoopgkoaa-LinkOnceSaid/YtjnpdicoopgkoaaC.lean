/- Walks of the library's functions that link calls: BinarySearchFunc. -/
import Derived.Test.YtjnpdicoopgkoaaB
import Derived.Test.YtjnpdicoopgkoaaLibC
namespace Go.Proofs.Ytjnpdicoopgkoaa
open Go.RowKit Go.Lib
set_option linter.unusedVariables false

theorem cmp_any (x : Pce) (t : Int) (w : World) (h0 : -9223372036854775808 ≤ x.num - t) (h1 : x.num - t ≤ 9223372036854775807) :
    Calls Try.prog 16 #[.agg #[.int .i64 x.num, .int .u32 x.val], .int .i64 t] w fun e w' => e = .returned (.int .i64 (x.num - t)) ∧ Below w.heap.size w w' := by
  go_enter Try.func16, Try.ntmps16
  go_wp2_with fail
  go_ret
  exact ⟨by simp, (Below.refl _ _).alloc (Nat.le_refl _) _⟩

/-- Where a number stands in a list. -/
structure Stands (l : List Pce) (t : Int) (i : Nat) : Prop where
  le : i ≤ l.length
  low : ∀ k, k < i → l[k]!.num < t
  high : ∀ k, i ≤ k → k < l.length → t ≤ l[k]!.num
def Searched (w : World) (l : List Pce) (t : Int) (e : Ending) (w' : World) : Prop :=
  ∃ i, Stands l t i ∧ e = .returned (.tuple #[.int .i64 (i : Nat), .bool (decide (i < l.length ∧ l[i]!.num = t))]) ∧ Below w.heap.size w w'

set_option maxHeartbeats 4000000 in
theorem search_any (A : Option Addr) (c n : Nat) (l : List Pce) (t : Int) (w : World) (hs : Sl 2 Pce.enc w A l) (hn : l.length = n) (hn1 : n ≤ 1000000)
    (hb : ∀ x ∈ l, 0 ≤ x.num) (ht : 0 ≤ t) (hb2 : ∀ x ∈ l, x.num ≤ 2000000000000) (ht2 : t ≤ 9223372036854775807) (hsort : ∀ i j, i < j → j < l.length → l[i]!.num < l[j]!.num) :
    Calls Try.prog 15 #[.slice A n c, .int .i64 t, .func (.func 16) #[] #[]] w (Searched w l t) := by
  have HS := Lib.hid hs
  have HN := Lib.hid hn
  have HSO := Lib.hid hsort
  have hcmp : ∀ (k : Nat), k < l.length → ∀ w, Calls Try.prog 16 #[.agg #[.int .i64 l[k]!.num, .int .u32 l[k]!.val], .int .i64 t] w fun e w' => e = .returned (.int .i64 (l[k]!.num - t)) ∧ Below w.heap.size w w' := fun k hk w1 => by
    have h1 := hb l[k]! (by rw [getElem!_pos l k hk]; exact List.getElem_mem hk)
    have h2 := hb2 l[k]! (by rw [getElem!_pos l k hk]; exact List.getElem_mem hk)
    exact cmp_any _ t w1 (by omega) (by omega)
  have HC := Lib.hid hcmp
  have eg := enters_of Try.func16 (by kernel_rfl) rfl
  clear hs hn hsort hb hb2 hcmp
  go_enter Try.func15, Try.ntmps15
  go_wp2_with fail
  go_loopg [9, 10] n (fun gg s9 s10 wr => ∃ i j : Nat, i ≤ j ∧ j ≤ n ∧ j - i ≤ gg ∧ s9 = .int .i64 (i : Nat) ∧ s10 = .int .i64 (j : Nat) ∧ Aside (Below w.heap.size w wr) ∧ Aside (∀ k, k < i → l[k]!.num < t) ∧ Aside (∀ k, j ≤ k → k < l.length → t ≤ l[k]!.num))
  case atStart => exact ⟨0, n, Nat.zero_le _, Nat.le_refl _, by omega, rfl, rfl, Below.refl _ _, fun k hk => absurd hk (Nat.not_lt_zero _), fun k h1 h2 => absurd h2 (by rw [HN.out]; omega)⟩
  case round =>
    obtain ⟨i, j, hij, hjn, hg, rfl, rfl, BW, LO, HI⟩ := hrel
    by_cases hlt : i < j
    · have hltz : (i : Int) < (j : Int) := by omega
      obtain ⟨h, hh⟩ : ∃ h : Nat, ((i : Int) + (j : Int)) / 2 = (h : Int) := ⟨(i + j) / 2, by omega⟩
      have hih : i ≤ h := by omega
      have hhj : h < j := by omega
      have hhn : h < l.length := by rw [HN.out]; omega
      have hhz : (h : Int) < (n : Int) := by omega
      obtain ⟨b, off, rfl, hq0⟩ := HS.out.at_ h hhn
      have q0 := hq0 0 _ rfl
      have q1 := hq0 1 _ rfl
      rw [Nat.add_zero] at q0
      rw [← BW.out.cell (World.block_lt_of_cell? _ _ q0)] at q0
      rw [← BW.out.cell (World.block_lt_of_cell? _ _ q1)] at q1
      have hcall := HC.out h hhn
      have HHN := Lib.hid hhn
      generalize hy : l[h]! = y at *
      have HY := Lib.hid hy
      clear hy hq0 hhn
      by_cases hc : y.num - t < 0
      · go_wp2_with fail
        refine (hcall _).mono ?_
        rintro e w3 ⟨rfl, hb3⟩
        go_wp2_with fail
        go_roundg (j - (h + 1))
        case measure => omega
        case rel =>
          refine ⟨h + 1, j, by omega, hjn, by omega, by go_num, rfl, (show Aside _ from BW.out.trans (hb3.mono BW.out.size)), (show Aside _ from fun k hk => ?_), HI⟩
          by_cases e : k = h
          · subst e; rw [HY.out]; omega
          · have := HSO.out k h (by omega) HHN.out
            rw [HY.out] at this
            omega
      · go_wp2_with fail
        refine (hcall _).mono ?_
        rintro e w3 ⟨rfl, hb3⟩
        go_wp2_with fail
        go_roundg (h - i)
        case measure => omega
        case rel =>
          refine ⟨i, h, by omega, by omega, by omega, rfl, by go_num, (show Aside _ from BW.out.trans (hb3.mono BW.out.size)), LO, (show Aside _ from fun k h1 h2 => ?_)⟩
          by_cases e : k = h
          · subst e; rw [HY.out]; omega
          · have := HSO.out h k (by omega) h2
            rw [HY.out] at this
            omega
    · obtain rfl : i = j := by omega
      have hltz : ¬ (i : Int) < (i : Int) := by omega
      have hst : Stands l t i := ⟨by rw [HN.out]; exact hjn, LO.out, HI.out⟩
      have HST := Lib.hid hst
      clear hst
      by_cases hin : i < n
      · have hinz : (i : Int) < (n : Int) := by omega
        have hhn : i < l.length := by rw [HN.out]; omega
        obtain ⟨b, off, rfl, hq0⟩ := HS.out.at_ i hhn
        have q0 := hq0 0 _ rfl
        have q1 := hq0 1 _ rfl
        rw [Nat.add_zero] at q0
        rw [← BW.out.cell (World.block_lt_of_cell? _ _ q0)] at q0
        rw [← BW.out.cell (World.block_lt_of_cell? _ _ q1)] at q1
        have hcall := HC.out i hhn
        have HHN := Lib.hid hhn
        generalize hy : l[i]! = y at *
        have HY := Lib.hid hy
        clear hy hq0 hhn
        by_cases hc : y.num = t
        · have hcz : (y.num - t == 0) = true := by rw [beq_iff_eq]; omega
          have hfin : decide (i < l.length ∧ l[i]!.num = t) = true := by rw [decide_eq_true_iff, HY.out]; exact ⟨HHN.out, hc⟩
          have HF := Lib.hid hfin
          clear hfin hc
          go_wp2_with fail
          refine (hcall _).mono ?_
          rintro e w3 ⟨rfl, hb3⟩
          go_wp2_with fail
          go_ret2
          exact ⟨i, HST.out, by rw [HF.out]; rfl, BW.out.trans (hb3.mono BW.out.size)⟩
        · have hcz : (y.num - t == 0) = false := by rw [beq_eq_false_iff_ne]; omega
          have hfin : decide (i < l.length ∧ l[i]!.num = t) = false := by rw [decide_eq_false_iff_not, HY.out]; exact fun hh => hc hh.2
          have HF := Lib.hid hfin
          clear hfin hc
          go_wp2_with fail
          refine (hcall _).mono ?_
          rintro e w3 ⟨rfl, hb3⟩
          go_wp2_with fail
          go_ret2
          exact ⟨i, HST.out, by rw [HF.out]; rfl, BW.out.trans (hb3.mono BW.out.size)⟩
      · have hinz : ¬ (i : Int) < (n : Int) := by omega
        have hfin : decide (i < l.length ∧ l[i]!.num = t) = false := by rw [decide_eq_false_iff_not, HN.out]; exact fun hh => hin hh.1
        have HF := Lib.hid hfin
        clear hfin
        go_wp2_with fail
        go_ret2
        exact ⟨i, HST.out, by rw [HF.out]; rfl, BW.out⟩
end Go.Proofs.Ytjnpdicoopgkoaa
