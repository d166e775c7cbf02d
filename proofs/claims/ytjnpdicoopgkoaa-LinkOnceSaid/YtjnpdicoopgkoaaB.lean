/- Walks of link: SenderRight, GetterRight. -/
import Derived.Test.YtjnpdicoopgkoaaA
namespace Go.Proofs.Ytjnpdicoopgkoaa
open Go.RowKit Go.Lib
set_option linter.unusedVariables false

structure Snd where
  next : Int
  out : List Pce
  deriving DecidableEq, Inhabited
structure Gtr where
  next : Int
  early : List Pce
  came : List Wrd
  deriving DecidableEq, Inhabited
structure GtrIn (w : World) (A B : Option Addr) (g : Gtr) : Prop where
  early : Sl 2 Pce.enc w A g.early
  came : Sl 1 Wrd.enc w B g.came
theorem GtrIn.below {w w' : World} {A B : Option Addr} {g : Gtr} (h : GtrIn w A B g) (hb : Below w.heap.size w w') : GtrIn w' A B g := ⟨h.early.below hb, h.came.below hb⟩

def sRight (s : Snd) : Bool := decide (0 ≤ s.next ∧ s.next ≤ 1099511627776 ∧ s.out.length ≤ 16 ∧ (s.out.length : Int) ≤ s.next ∧ ∀ j, j < s.out.length → s.out[j]!.num = s.next - s.out.length + j)
def gLast (g : Gtr) (j : Nat) : Int := if j = 0 then g.next else g.early[j - 1]!.num
def gRight (g : Gtr) : Bool := decide (0 ≤ g.next ∧ g.next ≤ 1099511627776 ∧ g.early.length ≤ 16 ∧ ∀ j, j < g.early.length → gLast g j < g.early[j]!.num ∧ g.early[j]!.num < g.next + 16)

set_option maxHeartbeats 4000000 in
theorem sRight_any (A : Option Addr) (c n : Nat) (s : Snd) (w : World) (hs : Sl 2 Pce.enc w A s.out) (hn : s.out.length = n) :
    Calls Try.prog 9 #[.agg #[.int .i64 s.next, .slice A n c]] w fun e w' => e = .returned (.bool (sRight s)) ∧ Below w.heap.size w w' := by
  have hbig := hs.big
  rw [hn] at hbig
  have b0 : Below w.heap.size w (w.alloc (.cells #[.int .i64 s.next, .slice A n c] 27)) := (Below.refl _ _).alloc (Nat.le_refl _) _
  have e0 : (w.alloc (.cells #[.int .i64 s.next, .slice A n c] 27)).cell? ⟨w.heap.size, 0, none⟩ = some (.int .i64 s.next) := by go_simp
  have e1 : (w.alloc (.cells #[.int .i64 s.next, .slice A n c] 27)).cell? ⟨w.heap.size, 1, none⟩ = some (.slice A n c) := by go_simp
  have HS := Lib.hid (hs.below b0)
  have HN := Lib.hid hn
  have bad : ∀ h : ¬ (0 ≤ s.next ∧ s.next ≤ 1099511627776 ∧ n ≤ 16 ∧ (n : Int) ≤ s.next), sRight s = false := fun h => by
    simp only [sRight, decide_eq_false_iff_not, hn]
    exact fun hh => h ⟨hh.1, hh.2.1, hh.2.2.1, hh.2.2.2.1⟩
  clear hs hn
  by_cases h1 : s.next < 0
  · rw [bad (by omega)]
    clear bad
    go_enter Try.func9, Try.ntmps9
    go_wp2_with fail
    go_ret
    exact ⟨rfl, b0⟩
  by_cases h2 : 1099511627776 < s.next
  · rw [bad (by omega)]
    clear bad
    go_enter Try.func9, Try.ntmps9
    go_wp2_with fail
    go_ret
    exact ⟨rfl, b0⟩
  by_cases h3 : 16 < (n : Int)
  · rw [bad (by omega)]
    clear bad
    go_enter Try.func9, Try.ntmps9
    go_wp2_with fail
    go_ret
    exact ⟨rfl, b0⟩
  by_cases h4 : s.next < (n : Int)
  · rw [bad (by omega)]
    clear bad
    go_enter Try.func9, Try.ntmps9
    go_wp2_with fail
    go_ret
    exact ⟨rfl, b0⟩
  clear bad
  have HB : Hid (0 ≤ s.next ∧ s.next ≤ 1099511627776 ∧ n ≤ 16 ∧ (n : Int) ≤ s.next) := Lib.hid (by omega)
  go_enter Try.func9, Try.ntmps9
  go_wp2_with fail
  generalize w.alloc (.cells #[.int .i64 s.next, .slice A n c] 27) = w0 at *
  go_loopg [30] n (fun gg s30 wr => ∃ kk : Nat, kk ≤ n ∧ n - kk ≤ gg ∧ s30 = .int .i64 kk ∧ Aside (Below w0.heap.size w0 wr) ∧ Aside (∀ j, j < kk → s.out[j]!.num = s.next - n + j))
  case atStart => exact ⟨0, Nat.zero_le _, by omega, rfl, Below.refl _ _, fun j hj => absurd hj (Nat.not_lt_zero _)⟩
  case round =>
    obtain ⟨kk, hkk, hg, rfl, BW, AA⟩ := hrel
    have e0r := (BW.out.cell (World.block_lt_of_cell? _ _ e0)).trans e0
    have e1r := (BW.out.cell (World.block_lt_of_cell? _ _ e1)).trans e1
    have ltw : w.heap.size < wr.heap.size := World.block_lt_of_cell? _ _ e0r
    clear e0 e1
    have b2 := b0.trans (BW.out.mono b0.size)
    by_cases hlt : kk < n
    · have hltz : (kk : Int) < (n : Int) := by omega
      have hin : kk < s.out.length := by rw [HN.out]; exact hlt
      have HI := Lib.hid hin
      obtain ⟨b, off, rfl, hq0⟩ := HS.out.at_ kk hin
      have q0 := hq0 0 _ rfl
      have q1 := hq0 1 _ rfl
      rw [Nat.add_zero] at q0
      rw [← BW.out.cell (World.block_lt_of_cell? _ _ q0)] at q0
      rw [← BW.out.cell (World.block_lt_of_cell? _ _ q1)] at q1
      generalize hy : s.out[kk]! = y at *
      have HY := Lib.hid hy
      clear hy hq0 hin
      have hw1 : w.heap.size ≠ wr.heap.size := Nat.ne_of_lt ltw
      by_cases hc : y.num = s.next - n + kk
      · have hcb : (y.num != s.next - n + kk) = false := by rw [bne_eq_false_iff_eq]; exact hc
        have HC := Lib.hid hc
        clear hc
        go_wp2_with fail
        go_roundg (n - (kk + 1))
        case measure => omega
        case rel =>
          refine ⟨kk + 1, by omega, by omega, by go_num, (show Aside _ from BW.out.alloc BW.out.size _), (show Aside _ from fun j hj => ?_)⟩
          by_cases e : j = kk
          · subst e
            rw [HY.out]; exact HC.out
          · exact AA.out j (by omega)
      · have hcb : (y.num != s.next - n + kk) = true := by rw [bne_iff_ne]; exact hc
        have hfin : sRight s = false := by
          simp only [sRight, decide_eq_false_iff_not, HN.out]
          exact fun hh => hc (by rw [← HY.out]; exact hh.2.2.2.2 kk hlt)
        have HF := Lib.hid hfin
        clear hc hfin
        go_wp2_with fail
        go_ret
        rw [HF.out]
        exact ⟨rfl, b2.alloc b2.size _⟩
    · have hltz : ¬ (kk : Int) < (n : Int) := by omega
      have hfin : sRight s = true := by
        simp only [sRight, decide_eq_true_eq, HN.out]
        exact ⟨HB.out.1, HB.out.2.1, HB.out.2.2.1, HB.out.2.2.2, fun j hj => AA.out j (by omega)⟩
      have HF := Lib.hid hfin
      clear hfin
      go_wp2_with fail
      go_ret
      rw [HF.out]
      exact ⟨rfl, b2⟩

set_option maxHeartbeats 4000000 in
theorem gRight_any (A B : Option Addr) (c d n m : Nat) (g : Gtr) (w : World) (hs : Sl 2 Pce.enc w A g.early) (hn : g.early.length = n) :
    Calls Try.prog 10 #[.agg #[.int .i64 g.next, .slice A n c, .slice B m d]] w fun e w' => e = .returned (.bool (gRight g)) ∧ Below w.heap.size w w' := by
  have hbig := hs.big
  rw [hn] at hbig
  have b0 : Below w.heap.size w (w.alloc (.cells #[.int .i64 g.next, .slice A n c, .slice B m d] 29)) := (Below.refl _ _).alloc (Nat.le_refl _) _
  have e0 : (w.alloc (.cells #[.int .i64 g.next, .slice A n c, .slice B m d] 29)).cell? ⟨w.heap.size, 0, none⟩ = some (.int .i64 g.next) := by go_simp
  have e1 : (w.alloc (.cells #[.int .i64 g.next, .slice A n c, .slice B m d] 29)).cell? ⟨w.heap.size, 1, none⟩ = some (.slice A n c) := by go_simp
  have HS := Lib.hid (hs.below b0)
  have HN := Lib.hid hn
  have bad : ∀ h : ¬ (0 ≤ g.next ∧ g.next ≤ 1099511627776 ∧ n ≤ 16), gRight g = false := fun h => by
    simp only [gRight, decide_eq_false_iff_not, hn]
    exact fun hh => h ⟨hh.1, hh.2.1, hh.2.2.1⟩
  clear hs hn
  by_cases h1 : g.next < 0
  · rw [bad (by omega)]
    clear bad
    go_enter Try.func10, Try.ntmps10
    go_wp2_with fail
    go_ret
    exact ⟨rfl, b0⟩
  by_cases h2 : 1099511627776 < g.next
  · rw [bad (by omega)]
    clear bad
    go_enter Try.func10, Try.ntmps10
    go_wp2_with fail
    go_ret
    exact ⟨rfl, b0⟩
  by_cases h3 : 16 < (n : Int)
  · rw [bad (by omega)]
    clear bad
    go_enter Try.func10, Try.ntmps10
    go_wp2_with fail
    go_ret
    exact ⟨rfl, b0⟩
  clear bad
  have HB : Hid (0 ≤ g.next ∧ g.next ≤ 1099511627776 ∧ n ≤ 16) := Lib.hid (by omega)
  go_enter Try.func10, Try.ntmps10
  go_wp2_with fail
  generalize w.alloc (.cells #[.int .i64 g.next, .slice A n c, .slice B m d] 29) = w0 at *
  go_loopg [3, 25] n (fun gg s3 s25 wr => ∃ (kk : Nat) (last : Int), kk ≤ n ∧ n - kk ≤ gg ∧ s3 = .int .i64 last ∧ s25 = .int .i64 kk ∧ Aside (Below w0.heap.size w0 wr) ∧ Aside (last = gLast g kk) ∧ Aside (∀ j, j < kk → gLast g j < g.early[j]!.num ∧ g.early[j]!.num < g.next + 16))
  case atStart => exact ⟨0, g.next, Nat.zero_le _, by omega, rfl, rfl, Below.refl _ _, rfl, fun j hj => absurd hj (Nat.not_lt_zero _)⟩
  case round =>
    obtain ⟨kk, last, hkk, hg, rfl, rfl, BW, HL, AA⟩ := hrel
    have e0r := (BW.out.cell (World.block_lt_of_cell? _ _ e0)).trans e0
    have e1r := (BW.out.cell (World.block_lt_of_cell? _ _ e1)).trans e1
    have ltw : w.heap.size < wr.heap.size := World.block_lt_of_cell? _ _ e0r
    clear e0 e1
    have b2 := b0.trans (BW.out.mono b0.size)
    by_cases hlt : kk < n
    · have hltz : (kk : Int) < (n : Int) := by omega
      have hin : kk < g.early.length := by rw [HN.out]; exact hlt
      have HI := Lib.hid hin
      obtain ⟨b, off, rfl, hq0⟩ := HS.out.at_ kk hin
      have q0 := hq0 0 _ rfl
      have q1 := hq0 1 _ rfl
      rw [Nat.add_zero] at q0
      rw [← BW.out.cell (World.block_lt_of_cell? _ _ q0)] at q0
      rw [← BW.out.cell (World.block_lt_of_cell? _ _ q1)] at q1
      generalize hy : g.early[kk]! = y at *
      have HY := Lib.hid hy
      clear hy hq0 hin
      have hw1 : w.heap.size ≠ wr.heap.size := Nat.ne_of_lt ltw
      have nok : ∀ h : ¬ (last < y.num ∧ y.num < g.next + 16), gRight g = false := fun h => by
        simp only [gRight, decide_eq_false_iff_not, HN.out]
        exact fun hh => h (by rw [HL.out, ← HY.out]; exact hh.2.2.2 kk hlt)
      by_cases hc : y.num ≤ last
      · have HF := Lib.hid (nok (by omega))
        clear nok
        go_wp2_with fail
        go_ret
        rw [HF.out]
        exact ⟨rfl, b2.alloc b2.size _⟩
      · by_cases hd : g.next + 16 ≤ y.num
        · have HF := Lib.hid (nok (by omega))
          clear nok
          go_wp2_with fail
          go_ret
          rw [HF.out]
          exact ⟨rfl, b2.alloc b2.size _⟩
        · clear nok
          have HOK : Hid (last < y.num ∧ y.num < g.next + 16) := Lib.hid (by omega)
          go_wp2_with fail
          go_roundg (n - (kk + 1))
          case measure => omega
          case rel =>
            refine ⟨kk + 1, y.num, by omega, by omega, by go_num, by go_num, (show Aside _ from BW.out.alloc BW.out.size _), (show Aside _ from ?_), (show Aside _ from fun j hj => ?_)⟩
            · show y.num = gLast g (kk + 1)
              simp [gLast, ← HY.out]
            by_cases e : j = kk
            · subst e
              rw [HY.out, ← HL.out]; exact HOK.out
            · exact AA.out j (by omega)
    · have hltz : ¬ (kk : Int) < (n : Int) := by omega
      have hfin : gRight g = true := by
        simp only [gRight, decide_eq_true_eq, HN.out]
        exact ⟨HB.out.1, HB.out.2.1, HB.out.2.2, fun j hj => AA.out j (by omega)⟩
      have HF := Lib.hid hfin
      clear hfin
      go_wp2_with fail
      go_ret
      rw [HF.out]
      exact ⟨rfl, b2⟩
end Go.Proofs.Ytjnpdicoopgkoaa
