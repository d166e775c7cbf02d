/- Walks of the reference: Short, flat. -/
import Derived.Test.YtdndanjabknjpaaZ
import Derived.Test.YtdndanjabknjpaaR
namespace Go.Proofs.Ytdndanjabknjpaa
open Go.RowKit Go.Lib

set_option linter.unusedVariables false
def shortC (x : Ca) : Bool := decide (x.lines.length ≤ 10 ∧ ∀ j, j < x.lines.length → x.lines[j]!.length ≤ 10)
set_option maxHeartbeats 4000000 in
set_option maxRecDepth 100000 in
theorem short_any (A : Option Addr) (c n : Nat) (x : Ca) (hs : List Hd) (w : World) (hc : CIn w A x.lines hs) (hn : x.lines.length = n) :
    Calls Try.prog 10 #[.agg #[.int .i64 x.sets, .int .i64 x.ways, .int .i64 x.clock, .slice A n c]] w fun e w' => e = .returned (.bool (shortC x)) ∧ Below w.heap.size w w' := by
  have b0 : Below w.heap.size w (w.alloc (.cells #[.int .i64 x.sets, .int .i64 x.ways, .int .i64 x.clock, .slice A n c] 26)) := (Below.refl _ _).alloc (Nat.le_refl _) _
  have X := Bx.new w [.int .i64 x.sets, .int .i64 x.ways, .int .i64 x.clock, .slice A n c] 26
  have x3 := X.cell 3 _ rfl
  have HC := Lib.hid (hc.below b0)
  have HN := Lib.hid hn
  obtain ⟨r, hr⟩ : ∃ r, shortC x = r := ⟨_, rfl⟩
  rw [hr]
  have HR := Lib.hid hr
  clear hr hc hn
  by_cases h10 : n ≤ 10
  · have z0 : ¬ (10 : Int) < (n : Int) := by omega
    go_enter Try.func10, Try.ntmps10
    go_wp2_with fail
    generalize w.alloc (.cells #[.int .i64 x.sets, .int .i64 x.ways, .int .i64 x.clock, .slice A n c] 26) = W1 at *
    go_loopg [3] n (fun gg s3 wr => ∃ i : Nat, i ≤ n ∧ n - i ≤ gg ∧ s3 = .int .i64 (i : Int) ∧ wr = W1 ∧ Aside (∀ j, j < i → x.lines[j]!.length ≤ 10))
    case atStart => exact ⟨0, Nat.zero_le _, by omega, rfl, rfl, (show Aside _ from fun j hj => absurd hj (Nat.not_lt_zero _))⟩
    case round =>
      obtain ⟨i, hi, hg, rfl, rfl, AA⟩ := hrel
      by_cases hlt : i < n
      · have hltz : (i : Int) < (n : Int) := by omega
        obtain ⟨bb, off, B2, m, c2, e1, hcell, hm, hmc, _, hsl⟩ := HC.out.at_ i (by rw [HN.out]; exact hlt)
        subst e1
        have hw1 : wrap64 ((i : Int) + 1) = ((i + 1 : Nat) : Int) := by unfold wrap64; omega
        clear hsl
        by_cases hm10 : m ≤ 10
        · have z1 : ¬ (10 : Int) < (m : Int) := by omega
          have HM := Lib.hid hm
          have HM10 := Lib.hid hm10
          clear hm hmc hm10
          go_wp2_with fail
          go_roundg (n - (i + 1))
          case measure => omega
          case rel =>
            refine ⟨i + 1, by omega, by omega, by rfl, rfl, (show Aside _ from fun j hj => ?_)⟩
            by_cases e : j = i
            · subst e; rw [HM.out]; exact HM10.out
            · exact AA.out j (by omega)
        · have z1 : (10 : Int) < (m : Int) := by omega
          have hr : r = false := by
            rw [← HR.out]
            exact decide_eq_false fun h => hm10 (hm ▸ h.2 i (by rw [HN.out]; exact hlt))
          subst hr
          clear hm hmc hm10
          go_wp2_with fail
          go_ret
          exact ⟨rfl, b0⟩
      · obtain rfl : i = n := by omega
        have hltz : ¬ (i : Int) < (i : Int) := by omega
        have hr : r = true := by
          rw [← HR.out]
          exact decide_eq_true ⟨by rw [HN.out]; exact h10, fun j hj => AA.out j (by rw [← HN.out]; exact hj)⟩
        subst hr
        go_wp2_with fail
        go_ret
        exact ⟨rfl, b0⟩
  · have z0 : (10 : Int) < (n : Int) := by omega
    have hr : r = false := by
      rw [← HR.out]
      exact decide_eq_false fun h => h10 (HN.out ▸ h.1)
    subst hr
    go_enter Try.func10, Try.ntmps10
    go_wp2_with fail
    go_ret
    exact ⟨rfl, b0⟩
set_option maxHeartbeats 8000000 in
set_option maxRecDepth 100000 in
theorem flat_any (A : Option Addr) (c n : Nat) (x : Ca) (hs : List Hd) (w : World) (hc : CIn w A x.lines hs) (hn : x.lines.length = n) (hb : x.lines.flatten.length ≤ 1000000) :
    Calls Try.prog 34 #[.agg #[.int .i64 x.sets, .int .i64 x.ways, .int .i64 x.clock, .slice A n c]] w fun e w' => ∃ v, e = .returned v ∧ w'.ownsRow w.heap.size 32 4 v x.lines.flatten.length (x.lines.flatten.flatMap Ln.enc) ∧ Below w.heap.size w w' := by
  obtain ⟨i0, hi0, hz0, hz1, hz2⟩ := info_parts info32
  have b0 : Below w.heap.size w (w.alloc (.cells #[.int .i64 x.sets, .int .i64 x.ways, .int .i64 x.clock, .slice A n c] 26)) := (Below.refl _ _).alloc (Nat.le_refl _) _
  have X := Bx.new w [.int .i64 x.sets, .int .i64 x.ways, .int .i64 x.clock, .slice A n c] 26
  have HC := Lib.hid (hc.below b0)
  have HN := Lib.hid hn
  have HB1 := Lib.hid hb
  have x3 := X.cell 3 _ rfl
  obtain ⟨ls, hls⟩ : ∃ ls, x.lines = ls := ⟨_, rfl⟩
  rw [hls] at HC HN HB1 ⊢
  obtain ⟨T, hT⟩ : ∃ T, T = ls.flatten.length := ⟨_, rfl⟩
  obtain ⟨cs, hcs⟩ : ∃ cs, cs = ls.flatten.flatMap Ln.enc := ⟨_, rfl⟩
  rw [← hT, ← hcs]
  have HT := Lib.hid hT
  have HCS := Lib.hid hcs
  have hbig := hc.outer.big
  rw [hc.len, hn] at hbig
  have hsz0 := Lib.hid b0.size
  clear hc hn hb hls hT hcs
  go_enter Try.func34, Try.ntmps34
  go_wp2_with fail
  generalize w.alloc (.cells #[.int .i64 x.sets, .int .i64 x.ways, .int .i64 x.clock, .slice A n c] 26) = W1 at *
  go_loopg [3, 4] n (fun gg s3 s4 wq => ∃ j p : Nat, j ≤ n ∧ n - j ≤ gg ∧ s4 = .int .i64 (j : Int) ∧ Aside (p = (ls.take j).flatten.length) ∧ wq.ownsRow W1.heap.size 32 4 s3 p ((ls.take j).flatten.flatMap Ln.enc) ∧ Aside (Below W1.heap.size W1 wq))
  case atStart => exact ⟨0, 0, Nat.zero_le _, by omega, rfl, (show Aside _ from rfl), World.ownsRow_nil _ _ _ _, (show Aside _ from Below.refl _ _)⟩
  case round =>
    obtain ⟨j, p, hj, hgj, rfl, HP, own, HB⟩ := hrel
    have B := HB.out
    obtain ⟨A6, c6, rfl⟩ := own_shape own
    have x3r := (X.below B).cell 3 _ rfl
    clear x3
    by_cases hjt : j < n
    · have hltz2 : (j : Int) < (n : Int) := by omega
      have hjl : j < ls.length := by rw [HN.out]; exact hjt
      obtain ⟨bb, off, B2, m, c2, e1, hcell, hm, hmc, _, hsl⟩ := (HC.out.below B).at_ j hjl
      subst e1
      have hpm : p + m = (ls.take (j + 1)).flatten.length := by rw [flatTake ls j hjl, List.length_append, hm, HP.out]
      have hpT : p + m ≤ 1000000 := by have h1 := flatLe ls (j + 1); have h2 := HB1.out; omega
      have hfl : (ls.take (j + 1)).flatten.flatMap Ln.enc = (ls.take j).flatten.flatMap Ln.enc ++ ls[j]!.flatMap Ln.enc := by rw [flatTake ls j hjl, List.flatMap_append]
      have HFL := Lib.hid hfl
      have HPM := Lib.hid hpm
      have HM := Lib.hid hm
      have HS := Lib.hid hsl
      have OW := Lib.hid own
      have hBs := B.size
      obtain ⟨l, hl⟩ : ∃ l, l = ls[j]! := ⟨_, rfl⟩
      rw [← hl] at HM HS HFL
      have hpm1 : p + m ≤ maxLen := by unfold maxLen; omega
      have hpm2 : (p + m) * 32 ≤ 140737488355328 := by omega
      have HP1 := Lib.hid hpm1
      have HP2 := Lib.hid hpm2
      clear hm hsl own hjl hpm hfl hl hpm1 hpm2 hpT
      go_wp2_with (at_builtin; refine wpList_as ?_)
      intro _
      refine wpList_append_sl _ rfl _ _ 40 rfl W1.heap.size 32 i0 _ 4 32 Try.underlying40 hi0 hz0 hz1 hz2 rfl (by decide) _ p _ rfl OW.out Ln.enc Ln.enc_len Ln.enc_one B2 m c2 l rfl HM.out HS.out HP1.out HP2.out hBs ?_
      intro v' w9 ownN hgrow hat
      have b9 := below_append (k := 4) B hgrow hBs OW.out (Nat.le_refl _)
      rw [← HFL.out] at ownN
      have HO9 := Lib.hid ownN
      clear ownN hgrow hat
      go_wp2_with fail
      go_roundg (n - (j + 1))
      case measure => omega
      case rel => exact ⟨j + 1, p + m, by omega, by omega, by go_num, (show Aside _ from HPM.out), HO9.out, (show Aside _ from b9)⟩
    · obtain rfl : j = n := by omega
      have hltz2 : ¬ (j : Int) < (j : Int) := by omega
      have hall : ls.take j = ls := List.take_of_length_le (by rw [HN.out]; exact Nat.le_refl _)
      have hpq : p = T := by rw [HP.out, hall, HT.out]
      subst hpq
      rw [hall, ← HCS.out] at own
      have OW := Lib.hid (own_weaken' own hsz0.out)
      have bF := b0.trans (B.mono hsz0.out)
      clear own hall HP
      go_wp2_with fail
      go_ret
      exact ⟨_, rfl, OW.out, bF⟩
end Go.Proofs.Ytdndanjabknjpaa
