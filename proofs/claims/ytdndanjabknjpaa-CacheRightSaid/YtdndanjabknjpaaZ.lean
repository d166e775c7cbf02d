/- The walks of slices.Grow and slices.Concat at lines. -/
import Derived.Test.YtdndanjabknjpaaY
import Derived.Lib.AppendZerosOnto
namespace Go.Proofs.Ytdndanjabknjpaa
open Go.RowKit Go.Lib

set_option linter.unusedVariables false
set_option maxHeartbeats 2000000 in
set_option maxRecDepth 100000 in
theorem grow_any (n : Nat) (w : World) (hn : n ≤ 1000000) :
    Calls Try.prog 46 #[.slice none 0 0, .int .i64 (n : Int)] w fun e w' => ∃ v, e = .returned v ∧ w'.ownsRow w.heap.size 32 4 v 0 [] ∧ Below w.heap.size w w' := by
  obtain ⟨i0, hi0, hz0, hz1, hz2⟩ := info_parts info32
  have u40 := run_underlying (P := Try.prog) Try.underlying40
  have h1 : ¬ ((n : Int) < 0) := by omega
  have h2 : wrap64 (((0 : Nat) : Int) - ((0 : Nat) : Int)) = 0 := by unfold wrap64; omega
  have h3 : wrap64 ((n : Int) - 0) = (n : Int) := by unfold wrap64; omega
  by_cases h0 : n = 0
  · subst h0
    go_enter Try.func46, Try.ntmps46
    go_wp2
    go_ret
    exact ⟨_, rfl, World.ownsRow_nil _ _ _ _, Below.refl _ _⟩
  · have h4 : (n : Int) > 0 := by omega
    have hrz : ∀ ty, (Builtin.append_ #[40, 3] ty #[.slice none 0 0, .int .i64 (n : Int)]).run Try.prog w =
        .ok (.slice (some ⟨w.heap.size, 0, none⟩) n (grownCap w n 0 32)) (w.drew.alloc (.cells (#[] ++ Builtin.zeroCells (Value.agg #[.int .i64 0, .int .i64 0, .int .u32 0, .int .i64 0]).cells n ++ Builtin.zeroCells (Value.agg #[.int .i64 0, .int .i64 0, .int .u32 0, .int .i64 0]).cells (grownCap w n 0 32 - n)) 32)) := fun ty => by
      have h := Lib.run_append_grow_zeros w 40 3 ty 32 i0 _ .i64 .i64 Try.underlying40 Try.underlying3 hi0 hz0 none 0 0 [] (run_firstCells_none w.drew i0.size 0 0 0) n (by omega) (by rw [hz1]; decide) (by omega) (by omega)
        (by rw [hz2]; omega) (by rw [Nat.zero_add]; exact growslice_fits (by omega) (by rw [hz2]; omega))
      rw [Nat.zero_add] at h
      exact h
    have hGn : n ≤ grownCap w n 0 32 := grownCap_ge w _ _ _
    have hGm := grownCap_le_maxLen w n 0 32 (by unfold maxLen; omega)
    obtain ⟨G, hG⟩ : ∃ G, G = grownCap w n 0 32 := ⟨_, rfl⟩
    rw [← hG] at hrz hGn hGm
    have hO1 : (w.alloc (.cells (Builtin.zeroCells #[.int .i64 0, .int .i64 0, .int .u32 0, .int .i64 0] n ++ Builtin.zeroCells #[.int .i64 0, .int .i64 0, .int .u32 0, .int .i64 0] (G - n)) 32)).ownsRow w.heap.size 32 4 (.slice (some ⟨w.heap.size, 0, none⟩) 0 G) 0 [] :=
      World.ownsRow_made w _ G (Nat.le_refl _) hGm (by simp [Builtin.zeroCells]; omega)
    have hO : (w.alloc (.cells (Builtin.zeroCells #[.int .i64 0, .int .i64 0, .int .u32 0, .int .i64 0] n ++ Builtin.zeroCells #[.int .i64 0, .int .i64 0, .int .u32 0, .int .i64 0] (G - n)) 32)).drew.ownsRow w.heap.size 32 4 (.slice (some ⟨w.heap.size, 0, none⟩) 0 G) 0 [] := hO1
    have hB : Below w.heap.size w (w.alloc (.cells (Builtin.zeroCells #[.int .i64 0, .int .i64 0, .int .u32 0, .int .i64 0] n ++ Builtin.zeroCells #[.int .i64 0, .int .i64 0, .int .u32 0, .int .i64 0] (G - n)) 32)).drew := ((Below.refl _ _).alloc (Nat.le_refl _) _).drew
    clear hO1
    have HO := Lib.hid hO
    have HB := Lib.hid hB
    have hG63 : (G : Int) ≤ 9223372036854775807 := by unfold maxLen at hGm; omega
    have hG0 : 0 ≤ G := Nat.zero_le _
    have hGi : (0 : Int) ≤ (G : Int) := by omega
    have hGi2 : (n : Int) ≤ (G : Int) := by omega
    clear hG hO hB
    go_enter Try.func46, Try.ntmps46
    go_wp2_with (at_builtin; refine Lib.wpList_append_run _ rfl _ _ _ _ rfl _ _ rfl rfl _ _ (hrz _) ?_)
    go_ret
    exact ⟨.slice (some ⟨w.heap.size, 0, none⟩) 0 G, rfl, HO.out, HB.out⟩

theorem flatTake (ls : List (List Ln)) (k : Nat) (hk : k < ls.length) : (ls.take (k + 1)).flatten = (ls.take k).flatten ++ ls[k]! := by
  rw [getElem!_pos ls k hk, ← List.take_append_getElem hk, List.flatten_append]; simp
theorem flatLe (ls : List (List Ln)) (k : Nat) : (ls.take k).flatten.length ≤ ls.flatten.length := by
  have : ls.flatten = (ls.take k).flatten ++ (ls.drop k).flatten := by rw [← List.flatten_append, List.take_append_drop]
  rw [this, List.length_append]; omega
set_option maxHeartbeats 8000000 in
set_option maxRecDepth 100000 in
theorem concat_any (A : Option Addr) (c n : Nat) (ls : List (List Ln)) (hs : List Hd) (w : World) (hc : CIn w A ls hs) (hn : ls.length = n) (hb : ls.flatten.length ≤ 1000000) :
    Calls Try.prog 30 #[.slice A n c] w fun e w' => ∃ v, e = .returned v ∧ w'.ownsRow w.heap.size 32 4 v ls.flatten.length (ls.flatten.flatMap Ln.enc) ∧ Below w.heap.size w w' := by
  obtain ⟨i0, hi0, hz0, hz1, hz2⟩ := info_parts info32
  have HC := Lib.hid hc
  have HN := Lib.hid hn
  have HB1 := Lib.hid hb
  have hbig := hc.outer.big
  rw [hc.len, hn] at hbig
  obtain ⟨T, hT⟩ : ∃ T, T = ls.flatten.length := ⟨_, rfl⟩
  obtain ⟨cs, hcs⟩ : ∃ cs, cs = ls.flatten.flatMap Ln.enc := ⟨_, rfl⟩
  have hTb : T ≤ 1000000 := by rw [hT]; exact hb
  rw [← hT, ← hcs]
  have HT := Lib.hid hT
  have HTB := Lib.hid hTb
  have HCS := Lib.hid hcs
  clear hc hn hb hT hcs hTb
  go_enter Try.func30, Try.ntmps30
  go_wp2_with fail
  go_loopg [3, 11] n (fun gg s3 s11 wr => ∃ k q : Nat, k ≤ n ∧ n - k ≤ gg ∧ s11 = .int .i64 (k : Int) ∧ s3 = .int .i64 (q : Int) ∧ Aside (q = (ls.take k).flatten.length) ∧ wr = w)
  case atStart => exact ⟨0, 0, Nat.zero_le _, by omega, rfl, rfl, (show Aside _ from rfl), rfl⟩
  case round =>
    obtain ⟨k, q, hk, hg, rfl, rfl, HQ, rfl⟩ := hrel
    by_cases hlt : k < n
    · have hltz : (k : Int) < (n : Int) := by omega
      have hkl : k < ls.length := by rw [HN.out]; exact hlt
      obtain ⟨bb, off, B2, m, c2, e1, hcell, hm, hmc, _, hsl⟩ := HC.out.at_ k hkl
      subst e1
      have hqm : q + m = (ls.take (k + 1)).flatten.length := by rw [flatTake ls k hkl, List.length_append, hm, HQ.out]
      have hqT : q + m ≤ T := by rw [hqm, HT.out]; exact flatLe ls (k + 1)
      have hw1 : wrap64 ((q : Int) + (m : Int)) = (q : Int) + (m : Int) := by have := HTB.out; unfold wrap64; omega
      have hneg : ¬ ((q : Int) + (m : Int) < 0) := Int.not_lt.2 (Int.add_nonneg (Int.natCast_nonneg _) (Int.natCast_nonneg _))
      have HQM := Lib.hid hqm
      have HQT := Lib.hid hqT
      clear hsl hm hqm hkl hqT
      go_wp2_with fail
      go_roundg (n - (k + 1))
      case measure => omega
      case rel => exact ⟨k + 1, q + m, by omega, by omega, by go_num, by go_num, (show Aside _ from HQM.out), rfl⟩
    · obtain rfl : k = n := by omega
      have hltz : ¬ (k : Int) < (k : Int) := by omega
      have hqT : q = T := by rw [HQ.out, HT.out, List.take_of_length_le (by rw [HN.out]; exact Nat.le_refl _)]
      subst hqT
      obtain ⟨wo, rfl⟩ : ∃ wo, wo = wr := ⟨_, rfl⟩
      have cG := grow_any q wo HTB.out
      clear HQ
      go_wp2_with fail
      refine cG.mono ?_
      rintro e w1 ⟨v1, rfl, own1, hb1⟩
      clear cG
      go_wp2_with fail
      go_loopg [6, 27] k (fun gg s6 s27 wq => ∃ j p : Nat, j ≤ k ∧ k - j ≤ gg ∧ s27 = .int .i64 (j : Int) ∧ Aside (p = (ls.take j).flatten.length) ∧ wq.ownsRow wo.heap.size 32 4 s6 p ((ls.take j).flatten.flatMap Ln.enc) ∧ Aside (Below wo.heap.size wo wq))
      case atStart => exact ⟨0, 0, Nat.zero_le _, by omega, rfl, (show Aside _ from rfl), own1, (show Aside _ from hb1)⟩
      case round =>
        clear own1
        obtain ⟨j, p, hj, hgj, rfl, HP, own, HB⟩ := hrel
        have B := HB.out
        obtain ⟨A6, c6, rfl⟩ := own_shape own
        by_cases hjt : j < k
        · have hltz2 : (j : Int) < (k : Int) := by omega
          have hjl : j < ls.length := by rw [HN.out]; exact hjt
          obtain ⟨bb, off, B2, m, c2, e1, hcell, hm, hmc, _, hsl⟩ := (HC.out.below B).at_ j hjl
          subst e1
          have hpm : p + m = (ls.take (j + 1)).flatten.length := by rw [flatTake ls j hjl, List.length_append, hm, HP.out]
          have hpT : p + m ≤ q := by rw [hpm, HT.out]; exact flatLe ls (j + 1)
          have hfl : (ls.take (j + 1)).flatten.flatMap Ln.enc = (ls.take j).flatten.flatMap Ln.enc ++ ls[j]!.flatMap Ln.enc := by rw [flatTake ls j hjl, List.flatMap_append]
          have HFL := Lib.hid hfl
          have HPM := Lib.hid hpm
          have HM := Lib.hid hm
          have HS := Lib.hid hsl
          have OW := Lib.hid own
          have hBs := B.size
          obtain ⟨l, hl⟩ : ∃ l, l = ls[j]! := ⟨_, rfl⟩
          rw [← hl] at HM HS HFL
          have hqB := HTB.out
          have hpm1 : p + m ≤ maxLen := by unfold maxLen; omega
          have hpm2 : (p + m) * 32 ≤ 140737488355328 := by omega
          have HP1 := Lib.hid hpm1
          have HP2 := Lib.hid hpm2
          clear hm hsl own hjl hpm hfl hl hqB hpm1 hpm2 hpT
          go_wp2_with (at_builtin; refine wpList_as ?_)
          intro _
          refine wpList_append_sl _ rfl _ _ 40 rfl wo.heap.size 32 i0 _ 4 32 Try.underlying40 hi0 hz0 hz1 hz2 rfl (by decide) _ p _ rfl OW.out Ln.enc Ln.enc_len Ln.enc_one B2 m c2 l rfl HM.out HS.out HP1.out HP2.out hBs ?_
          intro v' w9 ownN hgrow hat
          have b9 := below_append (k := 4) B hgrow hBs OW.out (Nat.le_refl _)
          rw [← HFL.out] at ownN
          have HO9 := Lib.hid ownN
          clear ownN hgrow hat
          go_wp2_with fail
          go_roundg (k - (j + 1))
          case measure => omega
          case rel => exact ⟨j + 1, p + m, by omega, by omega, by go_num, (show Aside _ from HPM.out), HO9.out, (show Aside _ from b9)⟩
        · obtain rfl : j = k := by omega
          have hltz2 : ¬ (j : Int) < (j : Int) := by omega
          have hall : ls.take j = ls := List.take_of_length_le (by rw [HN.out]; exact Nat.le_refl _)
          have hpq : p = q := by rw [HP.out, hall, HT.out]
          subst hpq
          rw [hall, ← HCS.out] at own
          have OW := Lib.hid own
          clear own hall HP
          go_wp2_with fail
          go_ret
          exact ⟨_, rfl, OW.out, B⟩
end Go.Proofs.Ytdndanjabknjpaa
