/- Walks of the reference's functions of layer 20: with, Same, Take, Give, Move, New. -/
import Derived.Test.YtcjlpgpmoleidaaF
namespace Go.Proofs.Ytcjlpgpmoleidaa
open Go.RowKit Go.Lib

theorem eq42 (d : Nat) (w : World) (x0 y0 : Int) (x1 y1 : Int) :
    (Op.equalIn (d + 2) 42 (.agg #[.int .i64 x0, .int .i64 x1]) (.agg #[.int .i64 y0, .int .i64 y1])).run Try.prog w = .ok (x0 == y0 && (x1 == y1)) w := by
  refine se_of Try.underlying42 (by kernel_rfl) ?_
  refine se_cons (by rfl) (by go_simp; rfl) (by go_simp; rfl) (by go_simp) ?_
  exact se_last (by rfl) (by go_simp; rfl) (by go_simp; rfl) (by go_simp)

attribute [local go_sem high] eq42
theorem flat_set2 (l : List Cls) (n : Nat) (m u : Int) (hn : n < l.length) : (((l.flatMap Cls.enc).set (n * 2) (.int .i64 m)).set (n * 2 + 1) (.int .i64 u)) = (l.set n ⟨m, u⟩).flatMap Cls.enc := by
  have h1 := flat_set Cls.enc_len l n 0 ⟨m, l[n]!.used⟩ (.int .i64 m) hn (by decide) rfl
  have h2 := flat_set Cls.enc_len (l.set n ⟨m, l[n]!.used⟩) n 1 ⟨m, u⟩ (.int .i64 u) (by simpa using hn) (by decide) (by rw [getElem!_pos _ n (by simpa using hn)]; simp [Cls.enc])
  rw [Nat.add_zero] at h1
  rw [h1, h2, List.set_set]
theorem cls_beq (x y : Cls) : (x.most == y.most && (x.used == y.used)) = decide (x = y) := by
  cases x; cases y; rw [Bool.eq_iff_iff]; simp

set_option maxHeartbeats 1000000 in
theorem rSame_any (A B : Option Addr) (c d : Nat) (l m : List Cls) (w : World) (hs : Sl 2 Cls.enc w A l) (ht : Sl 2 Cls.enc w B m) :
    Calls Try.prog 9 #[.slice A l.length c, .slice B m.length d] w fun e w' => e = .returned (.bool (decide (l = m))) ∧ Below w.heap.size w w' := by
  have hbig := hs.big
  have hbig2 := ht.big
  by_cases hlen : l.length = m.length
  · have h1 : ((l.length : Int) != (m.length : Int)) = false := by rw [bne_eq_false_iff_eq]; omega
    have HS := Lib.hid hs
    have HT := Lib.hid ht
    have HL := Lib.hid hlen
    clear hs ht hlen
    go_enter Try.func9, Try.ntmps9
    go_wp2
    go_loopg [5] l.length (fun gg s5 wr => ∃ kk : Nat, kk ≤ l.length ∧ l.length - kk ≤ gg ∧ s5 = .int .i64 kk ∧ Aside (Below w.heap.size w wr) ∧ Aside (∀ j, j < kk → l[j]! = m[j]!))
    case atStart => exact ⟨0, Nat.zero_le _, by omega, rfl, Below.refl _ w, fun j hj => absurd hj (Nat.not_lt_zero _)⟩
    case round =>
      obtain ⟨kk, hkk, hg, rfl, BW, AA⟩ := hrel
      by_cases hlt : kk < l.length
      · have hltz : (kk : Int) < (l.length : Int) := by omega
        have hlt2 : kk < m.length := by rw [← HL.out]; exact hlt
        obtain ⟨b, off, rfl, hq0⟩ := HS.out.at_ kk hlt
        obtain ⟨b', off', rfl, hp0⟩ := HT.out.at_ kk hlt2
        have q1 := hq0 0 _ rfl
        have q2 := hq0 1 _ rfl
        have p1 := hp0 0 _ rfl
        have p2 := hp0 1 _ rfl
        rw [Nat.add_zero] at q1 p1
        rw [← BW.out.cell (World.block_lt_of_cell? w _ q1)] at q1
        rw [← BW.out.cell (World.block_lt_of_cell? w _ q2)] at q2
        rw [← BW.out.cell (World.block_lt_of_cell? w _ p1)] at p1
        rw [← BW.out.cell (World.block_lt_of_cell? w _ p2)] at p2
        clear hq0 hp0
        have hlt2z : (kk : Int) < (m.length : Int) := by omega
        by_cases he : l[kk]! = m[kk]!
        · have hcmp := cls_beq l[kk]! m[kk]!
          rw [decide_eq_true he] at hcmp
          have hE0 := Lib.hid he
          clear he
          generalize l[kk]! = x at hcmp q1 q2
          generalize m[kk]! = y at hcmp p1 p2
          go_wp2
          go_quiet (fail)
          go_wp2
          go_roundg (l.length - (kk + 1))
          case measure => omega
          case rel =>
            refine ⟨kk + 1, by omega, by omega, by go_num, (show Aside _ from bdrewN BW.out _), (show Aside _ from fun j hj => ?_)⟩
            by_cases e : j = kk
            · subst e
              exact hE0.out
            · exact AA.out j (by omega)
        · have hcmp := cls_beq l[kk]! m[kk]!
          rw [decide_eq_false he] at hcmp
          have hne : decide (l = m) = false := by rw [decide_eq_false_iff_not]; rintro rfl; exact he rfl
          have hE := Lib.hid hne
          clear he hne
          generalize l[kk]! = x at *
          generalize m[kk]! = y at *
          go_wp2
          go_quiet (fail)
          go_wp2
          go_ret
          rw [hE.out]
          exact ⟨rfl, bdrewN BW.out _⟩
      · have hltz : ¬ (kk : Int) < (l.length : Int) := by omega
        have : kk = l.length := by omega
        subst this
        have hfin : decide (l = m) = true := by
          rw [decide_eq_true_iff]
          refine List.ext_getElem HL.out fun j h1 h2 => ?_
          have := AA.out j h1
          rwa [getElem!_pos l j h1, getElem!_pos m j h2] at this
        have HF := Lib.hid hfin
        clear hfin
        go_wp2
        go_ret
        rw [HF.out]
        exact ⟨rfl, BW.out⟩
  · have h1 : ((l.length : Int) != (m.length : Int)) = true := by rw [bne_iff_ne]; omega
    have hne : decide (l = m) = false := by rw [decide_eq_false_iff_not]; rintro rfl; exact hlen rfl
    rw [hne]
    clear hs ht hlen hne
    go_enter Try.func9, Try.ntmps9
    go_wp2
    go_ret
    exact ⟨rfl, Below.refl _ _⟩

set_option maxHeartbeats 1000000 in
set_option maxRecDepth 100000 in
theorem with_any (A : Option Addr) (c : Nat) (l : List Cls) (n : Nat) (m u : Int) (w : World) (hs : Sl 2 Cls.enc w A l) (hsm : l.length ≤ 1000000) (hn : n < l.length) :
    Calls Try.prog 23 #[.slice A l.length c, .int .i64 n, .int .i64 m, .int .i64 u] w fun e w' => ∃ v, e = .returned v ∧ NewRow w w' v (l.set n ⟨m, u⟩) := by
  obtain ⟨i0, hi, hz0, hz1, hz2⟩ := info_parts info42
  have u22 : ∀ w, Sem.run Try.prog (underlying 22) w = .ok (TypeDesc.slice 42) w := run_underlying Try.underlying22
  have hbig := hs.big
  have hset := flat_set2 l n m u hn
  have hlen : (l.set n ⟨m, u⟩).length = l.length := by simp
  obtain ⟨ad, rfl, A'⟩ : ∃ ad, A = some ad ∧ Aside (∀ j u, (l.flatMap Cls.enc)[j]? = some u → (w.alloc (.cells #[] 42)).cell? (ad.add j) = some u) := by
    obtain ⟨b, off, rfl, _⟩ := hs.at_ n hn
    exact ⟨_, rfl, fun j u hj => (hs.below ((Below.refl _ w).alloc (Nat.le_refl _) _)).flat Cls.enc_len (by decide) rfl j u hj⟩
  have hl := flat_length Cls.enc_len l
  have h1 : ∀ u ∈ l.flatMap Cls.enc, u.oneCell' = true := by
    intro u hu
    obtain ⟨x, _, hx⟩ := List.mem_flatMap.1 hu
    simp [Cls.enc] at hx
    rcases hx with rfl | rfl <;> rfl
  unfold NewRow
  rw [hlen, ← hset]
  have hat0 := flat_at Cls.enc_len l n 0 (.int .i64 l[n]!.most) hn rfl
  have hat1 := flat_at Cls.enc_len l n 1 (.int .i64 l[n]!.used) hn rfl
  rw [Nat.add_zero] at hat0
  have hnz : (n : Int) < (l.length : Int) := by omega
  clear hs hset hlen
  generalize l[n]!.most = y0 at *
  generalize l[n]!.used = y1 at *
  generalize l.flatMap Cls.enc = news at *
  generalize l.length = len at *
  go_enter Try.func23, Try.ntmps23
  go_wp2_with (at_builtin; refine wpList_append_own _ rfl _ _ 22 rfl w.heap.size 42 i0 _ 2 16 Try.underlying22 hi hz0 hz1 hz2 rfl (by decide) _ _ _ rfl (World.ownsRow_made w #[] 0 (Nat.le_refl _) (Nat.zero_le _) (by simp)) ad len c news rfl ?qc1 ?qc2 ?qc3 ?qc4 ?qc5 ?qc6 ?_)
  case qc1 => exact hl
  case qc2 => exact A'.out
  case qc3 => exact h1
  case qc4 => unfold maxLen; omega
  case qc5 => omega
  case qc6 => simp
  intro v' w1 hown hgrow hnil
  have hown1 : w1.ownsRow w.heap.size 42 2 v' len news := by simpa using hown
  have hb1 : Below w.heap.size w w1 := ((Below.refl _ w).alloc (Nat.le_refl _) _).grown hgrow (by simp) (by intro k hk; simp [Value.ownBlock] at hk; omega)
  obtain ⟨g, cap, rfl⟩ := own_slice hown1 (by omega)
  have q1 := own_cell hown1 _ _ hat0
  have q2 := own_cell hown1 _ _ hat1
  have fr := own_frozen hown1 (n * 2)
  have fr2 := own_frozen hown1 (n * 2 + 1)
  have hg := (own_block hown1).1
  clear hown hgrow hnil A' h1
  go_wp2
  go_ret
  exact ⟨_, rfl, own_set (own_set hown1 _ _) _ _, (hb1.setCell hg _).setCell hg _⟩
end Go.Proofs.Ytcjlpgpmoleidaa
