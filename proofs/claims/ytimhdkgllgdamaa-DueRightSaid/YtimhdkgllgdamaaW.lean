/- The walk of DueRight. -/
import Derived.Test.YtimhdkgllgdamaaV
namespace Go.Proofs.Ytimhdkgllgdamaa
open Go.RowKit Go.Lib D
set_option linter.unusedVariables false

set_option maxHeartbeats 32000000 in
set_option maxRecDepth 100000 in
theorem dueRight_row (A : Option Addr) (c : Nat) (l : List Du) (d : Du) (which now : Int) (w : World) (hs : Sl 2 Du.enc w A l) :
    Calls Try.prog 5 #[.slice A l.length c, .agg #[.int .i64 d.when_, .int .i64 d.which], .int .i64 which, .int .i64 now] w fun e w' => e = .returned (.bool true) ∧ Below w.heap.size w w' := by
  obtain ⟨i0, hi, hz0, hz1, hz2⟩ := info_parts info30
  have hbig := hs.big
  obtain ⟨n, hn⟩ : ∃ n, l.length = n := ⟨_, rfl⟩
  rw [hn]
  rw [hn] at hbig
  have HN := Lib.hid hn
  have b0 : Below w.heap.size w (w.alloc (.cells #[.int .i64 d.when_, .int .i64 d.which] 30)) := (Below.refl _ _).alloc (Nat.le_refl _) _
  have hs0 := hs.below b0
  have d0 : (w.alloc (.cells #[.int .i64 d.when_, .int .i64 d.which] 30)).cell? ⟨w.heap.size, 0, none⟩ = some (.int .i64 d.when_) := World.cell?_alloc_new (w := w) _ _ _
  have d1 : (w.alloc (.cells #[.int .i64 d.when_, .int .i64 d.which] 30)).cell? ⟨w.heap.size, 1, none⟩ = some (.int .i64 d.which) := World.cell?_alloc_new (w := w) _ _ _
  have ltd : w.heap.size < (w.alloc (.cells #[.int .i64 d.when_, .int .i64 d.which] 30)).heap.size := by simp
  have cW := fun w1 => awake_any w1
  clear hs hn
  go_enter Try.func5, Try.ntmps5
  go_wp2_with fail
  generalize w.alloc (.cells #[.int .i64 d.when_, .int .i64 d.which] 30) = w0 at *
  refine (cW _).mono ?_
  rintro e w1 ⟨rfl, hb⟩
  replace hs0 := hs0.below hb
  replace b0 := b0.trans (hb.mono b0.size)
  replace d0 := (hb.cell (p := ⟨w.heap.size, 0, none⟩) ltd).trans d0
  replace d1 := (hb.cell (p := ⟨w.heap.size, 1, none⟩) ltd).trans d1
  replace ltd := Nat.lt_of_lt_of_le ltd hb.size
  clear hb
  clear cW
  by_cases hbg : 210 < n
  · have hbz : (210 : Int) < (n : Int) := by omega
    go_wp2_with fail
    go_ret
    exact ⟨rfl, b0⟩
  · have hbz : ¬ (210 : Int) < (n : Int) := by omega
    have hn1 : n ≤ 1000000 := by omega
    have hne : ∀ (q : List Du), decide (q = q) = true := fun q => decide_eq_true rfl
    go_wp2_with (at_builtin; refine wpList_as ?_)
    intro _
    refine wpList_append_sl _ rfl _ _ 24 rfl w1.heap.size 30 i0 _ 2 16 Try.underlying24 hi hz0 hz1 hz2 rfl (by decide) _ _ _ rfl (World.ownsRow_made w1 #[] 0 (Nat.le_refl _) (Nat.zero_le _) (by simp)) Du.enc Du.enc_len Du.enc_one A n c l rfl HN.out (hs0.below bnew) (by unfold maxLen; omega) (by omega) (by simp) ?_
    intro v2 w2 own2 hg2 hat2
    have hb : Below w1.heap.size w1 w2 := below_append (k := 2) bnew hg2 (by simp) (World.ownsRow_made w1 #[] 0 (Nat.le_refl _) (Nat.zero_le _) (by simp)) (Nat.le_refl _)
    rw [Nat.zero_add, List.nil_append] at own2
    replace hs0 := hs0.below hb
    replace b0 := b0.trans (hb.mono b0.size)
    replace d0 := (hb.cell (p := ⟨w.heap.size, 0, none⟩) ltd).trans d0
    replace d1 := (hb.cell (p := ⟨w.heap.size, 1, none⟩) ltd).trans d1
    replace ltd := Nat.lt_of_lt_of_le ltd hb.size
    clear hb
    obtain ⟨M, mc, rfl⟩ := own_shape own2
    have hm := Sl.of_own Du.enc_len own2 HN.out
    clear hg2 hat2 own2
    have c1 := add_any M mc n l d w2 hm HN.out hn1
    go_wp2_with fail
    generalize hr1 : addD l d = r1 at c1
    obtain ⟨q1, k1⟩ := r1
    refine c1.mono ?_
    rintro e w3 ⟨B1, f1, rfl, own3, hb⟩
    replace hm := hm.below hb
    replace hs0 := hs0.below hb
    replace b0 := b0.trans (hb.mono b0.size)
    replace d0 := (hb.cell (p := ⟨w.heap.size, 0, none⟩) ltd).trans d0
    replace d1 := (hb.cell (p := ⟨w.heap.size, 1, none⟩) ltd).trans d1
    replace ltd := Nat.lt_of_lt_of_le ltd hb.size
    clear hb
    have s1 := Sl.of_own Du.enc_len own3 rfl
    have c2 := radd_any A c n l d w3 hs0 HN.out hn1
    rw [hr1] at c2
    clear c1 own3 hr1
    go_wp2_with fail
    refine c2.mono ?_
    rintro e w4 ⟨B2, f2, rfl, s2, hb⟩
    replace hm := hm.below hb
    replace s1 := s1.below hb
    replace hs0 := hs0.below hb
    replace b0 := b0.trans (hb.mono b0.size)
    clear hb
    have c3 := rsame_any B1 B2 f1 f2 q1.length q1.length q1 q1 w4 s1 s2 rfl rfl
    simp only [decide_true] at c3
    clear c2 d0 d1 ltd
    go_wp2_with fail
    refine c3.mono ?_
    rintro e w5 ⟨rfl, hb⟩
    replace hm := hm.below hb
    replace hs0 := hs0.below hb
    replace b0 := b0.trans (hb.mono b0.size)
    clear hb
    clear c3 s1 s2
    have c1 := drop_any M mc n l which w5 hm HN.out hn1
    go_wp2_with fail
    generalize hr1 : dropD l which = r1 at c1
    obtain ⟨q2, k2⟩ := r1
    refine c1.mono ?_
    rintro e w3 ⟨B3, f3, rfl, own3, hb⟩
    replace hm := hm.below hb
    replace hs0 := hs0.below hb
    replace b0 := b0.trans (hb.mono b0.size)
    clear hb
    have s1 := Sl.of_own Du.enc_len own3 rfl
    have c2 := rdrop_any A c n l which w3 hs0 HN.out hn1
    rw [hr1] at c2
    clear c1 own3 hr1
    go_wp2_with fail
    refine c2.mono ?_
    rintro e w4 ⟨B4, f4, rfl, s2, hb⟩
    replace hm := hm.below hb
    replace s1 := s1.below hb
    replace hs0 := hs0.below hb
    replace b0 := b0.trans (hb.mono b0.size)
    clear hb
    have c3 := rsame_any B3 B4 f3 f4 q2.length q2.length q2 q2 w4 s1 s2 rfl rfl
    simp only [decide_true] at c3
    clear c2
    go_wp2_with fail
    refine c3.mono ?_
    rintro e w5 ⟨rfl, hb⟩
    replace hm := hm.below hb
    replace hs0 := hs0.below hb
    replace b0 := b0.trans (hb.mono b0.size)
    clear hb
    clear c3 s1 s2
    have c1 := come_any M mc n l now w5 hm HN.out hn1
    go_wp2_with fail
    generalize hr1 : comeD l now = r1 at c1
    obtain ⟨q3, ks, k3⟩ := r1
    refine c1.mono ?_
    rintro e w3 ⟨B5, f5, B6, f6, rfl, own3, own4, hb⟩
    replace hm := hm.below hb
    replace hs0 := hs0.below hb
    replace b0 := b0.trans (hb.mono b0.size)
    clear hb
    have s1 := Sl.of_own Du.enc_len own3 rfl
    have t1 := Sl.of_own encI_len own4 rfl
    have c2 := rcome_any A c n l now w3 hs0 HN.out hn1
    rw [hr1] at c2
    clear c1 own3 own4 hr1
    go_wp2_with fail
    refine c2.mono ?_
    rintro e w4 ⟨B7, f7, B8, f8, rfl, s2, t2, hb⟩
    replace hm := hm.below hb
    replace s1 := s1.below hb
    replace t1 := t1.below hb
    replace hs0 := hs0.below hb
    replace b0 := b0.trans (hb.mono b0.size)
    clear hb
    have c3 := rsame_any B5 B7 f5 f7 q3.length q3.length q3 q3 w4 s1 s2 rfl rfl
    simp only [decide_true] at c3
    clear c2
    go_wp2_with fail
    refine c3.mono ?_
    rintro e w5 ⟨rfl, hb⟩
    replace hm := hm.below hb
    replace t1 := t1.below hb
    replace t2 := t2.below hb
    replace hs0 := hs0.below hb
    replace b0 := b0.trans (hb.mono b0.size)
    clear hb
    clear c3 s1 s2
    have c4 := ints_any B6 B8 f6 f8 ks.length ks.length ks ks w5 t1 t2 rfl rfl
    simp only [decide_true] at c4
    go_wp2_with fail
    refine c4.mono ?_
    rintro e w6 ⟨rfl, hb⟩
    replace hm := hm.below hb
    replace hs0 := hs0.below hb
    replace b0 := b0.trans (hb.mono b0.size)
    clear hb
    clear c4 t1 t2
    have c1 := first_any M mc n l w6 hm HN.out hn1
    go_wp2_with fail
    refine c1.mono ?_
    rintro e w7 ⟨rfl, hb⟩
    replace hm := hm.below hb
    replace hs0 := hs0.below hb
    replace b0 := b0.trans (hb.mono b0.size)
    clear hb
    clear c1
    have c2 := rright_any A c n l w7 hs0 HN.out hn1
    go_wp2_with fail
    refine c2.mono ?_
    rintro e w8 ⟨rfl, hb⟩
    replace hm := hm.below hb
    replace hs0 := hs0.below hb
    replace b0 := b0.trans (hb.mono b0.size)
    clear hb
    clear c2
    have c3 := right_any M mc n l w8 hm HN.out hn1
    have cS := fun w1 (h : Sl 2 Du.enc w1 M l) => sort_any M mc n l w1 h HN.out hn1
    have cT := fun w1 (h : Sl 2 Du.enc w1 A l) => rsort_any A c n l w1 h HN.out hn1
    have cE := fun w1 B1 B2 f1 f2 (h : Sl 2 Du.enc w1 B1 (sort200 l)) (h2 : Sl 2 Du.enc w1 B2 (sort200 l)) (hl : (sort200 l).length = n) => rsame_any B1 B2 f1 f2 n n (sort200 l) (sort200 l) w1 h h2 hl hl
    have cF := fun w1 (h : Sl 2 Du.enc w1 M l) (h2 : Sl 2 Du.enc w1 A l) => rsame_any M A mc c n n l l w1 h h2 HN.out HN.out
    have hls : (sort200 l).length = n := by
      unfold sort200
      by_cases h : 200 < l.length
      · rw [if_pos h]; exact HN.out
      · rw [if_neg h, (sortD_perm l).length_eq]; exact HN.out
    have HLS := Lib.hid hls
    clear hls
    simp only [decide_true] at cE cF
    cases hr : rightD l with
    | false =>
      have hF : firstD l = (0, false) := by unfold firstD; rw [if_neg (fun h => by rw [hr] at h; exact absurd h.1 (by decide))]
      rw [hr] at c3
      rw [hF]
      clear hr hF
      go_wp2_with fail
      refine c3.mono ?_
      rintro e w9 ⟨rfl, hb⟩
      replace hm := hm.below hb
      replace hs0 := hs0.below hb
      replace b0 := b0.trans (hb.mono b0.size)
      clear hb c3
      have c4 := cS _ hm
      go_wp2_with fail
      refine c4.mono ?_
      rintro e w10 ⟨v10, rfl, own10, hb⟩
      obtain ⟨C1, g1, rfl⟩ := own_shape own10
      have s1 := Sl.of_own Du.enc_len own10 HLS.out
      replace hm := hm.below hb
      replace hs0 := hs0.below hb
      replace b0 := b0.trans (hb.mono b0.size)
      clear hb c4 cS own10
      have c5 := cT _ hs0
      go_wp2_with fail
      refine c5.mono ?_
      rintro e w11 ⟨C2, g2, rfl, s2, hb⟩
      replace s1 := s1.below hb
      replace hm := hm.below hb
      replace hs0 := hs0.below hb
      replace b0 := b0.trans (hb.mono b0.size)
      clear hb c5 cT
      have c6 := cE _ C1 C2 g1 g2 s1 s2 HLS.out
      clear cE
      go_wp2_with fail
      refine c6.mono ?_
      rintro e w12 ⟨rfl, hb⟩
      replace hm := hm.below hb
      replace hs0 := hs0.below hb
      replace b0 := b0.trans (hb.mono b0.size)
      clear hb c6 s1 s2
      have c7 := cF _ hm hs0
      clear cF
      go_wp2_with fail
      refine c7.mono ?_
      rintro e w13 ⟨rfl, hb⟩
      replace b0 := b0.trans (hb.mono b0.size)
      go_wp2_with fail
      go_ret
      exact ⟨rfl, b0⟩
    | true =>
      rw [hr] at c3
      by_cases h0 : n = 0
      · have hF : firstD l = (0, false) := by unfold firstD; rw [if_neg (fun h => h.2 (List.length_eq_zero_iff.1 (by have := HN.out; omega)))]
        rw [hF]
        subst h0
        clear hr hF
        go_wp2_with fail
        refine c3.mono ?_
        rintro e w9 ⟨rfl, hb⟩
        replace hm := hm.below hb
        replace hs0 := hs0.below hb
        replace b0 := b0.trans (hb.mono b0.size)
        clear hb c3
        have c4 := cS _ hm
        go_wp2_with fail
        refine c4.mono ?_
        rintro e w10 ⟨v10, rfl, own10, hb⟩
        obtain ⟨C1, g1, rfl⟩ := own_shape own10
        have s1 := Sl.of_own Du.enc_len own10 HLS.out
        replace hm := hm.below hb
        replace hs0 := hs0.below hb
        replace b0 := b0.trans (hb.mono b0.size)
        clear hb c4 cS own10
        have c5 := cT _ hs0
        go_wp2_with fail
        refine c5.mono ?_
        rintro e w11 ⟨C2, g2, rfl, s2, hb⟩
        replace s1 := s1.below hb
        replace hm := hm.below hb
        replace hs0 := hs0.below hb
        replace b0 := b0.trans (hb.mono b0.size)
        clear hb c5 cT
        have c6 := cE _ C1 C2 g1 g2 s1 s2 HLS.out
        clear cE
        go_wp2_with fail
        refine c6.mono ?_
        rintro e w12 ⟨rfl, hb⟩
        replace hm := hm.below hb
        replace hs0 := hs0.below hb
        replace b0 := b0.trans (hb.mono b0.size)
        clear hb c6 s1 s2
        have c7 := cF _ hm hs0
        clear cF
        go_wp2_with fail
        refine c7.mono ?_
        rintro e w13 ⟨rfl, hb⟩
        replace b0 := b0.trans (hb.mono b0.size)
        go_wp2_with fail
        go_ret
        exact ⟨rfl, b0⟩
      · have hF : firstD l = (l[0]!.when_, true) := by unfold firstD; rw [if_pos ⟨hr, fun e => h0 (by rw [← HN.out, e]; rfl)⟩]
        rw [hF]
        obtain ⟨bb, off, rfl, hq⟩ := hs0.at_ 0 (by have := HN.out; omega)
        have q0 : w8.cell? ⟨bb, off, none⟩ = some (.int .i64 l[0]!.when_) := by have := hq 0 _ rfl; simpa using this
        have z1 : (0 : Int) < (n : Int) := by omega
        have z2 : 0 < n := by omega
        generalize l[0]!.when_ = tt at *
        clear hr hF hq h0
        go_wp2_with fail
        refine c3.mono ?_
        rintro e w9 ⟨rfl, hb⟩
        replace hm := hm.below hb
        replace q0 := (hb.cell (World.block_lt_of_cell? _ _ q0)).trans q0
        replace hs0 := hs0.below hb
        replace b0 := b0.trans (hb.mono b0.size)
        clear hb c3
        have c4 := cS _ hm
        go_wp2_with fail
        refine c4.mono ?_
        rintro e w10 ⟨v10, rfl, own10, hb⟩
        obtain ⟨C1, g1, rfl⟩ := own_shape own10
        have s1 := Sl.of_own Du.enc_len own10 HLS.out
        replace hm := hm.below hb
        replace hs0 := hs0.below hb
        replace b0 := b0.trans (hb.mono b0.size)
        clear hb c4 cS own10
        have c5 := cT _ hs0
        go_wp2_with fail
        refine c5.mono ?_
        rintro e w11 ⟨C2, g2, rfl, s2, hb⟩
        replace s1 := s1.below hb
        replace hm := hm.below hb
        replace hs0 := hs0.below hb
        replace b0 := b0.trans (hb.mono b0.size)
        clear hb c5 cT
        have c6 := cE _ C1 C2 g1 g2 s1 s2 HLS.out
        clear cE
        go_wp2_with fail
        refine c6.mono ?_
        rintro e w12 ⟨rfl, hb⟩
        replace hm := hm.below hb
        replace hs0 := hs0.below hb
        replace b0 := b0.trans (hb.mono b0.size)
        clear hb c6 s1 s2
        have c7 := cF _ hm hs0
        clear cF
        go_wp2_with fail
        refine c7.mono ?_
        rintro e w13 ⟨rfl, hb⟩
        replace b0 := b0.trans (hb.mono b0.size)
        go_wp2_with fail
        go_ret
        exact ⟨rfl, b0⟩
end Go.Proofs.Ytimhdkgllgdamaa
