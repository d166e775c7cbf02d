/- Walks of link: the reference's Pieces, Words and Getter; awake. -/
import Derived.Test.YtjnpdicoopgkoaaJ
namespace Go.Proofs.Ytjnpdicoopgkoaa
open Go.RowKit Go.Lib
set_option linter.unusedVariables false

theorem eq34 (d : Nat) (w : World) (x0 y0 : Int) (x1 y1 : Int) :
    (Op.equalIn (d + 2) 34 (.agg #[.int .i64 x0, .int .u32 x1]) (.agg #[.int .i64 y0, .int .u32 y1])).run Try.prog w = .ok (x0 == y0 && (x1 == y1)) w := by
  refine se_of Try.underlying34 (by kernel_rfl) ?_
  refine se_cons (by rfl) (by go_simp; rfl) (by go_simp; rfl) (by go_simp) ?_
  exact se_last (by rfl) (by go_simp; rfl) (by go_simp; rfl) (by go_simp)
attribute [local go_sem high] eq34
theorem pce_beq (x y : Pce) : (x.num == y.num && (x.val == y.val)) = decide (x = y) := by
  cases x; cases y; rw [Bool.eq_iff_iff]; simp
theorem wrd_bne (x y : Wrd) : (x.val != y.val) = !decide (x = y) := by
  cases x; cases y; rw [Bool.eq_iff_iff]; simp

set_option maxHeartbeats 2000000 in
theorem pieces_any (A B : Option Addr) (c d n m : Nat) (l p : List Pce) (w : World) (hs : Sl 2 Pce.enc w A l) (ht : Sl 2 Pce.enc w B p) (hn : l.length = n) (hm : p.length = m) :
    Calls Try.prog 20 #[.slice A n c, .slice B m d] w fun e w' => e = .returned (.bool (decide (l = p))) ∧ Below w.heap.size w w' := by
  have hbig := hs.big
  have hbig2 := ht.big
  rw [hn] at hbig
  rw [hm] at hbig2
  have b : Below w.heap.size w w := Below.refl _ _
  have hs0 := hs
  have ht0 := ht
  clear hs ht
  by_cases hlen : n = m
  · have h1 : ((n : Int) != (m : Int)) = false := by rw [bne_eq_false_iff_eq]; omega
    have HS := Lib.hid hs0
    have HT := Lib.hid ht0
    have HN := Lib.hid hn
    have HM := Lib.hid hm
    have HL := Lib.hid hlen
    clear hs0 ht0 hn hm hlen
    go_enter Try.func20, Try.ntmps20
    go_wp2_with fail
    go_loopg [5] n (fun gg s5 wr => ∃ kk : Nat, kk ≤ n ∧ n - kk ≤ gg ∧ s5 = .int .i64 kk ∧ Aside (Below w.heap.size w wr) ∧ Aside (∀ j, j < kk → l[j]! = p[j]!))
    case atStart => exact ⟨0, Nat.zero_le _, by omega, rfl, Below.refl _ _, fun j hj => absurd hj (Nat.not_lt_zero _)⟩
    case round =>
      obtain ⟨kk, hkk, hg, rfl, BW, AA⟩ := hrel
      have b2 := BW.out
      by_cases hlt : kk < n
      · have hltz : (kk : Int) < (n : Int) := by omega
        have hlt2z : (kk : Int) < (m : Int) := by have := HL.out; omega
        obtain ⟨b', off, rfl, hq0⟩ := HS.out.at_ kk (by rw [HN.out]; exact hlt)
        obtain ⟨b'', off', rfl, hp0⟩ := HT.out.at_ kk (by rw [HM.out]; have := HL.out; omega)
        have q0 := hq0 0 _ rfl
        have p0 := hp0 0 _ rfl
        have q1 := hq0 1 _ rfl
        have p1 := hp0 1 _ rfl
        rw [Nat.add_zero] at q0 p0
        rw [← BW.out.cell (World.block_lt_of_cell? _ _ q0)] at q0
        rw [← BW.out.cell (World.block_lt_of_cell? _ _ p0)] at p0
        rw [← BW.out.cell (World.block_lt_of_cell? _ _ q1)] at q1
        rw [← BW.out.cell (World.block_lt_of_cell? _ _ p1)] at p1
        clear hq0 hp0
        by_cases he : l[kk]! = p[kk]!
        · have hcmp := pce_beq l[kk]! p[kk]!
          rw [decide_eq_true he] at hcmp
          have hE0 := Lib.hid he
          clear he
          generalize l[kk]! = xx at hcmp q0 q1
          generalize p[kk]! = yy at hcmp p0 p1
          go_wp2_with fail
          go_quiet (fail)
          go_wp2_with fail
          go_roundg (n - (kk + 1))
          case measure => omega
          case rel =>
            refine ⟨kk + 1, by omega, by omega, by go_num, (show Aside _ from bdrewN BW.out _), (show Aside _ from fun j hj => ?_)⟩
            by_cases e : j = kk
            · subst e
              exact hE0.out
            · exact AA.out j (by omega)
        · have hcmp := pce_beq l[kk]! p[kk]!
          rw [decide_eq_false he] at hcmp
          have hne : (decide (l = p)) = false := by
            have : decide (l = p) = false := by rw [decide_eq_false_iff_not]; rintro rfl; exact he rfl
            rw [this]
          have hE := Lib.hid hne
          clear he hne
          generalize l[kk]! = xx at hcmp q0 q1
          generalize p[kk]! = yy at hcmp p0 p1
          go_wp2_with fail
          go_quiet (fail)
          go_wp2_with fail
          go_ret
          rw [hE.out]
          exact ⟨rfl, bdrewN b2 _⟩
      · have hltz : ¬ (kk : Int) < (n : Int) := by omega
        have hkn : kk = n := by omega
        have hfin : decide (l = p) = true := by
          rw [decide_eq_true_iff]
          refine List.ext_getElem (by rw [HN.out, HM.out]; exact HL.out) fun j h1 h2 => ?_
          have := AA.out j (by rw [HN.out] at h1; omega)
          rwa [getElem!_pos l j h1, getElem!_pos p j h2] at this
        have HF := Lib.hid hfin
        clear hfin hkn
        go_wp2_with fail
        go_ret
        rw [HF.out]
        exact ⟨rfl, b2⟩
  · have h1 : ((n : Int) != (m : Int)) = true := by rw [bne_iff_ne]; omega
    have hne : (decide (l = p)) = false := by
      have : decide (l = p) = false := by rw [decide_eq_false_iff_not]; rintro rfl; exact hlen (hn.symm.trans hm)
      rw [this]
    rw [hne]
    clear hs0 ht0 hlen hne hn hm
    go_enter Try.func20, Try.ntmps20
    go_wp2_with fail
    go_ret
    exact ⟨rfl, b⟩

set_option maxHeartbeats 2000000 in
theorem words_any (A B : Option Addr) (c d n m : Nat) (l p : List Wrd) (w : World) (hs : Sl 1 Wrd.enc w A l) (ht : Sl 1 Wrd.enc w B p) (hn : l.length = n) (hm : p.length = m) :
    Calls Try.prog 21 #[.slice A n c, .slice B m d] w fun e w' => e = .returned (.bool (decide (l = p))) ∧ Below w.heap.size w w' := by
  have hbig := hs.big
  have hbig2 := ht.big
  rw [hn] at hbig
  rw [hm] at hbig2
  have b : Below w.heap.size w w := Below.refl _ _
  have hs0 := hs
  have ht0 := ht
  clear hs ht
  by_cases hlen : n = m
  · have h1 : ((n : Int) != (m : Int)) = false := by rw [bne_eq_false_iff_eq]; omega
    have HS := Lib.hid hs0
    have HT := Lib.hid ht0
    have HN := Lib.hid hn
    have HM := Lib.hid hm
    have HL := Lib.hid hlen
    clear hs0 ht0 hn hm hlen
    go_enter Try.func21, Try.ntmps21
    go_wp2_with fail
    go_loopg [5] n (fun gg s5 wr => ∃ kk : Nat, kk ≤ n ∧ n - kk ≤ gg ∧ s5 = .int .i64 kk ∧ Aside (Below w.heap.size w wr) ∧ Aside (∀ j, j < kk → l[j]! = p[j]!))
    case atStart => exact ⟨0, Nat.zero_le _, by omega, rfl, Below.refl _ _, fun j hj => absurd hj (Nat.not_lt_zero _)⟩
    case round =>
      obtain ⟨kk, hkk, hg, rfl, BW, AA⟩ := hrel
      have b2 := BW.out
      by_cases hlt : kk < n
      · have hltz : (kk : Int) < (n : Int) := by omega
        have hlt2z : (kk : Int) < (m : Int) := by have := HL.out; omega
        obtain ⟨b', off, rfl, hq0⟩ := HS.out.at_ kk (by rw [HN.out]; exact hlt)
        obtain ⟨b'', off', rfl, hp0⟩ := HT.out.at_ kk (by rw [HM.out]; have := HL.out; omega)
        have q0 := hq0 0 _ rfl
        have p0 := hp0 0 _ rfl
        simp only [Nat.add_zero, Nat.mul_one] at q0 p0
        rw [← BW.out.cell (World.block_lt_of_cell? _ _ q0)] at q0
        rw [← BW.out.cell (World.block_lt_of_cell? _ _ p0)] at p0
        clear hq0 hp0
        by_cases he : l[kk]! = p[kk]!
        · have hcmp := wrd_bne l[kk]! p[kk]!
          rw [decide_eq_true he] at hcmp
          simp only [Bool.not_true] at hcmp
          have hE0 := Lib.hid he
          clear he
          generalize l[kk]! = xx at hcmp q0
          generalize p[kk]! = yy at hcmp p0
          go_wp2_with fail
          go_quiet (fail)
          go_wp2_with fail
          go_roundg (n - (kk + 1))
          case measure => omega
          case rel =>
            refine ⟨kk + 1, by omega, by omega, by go_num, (show Aside _ from bdrewN BW.out _), (show Aside _ from fun j hj => ?_)⟩
            by_cases e : j = kk
            · subst e
              exact hE0.out
            · exact AA.out j (by omega)
        · have hcmp := wrd_bne l[kk]! p[kk]!
          rw [decide_eq_false he] at hcmp
          simp only [Bool.not_false] at hcmp
          have hne : (decide (l = p)) = false := by
            have : decide (l = p) = false := by rw [decide_eq_false_iff_not]; rintro rfl; exact he rfl
            rw [this]
          have hE := Lib.hid hne
          clear he hne
          generalize l[kk]! = xx at hcmp q0
          generalize p[kk]! = yy at hcmp p0
          go_wp2_with fail
          go_quiet (fail)
          go_wp2_with fail
          go_ret
          rw [hE.out]
          exact ⟨rfl, bdrewN b2 _⟩
      · have hltz : ¬ (kk : Int) < (n : Int) := by omega
        have hkn : kk = n := by omega
        have hfin : decide (l = p) = true := by
          rw [decide_eq_true_iff]
          refine List.ext_getElem (by rw [HN.out, HM.out]; exact HL.out) fun j h1 h2 => ?_
          have := AA.out j (by rw [HN.out] at h1; omega)
          rwa [getElem!_pos l j h1, getElem!_pos p j h2] at this
        have HF := Lib.hid hfin
        clear hfin hkn
        go_wp2_with fail
        go_ret
        rw [HF.out]
        exact ⟨rfl, b2⟩
  · have h1 : ((n : Int) != (m : Int)) = true := by rw [bne_iff_ne]; omega
    have hne : (decide (l = p)) = false := by
      have : decide (l = p) = false := by rw [decide_eq_false_iff_not]; rintro rfl; exact hlen (hn.symm.trans hm)
      rw [this]
    rw [hne]
    clear hs0 ht0 hlen hne hn hm
    go_enter Try.func21, Try.ntmps21
    go_wp2_with fail
    go_ret
    exact ⟨rfl, b⟩

set_option maxHeartbeats 2000000 in
theorem getter_ne0 (A B E F : Option Addr) (c d n m s t u v : Nat) (g h : Gtr) (w : World) (hg : GtrIn w A B g) (hh : GtrIn w E F h) (hn : g.early.length = n) (hm : g.came.length = m) (hu : h.early.length = u) (hv : h.came.length = v) (hne : g.next ≠ h.next) :
    Calls Try.prog 12 #[.agg #[.int .i64 g.next, .slice A n c, .slice B m d], .agg #[.int .i64 h.next, .slice E u s, .slice F v t]] w fun e w' => e = .returned (.bool false) ∧ Below w.heap.size w w' := by
  have b : Below w.heap.size w ((w.alloc (.cells #[.int .i64 g.next, .slice A n c, .slice B m d] 29)).alloc (.cells #[.int .i64 h.next, .slice E u s, .slice F v t] 29)) := ((Below.refl _ _).alloc (Nat.le_refl _) _).alloc (by simp) _
  have e0 : ((w.alloc (.cells #[.int .i64 g.next, .slice A n c, .slice B m d] 29)).alloc (.cells #[.int .i64 h.next, .slice E u s, .slice F v t] 29)).cell? ⟨w.heap.size, 0, none⟩ = some (.int .i64 g.next) := by go_simp
  have e1 : ((w.alloc (.cells #[.int .i64 g.next, .slice A n c, .slice B m d] 29)).alloc (.cells #[.int .i64 h.next, .slice E u s, .slice F v t] 29)).cell? ⟨w.heap.size, 1, none⟩ = some (.slice A n c) := by go_simp
  have e2 : ((w.alloc (.cells #[.int .i64 g.next, .slice A n c, .slice B m d] 29)).alloc (.cells #[.int .i64 h.next, .slice E u s, .slice F v t] 29)).cell? ⟨w.heap.size, 2, none⟩ = some (.slice B m d) := by go_simp
  have f0 : ((w.alloc (.cells #[.int .i64 g.next, .slice A n c, .slice B m d] 29)).alloc (.cells #[.int .i64 h.next, .slice E u s, .slice F v t] 29)).cell? ⟨w.heap.size + 1, 0, none⟩ = some (.int .i64 h.next) := by go_simp
  have f1 : ((w.alloc (.cells #[.int .i64 g.next, .slice A n c, .slice B m d] 29)).alloc (.cells #[.int .i64 h.next, .slice E u s, .slice F v t] 29)).cell? ⟨w.heap.size + 1, 1, none⟩ = some (.slice E u s) := by go_simp
  have f2 : ((w.alloc (.cells #[.int .i64 g.next, .slice A n c, .slice B m d] 29)).alloc (.cells #[.int .i64 h.next, .slice E u s, .slice F v t] 29)).cell? ⟨w.heap.size + 1, 2, none⟩ = some (.slice F v t) := by go_simp
  have cP := fun w1 (hb : Below w.heap.size w w1) => pieces_any A E c s n u g.early h.early w1 (hg.early.below hb) (hh.early.below hb) hn hu
  have cW := fun w1 (hb : Below w.heap.size w w1) => words_any B F d t m v g.came h.came w1 (hg.came.below hb) (hh.came.below hb) hm hv
  have hz : (g.next == h.next) = false := by rw [beq_eq_false_iff_ne]; exact hne
  clear hne
  clear hg hh hn hm hu hv
  go_enter Try.func12, Try.ntmps12
  go_wp2_with fail
  go_ret
  exact ⟨rfl, b⟩

set_option maxHeartbeats 2000000 in
theorem getter_ne1 (A B E F : Option Addr) (c d n m s t u v : Nat) (g h : Gtr) (w : World) (hg : GtrIn w A B g) (hh : GtrIn w E F h) (hn : g.early.length = n) (hm : g.came.length = m) (hu : h.early.length = u) (hv : h.came.length = v) (he : g.next = h.next) (hp : decide (g.early = h.early) = false) :
    Calls Try.prog 12 #[.agg #[.int .i64 g.next, .slice A n c, .slice B m d], .agg #[.int .i64 h.next, .slice E u s, .slice F v t]] w fun e w' => e = .returned (.bool false) ∧ Below w.heap.size w w' := by
  have b : Below w.heap.size w ((w.alloc (.cells #[.int .i64 g.next, .slice A n c, .slice B m d] 29)).alloc (.cells #[.int .i64 h.next, .slice E u s, .slice F v t] 29)) := ((Below.refl _ _).alloc (Nat.le_refl _) _).alloc (by simp) _
  have e0 : ((w.alloc (.cells #[.int .i64 g.next, .slice A n c, .slice B m d] 29)).alloc (.cells #[.int .i64 h.next, .slice E u s, .slice F v t] 29)).cell? ⟨w.heap.size, 0, none⟩ = some (.int .i64 g.next) := by go_simp
  have e1 : ((w.alloc (.cells #[.int .i64 g.next, .slice A n c, .slice B m d] 29)).alloc (.cells #[.int .i64 h.next, .slice E u s, .slice F v t] 29)).cell? ⟨w.heap.size, 1, none⟩ = some (.slice A n c) := by go_simp
  have e2 : ((w.alloc (.cells #[.int .i64 g.next, .slice A n c, .slice B m d] 29)).alloc (.cells #[.int .i64 h.next, .slice E u s, .slice F v t] 29)).cell? ⟨w.heap.size, 2, none⟩ = some (.slice B m d) := by go_simp
  have f0 : ((w.alloc (.cells #[.int .i64 g.next, .slice A n c, .slice B m d] 29)).alloc (.cells #[.int .i64 h.next, .slice E u s, .slice F v t] 29)).cell? ⟨w.heap.size + 1, 0, none⟩ = some (.int .i64 h.next) := by go_simp
  have f1 : ((w.alloc (.cells #[.int .i64 g.next, .slice A n c, .slice B m d] 29)).alloc (.cells #[.int .i64 h.next, .slice E u s, .slice F v t] 29)).cell? ⟨w.heap.size + 1, 1, none⟩ = some (.slice E u s) := by go_simp
  have f2 : ((w.alloc (.cells #[.int .i64 g.next, .slice A n c, .slice B m d] 29)).alloc (.cells #[.int .i64 h.next, .slice E u s, .slice F v t] 29)).cell? ⟨w.heap.size + 1, 2, none⟩ = some (.slice F v t) := by go_simp
  have cP := fun w1 (hb : Below w.heap.size w w1) => pieces_any A E c s n u g.early h.early w1 (hg.early.below hb) (hh.early.below hb) hn hu
  have cW := fun w1 (hb : Below w.heap.size w w1) => words_any B F d t m v g.came h.came w1 (hg.came.below hb) (hh.came.below hb) hm hv
  have hz : (g.next == h.next) = true := by rw [beq_iff_eq]; exact he
  rw [hp] at cP
  clear he hp
  clear hg hh hn hm hu hv
  go_enter Try.func12, Try.ntmps12
  go_wp2_with fail
  generalize ((w.alloc (.cells #[.int .i64 g.next, .slice A n c, .slice B m d] 29)).alloc (.cells #[.int .i64 h.next, .slice E u s, .slice F v t] 29)) = W0 at *
  refine (cP _ b).mono ?_
  rintro e w1 ⟨rfl, hb1⟩
  replace e2 := (hb1.cell (p := ⟨w.heap.size, 2, none⟩) (World.block_lt_of_cell? _ _ e2)).trans e2
  replace f2 := (hb1.cell (p := ⟨w.heap.size + 1, 2, none⟩) (World.block_lt_of_cell? _ _ f2)).trans f2
  replace b := b.trans (hb1.mono b.size)
  go_wp2_with fail
  go_ret
  exact ⟨rfl, b⟩

set_option maxHeartbeats 2000000 in
theorem getter_on (A B E F : Option Addr) (c d n m s t u v : Nat) (g h : Gtr) (w : World) (hg : GtrIn w A B g) (hh : GtrIn w E F h) (hn : g.early.length = n) (hm : g.came.length = m) (hu : h.early.length = u) (hv : h.came.length = v) (he : g.next = h.next) (hp : decide (g.early = h.early) = true) :
    Calls Try.prog 12 #[.agg #[.int .i64 g.next, .slice A n c, .slice B m d], .agg #[.int .i64 h.next, .slice E u s, .slice F v t]] w fun e w' => e = .returned (.bool (decide (g.came = h.came))) ∧ Below w.heap.size w w' := by
  have b : Below w.heap.size w ((w.alloc (.cells #[.int .i64 g.next, .slice A n c, .slice B m d] 29)).alloc (.cells #[.int .i64 h.next, .slice E u s, .slice F v t] 29)) := ((Below.refl _ _).alloc (Nat.le_refl _) _).alloc (by simp) _
  have e0 : ((w.alloc (.cells #[.int .i64 g.next, .slice A n c, .slice B m d] 29)).alloc (.cells #[.int .i64 h.next, .slice E u s, .slice F v t] 29)).cell? ⟨w.heap.size, 0, none⟩ = some (.int .i64 g.next) := by go_simp
  have e1 : ((w.alloc (.cells #[.int .i64 g.next, .slice A n c, .slice B m d] 29)).alloc (.cells #[.int .i64 h.next, .slice E u s, .slice F v t] 29)).cell? ⟨w.heap.size, 1, none⟩ = some (.slice A n c) := by go_simp
  have e2 : ((w.alloc (.cells #[.int .i64 g.next, .slice A n c, .slice B m d] 29)).alloc (.cells #[.int .i64 h.next, .slice E u s, .slice F v t] 29)).cell? ⟨w.heap.size, 2, none⟩ = some (.slice B m d) := by go_simp
  have f0 : ((w.alloc (.cells #[.int .i64 g.next, .slice A n c, .slice B m d] 29)).alloc (.cells #[.int .i64 h.next, .slice E u s, .slice F v t] 29)).cell? ⟨w.heap.size + 1, 0, none⟩ = some (.int .i64 h.next) := by go_simp
  have f1 : ((w.alloc (.cells #[.int .i64 g.next, .slice A n c, .slice B m d] 29)).alloc (.cells #[.int .i64 h.next, .slice E u s, .slice F v t] 29)).cell? ⟨w.heap.size + 1, 1, none⟩ = some (.slice E u s) := by go_simp
  have f2 : ((w.alloc (.cells #[.int .i64 g.next, .slice A n c, .slice B m d] 29)).alloc (.cells #[.int .i64 h.next, .slice E u s, .slice F v t] 29)).cell? ⟨w.heap.size + 1, 2, none⟩ = some (.slice F v t) := by go_simp
  have cP := fun w1 (hb : Below w.heap.size w w1) => pieces_any A E c s n u g.early h.early w1 (hg.early.below hb) (hh.early.below hb) hn hu
  have cW := fun w1 (hb : Below w.heap.size w w1) => words_any B F d t m v g.came h.came w1 (hg.came.below hb) (hh.came.below hb) hm hv
  have hz : (g.next == h.next) = true := by rw [beq_iff_eq]; exact he
  rw [hp] at cP
  clear he hp
  generalize decide (g.came = h.came) = bw at *
  clear hg hh hn hm hu hv
  go_enter Try.func12, Try.ntmps12
  go_wp2_with fail
  generalize ((w.alloc (.cells #[.int .i64 g.next, .slice A n c, .slice B m d] 29)).alloc (.cells #[.int .i64 h.next, .slice E u s, .slice F v t] 29)) = W0 at *
  refine (cP _ b).mono ?_
  rintro e w1 ⟨rfl, hb1⟩
  replace e2 := (hb1.cell (p := ⟨w.heap.size, 2, none⟩) (World.block_lt_of_cell? _ _ e2)).trans e2
  replace f2 := (hb1.cell (p := ⟨w.heap.size + 1, 2, none⟩) (World.block_lt_of_cell? _ _ f2)).trans f2
  replace b := b.trans (hb1.mono b.size)
  go_wp2_with fail
  refine (cW _ b).mono ?_
  rintro e w2 ⟨rfl, hb2⟩
  replace b := b.trans (hb2.mono b.size)
  go_wp2_with fail
  go_ret
  exact ⟨rfl, b⟩


theorem getter_any (A B E F : Option Addr) (c d n m s t u v : Nat) (g h : Gtr) (w : World) (hg : GtrIn w A B g) (hh : GtrIn w E F h) (hn : g.early.length = n) (hm : g.came.length = m) (hu : h.early.length = u) (hv : h.came.length = v) :
    Calls Try.prog 12 #[.agg #[.int .i64 g.next, .slice A n c, .slice B m d], .agg #[.int .i64 h.next, .slice E u s, .slice F v t]] w fun e w' => e = .returned (.bool (decide (g = h))) ∧ Below w.heap.size w w' := by
  by_cases he : g.next = h.next
  · cases hp : decide (g.early = h.early) with
    | false =>
      have : decide (g = h) = false := by
        rw [decide_eq_false_iff_not] at hp ⊢
        rintro rfl; exact hp rfl
      rw [this]
      exact getter_ne1 A B E F c d n m s t u v g h w hg hh hn hm hu hv he hp
    | true =>
      have : decide (g = h) = decide (g.came = h.came) := by
        rw [decide_eq_true_iff] at hp
        obtain ⟨gn, ge, gc⟩ := g
        obtain ⟨hn', he', hc'⟩ := h
        simp only at he hp
        rw [decide_eq_decide]
        subst he; subst hp
        simp
      rw [this]
      exact getter_on A B E F c d n m s t u v g h w hg hh hn hm hu hv he hp
  · have : decide (g = h) = false := by
      rw [decide_eq_false_iff_not]
      rintro rfl; exact he rfl
    rw [this]
    exact getter_ne0 A B E F c d n m s t u v g h w hg hh hn hm hu hv he

theorem send_num {w : World} {args : Array Value} {r : Snd × Pce × Int} {s : Snd} {p : Pce} {k : Int} {n : Nat} (h : Calls Try.prog 6 args w (GaveS w r.1 r.2.1 r.2.2)) (hr : r = (s, p, k)) (hn : s.out.length = n) :
    Calls Try.prog 6 args w fun e w' => ∃ A c, e = .returned (.tuple #[.agg #[.int .i64 s.next, .slice A n c], .agg #[.int .i64 p.num, .int .u32 p.val], .int .i64 k]) ∧ Sl 2 Pce.enc w' A s.out ∧ Below w.heap.size w w' := by
  subst hr
  exact h.mono fun e w' ⟨A, n', c, h1, h2, h3, h4, _⟩ => by
    obtain rfl : n' = n := h2.symm.trans hn
    exact ⟨A, c, h1, h3, h4⟩
theorem acked_num {w : World} {args : Array Value} {r : Snd × Int} {s : Snd} {k : Int} {n : Nat} (h : Calls Try.prog 8 args w (GaveT w r.1 r.2)) (hr : r = (s, k)) (hn : s.out.length = n) :
    Calls Try.prog 8 args w fun e w' => ∃ A c, e = .returned (.tuple #[.agg #[.int .i64 s.next, .slice A n c], .int .i64 k]) ∧ Sl 2 Pce.enc w' A s.out ∧ Below w.heap.size w w' := by
  subst hr
  exact h.mono fun e w' ⟨A, n', c, h1, h2, h3, h4, _⟩ => by
    obtain rfl : n' = n := h2.symm.trans hn
    exact ⟨A, c, h1, h3, h4⟩
theorem get_num {w : World} {args : Array Value} {r : Gtr × Int} {g : Gtr} {k : Int} {n m : Nat} (h : Calls Try.prog 7 args w (GaveG w r.1 r.1.next r.2)) (hr : r = (g, k)) (hn : g.early.length = n) (hm : g.came.length = m) :
    Calls Try.prog 7 args w fun e w' => ∃ A c B d, e = .returned (.tuple #[.agg #[.int .i64 g.next, .slice A n c, .slice B m d], .int .i64 g.next, .int .i64 k]) ∧ GtrIn w' A B g ∧ Below w.heap.size w w' := by
  subst hr
  exact h.mono fun e w' ⟨A, n', c, B, m', d, h1, h2, h3, h4, h5, h6, _⟩ => by
    obtain rfl : n' = n := h2.symm.trans hn
    obtain rfl : m' = m := h3.symm.trans hm
    exact ⟨A, c, B, d, h1, ⟨h4, h5⟩, h6⟩
theorem again_num {w : World} {args : Array Value} {l l' : List Pce} {n : Nat} (h : Calls Try.prog 11 args w (GivesP w l)) (hr : l = l') (hn : l'.length = n) :
    Calls Try.prog 11 args w fun e w' => ∃ A c, e = .returned (.slice A n c) ∧ Sl 2 Pce.enc w' A l' ∧ Below w.heap.size w w' := by
  subst hr
  exact h.mono fun e w' ⟨A, n', c, h1, h2, h3, h4, _⟩ => by
    obtain rfl : n' = n := h2.symm.trans hn
    exact ⟨A, c, h1, h3, h4⟩

theorem idx1 (bb off f : Nat) (w : World) : (Instr.indexAt 22 (.slice (some ⟨bb, off, none⟩) 2 f) (.int .i64 1)).run Try.prog w = .ok (.pointer (some ⟨bb, off + 1, none⟩)) w := by
  have h : Try.prog.underlying 22 = some (.slice (Try.prog.elem 22)) := by kernel_rfl
  rw [run_indexAt_slice (h := h), if_pos (by decide)]
  have hs : (sizeOf (Try.prog.elem 22)).run Try.prog w = .ok 1 w := by kernel_rfl
  rw [hs]
  rfl
set_option maxHeartbeats 8000000 in
theorem awake_any (w : World) : Calls Try.prog 5 #[] w fun e w' => e = .returned (.bool true) ∧ Below w.heap.size w w' := by
  have b : Below w.heap.size w w := Below.refl _ _
  have c1 := fun w1 => send_num (send_any none 0 0 ⟨0, []⟩ 7 w1 (Sl.nil _ _ _ _) rfl (by decide)) (s := ⟨1, [⟨0, 7⟩]⟩) (p := ⟨0, 7⟩) (k := 0) (n := 1) (by decide) rfl
  have c2 := fun w1 => get_num (get_any none none 0 0 0 0 ⟨0, [], []⟩ ⟨1, 8⟩ w1 (Sl.nil _ _ _ _) (Sl.nil _ _ _ _) rfl rfl (by decide) (by decide) (by decide)) (g := ⟨0, [⟨1, 8⟩], []⟩) (k := 0) (n := 1) (m := 0) (by decide) rfl rfl
  have c3 := fun A B c d w1 hs hc => get_num (get_any A B c d 1 0 ⟨0, [⟨1, 8⟩], []⟩ ⟨0, 7⟩ w1 hs hc rfl rfl (by decide) (by decide) (by decide)) (g := ⟨2, [], [⟨7⟩, ⟨8⟩]⟩) (k := 0) (n := 0) (m := 2) (by decide) rfl rfl
  have c4 := fun A c w1 hs => acked_num (acked_any A c 1 ⟨1, [⟨0, 7⟩]⟩ 1 w1 hs rfl (by decide)) (s := ⟨1, []⟩) (k := 0) (n := 0) (by decide) rfl
  have c5 := fun A c w1 hs => again_num (again_any A c 1 ⟨1, [⟨0, 7⟩]⟩ w1 hs rfl (by decide)) (l' := [⟨0, 7⟩]) (n := 1) (by decide) rfl
  have c6 := fun A c w1 hs => sRight_any A c 0 ⟨1, []⟩ w1 hs rfl
  rw [show sRight ⟨1, []⟩ = true by decide] at c6
  have c7 := fun A B c d w1 hs => gRight_any A B c d 0 2 ⟨2, [], [⟨7⟩, ⟨8⟩]⟩ w1 hs rfl
  rw [show gRight ⟨2, [], [⟨7⟩, ⟨8⟩]⟩ = true by decide] at c7
  simp only at c1 c2 c3 c4 c5 c6 c7
  go_enter Try.func5, Try.ntmps5
  go_wp2_with fail
  refine (c1 _).mono ?_
  rintro e w1 ⟨A1, d1, rfl, s1, hb1⟩
  replace b := b.trans (hb1.mono b.size)
  clear hb1 c1
  go_wp2_with fail
  have hs4 : (w1.alloc (.cells #[.int .i64 1, .slice A1 1 d1] 27)).heap.size = w1.heap.size + 1 := by simp
  rw [← hs4]
  have x0 : (w1.alloc (.cells #[.int .i64 1, .slice A1 1 d1] 27)).cell? ⟨w1.heap.size, 0, none⟩ = some (.int .i64 1) := World.cell?_alloc_new (w := w1) _ _ _
  have x1 : (w1.alloc (.cells #[.int .i64 1, .slice A1 1 d1] 27)).cell? ⟨w1.heap.size, 1, none⟩ = some (.slice A1 1 d1) := World.cell?_alloc_new (w := w1) _ _ _
  replace s1 := s1.below ((Below.refl w1.heap.size w1).alloc (Nat.le_refl _) (.cells #[.int .i64 1, .slice A1 1 d1] 27))
  replace b := b.alloc b.size (.cells #[.int .i64 1, .slice A1 1 d1] 27)
  clear hs4
  have ltS : w1.heap.size < (w1.alloc (.cells #[.int .i64 1, .slice A1 1 d1] 27)).heap.size := by simp
  generalize hw_w2 : w1.alloc (.cells #[.int .i64 1, .slice A1 1 d1] 27) = w2 at *
  clear hw_w2
  generalize w1.heap.size = S1 at *
  replace x0 : (w2.alloc (.cells #[.int .i64 0, .int .u32 7] 34)).cell? ⟨S1, 0, none⟩ = some (.int .i64 1) := (World.cell?_alloc_lt w2 _ ⟨S1, 0, none⟩ (World.block_lt_of_cell? _ _ x0)).trans x0
  replace x1 : (w2.alloc (.cells #[.int .i64 0, .int .u32 7] 34)).cell? ⟨S1, 1, none⟩ = some (.slice A1 1 d1) := (World.cell?_alloc_lt w2 _ ⟨S1, 1, none⟩ (World.block_lt_of_cell? _ _ x1)).trans x1
  have p0 : (w2.alloc (.cells #[.int .i64 0, .int .u32 7] 34)).cell? ⟨w2.heap.size, 0, none⟩ = some (.int .i64 0) := World.cell?_alloc_new (w := w2) _ _ _
  have p1 : (w2.alloc (.cells #[.int .i64 0, .int .u32 7] 34)).cell? ⟨w2.heap.size, 1, none⟩ = some (.int .u32 7) := World.cell?_alloc_new (w := w2) _ _ _
  replace ltS : _ < (w2.alloc (.cells #[.int .i64 0, .int .u32 7] 34)).heap.size := Nat.lt_of_lt_of_le ltS (by simp)
  replace s1 := s1.below ((Below.refl w2.heap.size w2).alloc (Nat.le_refl _) (.cells #[.int .i64 0, .int .u32 7] 34))
  replace b := b.alloc b.size (.cells #[.int .i64 0, .int .u32 7] 34)
  have ltP : w2.heap.size < (w2.alloc (.cells #[.int .i64 0, .int .u32 7] 34)).heap.size := by simp
  generalize hw_w3 : w2.alloc (.cells #[.int .i64 0, .int .u32 7] 34) = w3 at *
  clear hw_w3
  generalize w2.heap.size = P1 at *
  refine (c2 _).mono ?_
  rintro e w4 ⟨A2, d2, B2, f2, rfl, g2, hb2⟩
  replace x0 := (hb2.cell (p := ⟨S1, 0, none⟩) (World.block_lt_of_cell? _ _ x0)).trans x0
  replace x1 := (hb2.cell (p := ⟨S1, 1, none⟩) (World.block_lt_of_cell? _ _ x1)).trans x1
  replace p0 := (hb2.cell (p := ⟨P1, 0, none⟩) (World.block_lt_of_cell? _ _ p0)).trans p0
  replace p1 := (hb2.cell (p := ⟨P1, 1, none⟩) (World.block_lt_of_cell? _ _ p1)).trans p1
  replace ltS := Nat.lt_of_lt_of_le ltS hb2.size
  replace ltP := Nat.lt_of_lt_of_le ltP hb2.size
  replace s1 := s1.below hb2
  replace b := b.trans (hb2.mono b.size)
  clear hb2 c2
  go_wp2_with fail
  replace x0 : (w4.alloc (.cells #[.int .i64 0, .slice A2 1 d2, .slice B2 0 f2] 29)).cell? ⟨S1, 0, none⟩ = some (.int .i64 1) := (World.cell?_alloc_lt w4 _ ⟨S1, 0, none⟩ (World.block_lt_of_cell? _ _ x0)).trans x0
  replace x1 : (w4.alloc (.cells #[.int .i64 0, .slice A2 1 d2, .slice B2 0 f2] 29)).cell? ⟨S1, 1, none⟩ = some (.slice A1 1 d1) := (World.cell?_alloc_lt w4 _ ⟨S1, 1, none⟩ (World.block_lt_of_cell? _ _ x1)).trans x1
  replace p0 : (w4.alloc (.cells #[.int .i64 0, .slice A2 1 d2, .slice B2 0 f2] 29)).cell? ⟨P1, 0, none⟩ = some (.int .i64 0) := (World.cell?_alloc_lt w4 _ ⟨P1, 0, none⟩ (World.block_lt_of_cell? _ _ p0)).trans p0
  replace p1 : (w4.alloc (.cells #[.int .i64 0, .slice A2 1 d2, .slice B2 0 f2] 29)).cell? ⟨P1, 1, none⟩ = some (.int .u32 7) := (World.cell?_alloc_lt w4 _ ⟨P1, 1, none⟩ (World.block_lt_of_cell? _ _ p1)).trans p1
  have g0 : (w4.alloc (.cells #[.int .i64 0, .slice A2 1 d2, .slice B2 0 f2] 29)).cell? ⟨w4.heap.size, 0, none⟩ = some (.int .i64 0) := World.cell?_alloc_new (w := w4) _ _ _
  have g1 : (w4.alloc (.cells #[.int .i64 0, .slice A2 1 d2, .slice B2 0 f2] 29)).cell? ⟨w4.heap.size, 1, none⟩ = some (.slice A2 1 d2) := World.cell?_alloc_new (w := w4) _ _ _
  have gg2 : (w4.alloc (.cells #[.int .i64 0, .slice A2 1 d2, .slice B2 0 f2] 29)).cell? ⟨w4.heap.size, 2, none⟩ = some (.slice B2 0 f2) := World.cell?_alloc_new (w := w4) _ _ _
  replace ltS : _ < (w4.alloc (.cells #[.int .i64 0, .slice A2 1 d2, .slice B2 0 f2] 29)).heap.size := Nat.lt_of_lt_of_le ltS (by simp)
  replace ltP : _ < (w4.alloc (.cells #[.int .i64 0, .slice A2 1 d2, .slice B2 0 f2] 29)).heap.size := Nat.lt_of_lt_of_le ltP (by simp)
  replace s1 := s1.below ((Below.refl w4.heap.size w4).alloc (Nat.le_refl _) (.cells #[.int .i64 0, .slice A2 1 d2, .slice B2 0 f2] 29))
  replace g2 := g2.below ((Below.refl w4.heap.size w4).alloc (Nat.le_refl _) (.cells #[.int .i64 0, .slice A2 1 d2, .slice B2 0 f2] 29))
  replace b := b.alloc b.size (.cells #[.int .i64 0, .slice A2 1 d2, .slice B2 0 f2] 29)
  have ltG : w4.heap.size < (w4.alloc (.cells #[.int .i64 0, .slice A2 1 d2, .slice B2 0 f2] 29)).heap.size := by simp
  generalize hw_w5 : w4.alloc (.cells #[.int .i64 0, .slice A2 1 d2, .slice B2 0 f2] 29) = w5 at *
  clear hw_w5
  generalize w4.heap.size = G1 at *
  refine (c3 _ _ _ _ _ g2.early g2.came).mono ?_
  rintro e w6 ⟨A3, d3, B3, f3, rfl, g3, hb3⟩
  replace x0 := (hb3.cell (p := ⟨S1, 0, none⟩) (World.block_lt_of_cell? _ _ x0)).trans x0
  replace x1 := (hb3.cell (p := ⟨S1, 1, none⟩) (World.block_lt_of_cell? _ _ x1)).trans x1
  replace p0 := (hb3.cell (p := ⟨P1, 0, none⟩) (World.block_lt_of_cell? _ _ p0)).trans p0
  replace p1 := (hb3.cell (p := ⟨P1, 1, none⟩) (World.block_lt_of_cell? _ _ p1)).trans p1
  replace g0 := (hb3.cell (p := ⟨G1, 0, none⟩) (World.block_lt_of_cell? _ _ g0)).trans g0
  replace g1 := (hb3.cell (p := ⟨G1, 1, none⟩) (World.block_lt_of_cell? _ _ g1)).trans g1
  replace gg2 := (hb3.cell (p := ⟨G1, 2, none⟩) (World.block_lt_of_cell? _ _ gg2)).trans gg2
  replace ltS := Nat.lt_of_lt_of_le ltS hb3.size
  replace ltP := Nat.lt_of_lt_of_le ltP hb3.size
  replace ltG := Nat.lt_of_lt_of_le ltG hb3.size
  replace s1 := s1.below hb3
  replace b := b.trans (hb3.mono b.size)
  clear hb3 c3 g2
  go_wp2_with fail
  replace x0 : (w6.alloc (.cells #[.int .i64 2, .slice A3 0 d3, .slice B3 2 f3] 29)).cell? ⟨S1, 0, none⟩ = some (.int .i64 1) := (World.cell?_alloc_lt w6 _ ⟨S1, 0, none⟩ (World.block_lt_of_cell? _ _ x0)).trans x0
  replace x1 : (w6.alloc (.cells #[.int .i64 2, .slice A3 0 d3, .slice B3 2 f3] 29)).cell? ⟨S1, 1, none⟩ = some (.slice A1 1 d1) := (World.cell?_alloc_lt w6 _ ⟨S1, 1, none⟩ (World.block_lt_of_cell? _ _ x1)).trans x1
  replace p0 : (w6.alloc (.cells #[.int .i64 2, .slice A3 0 d3, .slice B3 2 f3] 29)).cell? ⟨P1, 0, none⟩ = some (.int .i64 0) := (World.cell?_alloc_lt w6 _ ⟨P1, 0, none⟩ (World.block_lt_of_cell? _ _ p0)).trans p0
  replace p1 : (w6.alloc (.cells #[.int .i64 2, .slice A3 0 d3, .slice B3 2 f3] 29)).cell? ⟨P1, 1, none⟩ = some (.int .u32 7) := (World.cell?_alloc_lt w6 _ ⟨P1, 1, none⟩ (World.block_lt_of_cell? _ _ p1)).trans p1
  replace g0 : (w6.alloc (.cells #[.int .i64 2, .slice A3 0 d3, .slice B3 2 f3] 29)).cell? ⟨G1, 0, none⟩ = some (.int .i64 0) := (World.cell?_alloc_lt w6 _ ⟨G1, 0, none⟩ (World.block_lt_of_cell? _ _ g0)).trans g0
  replace g1 : (w6.alloc (.cells #[.int .i64 2, .slice A3 0 d3, .slice B3 2 f3] 29)).cell? ⟨G1, 1, none⟩ = some (.slice A2 1 d2) := (World.cell?_alloc_lt w6 _ ⟨G1, 1, none⟩ (World.block_lt_of_cell? _ _ g1)).trans g1
  replace gg2 : (w6.alloc (.cells #[.int .i64 2, .slice A3 0 d3, .slice B3 2 f3] 29)).cell? ⟨G1, 2, none⟩ = some (.slice B2 0 f2) := (World.cell?_alloc_lt w6 _ ⟨G1, 2, none⟩ (World.block_lt_of_cell? _ _ gg2)).trans gg2
  have h0 : (w6.alloc (.cells #[.int .i64 2, .slice A3 0 d3, .slice B3 2 f3] 29)).cell? ⟨w6.heap.size, 0, none⟩ = some (.int .i64 2) := World.cell?_alloc_new (w := w6) _ _ _
  have h1 : (w6.alloc (.cells #[.int .i64 2, .slice A3 0 d3, .slice B3 2 f3] 29)).cell? ⟨w6.heap.size, 1, none⟩ = some (.slice A3 0 d3) := World.cell?_alloc_new (w := w6) _ _ _
  have h2 : (w6.alloc (.cells #[.int .i64 2, .slice A3 0 d3, .slice B3 2 f3] 29)).cell? ⟨w6.heap.size, 2, none⟩ = some (.slice B3 2 f3) := World.cell?_alloc_new (w := w6) _ _ _
  replace ltS : _ < (w6.alloc (.cells #[.int .i64 2, .slice A3 0 d3, .slice B3 2 f3] 29)).heap.size := Nat.lt_of_lt_of_le ltS (by simp)
  replace ltP : _ < (w6.alloc (.cells #[.int .i64 2, .slice A3 0 d3, .slice B3 2 f3] 29)).heap.size := Nat.lt_of_lt_of_le ltP (by simp)
  replace ltG : _ < (w6.alloc (.cells #[.int .i64 2, .slice A3 0 d3, .slice B3 2 f3] 29)).heap.size := Nat.lt_of_lt_of_le ltG (by simp)
  replace s1 := s1.below ((Below.refl w6.heap.size w6).alloc (Nat.le_refl _) (.cells #[.int .i64 2, .slice A3 0 d3, .slice B3 2 f3] 29))
  replace g3 := g3.below ((Below.refl w6.heap.size w6).alloc (Nat.le_refl _) (.cells #[.int .i64 2, .slice A3 0 d3, .slice B3 2 f3] 29))
  replace b := b.alloc b.size (.cells #[.int .i64 2, .slice A3 0 d3, .slice B3 2 f3] 29)
  have ltH : w6.heap.size < (w6.alloc (.cells #[.int .i64 2, .slice A3 0 d3, .slice B3 2 f3] 29)).heap.size := by simp
  generalize hw_w7 : w6.alloc (.cells #[.int .i64 2, .slice A3 0 d3, .slice B3 2 f3] 29) = w7 at *
  clear hw_w7
  generalize w6.heap.size = H1 at *
  refine (c4 _ _ _ s1).mono ?_
  rintro e w8 ⟨A4, d4, rfl, s4, hb4⟩
  replace x0 := (hb4.cell (p := ⟨S1, 0, none⟩) (World.block_lt_of_cell? _ _ x0)).trans x0
  replace x1 := (hb4.cell (p := ⟨S1, 1, none⟩) (World.block_lt_of_cell? _ _ x1)).trans x1
  replace p0 := (hb4.cell (p := ⟨P1, 0, none⟩) (World.block_lt_of_cell? _ _ p0)).trans p0
  replace p1 := (hb4.cell (p := ⟨P1, 1, none⟩) (World.block_lt_of_cell? _ _ p1)).trans p1
  replace g0 := (hb4.cell (p := ⟨G1, 0, none⟩) (World.block_lt_of_cell? _ _ g0)).trans g0
  replace g1 := (hb4.cell (p := ⟨G1, 1, none⟩) (World.block_lt_of_cell? _ _ g1)).trans g1
  replace gg2 := (hb4.cell (p := ⟨G1, 2, none⟩) (World.block_lt_of_cell? _ _ gg2)).trans gg2
  replace h0 := (hb4.cell (p := ⟨H1, 0, none⟩) (World.block_lt_of_cell? _ _ h0)).trans h0
  replace h1 := (hb4.cell (p := ⟨H1, 1, none⟩) (World.block_lt_of_cell? _ _ h1)).trans h1
  replace h2 := (hb4.cell (p := ⟨H1, 2, none⟩) (World.block_lt_of_cell? _ _ h2)).trans h2
  replace ltS := Nat.lt_of_lt_of_le ltS hb4.size
  replace ltP := Nat.lt_of_lt_of_le ltP hb4.size
  replace ltG := Nat.lt_of_lt_of_le ltG hb4.size
  replace ltH := Nat.lt_of_lt_of_le ltH hb4.size
  replace s1 := s1.below hb4
  replace g3 := g3.below hb4
  replace b := b.trans (hb4.mono b.size)
  clear hb4 c4
  obtain ⟨bb, off, rfl, hq⟩ := g3.came.at_ 1 (by decide)
  have q1 : w8.cell? ⟨bb, off + 1, none⟩ = some (.int .u32 8) := hq 0 _ rfl
  have hix := idx1 bb off f3
  have ltbb : bb < w8.heap.size := World.block_lt_of_cell? _ _ q1
  clear hq
  go_wp2_with fail
  clear ltbb
  replace x0 : (w8.alloc (.cells #[.int .i64 1, .slice A4 0 d4] 27)).cell? ⟨S1, 0, none⟩ = some (.int .i64 1) := (World.cell?_alloc_lt w8 _ ⟨S1, 0, none⟩ (World.block_lt_of_cell? _ _ x0)).trans x0
  replace x1 : (w8.alloc (.cells #[.int .i64 1, .slice A4 0 d4] 27)).cell? ⟨S1, 1, none⟩ = some (.slice A1 1 d1) := (World.cell?_alloc_lt w8 _ ⟨S1, 1, none⟩ (World.block_lt_of_cell? _ _ x1)).trans x1
  replace p0 : (w8.alloc (.cells #[.int .i64 1, .slice A4 0 d4] 27)).cell? ⟨P1, 0, none⟩ = some (.int .i64 0) := (World.cell?_alloc_lt w8 _ ⟨P1, 0, none⟩ (World.block_lt_of_cell? _ _ p0)).trans p0
  replace p1 : (w8.alloc (.cells #[.int .i64 1, .slice A4 0 d4] 27)).cell? ⟨P1, 1, none⟩ = some (.int .u32 7) := (World.cell?_alloc_lt w8 _ ⟨P1, 1, none⟩ (World.block_lt_of_cell? _ _ p1)).trans p1
  replace g0 : (w8.alloc (.cells #[.int .i64 1, .slice A4 0 d4] 27)).cell? ⟨G1, 0, none⟩ = some (.int .i64 0) := (World.cell?_alloc_lt w8 _ ⟨G1, 0, none⟩ (World.block_lt_of_cell? _ _ g0)).trans g0
  replace g1 : (w8.alloc (.cells #[.int .i64 1, .slice A4 0 d4] 27)).cell? ⟨G1, 1, none⟩ = some (.slice A2 1 d2) := (World.cell?_alloc_lt w8 _ ⟨G1, 1, none⟩ (World.block_lt_of_cell? _ _ g1)).trans g1
  replace gg2 : (w8.alloc (.cells #[.int .i64 1, .slice A4 0 d4] 27)).cell? ⟨G1, 2, none⟩ = some (.slice B2 0 f2) := (World.cell?_alloc_lt w8 _ ⟨G1, 2, none⟩ (World.block_lt_of_cell? _ _ gg2)).trans gg2
  replace h0 : (w8.alloc (.cells #[.int .i64 1, .slice A4 0 d4] 27)).cell? ⟨H1, 0, none⟩ = some (.int .i64 2) := (World.cell?_alloc_lt w8 _ ⟨H1, 0, none⟩ (World.block_lt_of_cell? _ _ h0)).trans h0
  replace h1 : (w8.alloc (.cells #[.int .i64 1, .slice A4 0 d4] 27)).cell? ⟨H1, 1, none⟩ = some (.slice A3 0 d3) := (World.cell?_alloc_lt w8 _ ⟨H1, 1, none⟩ (World.block_lt_of_cell? _ _ h1)).trans h1
  replace h2 : (w8.alloc (.cells #[.int .i64 1, .slice A4 0 d4] 27)).cell? ⟨H1, 2, none⟩ = some (.slice (some ⟨bb, off, none⟩) 2 f3) := (World.cell?_alloc_lt w8 _ ⟨H1, 2, none⟩ (World.block_lt_of_cell? _ _ h2)).trans h2
  replace q1 : (w8.alloc (.cells #[.int .i64 1, .slice A4 0 d4] 27)).cell? ⟨bb, off + 1, none⟩ = some (.int .u32 8) := (World.cell?_alloc_lt w8 _ ⟨bb, off + 1, none⟩ (World.block_lt_of_cell? _ _ q1)).trans q1
  have t0 : (w8.alloc (.cells #[.int .i64 1, .slice A4 0 d4] 27)).cell? ⟨w8.heap.size, 0, none⟩ = some (.int .i64 1) := World.cell?_alloc_new (w := w8) _ _ _
  have t1 : (w8.alloc (.cells #[.int .i64 1, .slice A4 0 d4] 27)).cell? ⟨w8.heap.size, 1, none⟩ = some (.slice A4 0 d4) := World.cell?_alloc_new (w := w8) _ _ _
  replace ltS : _ < (w8.alloc (.cells #[.int .i64 1, .slice A4 0 d4] 27)).heap.size := Nat.lt_of_lt_of_le ltS (by simp)
  replace ltP : _ < (w8.alloc (.cells #[.int .i64 1, .slice A4 0 d4] 27)).heap.size := Nat.lt_of_lt_of_le ltP (by simp)
  replace ltG : _ < (w8.alloc (.cells #[.int .i64 1, .slice A4 0 d4] 27)).heap.size := Nat.lt_of_lt_of_le ltG (by simp)
  replace ltH : _ < (w8.alloc (.cells #[.int .i64 1, .slice A4 0 d4] 27)).heap.size := Nat.lt_of_lt_of_le ltH (by simp)
  replace s1 := s1.below ((Below.refl w8.heap.size w8).alloc (Nat.le_refl _) (.cells #[.int .i64 1, .slice A4 0 d4] 27))
  replace g3 := g3.below ((Below.refl w8.heap.size w8).alloc (Nat.le_refl _) (.cells #[.int .i64 1, .slice A4 0 d4] 27))
  replace s4 := s4.below ((Below.refl w8.heap.size w8).alloc (Nat.le_refl _) (.cells #[.int .i64 1, .slice A4 0 d4] 27))
  replace b := b.alloc b.size (.cells #[.int .i64 1, .slice A4 0 d4] 27)
  have ltT : w8.heap.size < (w8.alloc (.cells #[.int .i64 1, .slice A4 0 d4] 27)).heap.size := by simp
  generalize hw_w9 : w8.alloc (.cells #[.int .i64 1, .slice A4 0 d4] 27) = w9 at *
  clear hw_w9
  generalize w8.heap.size = T1 at *
  refine (c5 _ _ _ s1).mono ?_
  rintro e w10 ⟨A5, d5, rfl, s5, hb5⟩
  replace x0 := (hb5.cell (p := ⟨S1, 0, none⟩) (World.block_lt_of_cell? _ _ x0)).trans x0
  replace x1 := (hb5.cell (p := ⟨S1, 1, none⟩) (World.block_lt_of_cell? _ _ x1)).trans x1
  replace p0 := (hb5.cell (p := ⟨P1, 0, none⟩) (World.block_lt_of_cell? _ _ p0)).trans p0
  replace p1 := (hb5.cell (p := ⟨P1, 1, none⟩) (World.block_lt_of_cell? _ _ p1)).trans p1
  replace g0 := (hb5.cell (p := ⟨G1, 0, none⟩) (World.block_lt_of_cell? _ _ g0)).trans g0
  replace g1 := (hb5.cell (p := ⟨G1, 1, none⟩) (World.block_lt_of_cell? _ _ g1)).trans g1
  replace gg2 := (hb5.cell (p := ⟨G1, 2, none⟩) (World.block_lt_of_cell? _ _ gg2)).trans gg2
  replace h0 := (hb5.cell (p := ⟨H1, 0, none⟩) (World.block_lt_of_cell? _ _ h0)).trans h0
  replace h1 := (hb5.cell (p := ⟨H1, 1, none⟩) (World.block_lt_of_cell? _ _ h1)).trans h1
  replace h2 := (hb5.cell (p := ⟨H1, 2, none⟩) (World.block_lt_of_cell? _ _ h2)).trans h2
  replace q1 := (hb5.cell (p := ⟨bb, off + 1, none⟩) (World.block_lt_of_cell? _ _ q1)).trans q1
  replace t0 := (hb5.cell (p := ⟨T1, 0, none⟩) (World.block_lt_of_cell? _ _ t0)).trans t0
  replace t1 := (hb5.cell (p := ⟨T1, 1, none⟩) (World.block_lt_of_cell? _ _ t1)).trans t1
  replace ltS := Nat.lt_of_lt_of_le ltS hb5.size
  replace ltP := Nat.lt_of_lt_of_le ltP hb5.size
  replace ltG := Nat.lt_of_lt_of_le ltG hb5.size
  replace ltH := Nat.lt_of_lt_of_le ltH hb5.size
  replace ltT := Nat.lt_of_lt_of_le ltT hb5.size
  replace s1 := s1.below hb5
  replace g3 := g3.below hb5
  replace s4 := s4.below hb5
  replace b := b.trans (hb5.mono b.size)
  clear hb5 c5 s5
  go_wp2_with fail
  refine (c6 _ _ _ s4).mono ?_
  rintro e w11 ⟨rfl, hb6⟩
  replace x0 := (hb6.cell (p := ⟨S1, 0, none⟩) (World.block_lt_of_cell? _ _ x0)).trans x0
  replace x1 := (hb6.cell (p := ⟨S1, 1, none⟩) (World.block_lt_of_cell? _ _ x1)).trans x1
  replace p0 := (hb6.cell (p := ⟨P1, 0, none⟩) (World.block_lt_of_cell? _ _ p0)).trans p0
  replace p1 := (hb6.cell (p := ⟨P1, 1, none⟩) (World.block_lt_of_cell? _ _ p1)).trans p1
  replace g0 := (hb6.cell (p := ⟨G1, 0, none⟩) (World.block_lt_of_cell? _ _ g0)).trans g0
  replace g1 := (hb6.cell (p := ⟨G1, 1, none⟩) (World.block_lt_of_cell? _ _ g1)).trans g1
  replace gg2 := (hb6.cell (p := ⟨G1, 2, none⟩) (World.block_lt_of_cell? _ _ gg2)).trans gg2
  replace h0 := (hb6.cell (p := ⟨H1, 0, none⟩) (World.block_lt_of_cell? _ _ h0)).trans h0
  replace h1 := (hb6.cell (p := ⟨H1, 1, none⟩) (World.block_lt_of_cell? _ _ h1)).trans h1
  replace h2 := (hb6.cell (p := ⟨H1, 2, none⟩) (World.block_lt_of_cell? _ _ h2)).trans h2
  replace q1 := (hb6.cell (p := ⟨bb, off + 1, none⟩) (World.block_lt_of_cell? _ _ q1)).trans q1
  replace t0 := (hb6.cell (p := ⟨T1, 0, none⟩) (World.block_lt_of_cell? _ _ t0)).trans t0
  replace t1 := (hb6.cell (p := ⟨T1, 1, none⟩) (World.block_lt_of_cell? _ _ t1)).trans t1
  replace ltS := Nat.lt_of_lt_of_le ltS hb6.size
  replace ltP := Nat.lt_of_lt_of_le ltP hb6.size
  replace ltG := Nat.lt_of_lt_of_le ltG hb6.size
  replace ltH := Nat.lt_of_lt_of_le ltH hb6.size
  replace ltT := Nat.lt_of_lt_of_le ltT hb6.size
  replace s1 := s1.below hb6
  replace g3 := g3.below hb6
  replace s4 := s4.below hb6
  replace b := b.trans (hb6.mono b.size)
  clear hb6 c6
  go_wp2_with fail
  refine (c7 _ _ _ _ _ g3.early).mono ?_
  rintro e w12 ⟨rfl, hb7⟩
  replace b := b.trans (hb7.mono b.size)
  go_wp2_with fail
  go_ret
  exact ⟨rfl, b⟩
end Go.Proofs.Ytjnpdicoopgkoaa
