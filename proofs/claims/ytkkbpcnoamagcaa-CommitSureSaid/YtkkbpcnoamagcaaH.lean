/- Walks of commit: the reference's Outs and Same, and All. -/
import Derived.Test.YtkkbpcnoamagcaaG
namespace Go.Proofs.Ytkkbpcnoamagcaa
open Go.RowKit Go.Lib

theorem eq28 (d : Nat) (w : World) (x0 y0 : Int) (x1 y1 : Int) :
    (Op.equalIn (d + 2) 28 (.agg #[.int .i64 x0, .int .u32 x1]) (.agg #[.int .i64 y0, .int .u32 y1])).run Try.prog w = .ok (x0 == y0 && (x1 == y1)) w := by
  refine se_of Try.underlying28 (by kernel_rfl) ?_
  refine se_cons (by rfl) (by go_simp; rfl) (by go_simp; rfl) (by go_simp) ?_
  exact se_last (by rfl) (by go_simp; rfl) (by go_simp; rfl) (by go_simp)
attribute [local go_sem high] eq28
theorem eq51 (d : Nat) (w : World) (x0 y0 : Int) (x1 y1 x2 y2 : Int) :
    (Op.equalIn (d + 3) 51 (.agg #[.int .i64 x0, .int .u32 x1, .int .i64 x2]) (.agg #[.int .i64 y0, .int .u32 y1, .int .i64 y2])).run Try.prog w = .ok ((x0 == y0 && (x1 == y1)) && (x2 == y2)) w := by
  refine se_of Try.underlying51 (by kernel_rfl) ?_
  refine se_cons (by rfl) (by go_simp) (by go_simp) (eq28 d w x0 y0 x1 y1) ?_
  exact se_last (by rfl) (by go_simp; rfl) (by go_simp; rfl) (by go_simp)
attribute [local go_sem high] eq51
theorem tld_beq (x y : Tld) : (x.core == y.core && (x.val == y.val)) = decide (x = y) := by
  cases x; cases y; rw [Bool.eq_iff_iff]; simp
theorem hld_beq (x y : Hld) : ((x.core == y.core && (x.val == y.val)) && (x.span == y.span)) = decide (x = y) := by
  cases x; cases y; rw [Bool.eq_iff_iff]; simp [and_assoc]

set_option maxHeartbeats 2000000 in
theorem outs_any (A B : Option Addr) (c d n m : Nat) (l p : List Tld) (w : World) (hs : Sl 2 Tld.enc w A l) (ht : Sl 2 Tld.enc w B p) (hn : l.length = n) (hm : p.length = m) :
    Calls Try.prog 16 #[.slice A n c, .slice B m d] w fun e w' => e = .returned (.bool (decide (l = p))) ∧ Below w.heap.size w w' := by
  have hbig := hs.big
  have hbig2 := ht.big
  rw [hn] at hbig
  rw [hm] at hbig2
  have b : Below w.heap.size w w := Below.refl _ _
  have hs0 := hs
  have ht0 := ht
  clear hs ht
  by_cases hlen : n = m
  · have h1 : ((n : Int) != (m : Int)) = false := by rw [bne_eq_false_iff_eq]; omega
    have HS := Lib.hid hs0
    have HT := Lib.hid ht0
    have HN := Lib.hid hn
    have HM := Lib.hid hm
    have HL := Lib.hid hlen
    clear hs0 ht0 hn hm hlen
    go_enter Try.func16, Try.ntmps16
    go_wp2_with fail
    go_loopg [5] n (fun gg s5 wr => ∃ kk : Nat, kk ≤ n ∧ n - kk ≤ gg ∧ s5 = .int .i64 kk ∧ Aside (Below w.heap.size w wr) ∧ Aside (∀ j, j < kk → l[j]! = p[j]!))
    case atStart => exact ⟨0, Nat.zero_le _, by omega, rfl, Below.refl _ _, fun j hj => absurd hj (Nat.not_lt_zero _)⟩
    case round =>
      obtain ⟨kk, hkk, hg, rfl, BW, AA⟩ := hrel
      have b2 := BW.out
      by_cases hlt : kk < n
      · have hltz : (kk : Int) < (n : Int) := by omega
        have hlt2z : (kk : Int) < (m : Int) := by have := HL.out; omega
        obtain ⟨b', off, rfl, hq0⟩ := HS.out.at_ kk (by rw [HN.out]; exact hlt)
        obtain ⟨b'', off', rfl, hp0⟩ := HT.out.at_ kk (by rw [HM.out]; have := HL.out; omega)
        have q0 := hq0 0 _ rfl
        have p0 := hp0 0 _ rfl
        have q1 := hq0 1 _ rfl
        have p1 := hp0 1 _ rfl
        rw [Nat.add_zero] at q0 p0
        rw [← BW.out.cell (World.block_lt_of_cell? _ _ q0)] at q0
        rw [← BW.out.cell (World.block_lt_of_cell? _ _ p0)] at p0
        rw [← BW.out.cell (World.block_lt_of_cell? _ _ q1)] at q1
        rw [← BW.out.cell (World.block_lt_of_cell? _ _ p1)] at p1
        clear hq0 hp0
        by_cases he : l[kk]! = p[kk]!
        · have hcmp := tld_beq l[kk]! p[kk]!
          rw [decide_eq_true he] at hcmp
          have hE0 := Lib.hid he
          clear he
          generalize l[kk]! = xx at hcmp q0 q1
          generalize p[kk]! = yy at hcmp p0 p1
          go_wp2_with fail
          go_quiet (fail)
          go_wp2_with fail
          go_roundg (n - (kk + 1))
          case measure => omega
          case rel =>
            refine ⟨kk + 1, by omega, by omega, by go_num, (show Aside _ from bdrewN BW.out _), (show Aside _ from fun j hj => ?_)⟩
            by_cases e : j = kk
            · subst e
              exact hE0.out
            · exact AA.out j (by omega)
        · have hcmp := tld_beq l[kk]! p[kk]!
          rw [decide_eq_false he] at hcmp
          have hne : (decide (l = p)) = false := by
            have : decide (l = p) = false := by rw [decide_eq_false_iff_not]; rintro rfl; exact he rfl
            rw [this]
          have hE := Lib.hid hne
          clear he hne
          generalize l[kk]! = xx at hcmp q0 q1
          generalize p[kk]! = yy at hcmp p0 p1
          go_wp2_with fail
          go_quiet (fail)
          go_wp2_with fail
          go_ret
          rw [hE.out]
          exact ⟨rfl, bdrewN b2 _⟩
      · have hltz : ¬ (kk : Int) < (n : Int) := by omega
        have hkn : kk = n := by omega
        have hfin : decide (l = p) = true := by
          rw [decide_eq_true_iff]
          refine List.ext_getElem (by rw [HN.out, HM.out]; exact HL.out) fun j h1 h2 => ?_
          have := AA.out j (by rw [HN.out] at h1; omega)
          rwa [getElem!_pos l j h1, getElem!_pos p j h2] at this
        have HF := Lib.hid hfin
        clear hfin hkn
        go_wp2_with fail
        go_ret
        rw [HF.out]
        exact ⟨rfl, b2⟩
  · have h1 : ((n : Int) != (m : Int)) = true := by rw [bne_iff_ne]; omega
    have hne : (decide (l = p)) = false := by
      have : decide (l = p) = false := by rw [decide_eq_false_iff_not]; rintro rfl; exact hlen (hn.symm.trans hm)
      rw [this]
    rw [hne]
    clear hs0 ht0 hlen hne hn hm
    go_enter Try.func16, Try.ntmps16
    go_wp2_with fail
    go_ret
    exact ⟨rfl, b⟩

set_option maxHeartbeats 2000000 in
theorem same_any (A B : Option Addr) (c d n m : Nat) (l p : List Hld) (E F : Option Addr) (s t u v : Nat) (x y : List Tld) (w : World) (hs : Sl 3 Hld.enc w A l) (ht : Sl 3 Hld.enc w B p) (hn : l.length = n) (hm : p.length = m) (hx : Sl 2 Tld.enc w E x) (hy : Sl 2 Tld.enc w F y) (hu : x.length = u) (hv : y.length = v) :
    Calls Try.prog 9 #[.agg #[.slice A n c, .slice E u s], .agg #[.slice B m d, .slice F v t]] w fun e w' => e = .returned (.bool ((decide (l = p) && decide (x = y)))) ∧ Below w.heap.size w w' := by
  have hbig := hs.big
  have hbig2 := ht.big
  rw [hn] at hbig
  rw [hm] at hbig2
  have cO := fun w1 (hb : Below w.heap.size w w1) => outs_any E F s t u v x y w1 (hx.below hb) (hy.below hb) hu hv
  clear hx hy hu hv
  have b : Below w.heap.size w ((w.alloc (.cells #[.slice A n c, .slice E u s] 25)).alloc (.cells #[.slice B m d, .slice F v t] 25)) := ((Below.refl _ _).alloc (Nat.le_refl _) _).alloc (by simp) _
  have e0 : ((w.alloc (.cells #[.slice A n c, .slice E u s] 25)).alloc (.cells #[.slice B m d, .slice F v t] 25)).cell? ⟨w.heap.size, 0, none⟩ = some (.slice A n c) := by go_simp
  have e1 : ((w.alloc (.cells #[.slice A n c, .slice E u s] 25)).alloc (.cells #[.slice B m d, .slice F v t] 25)).cell? ⟨w.heap.size, 1, none⟩ = some (.slice E u s) := by go_simp
  have f0 : ((w.alloc (.cells #[.slice A n c, .slice E u s] 25)).alloc (.cells #[.slice B m d, .slice F v t] 25)).cell? ⟨w.heap.size + 1, 0, none⟩ = some (.slice B m d) := by go_simp
  have f1 : ((w.alloc (.cells #[.slice A n c, .slice E u s] 25)).alloc (.cells #[.slice B m d, .slice F v t] 25)).cell? ⟨w.heap.size + 1, 1, none⟩ = some (.slice F v t) := by go_simp
  have hs0 := hs.below b
  have ht0 := ht.below b
  clear hs ht
  by_cases hlen : n = m
  · have h1 : ((n : Int) != (m : Int)) = false := by rw [bne_eq_false_iff_eq]; omega
    have HS := Lib.hid hs0
    have HT := Lib.hid ht0
    have HN := Lib.hid hn
    have HM := Lib.hid hm
    have HL := Lib.hid hlen
    clear hs0 ht0 hn hm hlen
    go_enter Try.func9, Try.ntmps9
    go_wp2_with fail
    generalize ((w.alloc (.cells #[.slice A n c, .slice E u s] 25)).alloc (.cells #[.slice B m d, .slice F v t] 25)) = w0 at *
    go_loopg [5] n (fun gg s5 wr => ∃ kk : Nat, kk ≤ n ∧ n - kk ≤ gg ∧ s5 = .int .i64 kk ∧ Aside (Below w0.heap.size w0 wr) ∧ Aside (∀ j, j < kk → l[j]! = p[j]!))
    case atStart => exact ⟨0, Nat.zero_le _, by omega, rfl, Below.refl _ _, fun j hj => absurd hj (Nat.not_lt_zero _)⟩
    case round =>
      obtain ⟨kk, hkk, hg, rfl, BW, AA⟩ := hrel
      have e0r := (BW.out.cell (World.block_lt_of_cell? _ _ e0)).trans e0
      have e1r := (BW.out.cell (World.block_lt_of_cell? _ _ e1)).trans e1
      have f0r := (BW.out.cell (World.block_lt_of_cell? _ _ f0)).trans f0
      have f1r := (BW.out.cell (World.block_lt_of_cell? _ _ f1)).trans f1
      clear e0 e1 f0 f1
      have b2 := b.trans (BW.out.mono b.size)
      by_cases hlt : kk < n
      · have hltz : (kk : Int) < (n : Int) := by omega
        have hlt2z : (kk : Int) < (m : Int) := by have := HL.out; omega
        obtain ⟨b', off, rfl, hq0⟩ := HS.out.at_ kk (by rw [HN.out]; exact hlt)
        obtain ⟨b'', off', rfl, hp0⟩ := HT.out.at_ kk (by rw [HM.out]; have := HL.out; omega)
        have q0 := hq0 0 _ rfl
        have p0 := hp0 0 _ rfl
        have q1 := hq0 1 _ rfl
        have p1 := hp0 1 _ rfl
        have q2 := hq0 2 _ rfl
        have p2 := hp0 2 _ rfl
        rw [Nat.add_zero] at q0 p0
        rw [← BW.out.cell (World.block_lt_of_cell? _ _ q0)] at q0
        rw [← BW.out.cell (World.block_lt_of_cell? _ _ p0)] at p0
        rw [← BW.out.cell (World.block_lt_of_cell? _ _ q1)] at q1
        rw [← BW.out.cell (World.block_lt_of_cell? _ _ p1)] at p1
        rw [← BW.out.cell (World.block_lt_of_cell? _ _ q2)] at q2
        rw [← BW.out.cell (World.block_lt_of_cell? _ _ p2)] at p2
        clear hq0 hp0
        by_cases he : l[kk]! = p[kk]!
        · have hcmp := hld_beq l[kk]! p[kk]!
          rw [decide_eq_true he] at hcmp
          have hE0 := Lib.hid he
          clear he
          generalize l[kk]! = xx at hcmp q0 q1 q2
          generalize p[kk]! = yy at hcmp p0 p1 p2
          go_wp2_with fail
          go_quiet (fail)
          go_wp2_with fail
          go_roundg (n - (kk + 1))
          case measure => omega
          case rel =>
            refine ⟨kk + 1, by omega, by omega, by go_num, (show Aside _ from bdrewN BW.out _), (show Aside _ from fun j hj => ?_)⟩
            by_cases e : j = kk
            · subst e
              exact hE0.out
            · exact AA.out j (by omega)
        · have hcmp := hld_beq l[kk]! p[kk]!
          rw [decide_eq_false he] at hcmp
          have hne : ((decide (l = p) && decide (x = y))) = false := by
            have : decide (l = p) = false := by rw [decide_eq_false_iff_not]; rintro rfl; exact he rfl
            rw [this]; rfl
          have hE := Lib.hid hne
          clear he hne
          generalize l[kk]! = xx at hcmp q0 q1 q2
          generalize p[kk]! = yy at hcmp p0 p1 p2
          go_wp2_with fail
          go_quiet (fail)
          go_wp2_with fail
          go_ret
          rw [hE.out]
          exact ⟨rfl, bdrewN b2 _⟩
      · have hltz : ¬ (kk : Int) < (n : Int) := by omega
        have hkn : kk = n := by omega
        have hfin : decide (l = p) = true := by
          rw [decide_eq_true_iff]
          refine List.ext_getElem (by rw [HN.out, HM.out]; exact HL.out) fun j h1 h2 => ?_
          have := AA.out j (by rw [HN.out] at h1; omega)
          rwa [getElem!_pos l j h1, getElem!_pos p j h2] at this
        have HF := Lib.hid hfin
        clear hfin hkn
        go_wp2_with (go_at_call 16; refine (cO _ b2).mono ?_; rintro e w2 ⟨rfl, hb2⟩)
        go_ret
        rw [HF.out]
        exact ⟨rfl, b2.trans (hb2.mono b2.size)⟩
  · have h1 : ((n : Int) != (m : Int)) = true := by rw [bne_iff_ne]; omega
    have hne : ((decide (l = p) && decide (x = y))) = false := by
      have : decide (l = p) = false := by rw [decide_eq_false_iff_not]; rintro rfl; exact hlen (hn.symm.trans hm)
      rw [this]; rfl
    rw [hne]
    clear hs0 ht0 hlen hne hn hm
    go_enter Try.func9, Try.ntmps9
    go_wp2_with fail
    go_ret
    exact ⟨rfl, b⟩

structure AllL (w wl : World) (H W0s : Nat) (A : Option Addr) (c n m : Nat) (g : Gt) (i : Nat) (A3 : Option Addr) (c3 : Nat) : Prop where
  e0 : wl.cell? ⟨H, 0, none⟩ = some (.slice A n c)
  ltB : H < wl.heap.size
  sz : W0s ≤ wl.heap.size
  own2 : wl.ownsRow W0s 28 2 (.slice A3 (m + i) c3) (m + i) ((g.out ++ (g.held.take i).map Hld.told).flatMap Tld.enc)
  b : Below w.heap.size w wl

set_option maxHeartbeats 2000000 in
theorem All_any (A B : Option Addr) (c d n m : Nat) (g : Gt) (w : World) (hg : GateIn w A B g.held g.out) (hn : g.held.length = n) (hm : g.out.length = m) (hn1 : n ≤ 1000000) (hm1 : m ≤ 1000000) :
    Calls Try.prog 17 #[.agg #[.slice A n c, .slice B m d]] w fun e w' => ∃ A' c', e = .returned (.slice A' (m + n) c') ∧ Sl 2 Tld.enc w' A' (allG g) ∧ Below w.heap.size w w' := by
  have b : Below w.heap.size w (w.alloc (.cells #[.slice A n c, .slice B m d] 25)) := (Below.refl _ _).alloc (Nat.le_refl _) _
  have e0 : (w.alloc (.cells #[.slice A n c, .slice B m d] 25)).cell? ⟨w.heap.size, 0, none⟩ = some (.slice A n c) := by go_simp
  have ltB : w.heap.size < (w.alloc (.cells #[.slice A n c, .slice B m d] 25)).heap.size := by simp
  have cT := cloneT_any B d m g.out _ (hg.out.below b) hm hm1
  have HG := Lib.hid hg.held
  obtain ⟨i0, hi, hz0, hz1, hz2⟩ := info_parts info28
  have HN := Lib.hid hn
  have HM := Lib.hid hm
  clear hg hn hm
  go_enter Try.func17, Try.ntmps17
  go_wp2_with fail
  generalize (w.alloc (.cells #[.slice A n c, .slice B m d] 25)) = W0 at *
  refine cT.mono ?_
  rintro e w1 ⟨v2, rfl, own2, hb1⟩
  obtain ⟨A2, c2, rfl⟩ := own_shape own2
  have hsz1 := hb1.size
  replace e0 := (hb1.cell (p := ⟨w.heap.size, 0, none⟩) ltB).trans e0
  have bB := ltB
  have bB2 := b.size
  replace ltB := Nat.lt_of_lt_of_le ltB hsz1
  replace b := b.trans (hb1.mono b.size)
  clear hb1
  go_wp2_with fail
  go_loopg [3, 12] n (fun gg s3 s12 wl => ∃ (i : Nat) (A3 : Option Addr) (c3 : Nat), i ≤ n ∧ n - i ≤ gg ∧ s3 = .slice A3 (m + i) c3 ∧ s12 = .int .i64 (i : Int) ∧ AllL w wl w.heap.size W0.heap.size A c n m g i A3 c3)
  case atStart => exact ⟨0, A2, c2, Nat.zero_le _, by omega, rfl, rfl, ⟨e0, ltB, hsz1, by simpa using own2, b⟩⟩
  case round =>
    clear own2 e0 b ltB hsz1
    obtain ⟨i, A3, c3, hi0, hgg, rfl, rfl, L⟩ := hrel
    obtain ⟨e0, ltB, sz, own2, b⟩ := L
    have hsl := HG.out.below b
    by_cases hlt : i < n
    · have hltz : (i : Int) < (n : Int) := by omega
      have hin : i < g.held.length := by rw [HN.out]; omega
      have HI := Lib.hid hin
      obtain ⟨bb, off, rfl, hq⟩ := hsl.at_ i hin
      have q0 := hq 0 _ rfl
      have q1 := hq 1 _ rfl
      have q2 := hq 2 _ rfl
      rw [Nat.add_zero] at q0
      generalize hx : g.held[i]! = x at *
      have HX := Lib.hid hx
      clear hx hq hin hsl
      go_wp2_with (at_builtin; refine wpList_as ?_)
      intro _
      have hs8 : (wr.alloc (.cells #[.int .i64 x.core, .int .u32 x.val, .int .i64 x.span] 51)).heap.size = wr.heap.size + 1 := by simp
      rw [← hs8]
      replace sz : W0.heap.size ≤ (wr.alloc (.cells #[.int .i64 x.core, .int .u32 x.val, .int .i64 x.span] 51)).heap.size := by simp; omega
      replace e0 : (wr.alloc (.cells #[.int .i64 x.core, .int .u32 x.val, .int .i64 x.span] 51)).cell? ⟨w.heap.size, 0, none⟩ = some (.slice (some ⟨bb, off, none⟩) n c) := (World.cell?_alloc_lt wr _ ⟨w.heap.size, 0, none⟩ (World.block_lt_of_cell? _ _ e0)).trans e0
      replace ltB : _ < (wr.alloc (.cells #[.int .i64 x.core, .int .u32 x.val, .int .i64 x.span] 51)).heap.size := Nat.lt_of_lt_of_le ltB (by simp)
      replace own2 := own2.alloc (.cells #[.int .i64 x.core, .int .u32 x.val, .int .i64 x.span] 51)
      replace b := b.alloc b.size (.cells #[.int .i64 x.core, .int .u32 x.val, .int .i64 x.span] 51)
      have ltX : wr.heap.size < (wr.alloc (.cells #[.int .i64 x.core, .int .u32 x.val, .int .i64 x.span] 51)).heap.size := by simp
      generalize hw_w8 : wr.alloc (.cells #[.int .i64 x.core, .int .u32 x.val, .int .i64 x.span] 51) = w8 at *
      clear hw_w8
      generalize wr.heap.size = X9 at *
      refine wpList_append_own_at _ rfl _ _ 23 rfl W0.heap.size 28 i0 _ 2 16 Try.underlying23 hi hz0 hz1 hz2 rfl (by decide) _ _ _ rfl (own2.alloc _) ⟨w8.heap.size, 0, none⟩ 1 1 [.int .i64 x.core, .int .u32 x.val] rfl rfl (fun j u hj => cell_new_block w8 _ 28 j u hj) (by intro u hu; simp at hu; rcases hu with rfl | rfl <;> rfl) (by unfold maxLen; omega) (by omega) (by simp; omega) ?_
      intro v' w9 own2' hgrow hnil hat
      obtain ⟨A4, c4, rfl⟩ := own_shape own2'
      obtain ⟨cH, fH⟩ := far_append hgrow w.heap.size ltB (fun e => by have := own2.lt _ e; omega)
      replace e0 := (cH 0).trans e0
      have bW : Below W0.heap.size (w8.alloc (.cells #[.int .i64 x.core, .int .u32 x.val] 28)) w9 := below_append (Below.refl _ _) hgrow (by simp; omega) (own2.alloc _) (Nat.le_refl _)
      replace b := below_append (b.alloc b.size _) hgrow (by simp; have := b.size; omega) (own2.alloc _) bB2
      have hs5 : w8.heap.size ≤ w9.heap.size := by have := hgrow.size; simp at this; omega
      have hcs : (g.out ++ (g.held.take i).map Hld.told).flatMap Tld.enc ++ [.int .i64 x.core, .int .u32 x.val] = (g.out ++ (g.held.take (i + 1)).map Hld.told).flatMap Tld.enc := told_snoc g.out g.held i HI.out x HX.out
      rw [hcs] at own2'
      clear cH fH hgrow hnil hat hcs
      go_wp2_with fail
      go_roundg (n - i - 1)
      case measure => omega
      case rel => exact ⟨i + 1, A4, c4, by omega, by omega, (by go_simp; exact Nat.add_assoc m i 1), by go_simp, ⟨e0, by omega, by omega, own2', b⟩⟩
    · obtain rfl : i = n := by omega
      have hsl2 := Sl.of_own (xs := allG g) Tld.enc_len (by rw [List.take_of_length_le (Nat.le_of_eq HN.out)] at own2; exact own2) (by simp [allG, HN.out, HM.out])
      go_wp2_with fail
      go_ret
      exact ⟨A3, c3, rfl, hsl2, b⟩

end Go.Proofs.Ytkkbpcnoamagcaa
