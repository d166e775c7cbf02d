/- Walks of the reference: without, Sort, Add, Drop, Come. -/
import Derived.Test.YtimhdkgllgdamaaT
namespace Go.Proofs.Ytimhdkgllgdamaa
open Go.RowKit Go.Lib D
set_option linter.unusedVariables false

theorem take_next {l : List Du} {k : Nat} (hk : k < l.length) : l.take (k + 1) = l.take k ++ [l[k]!] := by
  rw [getElem!_pos l k hk, List.take_append_getElem]
theorem filter_next (p : Du → Bool) {l : List Du} {k : Nat} (hk : k < l.length) : (l.take (k + 1)).filter p = (l.take k).filter p ++ (if p l[k]! = true then [l[k]!] else []) := by
  rw [take_next hk, List.filter_append, List.filter_cons, List.filter_nil]
set_option maxHeartbeats 8000000 in
theorem without_any (A : Option Addr) (c n : Nat) (l : List Du) (t : Int) (w : World) (hs : Sl 2 Du.enc w A l) (hn : l.length = n) (hn1 : n ≤ 1000000) :
    Calls Try.prog 31 #[.slice A n c, .int .i64 t] w fun e w' => ∃ v', e = .returned v' ∧ w'.ownsRow w.heap.size 30 2 v' (restD l t).length ((restD l t).flatMap Du.enc) ∧ Below w.heap.size w w' := by
  obtain ⟨i0, hi, hz0, hz1, hz2⟩ := info_parts info30
  have HS := Lib.hid hs
  have HN := Lib.hid hn
  have own0 := World.ownsRow_nil w w.heap.size 30 2
  clear hs hn
  go_enter Try.func31, Try.ntmps31
  go_wp2_with fail
  go_loopg [5, 6] n (fun gg s5 s6 wr => ∃ (kk m : Nat) (r : List Du), kk ≤ n ∧ n - kk ≤ gg ∧ m ≤ kk ∧ s6 = .int .i64 (kk : Int) ∧ wr.ownsRow w.heap.size 30 2 s5 m (r.flatMap Du.enc) ∧ Aside (r = (l.take kk).filter (fun x => !decide (x.which = t))) ∧ Aside (r.length = m) ∧ Aside (Below w.heap.size w wr))
  case atStart => exact ⟨0, 0, [], Nat.zero_le _, by omega, Nat.le_refl _, rfl, own0, rfl, rfl, Below.refl _ _⟩
  case round =>
    clear own0
    obtain ⟨kk, m, r, hkk, hg, hmk, rfl, own, HR, HL, HB⟩ := hrel
    have b := HB.out
    by_cases hlt : kk < n
    · have hltz : (kk : Int) < (n : Int) := by omega
      have hin : kk < l.length := by rw [HN.out]; exact hlt
      obtain ⟨bb, off, rfl, hq⟩ := (HS.out.below b).at_ kk hin
      have q0 := hq 0 _ rfl
      have q1 := hq 1 _ rfl
      rw [Nat.add_zero] at q0
      have hnext := filter_next (fun x => !decide (x.which = t)) hin
      rw [← HR.out] at hnext
      clear hq
      by_cases he : l[kk]!.which = t
      · have z1 : (l[kk]!.which != t) = false := by rw [bne_eq_false_iff_eq]; exact he
        rw [he] at hnext
        simp only [decide_true, Bool.not_true, Bool.false_eq_true, if_false, List.append_nil] at hnext
        have HNX := Lib.hid hnext
        clear hnext he hin
        generalize l[kk]! = x at *
        obtain ⟨A3, c3, rfl⟩ := own_shape own
        go_wp2_with fail
        go_roundg (n - (kk + 1))
        case measure => omega
        case rel => exact ⟨kk + 1, m, r, by omega, by omega, by omega, by go_num, own, (show Aside _ from HNX.out.symm), (show Aside _ from HL.out), (show Aside _ from b)⟩
      · have z1 : (l[kk]!.which != t) = true := by rw [bne_iff_ne]; exact he
        rw [if_pos (by simpa using he)] at hnext
        have HNX := Lib.hid hnext
        clear hnext he hin
        generalize l[kk]! = x at *
        obtain ⟨A3, c3, rfl⟩ := own_shape own
        go_wp2_with (at_builtin; refine wpList_as ?_)
        intro _
        refine wpList_append_own_at _ rfl _ _ 24 rfl w.heap.size 30 i0 _ 2 16 Try.underlying24 hi hz0 hz1 hz2 rfl (by decide) _ _ _ rfl (own.alloc _) ⟨wr.heap.size, 0, none⟩ 1 1 [.int .i64 x.when_, .int .i64 x.which] rfl rfl (fun j u hj => cell_new_block wr _ 30 j u hj) (by intro u hu; simp at hu; rcases hu with rfl | rfl <;> rfl) (by unfold maxLen; omega) (by omega) (by simp; have := b.size; omega) ?_
        intro v2 w2 own2 hg2 hnil2 hat2
        have b2 := below_append (k := 2) (b.alloc b.size _) hg2 (by simp; have := b.size; omega) (own.alloc _) (Nat.le_refl _)
        have hcs : r.flatMap Du.enc ++ [.int .i64 x.when_, .int .i64 x.which] = (r ++ [x]).flatMap Du.enc := by simp [Du.enc]
        rw [hcs] at own2
        have hL2 : (r ++ [x]).length = m + 1 := by simp [HL.out]
        clear hg2 hnil2 hat2 own hcs q0 q1
        obtain ⟨A4, c4, rfl⟩ := own_shape own2
        go_wp2_with fail
        go_roundg (n - (kk + 1))
        case measure => omega
        case rel => exact ⟨kk + 1, m + 1, r ++ [x], by omega, by omega, by omega, by go_num, own2, (show Aside _ from HNX.out.symm), (show Aside _ from hL2), (show Aside _ from b2)⟩
    · obtain rfl : kk = n := by omega
      have hltz : ¬ (kk : Int) < (kk : Int) := by omega
      have hfin : r = restD l t := by
        rw [HR.out, List.take_of_length_le (by rw [HN.out]; exact Nat.le_refl _)]; rfl
      have HF := Lib.hid hfin
      clear hfin
      obtain ⟨A3, c3, rfl⟩ := own_shape own
      go_wp2_with fail
      go_ret
      rw [← HF.out, HL.out]
      exact ⟨_, rfl, own, b⟩

set_option maxHeartbeats 8000000 in
theorem rsort_any (A : Option Addr) (c n : Nat) (l : List Du) (w : World) (hs : Sl 2 Du.enc w A l) (hn : l.length = n) (hn1 : n ≤ 1000000) :
    Calls Try.prog 19 #[.slice A n c] w fun e w' => ∃ B d, e = .returned (.slice B n d) ∧ Sl 2 Du.enc w' B (sort200 l) ∧ Below w.heap.size w w' := by
  have HS := Lib.hid hs
  have HN := Lib.hid hn
  have own0 := World.ownsRow_nil w w.heap.size 30 2
  clear hs hn
  by_cases h2 : 200 < n
  · have hr : sort200 l = l := by unfold sort200; rw [if_pos (by rw [HN.out]; exact h2)]
    rw [hr]
    have z1 : (200 : Int) < (n : Int) := by omega
    clear hr
    go_enter Try.func19, Try.ntmps19
    go_wp2_with fail
    go_ret
    exact ⟨_, _, rfl, HS.out, Below.refl _ _⟩
  · have hr : sort200 l = sortD l := by unfold sort200; rw [if_neg (by rw [HN.out]; exact h2)]
    rw [hr]
    have z1 : ¬ (200 : Int) < (n : Int) := by omega
    clear hr
    go_enter Try.func19, Try.ntmps19
    go_wp2_with fail
    go_loopg [3, 4] n (fun gg s3 s4 wr => ∃ (kk : Nat) (r : List Du), kk ≤ n ∧ n - kk ≤ gg ∧ s4 = .int .i64 (kk : Int) ∧ wr.ownsRow w.heap.size 30 2 s3 kk (r.flatMap Du.enc) ∧ Aside (r = (l.take kk).foldl putD []) ∧ Aside (r.length = kk) ∧ Aside (Below w.heap.size w wr))
    case atStart => exact ⟨0, [], Nat.zero_le _, by omega, rfl, own0, rfl, rfl, Below.refl _ _⟩
    case round =>
      clear own0
      obtain ⟨kk, r, hkk, hg, rfl, own, HR, HL, HB⟩ := hrel
      have b := HB.out
      obtain ⟨A3, c3, rfl⟩ := own_shape own
      by_cases hlt : kk < n
      · have hltz : (kk : Int) < (n : Int) := by omega
        have hin : kk < l.length := by rw [HN.out]; exact hlt
        obtain ⟨bb, off, rfl, hq⟩ := (HS.out.below b).at_ kk hin
        have q0 := hq 0 _ rfl
        have q1 := hq 1 _ rfl
        rw [Nat.add_zero] at q0
        have hnext : (l.take (kk + 1)).foldl putD [] = putD r l[kk]! := by rw [take_next hin, List.foldl_append, ← HR.out]; rfl
        have HNX := Lib.hid hnext
        have cP := put_any A3 c3 kk w.heap.size r l[kk]! wr own HL.out (by omega)
        clear hq hnext hin
        generalize l[kk]! = x at *
        go_wp2_with fail
        refine cP.mono ?_
        rintro e w2 ⟨v2, rfl, own2, hb2⟩
        have b2 := b.trans (hb2.mono b.size)
        replace own2 := own_weaken' own2 b.size
        have hL2 : (putD r x).length = kk + 1 := by rw [putD_length, HL.out]
        clear cP own hb2 q0 q1
        obtain ⟨A4, c4, rfl⟩ := own_shape own2
        go_wp2_with fail
        go_roundg (n - (kk + 1))
        case measure => omega
        case rel => exact ⟨kk + 1, putD r x, by omega, by omega, by go_num, own2, (show Aside _ from HNX.out.symm), (show Aside _ from hL2), (show Aside _ from b2)⟩
      · obtain rfl : kk = n := by omega
        have hltz : ¬ (kk : Int) < (kk : Int) := by omega
        have hfin : r = sortD l := by
          rw [HR.out, List.take_of_length_le (by rw [HN.out]; exact Nat.le_refl _)]; rfl
        have HF := Lib.hid hfin
        clear hfin
        go_wp2_with fail
        go_ret
        rw [← HF.out]
        exact ⟨_, ⟨_, rfl⟩, Sl.of_own Du.enc_len own HL.out, b⟩
/-- What the reference's Add, Drop hand back. -/
def Reads (w : World) (r : List Du × Int) (e : Ending) (w' : World) : Prop :=
  ∃ A c, e = .returned (.tuple #[.slice A r.1.length c, .int .i64 r.2]) ∧ Sl 2 Du.enc w' A r.1 ∧ Below w.heap.size w w'
theorem reads_of {w w' : World} {l : List Du} {k : Int} {A : Option Addr} {n c : Nat} (hs : Sl 2 Du.enc w' A l) (hn : l.length = n) (bb : Below w.heap.size w w') : Reads w (l, k) (.returned (.tuple #[.slice A n c, .int .i64 k])) w' := by
  subst hn
  exact ⟨A, c, rfl, hs, bb⟩
set_option maxHeartbeats 8000000 in
theorem rdrop_any (A : Option Addr) (c n : Nat) (l : List Du) (t : Int) (w : World) (hs : Sl 2 Du.enc w A l) (hn : l.length = n) (hn1 : n ≤ 1000000) :
    Calls Try.prog 14 #[.slice A n c, .int .i64 t] w (Reads w (dropD l t)) := by
  have cR := rright_any A c n l w hs hn hn1
  have cW := fun w1 (h : Sl 2 Du.enc w1 A l) => without_any A c n l t w1 h hn hn1
  have HS := Lib.hid hs
  have HN := Lib.hid hn
  clear hs hn
  cases hr : rightD l with
  | false =>
    have hA : dropD l t = (l, 1) := by unfold dropD; rw [if_neg (fun h => by rw [hr] at h; exact absurd h (by decide))]
    rw [hA]
    rw [hr] at cR
    clear hA hr cW
    go_enter Try.func14, Try.ntmps14
    go_wp2_with fail
    refine cR.mono ?_
    rintro e w1 ⟨rfl, hb1⟩
    clear cR
    go_wp2_with fail
    go_ret2
    exact reads_of (HS.out.below hb1) HN.out hb1
  | true =>
    have hA : dropD l t = if (restD l t).length = l.length then (l, 7) else (restD l t, 0) := by unfold dropD; rw [if_pos hr]
    rw [HN.out] at hA
    rw [hr] at cR
    clear hr
    have HM := Lib.hid (rfl : (restD l t).length = (restD l t).length)
    generalize hm : (restD l t).length = m at hA cW HM
    have HM2 := Lib.hid hm
    clear hm HM
    by_cases he : m = n
    · rw [if_pos he] at hA
      rw [hA]
      have z1 : ((m : Int) == (n : Int)) = true := by rw [beq_iff_eq]; omega
      clear hA
      go_enter Try.func14, Try.ntmps14
      go_wp2_with fail
      refine cR.mono ?_
      rintro e w1 ⟨rfl, hb1⟩
      clear cR
      have cX := cW _ (HS.out.below hb1)
      clear cW
      go_wp2_with fail
      refine cX.mono ?_
      rintro e w2 ⟨v2, rfl, own2, hb2⟩
      obtain ⟨A3, c3, rfl⟩ := own_shape own2
      have b2 := hb1.trans (hb2.mono hb1.size)
      clear cX
      go_wp2_with fail
      go_ret2
      exact reads_of (HS.out.below b2) HN.out b2
    · rw [if_neg he] at hA
      rw [hA]
      have z1 : ((m : Int) == (n : Int)) = false := by rw [beq_eq_false_iff_ne]; omega
      clear hA
      go_enter Try.func14, Try.ntmps14
      go_wp2_with fail
      refine cR.mono ?_
      rintro e w1 ⟨rfl, hb1⟩
      clear cR
      have cX := cW _ (HS.out.below hb1)
      clear cW
      go_wp2_with fail
      refine cX.mono ?_
      rintro e w2 ⟨v2, rfl, own2, hb2⟩
      obtain ⟨A3, c3, rfl⟩ := own_shape own2
      have b2 := hb1.trans (hb2.mono hb1.size)
      clear cX
      go_wp2_with fail
      go_ret2
      exact reads_of (Sl.of_own Du.enc_len own2 HM2.out) HM2.out b2

set_option maxHeartbeats 8000000 in
theorem radd_any (A : Option Addr) (c n : Nat) (l : List Du) (d : Du) (w : World) (hs : Sl 2 Du.enc w A l) (hn : l.length = n) (hn1 : n ≤ 1000000) :
    Calls Try.prog 12 #[.slice A n c, .agg #[.int .i64 d.when_, .int .i64 d.which]] w (Reads w (addD l d)) := by
  have cR := fun w1 (h : Sl 2 Du.enc w1 A l) => rright_any A c n l w1 h hn hn1
  have cM := fun w1 => rmay_any d w1
  have cW := fun w1 (h : Sl 2 Du.enc w1 A l) => without_any A c n l d.which w1 h hn hn1
  have b0 : Below w.heap.size w (w.alloc (.cells #[.int .i64 d.when_, .int .i64 d.which] 30)) := (Below.refl _ _).alloc (Nat.le_refl _) _
  have hs0 := hs.below b0
  have d0 : (w.alloc (.cells #[.int .i64 d.when_, .int .i64 d.which] 30)).cell? ⟨w.heap.size, 0, none⟩ = some (.int .i64 d.when_) := World.cell?_alloc_new (w := w) _ _ _
  have d1 : (w.alloc (.cells #[.int .i64 d.when_, .int .i64 d.which] 30)).cell? ⟨w.heap.size, 1, none⟩ = some (.int .i64 d.which) := World.cell?_alloc_new (w := w) _ _ _
  have ltd : w.heap.size < (w.alloc (.cells #[.int .i64 d.when_, .int .i64 d.which] 30)).heap.size := by simp
  have HN := Lib.hid hn
  clear hn hs
  cases hr : rightD l with
  | false =>
    have hA : addD l d = (l, 1) := by unfold addD; rw [if_neg (fun h => by rw [hr] at h; exact absurd h.1 (by decide))]
    rw [hA]
    rw [hr] at cR
    clear hA hr cM cW
    go_enter Try.func12, Try.ntmps12
    go_wp2_with fail
    generalize w.alloc (.cells #[.int .i64 d.when_, .int .i64 d.which] 30) = w0 at *
    refine (cR _ hs0).mono ?_
    rintro e w1 ⟨rfl, hb1⟩
    replace hs0 := hs0.below hb1
    replace b0 := b0.trans (hb1.mono b0.size)
    replace d0 := (hb1.cell (p := ⟨w.heap.size, 0, none⟩) ltd).trans d0
    replace d1 := (hb1.cell (p := ⟨w.heap.size, 1, none⟩) ltd).trans d1
    replace ltd := Nat.lt_of_lt_of_le ltd hb1.size
    clear cR hb1
    go_wp2_with fail
    go_ret2
    exact reads_of hs0 HN.out b0
  | true =>
    cases hm : mayD d with
    | false =>
      have hA : addD l d = (l, 1) := by unfold addD; rw [if_neg (fun h => by rw [hm] at h; exact absurd h.2 (by decide))]
      rw [hA]
      rw [hr] at cR
      rw [hm] at cM
      clear hA hr hm cW
      go_enter Try.func12, Try.ntmps12
      go_wp2_with fail
      generalize w.alloc (.cells #[.int .i64 d.when_, .int .i64 d.which] 30) = w0 at *
      refine (cR _ hs0).mono ?_
      rintro e w1 ⟨rfl, hb1⟩
      replace hs0 := hs0.below hb1
      replace b0 := b0.trans (hb1.mono b0.size)
      replace d0 := (hb1.cell (p := ⟨w.heap.size, 0, none⟩) ltd).trans d0
      replace d1 := (hb1.cell (p := ⟨w.heap.size, 1, none⟩) ltd).trans d1
      replace ltd := Nat.lt_of_lt_of_le ltd hb1.size
      clear cR hb1
      go_wp2_with fail
      refine (cM _).mono ?_
      rintro e w2 ⟨rfl, hb1⟩
      replace hs0 := hs0.below hb1
      replace b0 := b0.trans (hb1.mono b0.size)
      replace d0 := (hb1.cell (p := ⟨w.heap.size, 0, none⟩) ltd).trans d0
      replace d1 := (hb1.cell (p := ⟨w.heap.size, 1, none⟩) ltd).trans d1
      replace ltd := Nat.lt_of_lt_of_le ltd hb1.size
      clear cM hb1
      go_wp2_with fail
      go_ret2
      exact reads_of hs0 HN.out b0
    | true =>
      have hA : addD l d = if 64 ≤ (restD l d.which).length then (l, 6) else (putD (restD l d.which) d, 0) := by unfold addD; rw [if_pos ⟨hr, hm⟩]
      have hml : (restD l d.which).length ≤ n := by rw [← HN.out]; exact List.length_filter_le _ _
      rw [hr] at cR
      rw [hm] at cM
      clear hr hm
      have HM := Lib.hid (rfl : (restD l d.which).length = (restD l d.which).length)
      generalize hm : (restD l d.which).length = m at hA cW HM hml
      have HM2 := Lib.hid hm
      clear hm HM
      by_cases he : 64 ≤ m
      · rw [if_pos he] at hA
        rw [hA]
        have z1 : (64 : Int) ≤ (m : Int) := by omega
        clear hA
        go_enter Try.func12, Try.ntmps12
        go_wp2_with fail
        generalize w.alloc (.cells #[.int .i64 d.when_, .int .i64 d.which] 30) = w0 at *
        refine (cR _ hs0).mono ?_
        rintro e w1 ⟨rfl, hb1⟩
        replace hs0 := hs0.below hb1
        replace b0 := b0.trans (hb1.mono b0.size)
        replace d0 := (hb1.cell (p := ⟨w.heap.size, 0, none⟩) ltd).trans d0
        replace d1 := (hb1.cell (p := ⟨w.heap.size, 1, none⟩) ltd).trans d1
        replace ltd := Nat.lt_of_lt_of_le ltd hb1.size
        clear cR hb1
        go_wp2_with fail
        refine (cM _).mono ?_
        rintro e w2 ⟨rfl, hb1⟩
        replace hs0 := hs0.below hb1
        replace b0 := b0.trans (hb1.mono b0.size)
        replace d0 := (hb1.cell (p := ⟨w.heap.size, 0, none⟩) ltd).trans d0
        replace d1 := (hb1.cell (p := ⟨w.heap.size, 1, none⟩) ltd).trans d1
        replace ltd := Nat.lt_of_lt_of_le ltd hb1.size
        clear cM hb1
        go_wp2_with fail
        refine (cW _ hs0).mono ?_
        rintro e w3 ⟨v3, rfl, own3, hb1⟩
        replace hs0 := hs0.below hb1
        have hbs := b0.size
        replace b0 := b0.trans (hb1.mono b0.size)
        replace d0 := (hb1.cell (p := ⟨w.heap.size, 0, none⟩) ltd).trans d0
        replace d1 := (hb1.cell (p := ⟨w.heap.size, 1, none⟩) ltd).trans d1
        replace ltd := Nat.lt_of_lt_of_le ltd hb1.size
        obtain ⟨A3, c3, rfl⟩ := own_shape own3
        clear cW hb1
        go_wp2_with fail
        go_ret2
        exact reads_of hs0 HN.out b0
      · rw [if_neg he] at hA
        rw [hA]
        have z1 : ¬ (64 : Int) ≤ (m : Int) := by omega
        clear hA
        go_enter Try.func12, Try.ntmps12
        go_wp2_with fail
        generalize w.alloc (.cells #[.int .i64 d.when_, .int .i64 d.which] 30) = w0 at *
        refine (cR _ hs0).mono ?_
        rintro e w1 ⟨rfl, hb1⟩
        replace hs0 := hs0.below hb1
        replace b0 := b0.trans (hb1.mono b0.size)
        replace d0 := (hb1.cell (p := ⟨w.heap.size, 0, none⟩) ltd).trans d0
        replace d1 := (hb1.cell (p := ⟨w.heap.size, 1, none⟩) ltd).trans d1
        replace ltd := Nat.lt_of_lt_of_le ltd hb1.size
        clear cR hb1
        go_wp2_with fail
        refine (cM _).mono ?_
        rintro e w2 ⟨rfl, hb1⟩
        replace hs0 := hs0.below hb1
        replace b0 := b0.trans (hb1.mono b0.size)
        replace d0 := (hb1.cell (p := ⟨w.heap.size, 0, none⟩) ltd).trans d0
        replace d1 := (hb1.cell (p := ⟨w.heap.size, 1, none⟩) ltd).trans d1
        replace ltd := Nat.lt_of_lt_of_le ltd hb1.size
        clear cM hb1
        go_wp2_with fail
        refine (cW _ hs0).mono ?_
        rintro e w3 ⟨v3, rfl, own3, hb1⟩
        replace hs0 := hs0.below hb1
        have hbs := b0.size
        replace b0 := b0.trans (hb1.mono b0.size)
        replace d0 := (hb1.cell (p := ⟨w.heap.size, 0, none⟩) ltd).trans d0
        replace d1 := (hb1.cell (p := ⟨w.heap.size, 1, none⟩) ltd).trans d1
        replace ltd := Nat.lt_of_lt_of_le ltd hb1.size
        obtain ⟨A3, c3, rfl⟩ := own_shape own3
        clear cW hb1
        have cX := put_any A3 c3 m _ (restD l d.which) d w3 own3 HM2.out (by omega)
        go_wp2_with fail
        refine cX.mono ?_
        rintro e w4 ⟨v4, rfl, own4, hb4⟩
        have b4 := b0.trans (hb4.mono b0.size)
        obtain ⟨A4, c4, rfl⟩ := own_shape own4
        have hl4 : (putD (restD l d.which) d).length = m + 1 := by rw [putD_length, HM2.out]
        have HL4 := Lib.hid hl4
        clear cX hl4
        go_wp2_with fail
        go_ret2
        exact reads_of (Sl.of_own Du.enc_len own4 HL4.out) HL4.out b4
end Go.Proofs.Ytimhdkgllgdamaa
