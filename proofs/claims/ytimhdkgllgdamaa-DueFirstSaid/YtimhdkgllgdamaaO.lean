/- The walks of due.Add, Drop, First. -/
import Derived.Test.YtimhdkgllgdamaaM
import Derived.Test.YtimhdkgllgdamaaN
namespace Go.Proofs.Ytimhdkgllgdamaa
open Go.RowKit Go.Lib D
set_option linter.unusedVariables false

/-- What Add, Drop hand back. -/
def Gives (w : World) (r : List Du × Int) (e : Ending) (w' : World) : Prop :=
  ∃ A c, e = .returned (.tuple #[.slice A r.1.length c, .int .i64 r.2]) ∧ w'.ownsRow w.heap.size 30 2 (.slice A r.1.length c) r.1.length (r.1.flatMap Du.enc) ∧ Below w.heap.size w w'
theorem gives_of {w w' : World} {l : List Du} {k : Int} {v : Value} {n b : Nat} (own : w'.ownsRow b 30 2 v n (l.flatMap Du.enc)) (hn : l.length = n) (hb : w.heap.size ≤ b) (bb : Below w.heap.size w w') : Gives w (l, k) (.returned (.tuple #[v, .int .i64 k])) w' := by
  subst hn
  obtain ⟨A, c, rfl⟩ := own_shape own
  exact ⟨A, c, rfl, own_weaken' own hb, bb⟩

set_option maxHeartbeats 16000000 in
theorem add_any (A : Option Addr) (c n : Nat) (l : List Du) (d : Du) (w : World) (hs : Sl 2 Du.enc w A l) (hn : l.length = n) (hn1 : n ≤ 1000000) :
    Calls Try.prog 7 #[.slice A n c, .agg #[.int .i64 d.when_, .int .i64 d.which]] w (Gives w (addD l d)) := by
  have cC := fun w1 (h : Sl 2 Du.enc w1 A l) => clone_any A c n l w1 h hn hn1
  have cR := fun w1 (h : Sl 2 Du.enc w1 A l) => right_any A c n l w1 h hn hn1
  have cM := fun w1 => may_any d w1
  have cP := fun w1 (h : Sl 2 Du.enc w1 A l) => place_any A c n l d.which w1 h hn
  have b0 : Below w.heap.size w (w.alloc (.cells #[.int .i64 d.when_, .int .i64 d.which] 30)) := (Below.refl _ _).alloc (Nat.le_refl _) _
  have hs0 := hs.below b0
  have d0 : (w.alloc (.cells #[.int .i64 d.when_, .int .i64 d.which] 30)).cell? ⟨w.heap.size, 0, none⟩ = some (.int .i64 d.when_) := World.cell?_alloc_new (w := w) _ _ _
  have d1 : (w.alloc (.cells #[.int .i64 d.when_, .int .i64 d.which] 30)).cell? ⟨w.heap.size, 1, none⟩ = some (.int .i64 d.which) := World.cell?_alloc_new (w := w) _ _ _
  have ltd : w.heap.size < (w.alloc (.cells #[.int .i64 d.when_, .int .i64 d.which] 30)).heap.size := by simp
  have HN := Lib.hid hn
  clear hn hs
  cases hr : rightD l with
  | false =>
    have hA : addD l d = (l, 1) := by unfold addD; rw [if_neg (fun h => by rw [hr] at h; exact absurd h.1 (by decide))]
    rw [hA]
    rw [hr] at cR
    clear hA hr cM cP
    go_enter Try.func7, Try.ntmps7
    go_wp2_with fail
    generalize w.alloc (.cells #[.int .i64 d.when_, .int .i64 d.which] 30) = w0 at *
    refine (cR _ hs0).mono ?_
    rintro e w1 ⟨rfl, hb1⟩
    replace hs0 := hs0.below hb1
    replace b0 := b0.trans (hb1.mono b0.size)
    clear cR hb1 d0 d1 ltd
    go_wp2_with fail
    refine (cC _ hs0).mono ?_
    rintro e w2 ⟨v2, rfl, own2, hb2⟩
    have b3 := b0.trans (hb2.mono b0.size)
    obtain ⟨A3, c3, rfl⟩ := own_shape own2
    clear cC hb2
    go_wp2_with fail
    go_ret2
    exact gives_of own2 HN.out b0.size b3
  | true =>
    cases hm : mayD d with
    | false =>
      have hA : addD l d = (l, 1) := by unfold addD; rw [if_neg (fun h => by rw [hm] at h; exact absurd h.2 (by decide))]
      rw [hA]
      rw [hr] at cR
      rw [hm] at cM
      clear hA hr hm cP
      go_enter Try.func7, Try.ntmps7
      go_wp2_with fail
      generalize w.alloc (.cells #[.int .i64 d.when_, .int .i64 d.which] 30) = w0 at *
      refine (cR _ hs0).mono ?_
      rintro e w1 ⟨rfl, hb1⟩
      replace hs0 := hs0.below hb1
      replace b0 := b0.trans (hb1.mono b0.size)
      replace d0 := (hb1.cell (p := ⟨w.heap.size, 0, none⟩) ltd).trans d0
      replace d1 := (hb1.cell (p := ⟨w.heap.size, 1, none⟩) ltd).trans d1
      clear cR hb1 ltd
      go_wp2_with fail
      refine (cM _).mono ?_
      rintro e w1b ⟨rfl, hb1⟩
      replace hs0 := hs0.below hb1
      replace b0 := b0.trans (hb1.mono b0.size)
      clear hb1 d0 d1
      go_wp2_with fail
      refine (cC _ hs0).mono ?_
      rintro e w2 ⟨v2, rfl, own2, hb2⟩
      have b3 := b0.trans (hb2.mono b0.size)
      obtain ⟨A3, c3, rfl⟩ := own_shape own2
      clear cC hb2
      go_wp2_with fail
      go_ret2
      exact gives_of own2 HN.out b0.size b3
    | true =>
      have hA : addD l d = if 64 ≤ (restD l d.which).length then (l, 6) else (putD (restD l d.which) d, 0) := by unfold addD; rw [if_pos ⟨hr, hm⟩]
      have hsort := right_sorted hr
      have hlen := right_len hr
      rw [HN.out] at hlen
      rcases place_cases l d.which with ⟨hp, hmiss⟩ | ⟨k, hk, hp, hkw⟩
      · rw [rest_miss hmiss, HN.out] at hA
        rw [hp] at cP
        rw [hr] at cR
        rw [hm] at cM
        clear hr hm hp hmiss
        by_cases hfull : 64 ≤ n
        · rw [if_pos hfull] at hA
          rw [hA]
          have z64 : ((n : Int) == 64) = true := by rw [beq_iff_eq]; omega
          clear hA hsort
          go_enter Try.func7, Try.ntmps7
          go_wp2_with fail
          generalize w.alloc (.cells #[.int .i64 d.when_, .int .i64 d.which] 30) = w0 at *
          refine (cR _ hs0).mono ?_
          rintro e w1a ⟨rfl, hb1⟩
          replace hs0 := hs0.below hb1
          replace b0 := b0.trans (hb1.mono b0.size)
          replace d0 := (hb1.cell (p := ⟨w.heap.size, 0, none⟩) ltd).trans d0
          replace d1 := (hb1.cell (p := ⟨w.heap.size, 1, none⟩) ltd).trans d1
          replace ltd := Nat.lt_of_lt_of_le ltd hb1.size
          clear cR hb1
          go_wp2_with fail
          refine (cM _).mono ?_
          rintro e w1 ⟨rfl, hb1⟩
          replace hs0 := hs0.below hb1
          replace b0 := b0.trans (hb1.mono b0.size)
          replace d0 := (hb1.cell (p := ⟨w.heap.size, 0, none⟩) ltd).trans d0
          replace d1 := (hb1.cell (p := ⟨w.heap.size, 1, none⟩) ltd).trans d1
          replace ltd := Nat.lt_of_lt_of_le ltd hb1.size
          clear hb1 cM
          go_wp2_with fail
          refine (cC _ hs0).mono ?_
          rintro e w2 ⟨v2, rfl, own2, hb2⟩
          have own2s := hb2.size
          obtain ⟨A3, c3, rfl⟩ := own_shape own2
          have h3 := HV.new own2 HN.out
          replace hs0 := (hs0.below hb2).below ((Below.refl _ _).alloc (Nat.le_refl _) (.cells #[.slice A3 n c3] 49))
          have b2 := b0.trans (hb2.mono b0.size)
          replace d0 := (hb2.cell (p := ⟨w.heap.size, 0, none⟩) ltd).trans d0
          replace d1 := (hb2.cell (p := ⟨w.heap.size, 1, none⟩) ltd).trans d1
          have dq : ∀ wz, Two (w2.alloc (.cells #[.slice A3 n c3] 49)) wz w2.heap.size (Value.slice A3 n c3).ownBlock → wz.cell? ⟨w.heap.size, 0, none⟩ = some (.int .i64 d.when_) ∧ wz.cell? ⟨w.heap.size, 1, none⟩ = some (.int .i64 d.which) := fun wz t => by
            have hk := t.block w.heap.size (by simp; omega) (by omega) (fun e => by have := (own2.lt _ e.symm).1; omega)
            have hk2 : (w2.alloc (.cells #[.slice A3 n c3] 49)).heap[w.heap.size]? = w2.heap[w.heap.size]? := Below.heap_alloc w2 _ _ (by omega)
            exact ⟨(World.cell?_of_block (w := w2) (w' := wz) (a := ⟨w.heap.size, 0, none⟩) (hk.trans hk2)).trans d0, (World.cell?_of_block (w := w2) (w' := wz) (a := ⟨w.heap.size, 1, none⟩) (hk.trans hk2)).trans d1⟩
          clear hb2
          obtain ⟨d30, d31⟩ := dq _ (Two.refl _ _ _)
          clear d0 d1
          go_wp2_with fail
          refine (cP _ hs0).mono ?_
          rintro e w4 ⟨rfl, hb4⟩
          have t4 := (Two.refl (w2.alloc (.cells #[.slice A3 n c3] 49)) w2.heap.size (Value.slice A3 n c3).ownBlock).below hb4
          replace hs0 := hs0.below hb4
          have h4 := h3.below hb4
          have b4 := (b2.alloc b2.size (.cells #[.slice A3 n c3] 49)).trans (hb4.mono (b2.alloc b2.size (.cells #[.slice A3 n c3] 49)).size)
          clear cP hb4 h3 d30 d31 h4 t4 dq
          go_wp2_with fail
          refine (cC _ hs0).mono ?_
          rintro e w6 ⟨v6, rfl, own6, hb6⟩
          have b6 := b4.trans (hb6.mono b4.size)
          obtain ⟨A6, c6, rfl⟩ := own_shape own6
          clear cC hb6
          go_wp2_with fail
          go_ret2
          exact gives_of own6 HN.out b4.size b6
        · rw [if_neg hfull] at hA
          rw [hA]
          have z64 : ((n : Int) == 64) = false := by rw [beq_eq_false_iff_ne]; omega
          have hHO := (HeapOf.of_sorted hsort).push (putD_perm l d) (putD_sorted d hsort)
          rw [HN.out] at hHO
          have hlp := putD_length l d
          rw [HN.out] at hlp
          have HLP := Lib.hid hlp
          clear hA hlp hsort
          go_enter Try.func7, Try.ntmps7
          go_wp2_with fail
          generalize w.alloc (.cells #[.int .i64 d.when_, .int .i64 d.which] 30) = w0 at *
          refine (cR _ hs0).mono ?_
          rintro e w1a ⟨rfl, hb1⟩
          replace hs0 := hs0.below hb1
          replace b0 := b0.trans (hb1.mono b0.size)
          replace d0 := (hb1.cell (p := ⟨w.heap.size, 0, none⟩) ltd).trans d0
          replace d1 := (hb1.cell (p := ⟨w.heap.size, 1, none⟩) ltd).trans d1
          replace ltd := Nat.lt_of_lt_of_le ltd hb1.size
          clear cR hb1
          go_wp2_with fail
          refine (cM _).mono ?_
          rintro e w1 ⟨rfl, hb1⟩
          replace hs0 := hs0.below hb1
          replace b0 := b0.trans (hb1.mono b0.size)
          replace d0 := (hb1.cell (p := ⟨w.heap.size, 0, none⟩) ltd).trans d0
          replace d1 := (hb1.cell (p := ⟨w.heap.size, 1, none⟩) ltd).trans d1
          replace ltd := Nat.lt_of_lt_of_le ltd hb1.size
          clear hb1 cM
          go_wp2_with fail
          refine (cC _ hs0).mono ?_
          rintro e w2 ⟨v2, rfl, own2, hb2⟩
          have own2s := hb2.size
          obtain ⟨A3, c3, rfl⟩ := own_shape own2
          have h3 := HV.new own2 HN.out
          replace hs0 := (hs0.below hb2).below ((Below.refl _ _).alloc (Nat.le_refl _) (.cells #[.slice A3 n c3] 49))
          have b2 := b0.trans (hb2.mono b0.size)
          replace d0 := (hb2.cell (p := ⟨w.heap.size, 0, none⟩) ltd).trans d0
          replace d1 := (hb2.cell (p := ⟨w.heap.size, 1, none⟩) ltd).trans d1
          have dq : ∀ wz, Two (w2.alloc (.cells #[.slice A3 n c3] 49)) wz w2.heap.size (Value.slice A3 n c3).ownBlock → wz.cell? ⟨w.heap.size, 0, none⟩ = some (.int .i64 d.when_) ∧ wz.cell? ⟨w.heap.size, 1, none⟩ = some (.int .i64 d.which) := fun wz t => by
            have hk := t.block w.heap.size (by simp; omega) (by omega) (fun e => by have := (own2.lt _ e.symm).1; omega)
            have hk2 : (w2.alloc (.cells #[.slice A3 n c3] 49)).heap[w.heap.size]? = w2.heap[w.heap.size]? := Below.heap_alloc w2 _ _ (by omega)
            exact ⟨(World.cell?_of_block (w := w2) (w' := wz) (a := ⟨w.heap.size, 0, none⟩) (hk.trans hk2)).trans d0, (World.cell?_of_block (w := w2) (w' := wz) (a := ⟨w.heap.size, 1, none⟩) (hk.trans hk2)).trans d1⟩
          clear hb2
          obtain ⟨d30, d31⟩ := dq _ (Two.refl _ _ _)
          clear d0 d1
          go_wp2_with fail
          refine (cP _ hs0).mono ?_
          rintro e w4 ⟨rfl, hb4⟩
          have t4 := (Two.refl (w2.alloc (.cells #[.slice A3 n c3] 49)) w2.heap.size (Value.slice A3 n c3).ownBlock).below hb4
          replace hs0 := hs0.below hb4
          have h4 := h3.below hb4
          have b4 := (b2.alloc b2.size (.cells #[.slice A3 n c3] 49)).trans (hb4.mono (b2.alloc b2.size (.cells #[.slice A3 n c3] 49)).size)
          obtain ⟨d40, d41⟩ := dq _ t4
          clear cP hb4 h3 d30 d31
          have cU := fun (wz : World) (h : HV wz w2.heap.size w1.heap.size n (.slice A3 n c3) l) (hb : w1.heap.size ≤ wz.heap.size) => hpush_any w2.heap.size w1.heap.size n (.slice A3 n c3) l d wz h (by omega) hb
          have cV := cU _ h4 (by have := own2s; have := t4.size; simp at this; omega)
          clear cU h4
          go_wp2_with fail
          refine cV.mono ?_
          rintro e w5 ⟨rfl, v5, h5, r5, t5⟩
          clear cV
          obtain ⟨A5, c5, rfl⟩ := own_shape h5.own
          have cE := drained_any w2.heap.size w1.heap.size (n + 1) c5 A5 _ _ w5 h5 hHO (by omega)
          have t6 := t4.trans t5 (Row.refl _ _)
          clear h5 hHO
          go_wp2_with fail
          refine cE.mono ?_
          rintro e w7 ⟨v7, rfl, own7, t7⟩
          clear cE
          have t8 := t6.trans t7 ((Row.refl _ _).trans r5 t4.size)
          have hsz6 := t6.size
          have b8 := Two.since b2 b2.size own2 b0.size t8
          obtain ⟨A7, c7, rfl⟩ := own_shape own7
          have hs7 : w.heap.size ≤ w5.heap.size := by have := b2.size; simp at hsz6; omega
          clear t8 t7 t6 t5 r5
          go_wp2_with fail
          go_ret2
          exact gives_of own7 HLP.out hs7 b8
      · rw [rest_hit hr hk hkw, if_neg (by rw [List.length_eraseIdx, if_pos hk, HN.out]; omega)] at hA
        rw [hA]
        rw [hp] at cP
        rw [hr] at cR
        rw [hm] at cM
        have z0 : (0 : Int) ≤ (k : Int) := by omega
        obtain ⟨m, hm1⟩ : ∃ m, l.length = m + 1 := ⟨l.length - 1, by omega⟩
        have hsE := sorted_erase hsort k
        obtain ⟨q1, q2, hHR⟩ := (HeapOf.of_sorted hsort).remove hm1 (show k ≤ m by omega) (perm_erase hk) hsE
        have hHO := hHR.push (putD_perm (l.eraseIdx k) d) (putD_sorted d hsE)
        have hlm : ((removeF l k m).take m).length = m := by rw [List.length_take, q1]; omega
        rw [hlm] at hHO
        have hlp : (putD (l.eraseIdx k) d).length = m + 1 := by rw [putD_length, List.length_eraseIdx, if_pos hk]; omega
        have HLP := Lib.hid hlp
        have hkm : k ≤ m := by omega
        obtain rfl : n = m + 1 := by rw [← HN.out]; exact hm1
        clear hA hlp hsort hsE hHR hr hm hp hkw hlm q1 q2 hm1 hk
        go_enter Try.func7, Try.ntmps7
        go_wp2_with fail
        generalize w.alloc (.cells #[.int .i64 d.when_, .int .i64 d.which] 30) = w0 at *
        refine (cR _ hs0).mono ?_
        rintro e w1a ⟨rfl, hb1⟩
        replace hs0 := hs0.below hb1
        replace b0 := b0.trans (hb1.mono b0.size)
        replace d0 := (hb1.cell (p := ⟨w.heap.size, 0, none⟩) ltd).trans d0
        replace d1 := (hb1.cell (p := ⟨w.heap.size, 1, none⟩) ltd).trans d1
        replace ltd := Nat.lt_of_lt_of_le ltd hb1.size
        clear cR hb1
        go_wp2_with fail
        refine (cM _).mono ?_
        rintro e w1 ⟨rfl, hb1⟩
        replace hs0 := hs0.below hb1
        replace b0 := b0.trans (hb1.mono b0.size)
        replace d0 := (hb1.cell (p := ⟨w.heap.size, 0, none⟩) ltd).trans d0
        replace d1 := (hb1.cell (p := ⟨w.heap.size, 1, none⟩) ltd).trans d1
        replace ltd := Nat.lt_of_lt_of_le ltd hb1.size
        clear hb1 cM
        go_wp2_with fail
        refine (cC _ hs0).mono ?_
        rintro e w2 ⟨v2, rfl, own2, hb2⟩
        have own2s := hb2.size
        obtain ⟨A3, c3, rfl⟩ := own_shape own2
        have h3 := HV.new own2 HN.out
        replace hs0 := (hs0.below hb2).below ((Below.refl _ _).alloc (Nat.le_refl _) (.cells #[.slice A3 (m + 1) c3] 49))
        have b2 := b0.trans (hb2.mono b0.size)
        replace d0 := (hb2.cell (p := ⟨w.heap.size, 0, none⟩) ltd).trans d0
        replace d1 := (hb2.cell (p := ⟨w.heap.size, 1, none⟩) ltd).trans d1
        have dq : ∀ wz, Two (w2.alloc (.cells #[.slice A3 (m + 1) c3] 49)) wz w2.heap.size (Value.slice A3 (m + 1) c3).ownBlock → wz.cell? ⟨w.heap.size, 0, none⟩ = some (.int .i64 d.when_) ∧ wz.cell? ⟨w.heap.size, 1, none⟩ = some (.int .i64 d.which) := fun wz t => by
          have hk := t.block w.heap.size (by simp; omega) (by omega) (fun e => by have := (own2.lt _ e.symm).1; omega)
          have hk2 : (w2.alloc (.cells #[.slice A3 (m + 1) c3] 49)).heap[w.heap.size]? = w2.heap[w.heap.size]? := Below.heap_alloc w2 _ _ (by omega)
          exact ⟨(World.cell?_of_block (w := w2) (w' := wz) (a := ⟨w.heap.size, 0, none⟩) (hk.trans hk2)).trans d0, (World.cell?_of_block (w := w2) (w' := wz) (a := ⟨w.heap.size, 1, none⟩) (hk.trans hk2)).trans d1⟩
        clear hb2
        obtain ⟨d30, d31⟩ := dq _ (Two.refl _ _ _)
        clear d0 d1
        go_wp2_with fail
        refine (cP _ hs0).mono ?_
        rintro e w4 ⟨rfl, hb4⟩
        have t4 := (Two.refl (w2.alloc (.cells #[.slice A3 (m + 1) c3] 49)) w2.heap.size (Value.slice A3 (m + 1) c3).ownBlock).below hb4
        replace hs0 := hs0.below hb4
        have h4 := h3.below hb4
        have b4 := (b2.alloc b2.size (.cells #[.slice A3 (m + 1) c3] 49)).trans (hb4.mono (b2.alloc b2.size (.cells #[.slice A3 (m + 1) c3] 49)).size)
        obtain ⟨d40, d41⟩ := dq _ t4
        clear cP hb4 h3 d30 d31
        obtain ⟨b, c4, e4, hq4⟩ := h4.at_ (Nat.succ_pos m)
        obtain ⟨rfl, rfl⟩ : A3 = some ⟨b, 0, none⟩ ∧ c3 = c4 := by simpa using e4
        have cX := remove_any w2.heap.size w1.heap.size b m c3 k l _ hq4 hn1 hkm
        have hszq := own2s
        have hsz4 := t4.size
        simp at hsz4
        clear h4 hq4 e4
        go_wp2_with fail
        refine cX.mono ?_
        rintro e w4b ⟨⟨xr, rfl⟩, h4b, t4b⟩
        clear cX
        have t4c := t4.trans t4b (Row.refl _ _)
        have d4 := dq w4b t4c
        clear t4 t4b dq
        obtain ⟨d40, d41⟩ := d4
        have cV := hpush_any w2.heap.size w1.heap.size m (.slice (some ⟨b, 0, none⟩) m c3) _ d w4b h4b.hv (by omega) (by have := t4c.size; simp at this; omega)
        clear h4b
        go_wp2_with fail
        refine cV.mono ?_
        rintro e w5 ⟨rfl, v5, h5, r5, t5⟩
        clear cV
        obtain ⟨A5, c5, rfl⟩ := own_shape h5.own
        have cE := drained_any w2.heap.size w1.heap.size (m + 1) c5 A5 _ _ w5 h5 hHO (by omega)
        have t6 := t4c.trans t5 (Row.refl _ _)
        clear h5 hHO
        go_wp2_with fail
        refine cE.mono ?_
        rintro e w7 ⟨v7, rfl, own7, t7⟩
        clear cE
        have t8 := t6.trans t7 ((Row.refl _ _).trans r5 t4c.size)
        have hsz6 := t6.size
        have b8 := Two.since b2 b2.size own2 b0.size t8
        obtain ⟨A7, c7, rfl⟩ := own_shape own7
        have hs7 : w.heap.size ≤ w5.heap.size := by have := b2.size; simp at hsz6; omega
        clear t8 t7 t6 t5 r5
        go_wp2_with fail
        go_ret2
        exact gives_of own7 HLP.out hs7 b8
end Go.Proofs.Ytimhdkgllgdamaa
