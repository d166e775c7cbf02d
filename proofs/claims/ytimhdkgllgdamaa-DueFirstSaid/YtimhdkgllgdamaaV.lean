/- Walks of the reference's Come, and of awake. -/
import Derived.Test.YtimhdkgllgdamaaU
namespace Go.Proofs.Ytimhdkgllgdamaa
open Go.RowKit Go.Lib D
set_option linter.unusedVariables false

/-- What the reference's Come hands back. -/
def ReadsC (w : World) (r : List Du × List Int × Int) (e : Ending) (w' : World) : Prop :=
  ∃ A c B d, e = .returned (.tuple #[.slice A r.1.length c, .slice B r.2.1.length d, .int .i64 r.2.2]) ∧ Sl 2 Du.enc w' A r.1 ∧ Sl 1 encI w' B r.2.1 ∧ Below w.heap.size w w'
theorem readsC_of {w w' : World} {l : List Du} {ks : List Int} {k : Int} {A B : Option Addr} {n m c d : Nat} (hs : Sl 2 Du.enc w' A l) (ht : Sl 1 encI w' B ks) (hn : l.length = n) (hm : ks.length = m) (bb : Below w.heap.size w w') : ReadsC w (l, ks, k) (.returned (.tuple #[.slice A n c, .slice B m d, .int .i64 k])) w' := by
  subst hn
  subst hm
  exact ⟨A, c, B, d, rfl, hs, ht, bb⟩
set_option maxHeartbeats 8000000 in
theorem rcome_any (A : Option Addr) (c n : Nat) (l : List Du) (now : Int) (w : World) (hs : Sl 2 Du.enc w A l) (hn : l.length = n) (hn1 : n ≤ 1000000) :
    Calls Try.prog 15 #[.slice A n c, .int .i64 now] w (ReadsC w (comeD l now)) := by
  obtain ⟨i0, hi, hz0, hz1, hz2⟩ := info_parts info30
  obtain ⟨j0, ji, jz0, jz1, jz2⟩ := info_parts info3
  have cR := rright_any A c n l w hs hn hn1
  have HS := Lib.hid hs
  have HN := Lib.hid hn
  clear hs hn
  cases hr : rightD l with
  | false =>
    have hA : comeD l now = (l, [], 1) := by unfold comeD; rw [if_neg (fun h => by rw [hr] at h; exact absurd h (by decide))]
    rw [hA]
    rw [hr] at cR
    clear hA hr
    go_enter Try.func15, Try.ntmps15
    go_wp2_with fail
    refine cR.mono ?_
    rintro e w1 ⟨rfl, hb1⟩
    clear cR
    go_wp2_with fail
    go_ret3
    exact readsC_of (HS.out.below hb1) (Sl.nil _ _ _ _) HN.out rfl hb1
  | true =>
    have hA : comeD l now = (l.filter (fun x => decide (now < x.when_)), (l.filter (fun x => decide (x.when_ ≤ now))).map Du.which, 0) := by unfold comeD; rw [if_pos hr]
    rw [hA]
    rw [hr] at cR
    clear hA hr
    go_enter Try.func15, Try.ntmps15
    go_wp2_with fail
    refine cR.mono ?_
    rintro e w1 ⟨rfl, hb1⟩
    have own0 := World.ownsRow_nil w1 w.heap.size 30 2
    have own1 := World.ownsRow_nil w1 w.heap.size 3 1
    clear cR
    go_wp2_with fail
    go_loopg [7, 8, 9] n (fun gg s7 s8 s9 wr => ∃ (kk m q : Nat) (r o : List Du), kk ≤ n ∧ n - kk ≤ gg ∧ m ≤ kk ∧ q ≤ kk ∧ s9 = .int .i64 (kk : Int) ∧ wr.ownsRow w.heap.size 30 2 s7 m (r.flatMap Du.enc) ∧ wr.ownsRow w.heap.size 3 1 s8 q ((o.map Du.which).flatMap encI) ∧
      Aside (r = (l.take kk).filter (fun x => decide (now < x.when_))) ∧ Aside (o = (l.take kk).filter (fun x => decide (x.when_ ≤ now))) ∧ Aside (r.length = m) ∧ Aside (o.length = q) ∧ Aside (Below w.heap.size w wr))
    case atStart => exact ⟨0, 0, 0, [], [], Nat.zero_le _, by omega, Nat.le_refl _, Nat.le_refl _, rfl, own0, own1, rfl, rfl, rfl, rfl, hb1⟩
    case round =>
      clear own0 own1 hb1
      obtain ⟨kk, m, q, r, ou, hkk, hg, hmk, hqk, rfl, own, owo, HR, HO, HL, HLO, HB⟩ := hrel
      have b := HB.out
      obtain ⟨A3, c3, rfl⟩ := own_shape own
      obtain ⟨B3, d3, rfl⟩ := own_shape owo
      by_cases hlt : kk < n
      · have hltz : (kk : Int) < (n : Int) := by omega
        have hin : kk < l.length := by rw [HN.out]; exact hlt
        obtain ⟨bb, off, rfl, hq⟩ := (HS.out.below b).at_ kk hin
        have q0 := hq 0 _ rfl
        have q1 := hq 1 _ rfl
        rw [Nat.add_zero] at q0
        have hn1r := filter_next (fun x => decide (now < x.when_)) hin
        have hn1o := filter_next (fun x => decide (x.when_ ≤ now)) hin
        rw [← HR.out] at hn1r
        rw [← HO.out] at hn1o
        clear hq hin
        by_cases he : l[kk]!.when_ ≤ now
        · rw [if_neg (by simpa using he), List.append_nil] at hn1r
          rw [if_pos (by simpa using he)] at hn1o
          have HNR := Lib.hid hn1r
          have HNO := Lib.hid hn1o
          clear hn1r hn1o
          generalize l[kk]! = x at *
          go_wp2_with (at_builtin; refine wpList_as ?_)
          intro _
          refine wpList_append_own_at _ rfl _ _ 31 rfl w.heap.size 3 j0 _ 1 8 Try.underlying31 ji jz0 jz1 jz2 rfl (by decide) _ _ _ rfl (owo.alloc _) ⟨wr.heap.size, 0, none⟩ 1 1 [.int .i64 x.which] rfl rfl (fun j u hj => cell_new_block wr _ 3 j u hj) (by intro u hu; simp at hu; subst hu; rfl) (by unfold maxLen; omega) (by omega) (by simp; have := b.size; omega) ?_
          intro v2 w2 own2 hg2 hnil2 hat2
          have ownK := (own.alloc (.cells #[.int .i64 x.which] 3)).kept hg2 (own_two own owo (by decide))
          have b2 := below_append (k := 1) (b.alloc b.size _) hg2 (by simp; have := b.size; omega) (owo.alloc _) (Nat.le_refl _)
          have hcs : (ou.map Du.which).flatMap encI ++ [.int .i64 x.which] = ((ou ++ [x]).map Du.which).flatMap encI := by simp [encI]
          rw [hcs] at own2
          have hL2 : (ou ++ [x]).length = q + 1 := by simp [HLO.out]
          clear hg2 hnil2 hat2 own owo hcs q0 q1
          obtain ⟨B4, d4, rfl⟩ := own_shape own2
          go_wp2_with fail
          go_roundg (n - (kk + 1))
          case measure => omega
          case rel => exact ⟨kk + 1, m, q + 1, r, ou ++ [x], by omega, by omega, by omega, by omega, by go_num, ownK, own2, (show Aside _ from HNR.out.symm), (show Aside _ from HNO.out.symm), (show Aside _ from HL.out), (show Aside _ from hL2), (show Aside _ from b2)⟩
        · rw [if_pos (decide_eq_true (by omega))] at hn1r
          rw [if_neg (by simpa using he), List.append_nil] at hn1o
          have HNR := Lib.hid hn1r
          have HNO := Lib.hid hn1o
          clear hn1r hn1o
          generalize l[kk]! = x at *
          go_wp2_with (at_builtin; refine wpList_as ?_)
          intro _
          refine wpList_append_own_at _ rfl _ _ 24 rfl w.heap.size 30 i0 _ 2 16 Try.underlying24 hi hz0 hz1 hz2 rfl (by decide) _ _ _ rfl (own.alloc _) ⟨wr.heap.size, 0, none⟩ 1 1 [.int .i64 x.when_, .int .i64 x.which] rfl rfl (fun j u hj => cell_new_block wr _ 30 j u hj) (by intro u hu; simp at hu; rcases hu with rfl | rfl <;> rfl) (by unfold maxLen; omega) (by omega) (by simp; have := b.size; omega) ?_
          intro v2 w2 own2 hg2 hnil2 hat2
          have ownK := (owo.alloc (.cells #[.int .i64 x.when_, .int .i64 x.which] 30)).kept hg2 (own_two owo own (by decide))
          have b2 := below_append (k := 2) (b.alloc b.size _) hg2 (by simp; have := b.size; omega) (own.alloc _) (Nat.le_refl _)
          have hcs : r.flatMap Du.enc ++ [.int .i64 x.when_, .int .i64 x.which] = (r ++ [x]).flatMap Du.enc := by simp [Du.enc]
          rw [hcs] at own2
          have hL2 : (r ++ [x]).length = m + 1 := by simp [HL.out]
          clear hg2 hnil2 hat2 own owo hcs q0 q1
          obtain ⟨A4, c4, rfl⟩ := own_shape own2
          go_wp2_with fail
          go_roundg (n - (kk + 1))
          case measure => omega
          case rel => exact ⟨kk + 1, m + 1, q, r ++ [x], ou, by omega, by omega, by omega, by omega, by go_num, own2, ownK, (show Aside _ from HNR.out.symm), (show Aside _ from HNO.out.symm), (show Aside _ from hL2), (show Aside _ from HLO.out), (show Aside _ from b2)⟩
      · obtain rfl : kk = n := by omega
        have hltz : ¬ (kk : Int) < (kk : Int) := by omega
        have hall : l.take kk = l := List.take_of_length_le (by rw [HN.out]; exact Nat.le_refl _)
        have HF := Lib.hid hall
        clear hall
        go_wp2_with fail
        go_ret3
        have h1 := HR.out
        have h2 := HO.out
        rw [HF.out] at h1 h2
        rw [← h1, ← h2]
        exact readsC_of (Sl.of_own Du.enc_len own HL.out) (Sl.of_own encI_len owo (by rw [List.length_map]; exact HLO.out)) HL.out (by rw [List.length_map]; exact HLO.out) b

theorem aw1 : addD [] ⟨10, 5⟩ = ([⟨10, 5⟩], 0) := by decide
theorem aw2 : addD [⟨10, 5⟩] ⟨8, 6⟩ = ([⟨8, 6⟩, ⟨10, 5⟩], 0) := by decide
theorem aw3 : comeD [⟨8, 6⟩, ⟨10, 5⟩] 9 = ([⟨10, 5⟩], [6], 0) := by decide
theorem aw4 : firstD [⟨8, 6⟩, ⟨10, 5⟩] = (8, true) := by decide
theorem slNew {w : World} {cs : List Value} {T : TypeId} {α : Type} [Inhabited α] {k : Nat} {enc : α → List Value} {l : List α} (hk : ∀ x, (enc x).length = k) (h0 : 0 < k) (e : cs = l.flatMap enc) (hb : l.length ≤ 1000000) : Sl k enc (w.alloc (.cells cs.toArray T)) (some ⟨w.heap.size, 0, none⟩) l :=
  ⟨by omega, fun _ => ⟨w.heap.size, 0, rfl, fun j hj i v hv => by
    have := cell_new_block w cs T (j * k + i) v (by rw [e]; exact flat_at hk l j i v hj hv)
    rw [Go.WideShapes.add_plain] at this
    rwa [show 0 + j * k + i = 0 + (j * k + i) by omega]⟩⟩
set_option maxHeartbeats 8000000 in
theorem awake_any (w : World) : Calls Try.prog 6 #[] w fun e w' => e = .returned (.bool true) ∧ Below w.heap.size w w' := by
  have c1 := add_any none 0 0 [] ⟨10, 5⟩ w (Sl.nil _ _ _ _) rfl (by omega)
  rw [aw1] at c1
  go_enter Try.func6, Try.ntmps6
  go_wp2_with fail
  refine c1.mono ?_
  rintro e w1 ⟨A1, d1, rfl, own1, b1⟩
  have s1 := Sl.of_own Du.enc_len own1 rfl
  have c2 := add_any A1 d1 1 [⟨10, 5⟩] ⟨8, 6⟩ w1 s1 rfl (by omega)
  rw [aw2] at c2
  clear c1 own1 s1
  go_wp2_with fail
  refine c2.mono ?_
  rintro e w2 ⟨A2, d2, rfl, own2, b2'⟩
  have b2 := b1.trans (b2'.mono b1.size)
  have s2 := Sl.of_own Du.enc_len own2 rfl
  have c3 := come_any A2 d2 2 [⟨8, 6⟩, ⟨10, 5⟩] 9 w2 s2 rfl (by omega)
  rw [aw3] at c3
  clear c2 own2 b2' b1
  go_wp2_with fail
  refine c3.mono ?_
  rintro e w3 ⟨A3, d3, A4, d4, rfl, own3, own4, b3'⟩
  have b3 := b2.trans (b3'.mono b2.size)
  have s3 := s2.below b3'
  have s4 := Sl.of_own encI_len own4 rfl
  have c4 := first_any A2 d2 2 [⟨8, 6⟩, ⟨10, 5⟩] w3 s3 rfl (by omega)
  rw [aw4] at c4
  clear c3 own3 own4 b3' b2 s2 s3
  go_wp2_with fail
  refine c4.mono ?_
  rintro e w4 ⟨rfl, b4'⟩
  have b4 := b3.trans (b4'.mono b3.size)
  have s5 := (s4.below b4').below ((Below.refl _ _).alloc (Nat.le_refl _) (.cells #[.int .i64 6] 3))
  have b5 := b4.alloc b4.size (.cells #[.int .i64 6] 3)
  have c5 := ints_any A4 (some ⟨w4.heap.size, 0, none⟩) d4 1 1 1 [6] [6] (w4.alloc (.cells #[.int .i64 6] 3)) s5 (slNew (cs := [.int .i64 6]) encI_len (by decide) rfl (by decide)) rfl rfl
  clear c4 b4' b3 s4 s5
  rw [show decide (([6] : List Int) = [6]) = true from rfl] at c5
  go_wp2_with fail
  generalize w4.alloc (.cells #[.int .i64 6] 3) = w5 at *
  refine c5.mono ?_
  rintro e w6 ⟨rfl, b6'⟩
  have b6 := b5.trans (b6'.mono b5.size)
  have b7 := b6.alloc b6.size (.cells #[.int .i64 3, .int .i64 0, .int .i64 1, .int .i64 0] 30)
  have c6 := sort_any (some ⟨w6.heap.size, 0, none⟩) 2 2 [⟨3, 0⟩, ⟨1, 0⟩] (w6.alloc (.cells #[.int .i64 3, .int .i64 0, .int .i64 1, .int .i64 0] 30)) (slNew (cs := [.int .i64 3, .int .i64 0, .int .i64 1, .int .i64 0]) Du.enc_len (by decide) rfl (by decide)) rfl (by omega)
  clear c5 b6' b5 b4
  go_wp2_with fail
  refine c6.mono ?_
  rintro e w7 ⟨v7, rfl, own7, b8'⟩
  have b8 := b7.trans (b8'.mono b7.size)
  obtain ⟨A7, d7, rfl⟩ := own_shape own7
  clear c6 b8' b7 b6
  go_wp2_with fail
  go_ret
  exact ⟨rfl, b8⟩
end Go.Proofs.Ytimhdkgllgdamaa
