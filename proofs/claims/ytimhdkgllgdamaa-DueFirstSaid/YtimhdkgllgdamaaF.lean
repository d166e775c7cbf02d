/- Walks of container/heap at the queue: down. -/
import Derived.Test.YtimhdkgllgdamaaD
import Derived.Test.YtimhdkgllgdamaaE
namespace Go.Proofs.Ytimhdkgllgdamaa
open Go.RowKit Go.Lib D
set_option linter.unusedVariables false

/-- A queue's variable, and its row. -/
structure HQ (w : World) (QX base b n c : Nat) (l : List Du) : Prop where
  q : w.cell? ⟨QX, 0, none⟩ = some (.slice (some ⟨b, 0, none⟩) n c)
  fq : w.frozen? ⟨QX, 0, none⟩ = false
  own : w.ownsRow base 30 2 (.slice (some ⟨b, 0, none⟩) n c) n (l.flatMap Du.enc)
  len : l.length = n
  ne : QX ≠ b
  lt : QX < w.heap.size
theorem HQ.below {w w' : World} {QX base b n c : Nat} {l : List Du} (h : HQ w QX base b n c l) (hb : Below w.heap.size w w') : HQ w' QX base b n c l :=
  ⟨(hb.cell (p := ⟨QX, 0, none⟩) h.lt).trans h.q, (hb.frozen (p := ⟨QX, 0, none⟩) h.lt).trans h.fq, own_below h.own hb, h.len, h.ne, Nat.lt_of_lt_of_le h.lt hb.size⟩
theorem HQ.turn {w w' : World} {QX base b n c : Nat} {l l' : List Du} (h : HQ w QX base b n c l) (hg : w.grownBy w' (some b)) (own' : w'.ownsRow base 30 2 (.slice (some ⟨b, 0, none⟩) n c) n (l'.flatMap Du.enc)) (hl : l'.length = n) : HQ w' QX base b n c l' := by
  have hk : w'.heap[QX]? = w.heap[QX]? := hg.block QX h.lt (fun e => h.ne (by simpa using e))
  exact ⟨(World.cell?_of_block (w := w) (w' := w') (a := ⟨QX, 0, none⟩) hk).trans h.q, (World.frozen?_of_block (w := w) (w' := w') (a := ⟨QX, 0, none⟩) hk).trans h.fq, own', hl, h.ne, Nat.lt_of_lt_of_le h.lt hg.size⟩
theorem HQ.sl {w : World} {QX base b n c : Nat} {l : List Du} (h : HQ w QX base b n c l) : Sl 2 Du.enc w (some ⟨b, 0, none⟩) l := Sl.of_own Du.enc_len h.own h.len
theorem HQ.less {w : World} {QX base b n c : Nat} {l : List Du} (h : HQ w QX base b n c l) : (method 189 52 (.pointer (some ⟨QX, 0, none⟩)) "Less").run Try.prog w = .ok (55, .slice (some ⟨b, 0, none⟩) n c) w := (queue_meths _ w _ h.q 188).2.1
theorem HQ.swap {w : World} {QX base b n c : Nat} {l : List Du} (h : HQ w QX base b n c l) : (method 189 52 (.pointer (some ⟨QX, 0, none⟩)) "Swap").run Try.prog w = .ok (56, .slice (some ⟨b, 0, none⟩) n c) w := (queue_meths _ w _ h.q 188).2.2.1

def swapL (l : List Du) (i j : Nat) : List Du := (l.set i l[j]!).set j l[i]!
def pickL (l : List Du) (i n : Nat) : Nat := if 2 * i + 2 < n ∧ lessD l[2 * i + 2]! l[2 * i + 1]! = true then 2 * i + 2 else 2 * i + 1
def downF : Nat → List Du → Nat → Nat → List Du × Nat
  | 0, l, i, _ => (l, i)
  | f + 1, l, i, n => if n ≤ 2 * i + 1 then (l, i) else if lessD l[pickL l i n]! l[i]! = true then downF f (swapL l i (pickL l i n)) (pickL l i n) n else (l, i)

theorem swapL_len (l : List Du) (i j : Nat) : (swapL l i j).length = l.length := by simp [swapL]
theorem downF_end {f : Nat} {l : List Du} {i n : Nat} (h : n ≤ 2 * i + 1) : downF f l i n = (l, i) := by
  cases f with
  | zero => rfl
  | succ f => rw [downF, if_pos h]
theorem downF_stop {f : Nat} {l : List Du} {i n : Nat} (hf : 0 < f) (h : ¬ n ≤ 2 * i + 1) (hl : lessD l[pickL l i n]! l[i]! = false) : downF f l i n = (l, i) := by
  cases f with
  | zero => omega
  | succ f => rw [downF, if_neg h, if_neg (by rw [hl]; decide)]
theorem downF_go {f : Nat} {l : List Du} {i n : Nat} (h : ¬ n ≤ 2 * i + 1) (hl : lessD l[pickL l i n]! l[i]! = true) : downF (f + 1) l i n = downF f (swapL l i (pickL l i n)) (pickL l i n) n := by
  rw [downF, if_neg h, if_pos hl]
set_option maxHeartbeats 16000000 in
theorem down_any (QX base b n c i0 m : Nat) (l : List Du) (w : World) (h : HQ w QX base b n c l) (hn1 : n ≤ 1000000) (hm : m ≤ n) (hi0 : i0 ≤ n) (f : Nat) (hf : m ≤ i0 + f) :
    Calls Try.prog 37 #[.iface 52 (.pointer (some ⟨QX, 0, none⟩)), .int .i64 (i0 : Int), .int .i64 (m : Int)] w fun e w' => e = .returned (.bool (decide (i0 < (downF f l i0 m).2))) ∧ HQ w' QX base b n c (downF f l i0 m).1 ∧ w.grownBy w' (some b) := by
  have HH := Lib.hid h
  have G0 : w.grownBy w (some b) := World.grownBy.refl w _
  clear h
  go_enter Try.func37, Try.ntmps37
  go_wp2_with fail
  go_loopg [7] m (fun gg s7 wr => ∃ (i f' : Nat) (l' : List Du), i ≤ n ∧ m ≤ i + f' ∧ f' ≤ f ∧ m - i ≤ gg ∧ s7 = .int .i64 (i : Int) ∧ HQ wr QX base b n c l' ∧ Aside (downF f' l' i m = downF f l i0 m) ∧ Aside (w.grownBy wr (some b)))
  case atStart => exact ⟨i0, f, l, hi0, hf, Nat.le_refl _, by omega, rfl, HH.out, rfl, G0⟩
  case round =>
    obtain ⟨i, f', l', hi, hf', hfg, hg, rfl, h, HE, HG⟩ := hrel
    have hn2 := h.len
    by_cases hend : m ≤ 2 * i + 1
    · have zend : (m : Int) ≤ 2 * (i : Int) + 1 := by omega
      have HX := Lib.hid (HE.out.symm.trans (downF_end hend))
      clear hend hn2 HE
      go_wp2_with fail
      go_ret
      rw [HX.out]
      exact ⟨by simp, h, HG.out⟩
    · have zend : ¬ (m : Int) ≤ 2 * (i : Int) + 1 := by omega
      have z0 : ¬ 2 * (i : Int) + 1 < 0 := by omega
      obtain ⟨j1, hj1a, hj1b⟩ : ∃ j1 : Nat, j1 ≤ 2 * i + 1 ∧ 2 * i + 1 ≤ j1 := ⟨2 * i + 1, by omega, by omega⟩
      obtain ⟨j2, hj2a, hj2b⟩ : ∃ j2 : Nat, j2 ≤ j1 + 1 ∧ j1 + 1 ≤ j2 := ⟨j1 + 1, by omega, by omega⟩
      have c1 : 2 * (i : Int) + 1 = (j1 : Int) := by omega
      have c2 : (j1 : Int) + 1 = (j2 : Int) := by omega
      by_cases h2 : j2 < m
      · have z2 : (j2 : Int) < (m : Int) := by omega
        have cA := fun w1 (h : HQ w1 QX base b n c l') => qless_any (some ⟨b, 0, none⟩) n c j2 j1 l' w1 h.sl h.len (by omega) (by omega) hn1
        by_cases hla : lessD l'[j2]! l'[j1]! = true
        · have hpk : pickL l' i m = j2 := by unfold pickL; rw [if_pos ⟨by omega, by rw [show 2 * i + 2 = j2 by omega, show 2 * i + 1 = j1 by omega]; exact hla⟩]; omega
          rw [hla] at cA
          clear hla
          by_cases hlb : lessD l'[j2]! l'[i]! = true
          · obtain ⟨f2, rfl⟩ : ∃ f2, f' = f2 + 1 := ⟨f' - 1, by omega⟩
            have hgo := downF_go (f := f2) hend (by rw [hpk]; exact hlb)
            rw [hpk] at hgo
            have HGO := Lib.hid (hgo.symm.trans HE.out)
            have cB := fun w1 (h : HQ w1 QX base b n c l') => qless_any (some ⟨b, 0, none⟩) n c j2 i l' w1 h.sl h.len (by omega) (by omega) hn1
            rw [hlb] at cB
            have cS := fun w1 (h : HQ w1 QX base b n c l') => swap_any base b n c i j2 l' w1 h.own h.len (by omega) (by omega) hn1
            clear hgo hlb HE hpk
            have hm1 := h.less
            go_wp2_with fail
            refine (cA _ h).mono ?_
            rintro e w2 ⟨rfl, hb2⟩
            replace h := h.below hb2
            replace HG : Aside _ := grown_of_below HG.out hb2
            have hm1 := h.less
            go_wp2_with fail
            refine (cB _ h).mono ?_
            rintro e w3 ⟨rfl, hb3⟩
            replace h := h.below hb3
            have hg3 := grown_of_below HG.out hb3
            have hm2 := h.swap
            go_wp2_with fail
            refine (cS _ h).mono ?_
            rintro e w4 ⟨rfl, own4, hg4⟩
            have h4 := h.turn (l' := swapL l' i j2) hg4 own4 (by rw [swapL_len]; exact h.len)
            have hg5 := hg3.trans hg4
            clear hm2 own4 hg4
            go_wp2_with fail
            go_roundg (m - j2)
            case measure => omega
            case rel => exact ⟨j2, f2, swapL l' i j2, by omega, by omega, by omega, by omega, by go_num, h4, (show Aside _ from HGO.out), (show Aside _ from hg5)⟩
          · have hlb2 : lessD l'[j2]! l'[i]! = false := by simpa using hlb
            have HX := Lib.hid (HE.out.symm.trans (downF_stop (by omega) hend (by rw [hpk]; exact hlb2)))
            have cB := fun w1 (h : HQ w1 QX base b n c l') => qless_any (some ⟨b, 0, none⟩) n c j2 i l' w1 h.sl h.len (by omega) (by omega) hn1
            rw [hlb2] at cB
            clear hlb hlb2 HE hpk
            have hm1 := h.less
            go_wp2_with fail
            refine (cA _ h).mono ?_
            rintro e w2 ⟨rfl, hb2⟩
            replace h := h.below hb2
            replace HG : Aside _ := grown_of_below HG.out hb2
            have hm1 := h.less
            go_wp2_with fail
            refine (cB _ h).mono ?_
            rintro e w3 ⟨rfl, hb3⟩
            replace h := h.below hb3
            have hg3 := grown_of_below HG.out hb3
            go_wp2_with fail
            go_ret
            rw [HX.out]
            exact ⟨by simp, h, hg3⟩
        · have hla2 : lessD l'[j2]! l'[j1]! = false := by simpa using hla
          have hpk : pickL l' i m = j1 := by unfold pickL; rw [if_neg (fun hh => hla (by have := hh.2; rwa [show 2 * i + 2 = j2 by omega, show 2 * i + 1 = j1 by omega] at this))]; omega
          rw [hla2] at cA
          clear hla hla2
          by_cases hlb : lessD l'[j1]! l'[i]! = true
          · obtain ⟨f2, rfl⟩ : ∃ f2, f' = f2 + 1 := ⟨f' - 1, by omega⟩
            have hgo := downF_go (f := f2) hend (by rw [hpk]; exact hlb)
            rw [hpk] at hgo
            have HGO := Lib.hid (hgo.symm.trans HE.out)
            have cB := fun w1 (h : HQ w1 QX base b n c l') => qless_any (some ⟨b, 0, none⟩) n c j1 i l' w1 h.sl h.len (by omega) (by omega) hn1
            rw [hlb] at cB
            have cS := fun w1 (h : HQ w1 QX base b n c l') => swap_any base b n c i j1 l' w1 h.own h.len (by omega) (by omega) hn1
            clear hgo hlb HE hpk
            have hm1 := h.less
            go_wp2_with fail
            refine (cA _ h).mono ?_
            rintro e w2 ⟨rfl, hb2⟩
            replace h := h.below hb2
            replace HG : Aside _ := grown_of_below HG.out hb2
            have hm1 := h.less
            go_wp2_with fail
            refine (cB _ h).mono ?_
            rintro e w3 ⟨rfl, hb3⟩
            replace h := h.below hb3
            have hg3 := grown_of_below HG.out hb3
            have hm2 := h.swap
            go_wp2_with fail
            refine (cS _ h).mono ?_
            rintro e w4 ⟨rfl, own4, hg4⟩
            have h4 := h.turn (l' := swapL l' i j1) hg4 own4 (by rw [swapL_len]; exact h.len)
            have hg5 := hg3.trans hg4
            clear hm2 own4 hg4
            go_wp2_with fail
            go_roundg (m - j1)
            case measure => omega
            case rel => exact ⟨j1, f2, swapL l' i j1, by omega, by omega, by omega, by omega, by go_num, h4, (show Aside _ from HGO.out), (show Aside _ from hg5)⟩
          · have hlb2 : lessD l'[j1]! l'[i]! = false := by simpa using hlb
            have HX := Lib.hid (HE.out.symm.trans (downF_stop (by omega) hend (by rw [hpk]; exact hlb2)))
            have cB := fun w1 (h : HQ w1 QX base b n c l') => qless_any (some ⟨b, 0, none⟩) n c j1 i l' w1 h.sl h.len (by omega) (by omega) hn1
            rw [hlb2] at cB
            clear hlb hlb2 HE hpk
            have hm1 := h.less
            go_wp2_with fail
            refine (cA _ h).mono ?_
            rintro e w2 ⟨rfl, hb2⟩
            replace h := h.below hb2
            replace HG : Aside _ := grown_of_below HG.out hb2
            have hm1 := h.less
            go_wp2_with fail
            refine (cB _ h).mono ?_
            rintro e w3 ⟨rfl, hb3⟩
            replace h := h.below hb3
            have hg3 := grown_of_below HG.out hb3
            go_wp2_with fail
            go_ret
            rw [HX.out]
            exact ⟨by simp, h, hg3⟩
      · have z2 : ¬ (j2 : Int) < (m : Int) := by omega
        have hpk : pickL l' i m = j1 := by unfold pickL; rw [if_neg (fun hh => h2 (by omega))]; omega
        by_cases hlb : lessD l'[j1]! l'[i]! = true
        · obtain ⟨f2, rfl⟩ : ∃ f2, f' = f2 + 1 := ⟨f' - 1, by omega⟩
          have hgo := downF_go (f := f2) hend (by rw [hpk]; exact hlb)
          rw [hpk] at hgo
          have HGO := Lib.hid (hgo.symm.trans HE.out)
          have cB := fun w1 (h : HQ w1 QX base b n c l') => qless_any (some ⟨b, 0, none⟩) n c j1 i l' w1 h.sl h.len (by omega) (by omega) hn1
          rw [hlb] at cB
          have cS := fun w1 (h : HQ w1 QX base b n c l') => swap_any base b n c i j1 l' w1 h.own h.len (by omega) (by omega) hn1
          clear hgo hlb HE hpk
          have hm1 := h.less
          go_wp2_with fail
          refine (cB _ h).mono ?_
          rintro e w3 ⟨rfl, hb3⟩
          replace h := h.below hb3
          have hg3 := grown_of_below HG.out hb3
          have hm2 := h.swap
          go_wp2_with fail
          refine (cS _ h).mono ?_
          rintro e w4 ⟨rfl, own4, hg4⟩
          have h4 := h.turn (l' := swapL l' i j1) hg4 own4 (by rw [swapL_len]; exact h.len)
          have hg5 := hg3.trans hg4
          clear hm2 own4 hg4
          go_wp2_with fail
          go_roundg (m - j1)
          case measure => omega
          case rel => exact ⟨j1, f2, swapL l' i j1, by omega, by omega, by omega, by omega, by go_num, h4, (show Aside _ from HGO.out), (show Aside _ from hg5)⟩
        · have hlb2 : lessD l'[j1]! l'[i]! = false := by simpa using hlb
          have HX := Lib.hid (HE.out.symm.trans (downF_stop (by omega) hend (by rw [hpk]; exact hlb2)))
          have cB := fun w1 (h : HQ w1 QX base b n c l') => qless_any (some ⟨b, 0, none⟩) n c j1 i l' w1 h.sl h.len (by omega) (by omega) hn1
          rw [hlb2] at cB
          clear hlb hlb2 HE hpk
          have hm1 := h.less
          go_wp2_with fail
          refine (cB _ h).mono ?_
          rintro e w3 ⟨rfl, hb3⟩
          replace h := h.below hb3
          have hg3 := grown_of_below HG.out hb3
          go_wp2_with fail
          go_ret
          rw [HX.out]
          exact ⟨by simp, h, hg3⟩
end Go.Proofs.Ytimhdkgllgdamaa
