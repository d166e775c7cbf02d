/- Walks of commit's reference: split. -/
import Derived.Test.YtkkbpcnoamagcaaK
namespace Go.Proofs.Ytkkbpcnoamagcaa
open Go.RowKit Go.Lib

/-- Two rows share no block. -/
def Apart (u v : Value) : Prop := ∀ b, u.ownBlock = some b → v.ownBlock ≠ some b
theorem Apart.symm {u v : Value} (h : Apart u v) : Apart v u := fun b h1 h2 => h b h2 h1
theorem Apart.or {u v : Value} (h : Apart u v) : v.ownBlock = none ∨ v.ownBlock ≠ u.ownBlock := by
  cases hv : v.ownBlock with
  | none => exact .inl rfl
  | some b => exact .inr fun e => h b e.symm hv
theorem Apart.next {w : World} {u v u' : Value} {X base e k n : Nat} {cs : List Value} (h : Apart u v) (hat : u'.ownBlock = u.ownBlock ∨ u'.ownBlock = some X) (own : w.ownsRow base e k v n cs) (hX : w.heap.size ≤ X) : Apart u' v := by
  intro b h1 h2
  rcases hat with e | e
  · exact h b (e ▸ h1) h2
  · rw [e] at h1
    injection h1 with h1
    have := own.lt b h2
    omega
def lowB (n : Int) (x : Hld) : Bool := decide (x.span < n)
def highB (n : Int) (x : Hld) : Bool := !decide (x.span < n)
theorem filter_snoc (p : Hld → Bool) (h : List Hld) (i : Nat) (hi : i < h.length) (x : Hld) (hx : h[i]! = x) : (h.take (i + 1)).filter p = (h.take i).filter p ++ if p x then [x] else [] := by
  rw [List.take_succ_eq_append_getElem hi, ← getElem!_pos h i hi, hx, List.filter_append]
  cases hp : p x <;> simp [hp]
structure SplitL (w wl : World) (W0s : Nat) (A : Option Addr) (c n : Nat) (k : Int) (h : List Hld) (i : Nat) (A1 : Option Addr) (n1 c1 : Nat) (A2 : Option Addr) (n2 c2 : Nat) : Prop where
  e0 : wl.cell? ⟨w.heap.size, 0, none⟩ = some (.slice A n c)
  ltB : w.heap.size < wl.heap.size
  sz : W0s ≤ wl.heap.size
  l1 : ((h.take i).filter (lowB k)).length = n1
  l2 : ((h.take i).filter (highB k)).length = n2
  own1 : wl.ownsRow W0s 51 3 (.slice A1 n1 c1) n1 (((h.take i).filter (lowB k)).flatMap Hld.enc)
  own2 : wl.ownsRow W0s 51 3 (.slice A2 n2 c2) n2 (((h.take i).filter (highB k)).flatMap Hld.enc)
  ap : Apart (.slice A1 n1 c1) (.slice A2 n2 c2)
  b : Below w.heap.size w wl

set_option maxHeartbeats 4000000 in
theorem split_any (A B : Option Addr) (c d n m : Nat) (k : Int) (h : List Hld) (t : List Tld) (w : World) (hg : GateIn w A B h t) (hn : h.length = n) (hn1 : n ≤ 1000000) :
    Calls Try.prog 23 #[.agg #[.slice A n c, .slice B m d], .int .i64 k] w fun e w' => ∃ A1 n1 c1 A2 n2 c2, e = .returned (.tuple #[.slice A1 n1 c1, .slice A2 n2 c2]) ∧ (h.filter (lowB k)).length = n1 ∧ (h.filter (highB k)).length = n2 ∧
      Sl 3 Hld.enc w' A1 (h.filter (lowB k)) ∧ Sl 3 Hld.enc w' A2 (h.filter (highB k)) ∧ Below w.heap.size w w' := by
  have b : Below w.heap.size w (w.alloc (.cells #[.slice A n c, .slice B m d] 25)) := (Below.refl _ _).alloc (Nat.le_refl _) _
  have e0 : (w.alloc (.cells #[.slice A n c, .slice B m d] 25)).cell? ⟨w.heap.size, 0, none⟩ = some (.slice A n c) := by go_simp
  have ltB : w.heap.size < (w.alloc (.cells #[.slice A n c, .slice B m d] 25)).heap.size := by simp
  have HG := Lib.hid hg.held
  obtain ⟨i0, hi, hz0, hz1, hz2⟩ := info_parts info51
  have HN := Lib.hid hn
  clear hg hn
  go_enter Try.func23, Try.ntmps23
  go_wp2_with fail
  generalize (w.alloc (.cells #[.slice A n c, .slice B m d] 25)) = W0 at *
  have bB := ltB
  have bB2 := b.size
  go_loopg [6, 7, 8] n (fun gg s6 s7 s8 wl => ∃ (i : Nat) (A1 : Option Addr) (n1 c1 : Nat) (A2 : Option Addr) (n2 c2 : Nat), i ≤ n ∧ n - i ≤ gg ∧ s6 = .slice A1 n1 c1 ∧ s7 = .slice A2 n2 c2 ∧ s8 = .int .i64 (i : Int) ∧ SplitL w wl W0.heap.size A c n k h i A1 n1 c1 A2 n2 c2)
  case atStart => exact ⟨0, none, 0, 0, none, 0, 0, Nat.zero_le _, by omega, rfl, rfl, rfl, ⟨e0, ltB, Nat.le_refl _, rfl, rfl, World.ownsRow_nil _ _ _ _, World.ownsRow_nil _ _ _ _, (fun b h => by cases h), b⟩⟩
  case round =>
    clear e0 b ltB
    obtain ⟨i, A1, n1, c1, A2, n2, c2, hi0, hgg, rfl, rfl, rfl, L⟩ := hrel
    obtain ⟨e0, ltB, sz, l1, l2, own1, own2, ap, b⟩ := L
    have hsl := HG.out.below b
    have hl1 : n1 ≤ i := by rw [← l1]; exact Nat.le_trans (List.length_filter_le _ _) (by rw [List.length_take]; omega)
    have hl2 : n2 ≤ i := by rw [← l2]; exact Nat.le_trans (List.length_filter_le _ _) (by rw [List.length_take]; omega)
    have L1 := Lib.hid l1
    have L2 := Lib.hid l2
    clear l1 l2
    by_cases hlt : i < n
    · have hltz : (i : Int) < (n : Int) := by omega
      have hin : i < h.length := by rw [HN.out]; omega
      have HI := Lib.hid hin
      obtain ⟨bb, off, rfl, hq⟩ := hsl.at_ i hin
      have q0 := hq 0 _ rfl
      have q1 := hq 1 _ rfl
      have q2 := hq 2 _ rfl
      rw [Nat.add_zero] at q0
      generalize hx : h[i]! = x at *
      have HX := Lib.hid hx
      have f1 := filter_snoc (lowB k) h i hin x hx
      have f2 := filter_snoc (highB k) h i hin x hx
      clear hx hq hin hsl
      by_cases hc : x.span < k
      · have g1 : lowB k x = true := by simp [lowB, hc]
        have g2 : highB k x = false := by simp [highB, hc]
        rw [g1] at f1
        rw [g2] at f2
        simp only [if_true, Bool.false_eq_true, if_false, List.append_nil] at f1 f2
        have F1 := Lib.hid f1
        have F2 := Lib.hid f2
        clear f1 f2 g1 g2
        go_wp2_with (at_builtin; refine wpList_as ?_)
        intro _
        refine wpList_append_own_at _ rfl _ _ 22 rfl W0.heap.size 51 i0 _ 3 24 Try.underlying22 hi hz0 hz1 hz2 rfl (by decide) _ _ _ rfl (own1.alloc _) ⟨wr.heap.size, 0, none⟩ 1 1 [.int .i64 x.core, .int .u32 x.val, .int .i64 x.span] rfl rfl (fun j u hj => cell_new_block wr _ 51 j u hj) (by intro u hu; simp at hu; rcases hu with rfl | rfl | rfl <;> rfl) (by unfold maxLen; omega) (by omega) (by simp; omega) ?_
        intro v' w9 ownN hgrow hnil hat
        have ownK := (own2.alloc (.cells #[.int .i64 x.core, .int .u32 x.val, .int .i64 x.span] 51)).kept hgrow ap.or
        have apN := ap.next hat (own2.alloc (.cells #[.int .i64 x.core, .int .u32 x.val, .int .i64 x.span] 51)) (by simp)
        obtain ⟨A4, c4, rfl⟩ := own_shape ownN
        obtain ⟨cH, fH⟩ := far_append hgrow w.heap.size ltB (fun e => by have := own1.lt _ e; omega)
        replace e0 := (cH 0).trans e0
        replace b := below_append (b.alloc b.size _) hgrow (by simp; have := b.size; omega) (own1.alloc _) bB2
        have hs5 : wr.heap.size ≤ w9.heap.size := by have := hgrow.size; simp at this; omega
        have hcs : (((h.take i).filter (lowB k)).flatMap Hld.enc) ++ [.int .i64 x.core, .int .u32 x.val, .int .i64 x.span] = ((h.take (i + 1)).filter (lowB k)).flatMap Hld.enc := by rw [F1.out, List.flatMap_append]; simp [Hld.enc]
        have hcs2 : ((h.take i).filter (highB k)) = ((h.take (i + 1)).filter (highB k)) := F2.out.symm
        rw [hcs] at ownN
        rw [hcs2] at ownK
        have ll1 : ((h.take (i + 1)).filter (lowB k)).length = n1 + 1 := by rw [F1.out]; simp [L1.out]
        have ll2 : ((h.take (i + 1)).filter (highB k)).length = n2 := by rw [F2.out]; exact L2.out
        have LL1 := Lib.hid ll1
        have LL2 := Lib.hid ll2
        clear cH fH hgrow hnil hat hcs hcs2 ll1 ll2 own1 own2 ap
        go_wp2_with fail
        go_roundg (n - i - 1)
        case measure => omega
        case rel => exact ⟨i + 1, A4, n1 + 1, c4, A2, n2, c2, by omega, by omega, by go_simp, rfl, by go_simp, ⟨e0, by omega, by omega, LL1.out, LL2.out, ownN, ownK, apN, b⟩⟩
      · have g1 : lowB k x = false := by simp [lowB, hc]
        have g2 : highB k x = true := by simp [highB, hc]
        rw [g1] at f1
        rw [g2] at f2
        simp only [if_true, Bool.false_eq_true, if_false, List.append_nil] at f1 f2
        have F1 := Lib.hid f1
        have F2 := Lib.hid f2
        clear f1 f2 g1 g2
        go_wp2_with (at_builtin; refine wpList_as ?_)
        intro _
        refine wpList_append_own_at _ rfl _ _ 22 rfl W0.heap.size 51 i0 _ 3 24 Try.underlying22 hi hz0 hz1 hz2 rfl (by decide) _ _ _ rfl (own2.alloc _) ⟨wr.heap.size, 0, none⟩ 1 1 [.int .i64 x.core, .int .u32 x.val, .int .i64 x.span] rfl rfl (fun j u hj => cell_new_block wr _ 51 j u hj) (by intro u hu; simp at hu; rcases hu with rfl | rfl | rfl <;> rfl) (by unfold maxLen; omega) (by omega) (by simp; omega) ?_
        intro v' w9 ownN hgrow hnil hat
        have ownK := (own1.alloc (.cells #[.int .i64 x.core, .int .u32 x.val, .int .i64 x.span] 51)).kept hgrow ap.symm.or
        have apN := ap.symm.next hat (own1.alloc (.cells #[.int .i64 x.core, .int .u32 x.val, .int .i64 x.span] 51)) (by simp)
        obtain ⟨A4, c4, rfl⟩ := own_shape ownN
        obtain ⟨cH, fH⟩ := far_append hgrow w.heap.size ltB (fun e => by have := own2.lt _ e; omega)
        replace e0 := (cH 0).trans e0
        replace b := below_append (b.alloc b.size _) hgrow (by simp; have := b.size; omega) (own2.alloc _) bB2
        have hs5 : wr.heap.size ≤ w9.heap.size := by have := hgrow.size; simp at this; omega
        have hcs : (((h.take i).filter (highB k)).flatMap Hld.enc) ++ [.int .i64 x.core, .int .u32 x.val, .int .i64 x.span] = ((h.take (i + 1)).filter (highB k)).flatMap Hld.enc := by rw [F2.out, List.flatMap_append]; simp [Hld.enc]
        have hcs2 : ((h.take i).filter (lowB k)) = ((h.take (i + 1)).filter (lowB k)) := F1.out.symm
        rw [hcs] at ownN
        rw [hcs2] at ownK
        have ll1 : ((h.take (i + 1)).filter (highB k)).length = n2 + 1 := by rw [F2.out]; simp [L2.out]
        have ll2 : ((h.take (i + 1)).filter (lowB k)).length = n1 := by rw [F1.out]; exact L1.out
        have LL1 := Lib.hid ll1
        have LL2 := Lib.hid ll2
        clear cH fH hgrow hnil hat hcs hcs2 ll1 ll2 own1 own2 ap
        go_wp2_with fail
        go_roundg (n - i - 1)
        case measure => omega
        case rel => exact ⟨i + 1, A1, n1, c1, A4, n2 + 1, c4, by omega, by omega, rfl, by go_simp, by go_simp, ⟨e0, by omega, by omega, LL2.out, LL1.out, ownK, ownN, apN.symm, b⟩⟩
    · obtain rfl : i = n := by omega
      have hll : h.take i = h := List.take_of_length_le (Nat.le_of_eq HN.out)
      have s1 := L1.out
      have s2 := L2.out
      rw [hll] at own1 own2 s1 s2
      have t1 := Sl.of_own Hld.enc_len own1 s1
      have t2 := Sl.of_own Hld.enc_len own2 s2
      have S1 := Lib.hid s1
      have S2 := Lib.hid s2
      clear s1 s2 hll hsl own1 own2 ap
      go_wp2_with fail
      go_ret2
      exact ⟨_, _, _, _, _, _, rfl, S1.out, S2.out, t1, t2, b⟩

theorem filter_low {h : List Hld} (hr : rightB h = true) (k : Int) : h.filter (lowB k) = h.take (belowN h k) ∧ h.filter (highB k) = h.drop (belowN h k) := by
  have hs : ∀ i, i < h.length - 1 → h[i]!.span ≤ h[i + 1]!.span := by
    simp only [rightB, Bool.and_eq_true, decide_eq_true_eq, sortB] at hr; exact hr.2.2
  clear hr
  induction h with
  | nil => exact ⟨rfl, rfl⟩
  | cons x h ih =>
    have hs' : ∀ i, i < h.length - 1 → h[i]!.span ≤ h[i + 1]!.span := fun i hi => by have := hs (i + 1) (by simp; omega); simpa using this
    have up : ∀ i, i < h.length → x.span ≤ h[i]!.span := by
      intro i
      induction i with
      | zero => intro hi; have := hs 0 (by simpa using hi); simpa using this
      | succ i ihi => intro hi; have h1 := ihi (by omega); have h2 := hs' i (by omega); omega
    by_cases hx : x.span < k
    · have e1 : belowN (x :: h) k = belowN h k + 1 := by simp [belowN, hx]
      obtain ⟨i1, i2⟩ := ih hs'
      rw [e1, List.take_succ_cons, List.drop_succ_cons, ← i1, ← i2]
      simp [lowB, highB, hx]
    · have e1 : belowN (x :: h) k = 0 := by simp [belowN, hx]
      rw [e1, List.take_zero, List.drop_zero]
      have hall : ∀ y ∈ x :: h, ¬ y.span < k := by
        intro y hy
        rcases List.mem_cons.1 hy with rfl | hy
        · exact hx
        · obtain ⟨j, hj, rfl⟩ := List.getElem_of_mem hy
          have := up j hj
          rw [getElem!_pos h j hj] at this
          omega
      exact ⟨List.filter_eq_nil_iff.2 fun y hy => by simpa [lowB] using hall y hy, List.filter_eq_self.2 fun y hy => by simpa [highB] using hall y hy⟩
end Go.Proofs.Ytkkbpcnoamagcaa
