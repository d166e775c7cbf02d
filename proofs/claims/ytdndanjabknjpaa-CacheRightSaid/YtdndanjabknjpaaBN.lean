/- The walk of the reference's All. -/
import Derived.Test.YtdndanjabknjpaaBM
namespace Go.Proofs.Ytdndanjabknjpaa
open Go.RowKit Go.Lib

set_option linter.unusedVariables false
/-- Where All stands: what is left, what is out. -/
structure AInv (F L O : List Ln) (p q : Nat) : Prop where
  perm : (O ++ L).Perm F
  sorted : O.Pairwise (fun a b => a.addr ≤ b.addr)
  le : ∀ a ∈ O, ∀ b ∈ L, a.addr ≤ b.addr
  lp : L.length = p
  lq : O.length = q
theorem cons_erase (l : List Ln) {o : Nat} (ho : o < l.length) : (l[o]! :: l.eraseIdx o).Perm l := by
  rw [List.eraseIdx_eq_take_drop_succ]
  have : l = l.take o ++ l[o]! :: l.drop (o + 1) := by rw [getElem!_pos l o ho, List.getElem_cons_drop, List.take_append_drop]
  conv => rhs; rw [this]
  exact List.perm_middle.symm
theorem AInv.step {F L O : List Ln} {p q o : Nat} (h : AInv F L O p q) (ho : o < p) (hle : ∀ j, j < p → L[o]!.addr ≤ L[j]!.addr) : AInv F (L.eraseIdx o) (O ++ [L[o]!]) (p - 1) (q + 1) := by
  have hol : o < L.length := by rw [h.lp]; exact ho
  have hin : L[o]! ∈ L := by rw [getElem!_pos L o hol]; exact List.getElem_mem _
  have hleL : ∀ b ∈ L, L[o]!.addr ≤ b.addr := fun b hb => by
    obtain ⟨j, hj, rfl⟩ := List.getElem_of_mem hb
    have := hle j (by rw [← h.lp]; exact hj)
    rwa [getElem!_pos L j hj] at this
  have hsub : ∀ b ∈ L.eraseIdx o, b ∈ L := fun b hb => (List.eraseIdx_sublist L o).subset hb
  refine ⟨?_, ?_, ?_, ?_, ?_⟩
  · rw [List.append_assoc]
    exact ((cons_erase L hol).append_left O).trans h.perm
  · rw [List.pairwise_append]
    refine ⟨h.sorted, by simp, fun a ha b hb => ?_⟩
    rw [List.mem_singleton] at hb
    subst hb
    exact h.le a ha _ hin
  · intro a ha b hb
    rcases List.mem_append.1 ha with ha | ha
    · exact h.le a ha b (hsub b hb)
    · rw [List.mem_singleton] at ha
      subst ha
      exact hleL b (hsub b hb)
  · rw [List.length_eraseIdx, if_pos hol, h.lp]
  · rw [List.length_append, h.lq]; rfl
set_option maxHeartbeats 16000000 in
set_option maxRecDepth 100000 in
theorem rAll_any (A : Option Addr) (c n : Nat) (x : Ca) (hs : List Hd) (w : World) (hc : CIn w A x.lines hs) (hn : x.lines.length = n) :
    Calls Try.prog 14 #[.agg #[.int .i64 x.sets, .int .i64 x.ways, .int .i64 x.clock, .slice A n c]] w (AllL w x) := by
  obtain ⟨i0, hi0, hz0, hz1, hz2⟩ := info_parts info32
  have b0 : Below w.heap.size w (w.alloc (.cells #[.int .i64 x.sets, .int .i64 x.ways, .int .i64 x.clock, .slice A n c] 26)) := (Below.refl _ _).alloc (Nat.le_refl _) _
  have X := Bx.new w [.int .i64 x.sets, .int .i64 x.ways, .int .i64 x.clock, .slice A n c] 26
  have HC := Lib.hid (hc.below b0)
  have x0 := X.cell 0 _ rfl
  have x1 := X.cell 1 _ rfl
  have x2 := X.cell 2 _ rfl
  have x3 := X.cell 3 _ rfl
  have cR := fun w1 (h : CIn w1 A x.lines hs) => rRight_any A c n x hs w1 h hn
  cases hr : rightC x with
  | false =>
    rw [hr] at cR
    have HR := Lib.hid hr
    clear hr hc hn
    go_enter Try.func14, Try.ntmps14
    go_wp2_with fail
    generalize w.alloc (.cells #[.int .i64 x.sets, .int .i64 x.ways, .int .i64 x.clock, .slice A n c] 26) = W0 at *
    refine (cR _ HC.out).mono ?_
    rintro e w1 ⟨rfl, hb1⟩
    have b1 := b0.trans (hb1.mono b0.size)
    clear hb1 x0 x1 x2 x3 cR
    go_wp2_with fail
    go_ret
    exact ⟨none, 0, 0, [], rfl, rfl, fun h => (by rw [HR.out] at h; cases h), fun _ => rfl, Sl.nil _ _ _ _, b1⟩
  | true =>
    have h72 := flat_small hr
    have cF := fun w1 (h : CIn w1 A x.lines hs) => flat_any A c n x hs w1 h hn (by omega)
    rw [hr] at cR
    have HR := Lib.hid hr
    clear hr hc hn
    obtain ⟨F, hF⟩ : ∃ F, F = x.lines.flatten := ⟨_, rfl⟩
    rw [← hF] at cF h72
    have HF := Lib.hid hF
    obtain ⟨T, hT⟩ : ∃ T, F.length = T := ⟨_, rfl⟩
    rw [hT] at cF h72
    have HT := Lib.hid hT
    clear hF
    go_enter Try.func14, Try.ntmps14
    go_wp2_with fail
    generalize w.alloc (.cells #[.int .i64 x.sets, .int .i64 x.ways, .int .i64 x.clock, .slice A n c] 26) = W0 at *
    refine (cR _ HC.out).mono ?_
    rintro e w1 ⟨rfl, hb1⟩
    have b1 := b0.trans (hb1.mono b0.size)
    have HC1 := HC.out.below hb1
    replace X := X.below hb1
    clear hb1 x0 x1 x2 x3 cR
    have x0 := X.cell 0 _ rfl
    have x1 := X.cell 1 _ rfl
    have x2 := X.cell 2 _ rfl
    have x3 := X.cell 3 _ rfl
    go_wp2_with fail
    refine (cF _ HC1).mono ?_
    rintro e w2 ⟨v2, rfl, own2, hb2⟩
    have b2 := b1.trans (hb2.mono b1.size)
    obtain ⟨A2, c2, rfl⟩ := own_shape own2
    have S2 := Sl.of_own Ln.enc_len own2 hT
    have hcap2 := (own_cap own2).1
    clear own2 hb2 x0 x1 x2 x3 X HC1 cF b1 hT
    have I0 : AInv F F [] T 0 := ⟨by simp, by simp, fun a ha => (by cases ha), HT.out, rfl⟩
    go_wp2_with fail
    go_loopg [3, 4] T (fun gg s3 s4 wr => ∃ (A3 : Option Addr) (p c3 : Nat) (L O : List Ln) (v4 : Value) (q : Nat), p ≤ gg ∧ p + q = T ∧ s3 = .slice A3 p c3 ∧ s4 = v4 ∧ Aside (AInv F L O p q) ∧ Aside (p ≤ c3) ∧ Sl 4 Ln.enc wr A3 L ∧ wr.ownsRow w2.heap.size 32 4 v4 q (O.flatMap Ln.enc) ∧ Aside (Off L A3 v4) ∧ Aside (Below w2.heap.size w2 wr))
    case atStart => exact ⟨A2, T, c2, F, [], .slice none 0 0, 0, Nat.le_refl _, rfl, rfl, rfl, (show Aside _ from I0), (show Aside _ from hcap2), S2, World.ownsRow_nil _ _ _ _, (show Aside _ from fun _ _ _ e => (by cases e)), (show Aside _ from Below.refl _ _)⟩
    case round =>
      clear S2 I0 hcap2
      obtain ⟨A3, p, c3, L, O, v4, q, hpg, hpq, rfl, rfl, HI, HPC, S3, own4, HOF, HB⟩ := hrel
      have hsz2 := b2.size
      obtain ⟨A4, c4, rfl⟩ := own_shape own4
      by_cases hp0 : 0 < p
      · have hpz : (0 : Int) < (p : Int) := by omega
        have OW := Lib.hid own4
        have HS3 := Lib.hid S3
        clear own4 S3
        obtain ⟨w4, rfl⟩ : ∃ w4, w4 = wr := ⟨_, rfl⟩
        go_wp2_with fail
        go_loopg [5, 6] p (fun gg s5 s6 wr => ∃ i o : Nat, 1 ≤ i ∧ i ≤ p ∧ o < i ∧ p - i ≤ gg ∧ s6 = .int .i64 (i : Int) ∧ s5 = .int .i64 (o : Int) ∧ Aside (∀ j, j < i → L[o]!.addr ≤ L[j]!.addr) ∧ Aside (Below w4.heap.size w4 wr))
        case atStart => exact ⟨1, 0, Nat.le_refl _, hp0, Nat.zero_lt_one, by omega, rfl, rfl, (show Aside _ from fun j hj => by rw [show j = 0 by omega]; exact Int.le_refl _), (show Aside _ from Below.refl _ _)⟩
        case round =>
          obtain ⟨i, o, hi1, him, hoi, hgi, rfl, rfl, HLE, HB4⟩ := hrel
          by_cases hilt : i < p
          · have hiz : (i : Int) < (p : Int) := by omega
            have hoz : (o : Int) < (p : Int) := by omega
            obtain ⟨b5, o5, rfl, hq5⟩ := (HS3.out.below HB4.out).at_ i (by rw [HI.out.lp]; exact hilt)
            obtain ⟨b6, o6, e6, hq6⟩ := (HS3.out.below HB4.out).at_ o (by rw [HI.out.lp]; omega)
            obtain ⟨rfl, rfl⟩ : b5 = b6 ∧ o5 = o6 := by simpa using e6
            have u3 := hq5 0 _ rfl
            have v3 := hq6 0 _ rfl
            rw [Nat.add_zero] at u3 v3
            clear hq5 hq6 e6
            by_cases hlt : L[i]!.addr < L[o]!.addr
            · skip
              have hd : decide (L[i]!.addr < L[o]!.addr) = true := decide_eq_true hlt
              have HLT := Lib.hid hlt
              clear hlt
              generalize hui : L[i]!.addr = ui at u3 hd HLT
              generalize huo : L[o]!.addr = uo at v3 hd HLT
              have HUI := Lib.hid hui
              have HUO := Lib.hid huo
              clear hui huo
              go_wp2_with fail
              go_quiet (fail)
              go_wp2_with fail
              go_roundg (p - (i + 1))
              case measure => omega
              case rel =>
                refine ⟨i + 1, i, by omega, by omega, by omega, by omega, by first | rfl | go_num, rfl, (show Aside _ from fun j hj => ?_), (show Aside _ from bdrewN HB4.out _)⟩
                rw [HUI.out]
                by_cases e : j = i
                · subst e; rw [HUI.out]; exact Int.le_refl _
                · have h1 := HLE.out j (by omega); rw [HUO.out] at h1; have h2 := HLT.out; omega
            · skip
              have hd : decide (L[i]!.addr < L[o]!.addr) = false := decide_eq_false hlt
              have HLT := Lib.hid hlt
              clear hlt
              generalize hui : L[i]!.addr = ui at u3 hd HLT
              generalize huo : L[o]!.addr = uo at v3 hd HLT
              have HUI := Lib.hid hui
              have HUO := Lib.hid huo
              clear hui huo
              go_wp2_with fail
              go_quiet (fail)
              go_wp2_with fail
              go_roundg (p - (i + 1))
              case measure => omega
              case rel =>
                refine ⟨i + 1, o, by omega, by omega, by omega, by omega, by first | rfl | go_num, rfl, (show Aside _ from fun j hj => ?_), (show Aside _ from bdrewN HB4.out _)⟩
                by_cases e : j = i
                · subst e; rw [HUI.out, HUO.out]; have h2 := HLT.out; omega
                · exact HLE.out j (by omega)
          · obtain rfl : i = p := by omega
            have hiz : ¬ (i : Int) < (i : Int) := by omega
            have hoz : (o : Int) < (i : Int) := by omega
            have hol : o < L.length := by rw [HI.out.lp]; exact hoi
            have hst := HI.out.step hoi HLE.out
            obtain ⟨b6, o6, rfl, hq6⟩ := (HS3.out.below HB4.out).at_ o hol
            have q0 := hq6 0 _ rfl
            have q1 := hq6 1 _ rfl
            have q2 := hq6 2 _ rfl
            have q3 := hq6 3 _ rfl
            rw [Nat.add_zero] at q0
            obtain ⟨z, hz⟩ : ∃ z, L[o]! = z := ⟨_, rfl⟩
            rw [hz] at q0 q1 q2 q3 hst
            have HST := Lib.hid hst
            have own4 := own_below OW.out HB4.out
            have S4 := HS3.out.below HB4.out
            have b4 := HB.out.trans (HB4.out.mono HB.out.size)
            have hlt4 := S4.lt Ln.enc_len (by decide) (fun e => by rw [e] at hol; simp at hol) _ rfl
            have hqT : q + 1 ≤ 72 := by omega
            have OW4 := Lib.hid own4
            have HS4 := Lib.hid S4
            have h4sz := b4.size
            clear hq6 hz hst own4 S4 hpz
            go_wp2_with (at_builtin; refine wpList_as ?_)
            intro _
            refine wpList_append_own_at _ rfl _ _ 40 rfl w2.heap.size 32 i0 _ 4 32 Try.underlying40 hi0 hz0 hz1 hz2 rfl (by decide) _ _ _ rfl (OW4.out.alloc _) ⟨wr.heap.size, 0, none⟩ 1 1 [.int .i64 z.addr, .int .i64 z.state, .int .u32 z.val_, .int .i64 z.used] rfl rfl (fun j u hj => cell_new_block wr _ 32 j u hj) (Ln.enc_one z) (by unfold maxLen; omega) (by omega) (by simp; omega) ?_
            intro v' w9 ownN hgrow hnil hat
            have hbA : Below wr.heap.size wr (wr.alloc (.cells #[.int .i64 z.addr, .int .i64 z.state, .int .u32 z.val_, .int .i64 z.used] 32)) := bnew
            have S9 := (HS4.out.below hbA).grown hgrow HOF.out
            have b9 : Below w2.heap.size w2 w9 := below_append (k := 4) (b4.alloc h4sz (.cells #[.int .i64 z.addr, .int .i64 z.state, .int .u32 z.val_, .int .i64 z.used] 32)) hgrow (by simp; omega) (OW4.out.alloc _) (Nat.le_refl _)
            have hof9 : Off L (some ⟨b6, o6, none⟩) v' := fun hne a e => by
              have e0 := HOF.out hne a e
              rcases hat with h | h
              · rw [h]; exact e0
              · rw [h]
                intro e2
                have : a.block = b6 := by rw [← Option.some.inj e]
                have e3 := Option.some.inj e2
                simp at e3
                omega
            have e9 : O.flatMap Ln.enc ++ [.int .i64 z.addr, .int .i64 z.state, .int .u32 z.val_, .int .i64 z.used] = (O ++ [z]).flatMap Ln.enc := by rw [List.flatMap_append]; rfl
            rw [e9] at ownN
            have cW := without_any (some ⟨b6, o6, none⟩) i c3 o L w9 S9 HI.out.lp HPC.out hoi (by omega)
            have OW9 := Lib.hid ownN
            clear hgrow hnil hat ownN e9 S9 hof9 q0 q1 q2 q3 hbA
            go_wp2_with fail
            refine cW.mono ?_
            rintro e w10 ⟨v10, rfl, own10, hb10⟩
            obtain ⟨A5, c5, rfl⟩ := own_shape own10
            have hcap5 := (own_cap own10).1
            have S10 := Sl.of_own Ln.enc_len own10 HST.out.lp
            have own11 := own_below OW9.out hb10
            have hof10 : Off (L.eraseIdx o) A5 v' := fun hne a e e2 => by
              have h1 := own_fresh own10 (Nat.le_refl _) a e
              have h2 := (OW9.out.lt _ e2).2
              omega
            have HOF10 := Lib.hid hof10
            have HCAP5 := Lib.hid hcap5
            have b10 := Lib.hid (b9.trans (hb10.mono b9.size))
            clear own10 hb10 cW hof10 hcap5
            go_wp2_with fail
            go_roundg (i - 1)
            case measure => omega
            case rel => exact ⟨A5, i - 1, c5, _, _, v', q + 1, Nat.le_refl _, by omega, rfl, rfl, (show Aside _ from HST.out), (show Aside _ from HCAP5.out), S10, own11, (show Aside _ from HOF10.out), (show Aside _ from b10.out)⟩
      · obtain rfl : p = 0 := by omega
        have hpz : ¬ (0 : Int) < ((0 : Nat) : Int) := by omega
        have hL : L = [] := List.eq_nil_of_length_eq_zero HI.out.lp
        have hpm := HI.out.perm
        rw [hL, List.append_nil, HF.out] at hpm
        have HPM := Lib.hid hpm
        have S4 := Sl.of_own Ln.enc_len own4 HI.out.lq
        have bF := b2.trans (HB.out.mono b2.size)
        clear hL hpm own4 S3
        go_wp2_with fail
        go_ret
        exact ⟨A4, q, c4, O, rfl, HI.out.lq, fun _ => ⟨HPM.out, HI.out.sorted⟩, fun h => (by rw [HR.out] at h; cases h), S4, bF⟩
end Go.Proofs.Ytdndanjabknjpaa
