/- The walk of cache.Put, where a line goes out. -/
import Derived.Test.YtdndanjabknjpaaV
namespace Go.Proofs.Ytdndanjabknjpaa
open Go.RowKit Go.Lib

set_option linter.unusedVariables false
attribute [local go_sem] Act.puts

set_option maxHeartbeats 16000000 in
set_option maxRecDepth 100000 in
theorem put_push (A : Option Addr) (c n : Nat) (x : Ca) (hs : List Hd) (t st v : Int) (w : World) (hc : CIn w A x.lines hs) (hn : x.lines.length = n) (hn1 : n ≤ 1000000) (hb : ∀ s, s < n → x.lines[s]!.length ≤ 1000000) (hwf : WfC x) (hm : mayC x t = true) (h1 : ¬ st < 1) (h2 : ¬ 4 < st) (hi : idxA (setOf x t) t < 0) (hnw : ((setOf x t).length : Int) = x.ways) :
    Calls Try.prog 8 #[.agg #[.int .i64 x.sets, .int .i64 x.ways, .int .i64 x.clock, .slice A n c], .int .i64 t, .int .i64 st, .int .u32 v] w (GivesP w (putC x t st v)) := by
  have b0 : Below w.heap.size w (((w.alloc (.cells #[.int .i64 x.sets, .int .i64 x.ways, .int .i64 x.clock, .slice A n c] 26)).alloc (.cells #[.int .i64 0, .int .i64 0, .int .i64 0, .slice none 0 0] 26)).alloc (.cells #[.int .i64 0, .int .i64 0, .int .u32 0, .int .i64 0] 32)) := (((Below.refl _ _).alloc (Nat.le_refl _) _).alloc (by simp) _).alloc (by simp; omega) _
  have X0 := ((Bx.new w [.int .i64 x.sets, .int .i64 x.ways, .int .i64 x.clock, .slice A n c] 26).alloc (.cells #[.int .i64 0, .int .i64 0, .int .i64 0, .slice none 0 0] 26)).alloc (.cells #[.int .i64 0, .int .i64 0, .int .u32 0, .int .i64 0] 32)
  have X8 := (Bx.new (w.alloc (.cells #[.int .i64 x.sets, .int .i64 x.ways, .int .i64 x.clock, .slice A n c] 26)) [.int .i64 0, .int .i64 0, .int .i64 0, .slice none 0 0] 26).alloc (.cells #[.int .i64 0, .int .i64 0, .int .u32 0, .int .i64 0] 32)
  have X9 := Bx.new ((w.alloc (.cells #[.int .i64 x.sets, .int .i64 x.ways, .int .i64 x.clock, .slice A n c] 26)).alloc (.cells #[.int .i64 0, .int .i64 0, .int .i64 0, .slice none 0 0] 26)) (Ln.enc zeroL) 32
  rw [show (w.alloc (.cells #[.int .i64 x.sets, .int .i64 x.ways, .int .i64 x.clock, .slice A n c] 26)).heap.size = w.heap.size + 1 by simp] at X8
  rw [show ((w.alloc (.cells #[.int .i64 x.sets, .int .i64 x.ways, .int .i64 x.clock, .slice A n c] 26)).alloc (.cells #[.int .i64 0, .int .i64 0, .int .i64 0, .slice none 0 0] 26)).heap.size = w.heap.size + 2 by simp] at X9
  have HC := Lib.hid (hc.below b0)
  have cD := fun w1 (h : CIn w1 A x.lines hs) => copied_any A c n x hs w1 h hn hn1 hb
  have cM := fun w1 (h : CIn w1 A x.lines hs) => may_any A c n x hs t w1 h hn hwf
  have HN := Lib.hid hn
  have HBD := Lib.hid hb
  clear hc hwf hb
  have x0 := X0.cell 0 _ rfl
  have x1 := X0.cell 1 _ rfl
  have x2 := X0.cell 2 _ rfl
  have x3 := X0.cell 3 _ rfl
  obtain ⟨hr, ht, hclk⟩ := may_facts hm
  obtain ⟨s, hst, hsl, h0⟩ := set_of hr ht
  have hrf := right_facts hr
  have hsn : s < n := by rw [← HN.out]; exact hsl
  have hP : putC x t st v = (if idxA x.lines[s]! t < 0 then (⟨x.sets, x.ways, x.clock + 1, x.lines.set s ((pushC x x.lines[s]!).1 ++ [⟨t, st, v, x.clock + 1⟩])⟩, (pushC x x.lines[s]!).2, 0)
      else (⟨x.sets, x.ways, x.clock + 1, x.lines.set s (x.lines[s]!.set (idxA x.lines[s]! t).toNat ⟨t, st, v, x.clock + 1⟩)⟩, zeroL, 0)) := by
    unfold putC setOf
    rw [if_pos ⟨hm, by omega, by omega⟩, hst, Int.toNat_natCast]
  have cP := fun w1 B d hs1 h => place_any B d n s x hs1 t w1 h HN.out hsn hst h0 hn1
  rw [hm] at cM
  have q1 : decide (st < 1) = false := decide_eq_false h1
  have q2 : decide (4 < st) = false := decide_eq_false h2
  have hclk0 : 0 ≤ x.clock := by omega
  have hwy : x.ways ≤ 8 := by omega
  have hi2 : idxA x.lines[s]! t < 0 := by unfold setOf at hi; rw [hst, Int.toNat_natCast] at hi; exact hi
  have hnw2 : (x.lines[s]!.length : Int) = x.ways := by unfold setOf at hnw; rw [hst, Int.toNat_natCast] at hnw; exact hnw
  have hw1 : 1 ≤ x.ways := by omega
  clear hi hnw
  clear hm h1 h2 hr hst h0 hrf
  go_enter Try.func8, Try.ntmps8
  go_wp2_with fail
  replace X9 : Bx (((w.alloc (.cells #[.int .i64 x.sets, .int .i64 x.ways, .int .i64 x.clock, .slice A n c] 26)).alloc (.cells #[.int .i64 0, .int .i64 0, .int .i64 0, .slice none 0 0] 26)).alloc (.cells #[.int .i64 0, .int .i64 0, .int .u32 0, .int .i64 0] 32)) (w.heap.size + 2) (Ln.enc zeroL) := X9
  generalize ((w.alloc (.cells #[.int .i64 x.sets, .int .i64 x.ways, .int .i64 x.clock, .slice A n c] 26)).alloc (.cells #[.int .i64 0, .int .i64 0, .int .i64 0, .slice none 0 0] 26)).alloc (.cells #[.int .i64 0, .int .i64 0, .int .u32 0, .int .i64 0] 32) = W0 at *
  refine (cD _ HC.out).mono ?_
  rintro e w1 ⟨B, d, rfl, ⟨hs1, own1⟩, hb1⟩
  have hW1 := X9.lt
  have hltV : ∀ g, (Value.slice B n d).ownBlock = some g → g < w1.heap.size := fun g hg => (own1.outer.lt g hg).2
  have hltI : ∀ j, j < n → ∀ g, hs1[j]!.val.ownBlock = some g → g < w1.heap.size := fun j hj g hg => ((own1.inner j hj).2.lt g hg).2
  have b1 := b0.trans (hb1.mono b0.size)
  have HC1 := Lib.hid ((HC.out.below hb1).below ((Below.refl _ _).alloc (Nat.le_refl _) (.cells #[.int .i64 x.sets, .int .i64 x.ways, .int .i64 x.clock, .slice B n d] 26)))
  replace X0 := (X0.below hb1).alloc (.cells #[.int .i64 x.sets, .int .i64 x.ways, .int .i64 x.clock, .slice B n d] 26)
  replace X8 := (X8.below hb1).alloc (.cells #[.int .i64 x.sets, .int .i64 x.ways, .int .i64 x.clock, .slice B n d] 26)
  replace X9 := (X9.below hb1).alloc (.cells #[.int .i64 x.sets, .int .i64 x.ways, .int .i64 x.clock, .slice B n d] 26)
  have D := Bx.new w1 [.int .i64 x.sets, .int .i64 x.ways, .int .i64 x.clock, .slice B n d] 26
  have own2 := own1.below ((Below.refl _ _).alloc (Nat.le_refl _) (.cells #[.int .i64 x.sets, .int .i64 x.ways, .int .i64 x.clock, .slice B n d] 26))
  have b2 := b1.alloc b1.size (.cells #[.int .i64 x.sets, .int .i64 x.ways, .int .i64 x.clock, .slice B n d] 26)
  have hD0 : W0.heap.size ≤ w1.heap.size := hb1.size
  have hW0 := b0.size
  clear cD hb1 own1 b1 b0 x0 x1 x2 x3
  have x0 := X0.cell 0 _ rfl
  have x1 := X0.cell 1 _ rfl
  have x2 := X0.cell 2 _ rfl
  have x3 := X0.cell 3 _ rfl
  go_wp2_with fail
  generalize w1.alloc (.cells #[.int .i64 x.sets, .int .i64 x.ways, .int .i64 x.clock, .slice B n d] 26) = W2 at *
  generalize w1.heap.size = DX at *
  refine (cM _ HC1.out).mono ?_
  rintro e w3 ⟨rfl, hb3⟩
  replace X8 := X8.below hb3
  replace X9 := X9.below hb3
  replace D := D.below hb3
  have own3 := own2.below hb3
  have b3 := b2.trans (hb3.mono b2.size)
  clear cM hb3 own2 b2 x0 x1 x2 x3 X0
  have hg0 : ∃ g, B = some ⟨g, 0, none⟩ := by
    obtain ⟨g, d', eB⟩ := own_slice own3.outer (by omega)
    injection eB with e1 e2 e3
    exact ⟨g, e1⟩
  obtain ⟨g, rfl⟩ := hg0
  have hlt3 := D.lt
  have bA : Below w3.heap.size w3 (w3.alloc (.cells #[.int .i64 0, .int .i64 0, .int .u32 0, .int .i64 0] 32)) := (Below.refl _ _).alloc (Nat.le_refl _) _
  have ST : PutS w W0.heap.size DX w3.heap.size g n d x x.lines zeroL (w3.alloc (.cells #[.int .i64 0, .int .i64 0, .int .u32 0, .int .i64 0] 32)) hs1 :=
    ⟨D.below bA, Bx.new w3 (Ln.enc zeroL) 32, X8.below bA, X9.below bA, own3.below bA, fun j hj b e => by have := hltI j hj b e; omega, b3.alloc b3.size _, by have := hltV g rfl; have := (own3.outer.lt g rfl).1; omega⟩
  have cP1 := cP (w3.alloc (.cells #[.int .i64 0, .int .i64 0, .int .u32 0, .int .i64 0] 32)) (some ⟨g, 0, none⟩) d hs1 ST.own.cin
  have D := ST.D
  have d0 := D.cell 0 _ rfl
  have d1 := D.cell 1 _ rfl
  have d2 := D.cell 2 _ rfl
  have d3 := D.cell 3 _ rfl
  clear cP bA X8 X9 own3 b3 hltV hltI hlt3
  rcases idxA_cases x.lines[s]! t with ⟨hi, hno⟩ | ⟨k, hk, hi, hka, hno⟩
  rotate_left
  · omega
  rw [hi] at cP1 hP
  rw [if_pos (by omega)] at hP
  have HP := Lib.hid hP
  have h0l : 0 < x.lines[s]!.length := by omega
  have hp0 : pushC x x.lines[s]! = (x.lines[s]!.filter (fun y => !decide (y = minD x.lines[s]!)), minD x.lines[s]!) := by unfold pushC; rw [if_pos hnw2]
  clear hi hi2 hno hsl hP hw1
  go_wp2_with fail
  generalize w3.alloc (.cells #[.int .i64 0, .int .i64 0, .int .u32 0, .int .i64 0] 32) = W3 at *
  generalize w3.heap.size = OX at *
  refine cP1.mono ?_
  rintro e w4 ⟨rfl, hb4⟩
  replace ST := ST.below hb4
  clear cP1 hb4 D d0 d1 d2 d3
  have d1 := ST.D.cell 1 _ rfl
  have d3 := ST.D.cell 3 _ rfl
  obtain ⟨B7, m7, c7, he7, hm7, hmc7, orow7⟩ := ST.own.hdr hsn
  have hcell := ST.own.cellAt hsn he7
  have hsz : (s : Int) < (n : Int) := by omega
  have qw : ((m7 : Int) == x.ways) = true := by rw [beq_iff_eq, ← hm7]; exact hnw2
  have hmx : m7 ≤ 1000000 := by rw [← hm7]; exact HBD.out s hsn
  have HM7 := Lib.hid hm7
  have HE7 := Lib.hid he7
  clear hm7 he7 orow7
  go_wp2_with fail
  go_quiet (fail)
  go_wp2_with fail
  replace ST := ST.below (bdrewN (Below.refl _ _) nq)
  clear d1 d3 hcell
  generalize w4.drewN nq = w6 at *
  clear hnw2 qw hmx HM7 HE7 hmc7
  obtain ⟨b, m, c2, he, hm, hmc, hbb, hbl, orow⟩ := ST.own.at_ hsn h0l
  have hcell := ST.own.cellAt hsn he
  have hfg := own_frozen ST.own.outer s
  have d3 := ST.D.cell 3 _ rfl
  have hsz : (s : Int) < (n : Int) := by omega
  have hm8 : m ≤ 1000000 := by rw [← hm]; exact HBD.out s hsn
  have hrw := ST.rows s hsn b (by rw [he]; rfl)
  have hgb : g ≠ b := fun e => by
    subst e
    rcases own_two ST.own.outer orow (by decide) with h | h
    · cases h
    · exact h rfl
  obtain ⟨l, hl⟩ : ∃ l, l = x.lines[s]! := ⟨_, rfl⟩
  have HL := Lib.hid hl
  rw [← hl] at orow hm
  have hm0 : 0 < m := by rw [← hm, hl]; exact h0l
  have HM := Lib.hid hm
  have HE := Lib.hid he
  obtain ⟨mo, hmo⟩ : ∃ mo, mo = minD l := ⟨_, rfl⟩
  obtain ⟨k, hk⟩ : ∃ k, (l.filter fun y => !decide (y = mo)).length = k := ⟨_, rfl⟩
  have HK8 := Lib.hid hk
  have HMO := Lib.hid hmo
  have hkm : k ≤ 1000000 := by have := List.length_filter_le (fun y => !decide (y = mo)) l; omega
  obtain ⟨hn1', hn2', hn3', hn4', hn5', hn6'⟩ := ST.num
  have O := ST.O
  have orow2 : w6.drew.ownsRow W0.heap.size 32 4 (.slice (some ⟨b, 0, none⟩) m c2) m (l.flatMap Ln.enc) := orow
  have d3d : w6.drew.cell? ⟨DX, 3, none⟩ = some (.slice (some ⟨g, 0, none⟩) n d) := d3
  have hcd : w6.drew.cell? ⟨g, s, none⟩ = some (.slice (some ⟨b, 0, none⟩) m c2) := hcell
  have hfd : w6.drew.frozen? ⟨g, s, none⟩ = false := hfg
  have Od : Bx w6.drew OX (Ln.enc zeroL) := O.below (Below.refl _ _).drew
  have hbD := hrw.1
  have hbO := hrw.2
  clear he hm hl orow hrw hk hmo hbl
  refine wp_region_rg (by kernel_rfl) (by kernel_rfl) [50, 51, 52, 53, 54, 55, 56, 57, 58, 49, 59, 60, 61] (PhRPhi w6.drew W0.heap.size DX OX g b n d m c2 s k l mo hs1) ?h0 ⟨?q0, ?q1, ?q2, ?q3, ?q4, ?q5, ?q6, ?q7, ?q8, ?q9, ?q10, ?q11, ?q12, ?q13, ?q14, trivial⟩ ?hend
  case h0 => exact ⟨_, _, _, _, _, _, _, _, _, _, _, _, _, _, rfl, ⟨trivial, (fun h => by cases h), (fun h => by cases h), (fun h => by cases h), (fun h => by cases h), (fun h => by cases h), (fun h => by cases h), (fun h => by cases h), (fun h => by cases h), (fun h => by cases h), (fun h => by cases h), (fun h => by cases h), (fun h => by cases h), (fun h => by cases h), (d3d), (Od), (fun _ => hcd), (fun _ => hfd), (fun _ => orow2), (fun h => by cases h), (fun _ => World.grownBy.refl _ _), (fun h => by cases h)⟩, rfl⟩
  case q0 =>
    rintro L vs w' K ⟨u50, u51, u52, u53, u54, u55, u56, u57, u58, u49, u59, u60, u61, wz, rfl, φ, rfl⟩ hL hpre hcl hK G hG
    simp [Region.binds, closedFrom] at hpre hcl
    have hst : L 14 = false := by
      cases h : L 14 with
      | false => rfl
      | true => simp [h, hL] at hcl
    simp only [hst, Bool.false_eq_true, if_false] at hK hG
    have hk := hK [(.pointer (some ⟨DX, 3, none⟩)), u51, u52, u53, u54, u55, u56, u57, u58, u49, u59, u60, u61] wz ⟨_, _, _, _, _, _, _, _, _, _, _, _, _, wz, rfl,
      { b := φ.b,
        s0 := fun _ => rfl,
        s1 := fun h0 => φ.s1 (by simpa using h0),
        s2 := fun h0 => φ.s2 (by simpa using h0),
        s3 := fun h0 => φ.s3 (by simpa using h0),
        s4 := fun h0 => φ.s4 (by simpa using h0),
        s5 := fun h0 => φ.s5 (by simpa using h0),
        s6 := fun h0 => φ.s6 (by simpa using h0),
        s7 := fun h0 => φ.s7 (by simpa using h0),
        s8 := fun h0 => φ.s8 (by simpa using h0),
        s9 := fun h0 => φ.s9 (by simpa using h0),
        s10 := fun h0 => φ.s10 (by simpa using h0),
        s11 := fun h0 => φ.s11 (by simpa using h0),
        s12 := fun h0 => φ.s12 (by simpa using h0),
        d3 := φ.d3,
        ox := φ.ox,
        h3 := fun h0 => φ.h3 (by simpa using h0),
        fg := fun h0 => φ.fg (by simpa using h0),
        o0 := fun h0 => φ.o0 (by simpa using h0),
        o1 := fun h0 h1 => φ.o1 (by simpa using h0) (by simpa using h1),
        g0 := fun h0 => φ.g0 (by simpa using h0),
        g1 := fun h0 => φ.g1 (by simpa using h0) }, by simp [hst]⟩
    refine hG ?_
    clear hK φ hG
    revert hk
    go_simp
    first | done | exact fun h => h
  case q1 =>
    rintro L vs w' K ⟨u50, u51, u52, u53, u54, u55, u56, u57, u58, u49, u59, u60, u61, wz, rfl, φ, rfl⟩ hL hpre hcl hK G hG
    simp [Region.binds, closedFrom] at hpre hcl
    have hst : L 14 = false := by
      cases h : L 14 with
      | false => rfl
      | true => simp [h, hL] at hcl
    simp only [hst, Bool.false_eq_true, if_false] at hK hG
    have e0 := φ.s0 (by simp [hpre])
    subst e0
    have c3 := φ.d3
    have hk := hK [(.pointer (some ⟨DX, 3, none⟩)), (.slice (some ⟨g, 0, none⟩) n d), u52, u53, u54, u55, u56, u57, u58, u49, u59, u60, u61] wz ⟨_, _, _, _, _, _, _, _, _, _, _, _, _, wz, rfl,
      { b := φ.b,
        s0 := fun h0 => φ.s0 (by simpa using h0),
        s1 := fun _ => rfl,
        s2 := fun h0 => φ.s2 (by simpa using h0),
        s3 := fun h0 => φ.s3 (by simpa using h0),
        s4 := fun h0 => φ.s4 (by simpa using h0),
        s5 := fun h0 => φ.s5 (by simpa using h0),
        s6 := fun h0 => φ.s6 (by simpa using h0),
        s7 := fun h0 => φ.s7 (by simpa using h0),
        s8 := fun h0 => φ.s8 (by simpa using h0),
        s9 := fun h0 => φ.s9 (by simpa using h0),
        s10 := fun h0 => φ.s10 (by simpa using h0),
        s11 := fun h0 => φ.s11 (by simpa using h0),
        s12 := fun h0 => φ.s12 (by simpa using h0),
        d3 := φ.d3,
        ox := φ.ox,
        h3 := fun h0 => φ.h3 (by simpa using h0),
        fg := fun h0 => φ.fg (by simpa using h0),
        o0 := fun h0 => φ.o0 (by simpa using h0),
        o1 := fun h0 h1 => φ.o1 (by simpa using h0) (by simpa using h1),
        g0 := fun h0 => φ.g0 (by simpa using h0),
        g1 := fun h0 => φ.g1 (by simpa using h0) }, by simp [hst]⟩
    refine hG ?_
    clear hK φ hG
    revert hk
    go_simp
    first | done | exact fun h => h
  case q2 =>
    rintro L vs w' K ⟨u50, u51, u52, u53, u54, u55, u56, u57, u58, u49, u59, u60, u61, wz, rfl, φ, rfl⟩ hL hpre hcl hK G hG
    simp [Region.binds, closedFrom] at hpre hcl
    have hst : L 14 = false := by
      cases h : L 14 with
      | false => rfl
      | true => simp [h, hL] at hcl
    simp only [hst, Bool.false_eq_true, if_false] at hK hG
    have hk := hK [u50, u51, (.int .i64 (s : Int)), u53, u54, u55, u56, u57, u58, u49, u59, u60, u61] wz ⟨_, _, _, _, _, _, _, _, _, _, _, _, _, wz, rfl,
      { b := φ.b,
        s0 := fun h0 => φ.s0 (by simpa using h0),
        s1 := fun h0 => φ.s1 (by simpa using h0),
        s2 := fun _ => rfl,
        s3 := fun h0 => φ.s3 (by simpa using h0),
        s4 := fun h0 => φ.s4 (by simpa using h0),
        s5 := fun h0 => φ.s5 (by simpa using h0),
        s6 := fun h0 => φ.s6 (by simpa using h0),
        s7 := fun h0 => φ.s7 (by simpa using h0),
        s8 := fun h0 => φ.s8 (by simpa using h0),
        s9 := fun h0 => φ.s9 (by simpa using h0),
        s10 := fun h0 => φ.s10 (by simpa using h0),
        s11 := fun h0 => φ.s11 (by simpa using h0),
        s12 := fun h0 => φ.s12 (by simpa using h0),
        d3 := φ.d3,
        ox := φ.ox,
        h3 := fun h0 => φ.h3 (by simpa using h0),
        fg := fun h0 => φ.fg (by simpa using h0),
        o0 := fun h0 => φ.o0 (by simpa using h0),
        o1 := fun h0 h1 => φ.o1 (by simpa using h0) (by simpa using h1),
        g0 := fun h0 => φ.g0 (by simpa using h0),
        g1 := fun h0 => φ.g1 (by simpa using h0) }, by simp [hst]⟩
    refine hG ?_
    clear hK φ hG
    revert hk
    go_simp
    first | done | exact fun h => h
  case q3 =>
    rintro L vs w' K ⟨u50, u51, u52, u53, u54, u55, u56, u57, u58, u49, u59, u60, u61, wz, rfl, φ, rfl⟩ hL hpre hcl hK G hG
    simp [Region.binds, closedFrom] at hpre hcl
    have hst : L 14 = false := by
      cases h : L 14 with
      | false => rfl
      | true => simp [h, hL] at hcl
    simp only [hst, Bool.false_eq_true, if_false] at hK hG
    have hk := hK [u50, u51, u52, (.pointer (some ⟨DX, 3, none⟩)), u54, u55, u56, u57, u58, u49, u59, u60, u61] wz ⟨_, _, _, _, _, _, _, _, _, _, _, _, _, wz, rfl,
      { b := φ.b,
        s0 := fun h0 => φ.s0 (by simpa using h0),
        s1 := fun h0 => φ.s1 (by simpa using h0),
        s2 := fun h0 => φ.s2 (by simpa using h0),
        s3 := fun _ => rfl,
        s4 := fun h0 => φ.s4 (by simpa using h0),
        s5 := fun h0 => φ.s5 (by simpa using h0),
        s6 := fun h0 => φ.s6 (by simpa using h0),
        s7 := fun h0 => φ.s7 (by simpa using h0),
        s8 := fun h0 => φ.s8 (by simpa using h0),
        s9 := fun h0 => φ.s9 (by simpa using h0),
        s10 := fun h0 => φ.s10 (by simpa using h0),
        s11 := fun h0 => φ.s11 (by simpa using h0),
        s12 := fun h0 => φ.s12 (by simpa using h0),
        d3 := φ.d3,
        ox := φ.ox,
        h3 := fun h0 => φ.h3 (by simpa using h0),
        fg := fun h0 => φ.fg (by simpa using h0),
        o0 := fun h0 => φ.o0 (by simpa using h0),
        o1 := fun h0 h1 => φ.o1 (by simpa using h0) (by simpa using h1),
        g0 := fun h0 => φ.g0 (by simpa using h0),
        g1 := fun h0 => φ.g1 (by simpa using h0) }, by simp [hst]⟩
    refine hG ?_
    clear hK φ hG
    revert hk
    go_simp
    first | done | exact fun h => h
  case q4 =>
    rintro L vs w' K ⟨u50, u51, u52, u53, u54, u55, u56, u57, u58, u49, u59, u60, u61, wz, rfl, φ, rfl⟩ hL hpre hcl hK G hG
    simp [Region.binds, closedFrom] at hpre hcl
    have hst : L 14 = false := by
      cases h : L 14 with
      | false => rfl
      | true => simp [h, hL] at hcl
    simp only [hst, Bool.false_eq_true, if_false] at hK hG
    have e3 := φ.s3 (by simp [hpre])
    subst e3
    have c3 := φ.d3
    have hk := hK [u50, u51, u52, (.pointer (some ⟨DX, 3, none⟩)), (.slice (some ⟨g, 0, none⟩) n d), u55, u56, u57, u58, u49, u59, u60, u61] wz ⟨_, _, _, _, _, _, _, _, _, _, _, _, _, wz, rfl,
      { b := φ.b,
        s0 := fun h0 => φ.s0 (by simpa using h0),
        s1 := fun h0 => φ.s1 (by simpa using h0),
        s2 := fun h0 => φ.s2 (by simpa using h0),
        s3 := fun h0 => φ.s3 (by simpa using h0),
        s4 := fun _ => rfl,
        s5 := fun h0 => φ.s5 (by simpa using h0),
        s6 := fun h0 => φ.s6 (by simpa using h0),
        s7 := fun h0 => φ.s7 (by simpa using h0),
        s8 := fun h0 => φ.s8 (by simpa using h0),
        s9 := fun h0 => φ.s9 (by simpa using h0),
        s10 := fun h0 => φ.s10 (by simpa using h0),
        s11 := fun h0 => φ.s11 (by simpa using h0),
        s12 := fun h0 => φ.s12 (by simpa using h0),
        d3 := φ.d3,
        ox := φ.ox,
        h3 := fun h0 => φ.h3 (by simpa using h0),
        fg := fun h0 => φ.fg (by simpa using h0),
        o0 := fun h0 => φ.o0 (by simpa using h0),
        o1 := fun h0 h1 => φ.o1 (by simpa using h0) (by simpa using h1),
        g0 := fun h0 => φ.g0 (by simpa using h0),
        g1 := fun h0 => φ.g1 (by simpa using h0) }, by simp [hst]⟩
    refine hG ?_
    clear hK φ hG
    revert hk
    go_simp
    first | done | exact fun h => h
  case q5 =>
    rintro L vs w' K ⟨u50, u51, u52, u53, u54, u55, u56, u57, u58, u49, u59, u60, u61, wz, rfl, φ, rfl⟩ hL hpre hcl hK G hG
    simp [Region.binds, closedFrom] at hpre hcl
    have hst : L 14 = false := by
      cases h : L 14 with
      | false => rfl
      | true => simp [h, hL] at hcl
    simp only [hst, Bool.false_eq_true, if_false] at hK hG
    have hk := hK [u50, u51, u52, u53, u54, (.int .i64 (s : Int)), u56, u57, u58, u49, u59, u60, u61] wz ⟨_, _, _, _, _, _, _, _, _, _, _, _, _, wz, rfl,
      { b := φ.b,
        s0 := fun h0 => φ.s0 (by simpa using h0),
        s1 := fun h0 => φ.s1 (by simpa using h0),
        s2 := fun h0 => φ.s2 (by simpa using h0),
        s3 := fun h0 => φ.s3 (by simpa using h0),
        s4 := fun h0 => φ.s4 (by simpa using h0),
        s5 := fun _ => rfl,
        s6 := fun h0 => φ.s6 (by simpa using h0),
        s7 := fun h0 => φ.s7 (by simpa using h0),
        s8 := fun h0 => φ.s8 (by simpa using h0),
        s9 := fun h0 => φ.s9 (by simpa using h0),
        s10 := fun h0 => φ.s10 (by simpa using h0),
        s11 := fun h0 => φ.s11 (by simpa using h0),
        s12 := fun h0 => φ.s12 (by simpa using h0),
        d3 := φ.d3,
        ox := φ.ox,
        h3 := fun h0 => φ.h3 (by simpa using h0),
        fg := fun h0 => φ.fg (by simpa using h0),
        o0 := fun h0 => φ.o0 (by simpa using h0),
        o1 := fun h0 h1 => φ.o1 (by simpa using h0) (by simpa using h1),
        g0 := fun h0 => φ.g0 (by simpa using h0),
        g1 := fun h0 => φ.g1 (by simpa using h0) }, by simp [hst]⟩
    refine hG ?_
    clear hK φ hG
    revert hk
    go_simp
    first | done | exact fun h => h
  case q6 =>
    rintro L vs w' K ⟨u50, u51, u52, u53, u54, u55, u56, u57, u58, u49, u59, u60, u61, wz, rfl, φ, rfl⟩ hL hpre hcl hK G hG
    simp [Region.binds, closedFrom] at hpre hcl
    have hst : L 14 = false := by
      cases h : L 14 with
      | false => rfl
      | true => simp [h, hL] at hcl
    simp only [hst, Bool.false_eq_true, if_false] at hK hG
    have e4 := φ.s4 (by simp [hpre])
    subst e4
    have e5 := φ.s5 (by simp [hpre])
    subst e5
    have hk := hK [u50, u51, u52, u53, (.slice (some ⟨g, 0, none⟩) n d), (.int .i64 (s : Int)), (.pointer (some ⟨g, s, none⟩)), u57, u58, u49, u59, u60, u61] wz ⟨_, _, _, _, _, _, _, _, _, _, _, _, _, wz, rfl,
      { b := φ.b,
        s0 := fun h0 => φ.s0 (by simpa using h0),
        s1 := fun h0 => φ.s1 (by simpa using h0),
        s2 := fun h0 => φ.s2 (by simpa using h0),
        s3 := fun h0 => φ.s3 (by simpa using h0),
        s4 := fun h0 => φ.s4 (by simpa using h0),
        s5 := fun h0 => φ.s5 (by simpa using h0),
        s6 := fun _ => rfl,
        s7 := fun h0 => φ.s7 (by simpa using h0),
        s8 := fun h0 => φ.s8 (by simpa using h0),
        s9 := fun h0 => φ.s9 (by simpa using h0),
        s10 := fun h0 => φ.s10 (by simpa using h0),
        s11 := fun h0 => φ.s11 (by simpa using h0),
        s12 := fun h0 => φ.s12 (by simpa using h0),
        d3 := φ.d3,
        ox := φ.ox,
        h3 := fun h0 => φ.h3 (by simpa using h0),
        fg := fun h0 => φ.fg (by simpa using h0),
        o0 := fun h0 => φ.o0 (by simpa using h0),
        o1 := fun h0 h1 => φ.o1 (by simpa using h0) (by simpa using h1),
        g0 := fun h0 => φ.g0 (by simpa using h0),
        g1 := fun h0 => φ.g1 (by simpa using h0) }, by simp [hst]⟩
    refine hG ?_
    clear hK φ hG
    revert hk
    go_simp
    first | done | exact fun h => h
  case q7 =>
    rintro L vs w' K ⟨u50, u51, u52, u53, u54, u55, u56, u57, u58, u49, u59, u60, u61, wz, rfl, φ, rfl⟩ hL hpre hcl hK G hG
    simp [Region.binds, closedFrom] at hpre hcl
    have hst : L 14 = false := by
      cases h : L 14 with
      | false => rfl
      | true => simp [h, hL] at hcl
    simp only [hst, Bool.false_eq_true, if_false] at hK hG
    have e6 := φ.s6 (by simp [hpre])
    subst e6
    have L13 : L 13 = false := by
      cases h : L 13 with
      | false => rfl
      | true => simp [h, hL] at hcl
    have c3 := φ.h3 L13
    have hk := hK [u50, u51, u52, u53, u54, u55, (.pointer (some ⟨g, s, none⟩)), (.slice (some ⟨b, 0, none⟩) m c2), u58, u49, u59, u60, u61] wz ⟨_, _, _, _, _, _, _, _, _, _, _, _, _, wz, rfl,
      { b := φ.b,
        s0 := fun h0 => φ.s0 (by simpa using h0),
        s1 := fun h0 => φ.s1 (by simpa using h0),
        s2 := fun h0 => φ.s2 (by simpa using h0),
        s3 := fun h0 => φ.s3 (by simpa using h0),
        s4 := fun h0 => φ.s4 (by simpa using h0),
        s5 := fun h0 => φ.s5 (by simpa using h0),
        s6 := fun h0 => φ.s6 (by simpa using h0),
        s7 := fun _ => rfl,
        s8 := fun h0 => φ.s8 (by simpa using h0),
        s9 := fun h0 => φ.s9 (by simpa using h0),
        s10 := fun h0 => φ.s10 (by simpa using h0),
        s11 := fun h0 => φ.s11 (by simpa using h0),
        s12 := fun h0 => φ.s12 (by simpa using h0),
        d3 := φ.d3,
        ox := φ.ox,
        h3 := fun h0 => φ.h3 (by simpa using h0),
        fg := fun h0 => φ.fg (by simpa using h0),
        o0 := fun h0 => φ.o0 (by simpa using h0),
        o1 := fun h0 h1 => φ.o1 (by simpa using h0) (by simpa using h1),
        g0 := fun h0 => φ.g0 (by simpa using h0),
        g1 := fun h0 => φ.g1 (by simpa using h0) }, by simp [hst]⟩
    refine hG ?_
    clear hK φ hG
    revert hk
    go_simp
    first | done | exact fun h => h
  case q8 =>
    rintro L vs w' K ⟨u50, u51, u52, u53, u54, u55, u56, u57, u58, u49, u59, u60, u61, wz, rfl, φ, rfl⟩ hL hpre hcl hK G hG
    simp [Region.binds, closedFrom] at hpre hcl
    have hst : L 14 = false := by
      cases h : L 14 with
      | false => rfl
      | true => simp [h, hL] at hcl
    simp only [hst, Bool.false_eq_true, if_false] at hK hG
    have L13 : L 13 = false := by
      cases h : L 13 with
      | false => rfl
      | true => simp [h, hL] at hcl
    have e7 := φ.s7 (by simp [hpre])
    subst e7
    refine hG (step_call wz rfl 27 #[.tmp 57] #[40] rfl #[.slice (some ⟨b, 0, none⟩) m c2] (by simp [Act.eval, Act.puts, Act.put]) (enters_of Try.func27 (by kernel_rfl) rfl) (push_any b W0.heap.size m c2 l wz (φ.o0 hL) HM.out hm0 hm8) ?_)
    rintro e w9 ⟨k', rfl, hk', own9, hg9⟩
    rw [← HMO.out] at hk' own9 ⊢
    have ek : k' = k := hk'.symm.trans HK8.out
    clear hk'
    subst k'
    refine ⟨_, rfl, ?_⟩
    have hk := hK [u50, u51, u52, u53, u54, u55, u56, (.slice (some ⟨b, 0, none⟩) m c2), (.tuple #[.slice (some ⟨b, 0, none⟩) k c2, .agg #[.int .i64 mo.addr, .int .i64 mo.state, .int .u32 mo.val_, .int .i64 mo.used]]), u49, u59, u60, u61] w9 ⟨_, _, _, _, _, _, _, _, _, _, _, _, _, w9, rfl,
      { b := φ.b,
        s0 := fun h0 => φ.s0 (by simpa using h0),
        s1 := fun h0 => φ.s1 (by simpa using h0),
        s2 := fun h0 => φ.s2 (by simpa using h0),
        s3 := fun h0 => φ.s3 (by simpa using h0),
        s4 := fun h0 => φ.s4 (by simpa using h0),
        s5 := fun h0 => φ.s5 (by simpa using h0),
        s6 := fun h0 => φ.s6 (by simpa using h0),
        s7 := fun h0 => φ.s7 (by simpa using h0),
        s8 := fun _ => rfl,
        s9 := fun h0 => φ.s9 (by simpa using h0),
        s10 := fun h0 => φ.s10 (by simpa using h0),
        s11 := fun h0 => φ.s11 (by simpa using h0),
        s12 := fun h0 => φ.s12 (by simpa using h0),
        d3 := hg9.cell φ.d3 (by simp; omega),
        ox := φ.ox.grown hg9 hbO,
        h3 := fun h => hg9.cell (φ.h3 (by simpa using h)) (by simp; omega),
        fg := fun h => (frozen_of_block (hg9.block g (World.block_lt_of_cell? _ _ (φ.h3 (by simpa using h))) (by simp; omega))).trans (φ.fg (by simpa using h)),
        o0 := fun h => by simp at h,
        o1 := fun _ _ => own9,
        g0 := fun h => (φ.g0 (by simpa using h)).trans hg9,
        g1 := fun h => by simp [L13] at h }, by simp [hst]⟩
    clear hK φ hG
    revert hk
    go_simp
    first | done | exact fun h => h
  case q9 =>
    rintro L vs w' K ⟨u50, u51, u52, u53, u54, u55, u56, u57, u58, u49, u59, u60, u61, wz, rfl, φ, rfl⟩ hL hpre hcl hK G hG
    simp [Region.binds, closedFrom] at hpre hcl
    have hst : L 14 = false := by
      cases h : L 14 with
      | false => rfl
      | true => simp [h, hL] at hcl
    simp only [hst, Bool.false_eq_true, if_false] at hK hG
    have e8 := φ.s8 (by simp [hpre])
    subst e8
    have hk := hK [u50, u51, u52, u53, u54, u55, u56, u57, (.tuple #[.slice (some ⟨b, 0, none⟩) k c2, .agg #[.int .i64 mo.addr, .int .i64 mo.state, .int .u32 mo.val_, .int .i64 mo.used]]), (.tuple #[.slice (some ⟨b, 0, none⟩) k c2, .agg #[.int .i64 mo.addr, .int .i64 mo.state, .int .u32 mo.val_, .int .i64 mo.used]]), u59, u60, u61] wz ⟨_, _, _, _, _, _, _, _, _, _, _, _, _, wz, rfl,
      { b := φ.b,
        s0 := fun h0 => φ.s0 (by simpa using h0),
        s1 := fun h0 => φ.s1 (by simpa using h0),
        s2 := fun h0 => φ.s2 (by simpa using h0),
        s3 := fun h0 => φ.s3 (by simpa using h0),
        s4 := fun h0 => φ.s4 (by simpa using h0),
        s5 := fun h0 => φ.s5 (by simpa using h0),
        s6 := fun h0 => φ.s6 (by simpa using h0),
        s7 := fun h0 => φ.s7 (by simpa using h0),
        s8 := fun h0 => φ.s8 (by simpa using h0),
        s9 := fun _ => rfl,
        s10 := fun h0 => φ.s10 (by simpa using h0),
        s11 := fun h0 => φ.s11 (by simpa using h0),
        s12 := fun h0 => φ.s12 (by simpa using h0),
        d3 := φ.d3,
        ox := φ.ox,
        h3 := fun h0 => φ.h3 (by simpa using h0),
        fg := fun h0 => φ.fg (by simpa using h0),
        o0 := fun h0 => φ.o0 (by simpa using h0),
        o1 := fun h0 h1 => φ.o1 (by simpa using h0) (by simpa using h1),
        g0 := fun h0 => φ.g0 (by simpa using h0),
        g1 := fun h0 => φ.g1 (by simpa using h0) }, by simp [hst]⟩
    refine hG ?_
    clear hK φ hG
    revert hk
    go_simp
    first | done | exact fun h => h
  case q10 =>
    rintro L vs w' K ⟨u50, u51, u52, u53, u54, u55, u56, u57, u58, u49, u59, u60, u61, wz, rfl, φ, rfl⟩ hL hpre hcl hK G hG
    simp [Region.binds, closedFrom] at hpre hcl
    have hst : L 14 = false := by
      cases h : L 14 with
      | false => rfl
      | true => simp [h, hL] at hcl
    simp only [hst, Bool.false_eq_true, if_false] at hK hG
    have e9 := φ.s9 (by simp [hpre])
    subst e9
    have hk := hK [u50, u51, u52, u53, u54, u55, u56, u57, u58, (.tuple #[.slice (some ⟨b, 0, none⟩) k c2, .agg #[.int .i64 mo.addr, .int .i64 mo.state, .int .u32 mo.val_, .int .i64 mo.used]]), (.slice (some ⟨b, 0, none⟩) k c2), u60, u61] wz ⟨_, _, _, _, _, _, _, _, _, _, _, _, _, wz, rfl,
      { b := φ.b,
        s0 := fun h0 => φ.s0 (by simpa using h0),
        s1 := fun h0 => φ.s1 (by simpa using h0),
        s2 := fun h0 => φ.s2 (by simpa using h0),
        s3 := fun h0 => φ.s3 (by simpa using h0),
        s4 := fun h0 => φ.s4 (by simpa using h0),
        s5 := fun h0 => φ.s5 (by simpa using h0),
        s6 := fun h0 => φ.s6 (by simpa using h0),
        s7 := fun h0 => φ.s7 (by simpa using h0),
        s8 := fun h0 => φ.s8 (by simpa using h0),
        s9 := fun h0 => φ.s9 (by simpa using h0),
        s10 := fun _ => rfl,
        s11 := fun h0 => φ.s11 (by simpa using h0),
        s12 := fun h0 => φ.s12 (by simpa using h0),
        d3 := φ.d3,
        ox := φ.ox,
        h3 := fun h0 => φ.h3 (by simpa using h0),
        fg := fun h0 => φ.fg (by simpa using h0),
        o0 := fun h0 => φ.o0 (by simpa using h0),
        o1 := fun h0 h1 => φ.o1 (by simpa using h0) (by simpa using h1),
        g0 := fun h0 => φ.g0 (by simpa using h0),
        g1 := fun h0 => φ.g1 (by simpa using h0) }, by simp [hst]⟩
    refine hG ?_
    clear hK φ hG
    revert hk
    go_simp
    first | done | exact fun h => h
  case q11 =>
    rintro L vs w' K ⟨u50, u51, u52, u53, u54, u55, u56, u57, u58, u49, u59, u60, u61, wz, rfl, φ, rfl⟩ hL hpre hcl hK G hG
    simp [Region.binds, closedFrom] at hpre hcl
    have hst : L 14 = false := by
      cases h : L 14 with
      | false => rfl
      | true => simp [h, hL] at hcl
    simp only [hst, Bool.false_eq_true, if_false] at hK hG
    have e9 := φ.s9 (by simp [hpre])
    subst e9
    have hk := hK [u50, u51, u52, u53, u54, u55, u56, u57, u58, (.tuple #[.slice (some ⟨b, 0, none⟩) k c2, .agg #[.int .i64 mo.addr, .int .i64 mo.state, .int .u32 mo.val_, .int .i64 mo.used]]), u59, (.agg #[.int .i64 mo.addr, .int .i64 mo.state, .int .u32 mo.val_, .int .i64 mo.used]), u61] wz ⟨_, _, _, _, _, _, _, _, _, _, _, _, _, wz, rfl,
      { b := φ.b,
        s0 := fun h0 => φ.s0 (by simpa using h0),
        s1 := fun h0 => φ.s1 (by simpa using h0),
        s2 := fun h0 => φ.s2 (by simpa using h0),
        s3 := fun h0 => φ.s3 (by simpa using h0),
        s4 := fun h0 => φ.s4 (by simpa using h0),
        s5 := fun h0 => φ.s5 (by simpa using h0),
        s6 := fun h0 => φ.s6 (by simpa using h0),
        s7 := fun h0 => φ.s7 (by simpa using h0),
        s8 := fun h0 => φ.s8 (by simpa using h0),
        s9 := fun h0 => φ.s9 (by simpa using h0),
        s10 := fun h0 => φ.s10 (by simpa using h0),
        s11 := fun _ => rfl,
        s12 := fun h0 => φ.s12 (by simpa using h0),
        d3 := φ.d3,
        ox := φ.ox,
        h3 := fun h0 => φ.h3 (by simpa using h0),
        fg := fun h0 => φ.fg (by simpa using h0),
        o0 := fun h0 => φ.o0 (by simpa using h0),
        o1 := fun h0 h1 => φ.o1 (by simpa using h0) (by simpa using h1),
        g0 := fun h0 => φ.g0 (by simpa using h0),
        g1 := fun h0 => φ.g1 (by simpa using h0) }, by simp [hst]⟩
    refine hG ?_
    clear hK φ hG
    revert hk
    go_simp
    first | done | exact fun h => h
  case q12 =>
    rintro L vs w' K ⟨u50, u51, u52, u53, u54, u55, u56, u57, u58, u49, u59, u60, u61, wz, rfl, φ, rfl⟩ hL hpre hcl hK G hG
    simp [Region.binds, closedFrom] at hpre hcl
    have hst : L 14 = false := by
      cases h : L 14 with
      | false => rfl
      | true => simp [h, hL] at hcl
    simp only [hst, Bool.false_eq_true, if_false] at hK hG
    have e1 := φ.s1 (by simp [hpre])
    subst e1
    have e2 := φ.s2 (by simp [hpre])
    subst e2
    have hk := hK [u50, (.slice (some ⟨g, 0, none⟩) n d), (.int .i64 (s : Int)), u53, u54, u55, u56, u57, u58, u49, u59, u60, (.pointer (some ⟨g, s, none⟩))] wz ⟨_, _, _, _, _, _, _, _, _, _, _, _, _, wz, rfl,
      { b := φ.b,
        s0 := fun h0 => φ.s0 (by simpa using h0),
        s1 := fun h0 => φ.s1 (by simpa using h0),
        s2 := fun h0 => φ.s2 (by simpa using h0),
        s3 := fun h0 => φ.s3 (by simpa using h0),
        s4 := fun h0 => φ.s4 (by simpa using h0),
        s5 := fun h0 => φ.s5 (by simpa using h0),
        s6 := fun h0 => φ.s6 (by simpa using h0),
        s7 := fun h0 => φ.s7 (by simpa using h0),
        s8 := fun h0 => φ.s8 (by simpa using h0),
        s9 := fun h0 => φ.s9 (by simpa using h0),
        s10 := fun h0 => φ.s10 (by simpa using h0),
        s11 := fun h0 => φ.s11 (by simpa using h0),
        s12 := fun _ => rfl,
        d3 := φ.d3,
        ox := φ.ox,
        h3 := fun h0 => φ.h3 (by simpa using h0),
        fg := fun h0 => φ.fg (by simpa using h0),
        o0 := fun h0 => φ.o0 (by simpa using h0),
        o1 := fun h0 h1 => φ.o1 (by simpa using h0) (by simpa using h1),
        g0 := fun h0 => φ.g0 (by simpa using h0),
        g1 := fun h0 => φ.g1 (by simpa using h0) }, by simp [hst]⟩
    refine hG ?_
    clear hK φ hG
    revert hk
    go_simp
    first | done | exact fun h => h
  case q13 =>
    rintro L vs w' K ⟨u50, u51, u52, u53, u54, u55, u56, u57, u58, u49, u59, u60, u61, wz, rfl, φ, rfl⟩ hL hpre hcl hK G hG
    simp [Region.binds, closedFrom] at hpre hcl
    have hst : L 14 = false := by
      cases h : L 14 with
      | false => rfl
      | true => simp [h, hL] at hcl
    simp only [hst, Bool.false_eq_true, if_false] at hK hG
    have e10 := φ.s10 (by simp [hpre])
    subst e10
    have e12 := φ.s12 (by simp [hpre])
    subst e12
    have ch := φ.h3 hL
    have cf := φ.fg hL
    have go1 := φ.o1 (by simp [hpre]) hL
    have gg0 := φ.g0 hL
    have hk := hK [u50, u51, u52, u53, u54, u55, u56, u57, u58, u49, (.slice (some ⟨b, 0, none⟩) k c2), u60, (.pointer (some ⟨g, s, none⟩))] (wz.setCell ⟨g, s, none⟩ (.slice (some ⟨b, 0, none⟩) k c2)) ⟨_, _, _, _, _, _, _, _, _, _, _, _, _, (wz.setCell ⟨g, s, none⟩ (.slice (some ⟨b, 0, none⟩) k c2)), rfl,
      { b := φ.b,
        s0 := fun h0 => φ.s0 (by simpa using h0),
        s1 := fun h0 => φ.s1 (by simpa using h0),
        s2 := fun h0 => φ.s2 (by simpa using h0),
        s3 := fun h0 => φ.s3 (by simpa using h0),
        s4 := fun h0 => φ.s4 (by simpa using h0),
        s5 := fun h0 => φ.s5 (by simpa using h0),
        s6 := fun h0 => φ.s6 (by simpa using h0),
        s7 := fun h0 => φ.s7 (by simpa using h0),
        s8 := fun h0 => φ.s8 (by simpa using h0),
        s9 := fun h0 => φ.s9 (by simpa using h0),
        s10 := fun h0 => φ.s10 (by simpa using h0),
        s11 := fun h0 => φ.s11 (by simpa using h0),
        s12 := fun h0 => φ.s12 (by simpa using h0),
        d3 := (World.cell?_setCell_other _ _ _ _ (by simp <;> omega)).trans φ.d3,
        ox := φ.ox.far hn5' _ _,
        h3 := fun h => by simp at h,
        fg := fun h => by simp at h,
        o0 := fun h => by simp [hpre] at h,
        o1 := fun _ h => by simp at h,
        g0 := fun h => by simp at h,
        g1 := fun _ => ⟨wz, rfl, gg0, go1⟩ }, by simp [hst]⟩
    refine hG ?_
    clear hK φ hG
    revert hk
    go_simp
    first | done | exact fun h => h
  case q14 =>
    rintro L vs w' K ⟨u50, u51, u52, u53, u54, u55, u56, u57, u58, u49, u59, u60, u61, wz, rfl, φ, rfl⟩ hL hpre hcl hK G hG
    simp [Region.binds, closedFrom] at hpre hcl
    simp only [hL, Bool.false_eq_true, if_false] at hK hG
    have e11 := φ.s11 (by simp [hpre])
    subst e11
    have X := φ.ox
    have z0 := X.cell 0 _ rfl
    have z1 := X.cell 1 _ rfl
    have z2 := X.cell 2 _ rfl
    have z3 := X.cell 3 _ rfl
    have f0 := X.froz 0
    have f1 := X.froz 1
    have f2 := X.froz 2
    have f3 := X.froz 3
    have hk := hK [u50, u51, u52, u53, u54, u55, u56, u57, u58, u49, u59, (.agg #[.int .i64 mo.addr, .int .i64 mo.state, .int .u32 mo.val_, .int .i64 mo.used]), u61] _ ⟨_, _, _, _, _, _, _, _, _, _, _, _, _, wz, rfl,
      { b := φ.b,
        s0 := fun h0 => φ.s0 (by simpa using h0),
        s1 := fun h0 => φ.s1 (by simpa using h0),
        s2 := fun h0 => φ.s2 (by simpa using h0),
        s3 := fun h0 => φ.s3 (by simpa using h0),
        s4 := fun h0 => φ.s4 (by simpa using h0),
        s5 := fun h0 => φ.s5 (by simpa using h0),
        s6 := fun h0 => φ.s6 (by simpa using h0),
        s7 := fun h0 => φ.s7 (by simpa using h0),
        s8 := fun h0 => φ.s8 (by simpa using h0),
        s9 := fun h0 => φ.s9 (by simpa using h0),
        s10 := fun h0 => φ.s10 (by simpa using h0),
        s11 := fun h0 => φ.s11 (by simpa using h0),
        s12 := fun h0 => φ.s12 (by simpa using h0),
        d3 := φ.d3,
        ox := φ.ox,
        h3 := fun h0 => φ.h3 (by simpa using h0),
        fg := fun h0 => φ.fg (by simpa using h0),
        o0 := fun h0 => φ.o0 (by simpa using h0),
        o1 := fun h0 h1 => φ.o1 (by simpa using h0) (by simpa using h1),
        g0 := fun h0 => φ.g0 (by simpa using h0),
        g1 := fun h0 => φ.g1 (by simpa using h0) }, rfl⟩
    refine hG ?_
    clear hK φ hG
    revert hk
    go_simp
    first | done | exact fun h => h
  case hend =>
    rintro vs w' ⟨u50, u51, u52, u53, u54, u55, u56, u57, u58, u49, u59, u60, u61, wz, rfl, φ, rfl⟩ G hG
    obtain ⟨wq, ewz, gq, oq⟩ := φ.g1 rfl
    clear φ
    subst ewz
    refine hG ?_
    clear hG
    have G4 : w6.grownBy wq (some b) := World.grownBy.trans (b := w6.drew) ⟨rfl, rfl, rfl, Nat.le_refl _, fun _ _ _ => rfl⟩ gq
    have ST2 := (ST.swap (m := k) (c := c2) (B := some ⟨b, 0, none⟩) (l := l.filter fun y => !decide (y = mo)) hsn (by rw [HE.out]; exact G4) oq HK8.out (.inl (by rw [HE.out]; rfl))).setO mo
    clear gq G4 oq hcell hfg d3 ST O orow2 d3d hcd hfd Od
    simp only [decide_eq_true_eq]
    have ST := ST2
    clear ST2
    generalize ((((wq.setCell ⟨g, s, none⟩ (.slice (some ⟨b, 0, none⟩) k c2)).setCell ⟨OX, 0, none⟩ (.int .i64 mo.addr)).setCell ⟨OX, 1, none⟩ (.int .i64 mo.state)).setCell ⟨OX, 2, none⟩ (.int .u32 mo.val_)).setCell ⟨OX, 3, none⟩ (.int .i64 mo.used) = w8 at *
    obtain ⟨lf, hlf⟩ : ∃ lf, lf = l.filter fun y => !decide (y = mo) := ⟨_, rfl⟩
    rw [← hlf] at ST
    have hlfk : lf.length ≤ 1000000 := by rw [hlf, HK8.out]; exact hkm
    have hlf2 : lf = (pushC x x.lines[s]!).1 := by rw [hp0, hlf, HMO.out, HL.out]
    have hmo2 : mo = (pushC x x.lines[s]!).2 := by rw [hp0, HMO.out, HL.out]
    have HLF := Lib.hid hlf2
    have HM2 := Lib.hid hmo2
    have hsl : s < x.lines.length := by rw [HN.out]; exact hsn
    obtain ⟨ls, hls⟩ : ∃ ls, ls = x.lines.set s lf := ⟨_, rfl⟩
    obtain ⟨hs2, hhs⟩ : ∃ hs2, hs2 = hs1.set s ⟨some ⟨b, 0, none⟩, k, c2⟩ := ⟨_, rfl⟩
    have HLS := Lib.hid hls
    rw [← hls] at ST
    rw [← hhs] at ST
    have hlsv : ls[s]! = lf := by rw [hls]; exact setSelf _ _ _ hsl
    have hlb : ls[s]!.length ≤ 1000000 := by rw [hlsv]; exact hlfk
    have HLV := Lib.hid hlsv
    clear hls hhs hlf hlf2 hmo2 hlsv hlfk HL HM HK8 HE HMO hp0 hm0 hm8 hkm hbD hbO hgb hmc hbb hn1' hn2' hn3' hn4' hn5' hn6'
    obtain ⟨out, hout⟩ : ∃ out, out = mo := ⟨_, rfl⟩
    rw [← hout] at ST HM2
    clear hout
    go_simp
    go_wp2_with fail
    obtain ⟨i0, hi0, hz0, hz1, hz2⟩ := info_parts info32
    obtain ⟨B, m, c2, he, hm, hmc, orow⟩ := ST.own.hdr hsn
    have hcell := ST.own.cellAt hsn he
    have hfg := own_frozen ST.own.outer s
    have d3 := ST.D.cell 3 _ rfl
    have hsz : (s : Int) < (n : Int) := by omega
    have hm8 : m ≤ 1000000 := by omega
    have hrw : ∀ b, (Value.slice B m c2).ownBlock = some b → b ≠ DX ∧ b ≠ OX := fun b e => ST.rows s hsn b (by rw [he]; exact e)
    have hBg : (Value.slice B m c2).ownBlock ≠ some g := fun e => by
      rcases own_two ST.own.outer orow (by decide) with h | h
      · cases h
      · exact h e.symm
    have hBD : (Value.slice B m c2).ownBlock ≠ some DX := fun e => (hrw DX e).1 rfl
    obtain ⟨l, hl⟩ : ∃ l, l = ls[s]! := ⟨_, rfl⟩
    have HL := Lib.hid hl
    rw [← hl] at orow hm
    have HM := Lib.hid hm
    have HE := Lib.hid he
    have hnum := ST.num
    have hWs : W0.heap.size ≤ w8.heap.size := by have := ST.O.lt; omega
    have orow2 : w8.drew.ownsRow W0.heap.size 32 4 (.slice B m c2) m (l.flatMap Ln.enc) := orow
    have d3d : w8.drew.cell? ⟨DX, 3, none⟩ = some (.slice (some ⟨g, 0, none⟩) n d) := d3
    have hcd : w8.drew.cell? ⟨g, s, none⟩ = some (.slice B m c2) := hcell
    have hfd : w8.drew.frozen? ⟨g, s, none⟩ = false := hfg
    have hWd : W0.heap.size ≤ w8.drew.heap.size := hWs
    clear he hm hl orow hrw
    refine wp_region_rg (by kernel_rfl) (by kernel_rfl) [62, 63, 64, 65, 66, 67, 68, 69, 70, 71, 72, 73, 74] (PaRPhi w8.drew W0.heap.size DX g n d m c2 s B l t) ?h0 ⟨?q0, ?q1, ?q2, ?q3, ?q4, ?q5, ?q6, ?q7, ?q8, ?q9, ?q10, ?q11, ?q12, ?q13, trivial⟩ ?hend
    case h0 => exact ⟨_, _, _, _, _, _, _, _, _, _, _, _, _, _, rfl, ⟨World.grownBy.refl _ _, (fun h => by cases h), (fun h => by cases h), (fun h => by cases h), (fun h => by cases h), (fun h => by cases h), (fun h => by cases h), (fun h => by cases h), (fun h => by cases h), (fun h => by cases h), (fun h => by cases h), (fun h => by cases h), (fun h => by cases h), (fun h => by cases h), (d3d), (hcd), (hfd), (fun _ => orow2)⟩, rfl⟩
    case q0 =>
      rintro L vs w' K ⟨u62, u63, u64, u65, u66, u67, u68, u69, u70, u71, u72, u73, u74, wz, rfl, φ, rfl⟩ hL hpre hcl hK G hG
      simp [Region.binds, closedFrom] at hpre hcl
      have hst : L 13 = false := by
        cases h : L 13 with
        | false => rfl
        | true => simp [h, hL] at hcl
      simp only [hst, Bool.false_eq_true, if_false] at hK hG
      have hk := hK [(.pointer (some ⟨DX, 3, none⟩)), u63, u64, u65, u66, u67, u68, u69, u70, u71, u72, u73, u74] wz ⟨_, _, _, _, _, _, _, _, _, _, _, _, _, wz, rfl,
        { b := φ.b,
          s0 := fun _ => rfl,
          s1 := fun h0 => φ.s1 (by simpa using h0),
          s2 := fun h0 => φ.s2 (by simpa using h0),
          s3 := fun h0 => φ.s3 (by simpa using h0),
          s4 := fun h0 => φ.s4 (by simpa using h0),
          s5 := fun h0 => φ.s5 (by simpa using h0),
          s6 := fun h0 => φ.s6 (by simpa using h0),
          s7 := fun h0 => φ.s7 (by simpa using h0),
          s8 := fun h0 => φ.s8 (by simpa using h0),
          s9 := fun h0 => φ.s9 (by simpa using h0),
          s10 := fun h0 h1 => φ.s10 (by simpa using h0) (by simpa using h1),
          s11 := fun h0 => φ.s11 (by simpa using h0),
          s12 := fun h0 => φ.s12 (by simpa using h0),
          d3 := φ.d3,
          h3 := φ.h3,
          fg := φ.fg,
          o0 := fun h0 => φ.o0 (by simpa using h0) }, by simp [hst]⟩
      refine hG ?_
      clear hK φ hG
      revert hk
      go_simp
      first | done | exact fun h => h
    case q1 =>
      rintro L vs w' K ⟨u62, u63, u64, u65, u66, u67, u68, u69, u70, u71, u72, u73, u74, wz, rfl, φ, rfl⟩ hL hpre hcl hK G hG
      simp [Region.binds, closedFrom] at hpre hcl
      have hst : L 13 = false := by
        cases h : L 13 with
        | false => rfl
        | true => simp [h, hL] at hcl
      simp only [hst, Bool.false_eq_true, if_false] at hK hG
      have e0 := φ.s0 (by simp [hpre])
      subst e0
      have c3 := φ.d3
      have hk := hK [(.pointer (some ⟨DX, 3, none⟩)), (.slice (some ⟨g, 0, none⟩) n d), u64, u65, u66, u67, u68, u69, u70, u71, u72, u73, u74] wz ⟨_, _, _, _, _, _, _, _, _, _, _, _, _, wz, rfl,
        { b := φ.b,
          s0 := fun h0 => φ.s0 (by simpa using h0),
          s1 := fun _ => rfl,
          s2 := fun h0 => φ.s2 (by simpa using h0),
          s3 := fun h0 => φ.s3 (by simpa using h0),
          s4 := fun h0 => φ.s4 (by simpa using h0),
          s5 := fun h0 => φ.s5 (by simpa using h0),
          s6 := fun h0 => φ.s6 (by simpa using h0),
          s7 := fun h0 => φ.s7 (by simpa using h0),
          s8 := fun h0 => φ.s8 (by simpa using h0),
          s9 := fun h0 => φ.s9 (by simpa using h0),
          s10 := fun h0 h1 => φ.s10 (by simpa using h0) (by simpa using h1),
          s11 := fun h0 => φ.s11 (by simpa using h0),
          s12 := fun h0 => φ.s12 (by simpa using h0),
          d3 := φ.d3,
          h3 := φ.h3,
          fg := φ.fg,
          o0 := fun h0 => φ.o0 (by simpa using h0) }, by simp [hst]⟩
      refine hG ?_
      clear hK φ hG
      revert hk
      go_simp
      first | done | exact fun h => h
    case q2 =>
      rintro L vs w' K ⟨u62, u63, u64, u65, u66, u67, u68, u69, u70, u71, u72, u73, u74, wz, rfl, φ, rfl⟩ hL hpre hcl hK G hG
      simp [Region.binds, closedFrom] at hpre hcl
      have hst : L 13 = false := by
        cases h : L 13 with
        | false => rfl
        | true => simp [h, hL] at hcl
      simp only [hst, Bool.false_eq_true, if_false] at hK hG
      have hk := hK [u62, u63, (.int .i64 (s : Int)), u65, u66, u67, u68, u69, u70, u71, u72, u73, u74] wz ⟨_, _, _, _, _, _, _, _, _, _, _, _, _, wz, rfl,
        { b := φ.b,
          s0 := fun h0 => φ.s0 (by simpa using h0),
          s1 := fun h0 => φ.s1 (by simpa using h0),
          s2 := fun _ => rfl,
          s3 := fun h0 => φ.s3 (by simpa using h0),
          s4 := fun h0 => φ.s4 (by simpa using h0),
          s5 := fun h0 => φ.s5 (by simpa using h0),
          s6 := fun h0 => φ.s6 (by simpa using h0),
          s7 := fun h0 => φ.s7 (by simpa using h0),
          s8 := fun h0 => φ.s8 (by simpa using h0),
          s9 := fun h0 => φ.s9 (by simpa using h0),
          s10 := fun h0 h1 => φ.s10 (by simpa using h0) (by simpa using h1),
          s11 := fun h0 => φ.s11 (by simpa using h0),
          s12 := fun h0 => φ.s12 (by simpa using h0),
          d3 := φ.d3,
          h3 := φ.h3,
          fg := φ.fg,
          o0 := fun h0 => φ.o0 (by simpa using h0) }, by simp [hst]⟩
      refine hG ?_
      clear hK φ hG
      revert hk
      go_simp
      first | done | exact fun h => h
    case q3 =>
      rintro L vs w' K ⟨u62, u63, u64, u65, u66, u67, u68, u69, u70, u71, u72, u73, u74, wz, rfl, φ, rfl⟩ hL hpre hcl hK G hG
      simp [Region.binds, closedFrom] at hpre hcl
      have hst : L 13 = false := by
        cases h : L 13 with
        | false => rfl
        | true => simp [h, hL] at hcl
      simp only [hst, Bool.false_eq_true, if_false] at hK hG
      have hk := hK [u62, u63, u64, (.pointer (some ⟨DX, 3, none⟩)), u66, u67, u68, u69, u70, u71, u72, u73, u74] wz ⟨_, _, _, _, _, _, _, _, _, _, _, _, _, wz, rfl,
        { b := φ.b,
          s0 := fun h0 => φ.s0 (by simpa using h0),
          s1 := fun h0 => φ.s1 (by simpa using h0),
          s2 := fun h0 => φ.s2 (by simpa using h0),
          s3 := fun _ => rfl,
          s4 := fun h0 => φ.s4 (by simpa using h0),
          s5 := fun h0 => φ.s5 (by simpa using h0),
          s6 := fun h0 => φ.s6 (by simpa using h0),
          s7 := fun h0 => φ.s7 (by simpa using h0),
          s8 := fun h0 => φ.s8 (by simpa using h0),
          s9 := fun h0 => φ.s9 (by simpa using h0),
          s10 := fun h0 h1 => φ.s10 (by simpa using h0) (by simpa using h1),
          s11 := fun h0 => φ.s11 (by simpa using h0),
          s12 := fun h0 => φ.s12 (by simpa using h0),
          d3 := φ.d3,
          h3 := φ.h3,
          fg := φ.fg,
          o0 := fun h0 => φ.o0 (by simpa using h0) }, by simp [hst]⟩
      refine hG ?_
      clear hK φ hG
      revert hk
      go_simp
      first | done | exact fun h => h
    case q4 =>
      rintro L vs w' K ⟨u62, u63, u64, u65, u66, u67, u68, u69, u70, u71, u72, u73, u74, wz, rfl, φ, rfl⟩ hL hpre hcl hK G hG
      simp [Region.binds, closedFrom] at hpre hcl
      have hst : L 13 = false := by
        cases h : L 13 with
        | false => rfl
        | true => simp [h, hL] at hcl
      simp only [hst, Bool.false_eq_true, if_false] at hK hG
      have e3 := φ.s3 (by simp [hpre])
      subst e3
      have c3 := φ.d3
      have hk := hK [u62, u63, u64, (.pointer (some ⟨DX, 3, none⟩)), (.slice (some ⟨g, 0, none⟩) n d), u67, u68, u69, u70, u71, u72, u73, u74] wz ⟨_, _, _, _, _, _, _, _, _, _, _, _, _, wz, rfl,
        { b := φ.b,
          s0 := fun h0 => φ.s0 (by simpa using h0),
          s1 := fun h0 => φ.s1 (by simpa using h0),
          s2 := fun h0 => φ.s2 (by simpa using h0),
          s3 := fun h0 => φ.s3 (by simpa using h0),
          s4 := fun _ => rfl,
          s5 := fun h0 => φ.s5 (by simpa using h0),
          s6 := fun h0 => φ.s6 (by simpa using h0),
          s7 := fun h0 => φ.s7 (by simpa using h0),
          s8 := fun h0 => φ.s8 (by simpa using h0),
          s9 := fun h0 => φ.s9 (by simpa using h0),
          s10 := fun h0 h1 => φ.s10 (by simpa using h0) (by simpa using h1),
          s11 := fun h0 => φ.s11 (by simpa using h0),
          s12 := fun h0 => φ.s12 (by simpa using h0),
          d3 := φ.d3,
          h3 := φ.h3,
          fg := φ.fg,
          o0 := fun h0 => φ.o0 (by simpa using h0) }, by simp [hst]⟩
      refine hG ?_
      clear hK φ hG
      revert hk
      go_simp
      first | done | exact fun h => h
    case q5 =>
      rintro L vs w' K ⟨u62, u63, u64, u65, u66, u67, u68, u69, u70, u71, u72, u73, u74, wz, rfl, φ, rfl⟩ hL hpre hcl hK G hG
      simp [Region.binds, closedFrom] at hpre hcl
      have hst : L 13 = false := by
        cases h : L 13 with
        | false => rfl
        | true => simp [h, hL] at hcl
      simp only [hst, Bool.false_eq_true, if_false] at hK hG
      have hk := hK [u62, u63, u64, u65, u66, (.int .i64 (s : Int)), u68, u69, u70, u71, u72, u73, u74] wz ⟨_, _, _, _, _, _, _, _, _, _, _, _, _, wz, rfl,
        { b := φ.b,
          s0 := fun h0 => φ.s0 (by simpa using h0),
          s1 := fun h0 => φ.s1 (by simpa using h0),
          s2 := fun h0 => φ.s2 (by simpa using h0),
          s3 := fun h0 => φ.s3 (by simpa using h0),
          s4 := fun h0 => φ.s4 (by simpa using h0),
          s5 := fun _ => rfl,
          s6 := fun h0 => φ.s6 (by simpa using h0),
          s7 := fun h0 => φ.s7 (by simpa using h0),
          s8 := fun h0 => φ.s8 (by simpa using h0),
          s9 := fun h0 => φ.s9 (by simpa using h0),
          s10 := fun h0 h1 => φ.s10 (by simpa using h0) (by simpa using h1),
          s11 := fun h0 => φ.s11 (by simpa using h0),
          s12 := fun h0 => φ.s12 (by simpa using h0),
          d3 := φ.d3,
          h3 := φ.h3,
          fg := φ.fg,
          o0 := fun h0 => φ.o0 (by simpa using h0) }, by simp [hst]⟩
      refine hG ?_
      clear hK φ hG
      revert hk
      go_simp
      first | done | exact fun h => h
    case q6 =>
      rintro L vs w' K ⟨u62, u63, u64, u65, u66, u67, u68, u69, u70, u71, u72, u73, u74, wz, rfl, φ, rfl⟩ hL hpre hcl hK G hG
      simp [Region.binds, closedFrom] at hpre hcl
      have hst : L 13 = false := by
        cases h : L 13 with
        | false => rfl
        | true => simp [h, hL] at hcl
      simp only [hst, Bool.false_eq_true, if_false] at hK hG
      have e4 := φ.s4 (by simp [hpre])
      subst e4
      have e5 := φ.s5 (by simp [hpre])
      subst e5
      have hk := hK [u62, u63, u64, u65, (.slice (some ⟨g, 0, none⟩) n d), (.int .i64 (s : Int)), (.pointer (some ⟨g, s, none⟩)), u69, u70, u71, u72, u73, u74] wz ⟨_, _, _, _, _, _, _, _, _, _, _, _, _, wz, rfl,
        { b := φ.b,
          s0 := fun h0 => φ.s0 (by simpa using h0),
          s1 := fun h0 => φ.s1 (by simpa using h0),
          s2 := fun h0 => φ.s2 (by simpa using h0),
          s3 := fun h0 => φ.s3 (by simpa using h0),
          s4 := fun h0 => φ.s4 (by simpa using h0),
          s5 := fun h0 => φ.s5 (by simpa using h0),
          s6 := fun _ => rfl,
          s7 := fun h0 => φ.s7 (by simpa using h0),
          s8 := fun h0 => φ.s8 (by simpa using h0),
          s9 := fun h0 => φ.s9 (by simpa using h0),
          s10 := fun h0 h1 => φ.s10 (by simpa using h0) (by simpa using h1),
          s11 := fun h0 => φ.s11 (by simpa using h0),
          s12 := fun h0 => φ.s12 (by simpa using h0),
          d3 := φ.d3,
          h3 := φ.h3,
          fg := φ.fg,
          o0 := fun h0 => φ.o0 (by simpa using h0) }, by simp [hst]⟩
      refine hG ?_
      clear hK φ hG
      revert hk
      go_simp
      first | done | exact fun h => h
    case q7 =>
      rintro L vs w' K ⟨u62, u63, u64, u65, u66, u67, u68, u69, u70, u71, u72, u73, u74, wz, rfl, φ, rfl⟩ hL hpre hcl hK G hG
      simp [Region.binds, closedFrom] at hpre hcl
      have hst : L 13 = false := by
        cases h : L 13 with
        | false => rfl
        | true => simp [h, hL] at hcl
      simp only [hst, Bool.false_eq_true, if_false] at hK hG
      have e6 := φ.s6 (by simp [hpre])
      subst e6
      have c3 := φ.h3
      have hk := hK [u62, u63, u64, u65, u66, u67, (.pointer (some ⟨g, s, none⟩)), (.slice B m c2), u70, u71, u72, u73, u74] wz ⟨_, _, _, _, _, _, _, _, _, _, _, _, _, wz, rfl,
        { b := φ.b,
          s0 := fun h0 => φ.s0 (by simpa using h0),
          s1 := fun h0 => φ.s1 (by simpa using h0),
          s2 := fun h0 => φ.s2 (by simpa using h0),
          s3 := fun h0 => φ.s3 (by simpa using h0),
          s4 := fun h0 => φ.s4 (by simpa using h0),
          s5 := fun h0 => φ.s5 (by simpa using h0),
          s6 := fun h0 => φ.s6 (by simpa using h0),
          s7 := fun _ => rfl,
          s8 := fun h0 => φ.s8 (by simpa using h0),
          s9 := fun h0 => φ.s9 (by simpa using h0),
          s10 := fun h0 h1 => φ.s10 (by simpa using h0) (by simpa using h1),
          s11 := fun h0 => φ.s11 (by simpa using h0),
          s12 := fun h0 => φ.s12 (by simpa using h0),
          d3 := φ.d3,
          h3 := φ.h3,
          fg := φ.fg,
          o0 := fun h0 => φ.o0 (by simpa using h0) }, by simp [hst]⟩
      refine hG ?_
      clear hK φ hG
      revert hk
      go_simp
      first | done | exact fun h => h
    case q8 =>
      rintro L vs w' K ⟨u62, u63, u64, u65, u66, u67, u68, u69, u70, u71, u72, u73, u74, wz, rfl, φ, rfl⟩ hL hpre hcl hK G hG
      simp [Region.binds, closedFrom] at hpre hcl
      have hst : L 13 = false := by
        cases h : L 13 with
        | false => rfl
        | true => simp [h, hL] at hcl
      simp only [hst, Bool.false_eq_true, if_false] at hK hG
      have hk := hK [u62, u63, u64, u65, u66, u67, u68, u69, (.int .i64 t), u71, u72, u73, u74] wz ⟨_, _, _, _, _, _, _, _, _, _, _, _, _, wz, rfl,
        { b := φ.b,
          s0 := fun h0 => φ.s0 (by simpa using h0),
          s1 := fun h0 => φ.s1 (by simpa using h0),
          s2 := fun h0 => φ.s2 (by simpa using h0),
          s3 := fun h0 => φ.s3 (by simpa using h0),
          s4 := fun h0 => φ.s4 (by simpa using h0),
          s5 := fun h0 => φ.s5 (by simpa using h0),
          s6 := fun h0 => φ.s6 (by simpa using h0),
          s7 := fun h0 => φ.s7 (by simpa using h0),
          s8 := fun _ => rfl,
          s9 := fun h0 => φ.s9 (by simpa using h0),
          s10 := fun h0 h1 => φ.s10 (by simpa using h0) (by simpa using h1),
          s11 := fun h0 => φ.s11 (by simpa using h0),
          s12 := fun h0 => φ.s12 (by simpa using h0),
          d3 := φ.d3,
          h3 := φ.h3,
          fg := φ.fg,
          o0 := fun h0 => φ.o0 (by simpa using h0) }, by simp [hst]⟩
      refine hG ?_
      clear hK φ hG
      revert hk
      go_simp
      first | done | exact fun h => h
    case q9 =>
      rintro L vs w' K ⟨u62, u63, u64, u65, u66, u67, u68, u69, u70, u71, u72, u73, u74, wz, rfl, φ, rfl⟩ hL hpre hcl hK G hG
      simp [Region.binds, closedFrom] at hpre hcl
      have hst : L 13 = false := by
        cases h : L 13 with
        | false => rfl
        | true => simp [h, hL] at hcl
      simp only [hst, Bool.false_eq_true, if_false] at hK hG
      have e8 := φ.s8 (by simp [hpre])
      subst e8
      have hk := hK [u62, u63, u64, u65, u66, u67, u68, u69, (.int .i64 t), (.agg #[.int .i64 t, .int .i64 0, .int .u32 0, .int .i64 0]), u72, u73, u74] wz ⟨_, _, _, _, _, _, _, _, _, _, _, _, _, wz, rfl,
        { b := φ.b,
          s0 := fun h0 => φ.s0 (by simpa using h0),
          s1 := fun h0 => φ.s1 (by simpa using h0),
          s2 := fun h0 => φ.s2 (by simpa using h0),
          s3 := fun h0 => φ.s3 (by simpa using h0),
          s4 := fun h0 => φ.s4 (by simpa using h0),
          s5 := fun h0 => φ.s5 (by simpa using h0),
          s6 := fun h0 => φ.s6 (by simpa using h0),
          s7 := fun h0 => φ.s7 (by simpa using h0),
          s8 := fun h0 => φ.s8 (by simpa using h0),
          s9 := fun _ => rfl,
          s10 := fun h0 h1 => φ.s10 (by simpa using h0) (by simpa using h1),
          s11 := fun h0 => φ.s11 (by simpa using h0),
          s12 := fun h0 => φ.s12 (by simpa using h0),
          d3 := φ.d3,
          h3 := φ.h3,
          fg := φ.fg,
          o0 := fun h0 => φ.o0 (by simpa using h0) }, by simp [hst]⟩
      refine hG ?_
      clear hK φ hG
      revert hk
      go_simp
      first | done | exact fun h => h
    case q10 =>
      rintro L vs w' K ⟨u62, u63, u64, u65, u66, u67, u68, u69, u70, u71, u72, u73, u74, wz, rfl, φ, rfl⟩ hL hpre hcl hK G hG
      simp [Region.binds, closedFrom] at hpre hcl
      have hst : L 13 = false := by
        cases h : L 13 with
        | false => rfl
        | true => simp [h, hL] at hcl
      simp only [hst, Bool.false_eq_true, if_false] at hK hG
      have e9 := φ.s9 (by simp [hpre])
      subst e9
      have L11 : L 11 = false := by
        cases h : L 11 with
        | false => rfl
        | true => simp [h, hL] at hcl
      have hk := hK [u62, u63, u64, u65, u66, u67, u68, u69, u70, (.agg #[.int .i64 t, .int .i64 0, .int .u32 0, .int .i64 0]), (.slice (some ⟨wz.heap.size, 0, none⟩) 1 1), u73, u74] (wz.alloc (.cells #[.int .i64 t, .int .i64 0, .int .u32 0, .int .i64 0] 32)) ⟨_, _, _, _, _, _, _, _, _, _, _, _, _, (wz.alloc (.cells #[.int .i64 t, .int .i64 0, .int .u32 0, .int .i64 0] 32)), rfl,
        { b := φ.b.trans (World.grownBy_alloc wz _ _),
          s0 := fun h0 => φ.s0 (by simpa using h0),
          s1 := fun h0 => φ.s1 (by simpa using h0),
          s2 := fun h0 => φ.s2 (by simpa using h0),
          s3 := fun h0 => φ.s3 (by simpa using h0),
          s4 := fun h0 => φ.s4 (by simpa using h0),
          s5 := fun h0 => φ.s5 (by simpa using h0),
          s6 := fun h0 => φ.s6 (by simpa using h0),
          s7 := fun h0 => φ.s7 (by simpa using h0),
          s8 := fun h0 => φ.s8 (by simpa using h0),
          s9 := fun h0 => φ.s9 (by simpa using h0),
          s10 := fun _ _ => ⟨wz.heap.size, rfl, by simp, φ.b.size, Lay.new wz _ 32⟩,
          s11 := fun h => by simp [L11] at h,
          s12 := fun h0 => φ.s12 (by simpa using h0),
          d3 := (World.cell?_alloc_lt wz _ _ (World.block_lt_of_cell? _ _ φ.d3)).trans φ.d3,
          h3 := (World.cell?_alloc_lt wz _ _ (World.block_lt_of_cell? _ _ φ.h3)).trans φ.h3,
          fg := (((Below.refl wz.heap.size wz).alloc (Nat.le_refl _) _).frozen (p := ⟨g, s, none⟩) (World.block_lt_of_cell? _ _ φ.h3)).trans φ.fg,
          o0 := fun h => (φ.o0 (by simpa using h)).alloc _ }, by simp [hst]⟩
      refine hG ?_
      clear hK φ hG
      revert hk
      go_simp
      first | done | exact fun h => h
    case q11 =>
      rintro L vs w' K ⟨u62, u63, u64, u65, u66, u67, u68, u69, u70, u71, u72, u73, u74, wz, rfl, φ, rfl⟩ hL hpre hcl hK G hG
      simp [Region.binds, closedFrom] at hpre hcl
      have hst : L 13 = false := by
        cases h : L 13 with
        | false => rfl
        | true => simp [h, hL] at hcl
      simp only [hst, Bool.false_eq_true, if_false] at hK hG
      have e7 := φ.s7 (by simp [hpre])
      subst e7
      obtain ⟨X, e10, ltX, leX, lay⟩ := φ.s10 (by simp [hpre]) hL
      subst e10
      have o1 := φ.o0 hL
      have hsz0 := φ.b.size
      refine hG (step_append_own wz rfl (.tmp 69) (.tmp 72) 40 rfl W0.heap.size 32 i0 _ 4 32 Try.underlying40 hi0 hz0 hz1 hz2 rfl (by decide) (.slice B m c2) m _ (by simp [Act.eval, Act.puts, Act.put]) o1 ⟨X, 0, none⟩ 1 1 [.int .i64 t, .int .i64 0, .int .u32 0, .int .i64 0] (by simp [Act.eval, Act.puts, Act.put]) rfl lay (by intro u hu; simp at hu; rcases hu with rfl | rfl | rfl | rfl <;> rfl) (by unfold maxLen; omega) (by omega) (by omega) ?_)
      intro v' w9 ownN hgrow hat
      obtain ⟨B', c', rfl⟩ := own_shape ownN
      have hk := hK [u62, u63, u64, u65, u66, u67, u68, (.slice B m c2), u70, u71, (.slice (some ⟨X, 0, none⟩) 1 1), (.slice B' (m + 1) c'), u74] w9 ⟨_, _, _, _, _, _, _, _, _, _, _, _, _, w9, rfl,
        { b := φ.b.trans hgrow,
          s0 := fun h0 => φ.s0 (by simpa using h0),
          s1 := fun h0 => φ.s1 (by simpa using h0),
          s2 := fun h0 => φ.s2 (by simpa using h0),
          s3 := fun h0 => φ.s3 (by simpa using h0),
          s4 := fun h0 => φ.s4 (by simpa using h0),
          s5 := fun h0 => φ.s5 (by simpa using h0),
          s6 := fun h0 => φ.s6 (by simpa using h0),
          s7 := fun h0 => φ.s7 (by simpa using h0),
          s8 := fun h0 => φ.s8 (by simpa using h0),
          s9 := fun h0 => φ.s9 (by simpa using h0),
          s10 := fun _ h => by simp at h,
          s11 := fun _ => ⟨B', c', rfl, ownN, hat.imp id (fun h => ⟨wz.heap.size, h, hsz0⟩)⟩,
          s12 := fun h0 => φ.s12 (by simpa using h0),
          d3 := hgrow.cell φ.d3 (Ne.symm hBD),
          h3 := hgrow.cell φ.h3 (Ne.symm hBg),
          fg := (frozen_of_block (hgrow.block g (World.block_lt_of_cell? _ _ φ.h3) (Ne.symm hBg))).trans φ.fg,
          o0 := fun h => by simp at h }, by simp [hst]⟩
      clear hK φ hG
      revert hk
      go_simp
      first | done | exact fun h => h
    case q12 =>
      rintro L vs w' K ⟨u62, u63, u64, u65, u66, u67, u68, u69, u70, u71, u72, u73, u74, wz, rfl, φ, rfl⟩ hL hpre hcl hK G hG
      simp [Region.binds, closedFrom] at hpre hcl
      have hst : L 13 = false := by
        cases h : L 13 with
        | false => rfl
        | true => simp [h, hL] at hcl
      simp only [hst, Bool.false_eq_true, if_false] at hK hG
      have e1 := φ.s1 (by simp [hpre])
      subst e1
      have e2 := φ.s2 (by simp [hpre])
      subst e2
      have hk := hK [u62, (.slice (some ⟨g, 0, none⟩) n d), (.int .i64 (s : Int)), u65, u66, u67, u68, u69, u70, u71, u72, u73, (.pointer (some ⟨g, s, none⟩))] wz ⟨_, _, _, _, _, _, _, _, _, _, _, _, _, wz, rfl,
        { b := φ.b,
          s0 := fun h0 => φ.s0 (by simpa using h0),
          s1 := fun h0 => φ.s1 (by simpa using h0),
          s2 := fun h0 => φ.s2 (by simpa using h0),
          s3 := fun h0 => φ.s3 (by simpa using h0),
          s4 := fun h0 => φ.s4 (by simpa using h0),
          s5 := fun h0 => φ.s5 (by simpa using h0),
          s6 := fun h0 => φ.s6 (by simpa using h0),
          s7 := fun h0 => φ.s7 (by simpa using h0),
          s8 := fun h0 => φ.s8 (by simpa using h0),
          s9 := fun h0 => φ.s9 (by simpa using h0),
          s10 := fun h0 h1 => φ.s10 (by simpa using h0) (by simpa using h1),
          s11 := fun h0 => φ.s11 (by simpa using h0),
          s12 := fun _ => rfl,
          d3 := φ.d3,
          h3 := φ.h3,
          fg := φ.fg,
          o0 := fun h0 => φ.o0 (by simpa using h0) }, by simp [hst]⟩
      refine hG ?_
      clear hK φ hG
      revert hk
      go_simp
      first | done | exact fun h => h
    case q13 =>
      rintro L vs w' K ⟨u62, u63, u64, u65, u66, u67, u68, u69, u70, u71, u72, u73, u74, wz, rfl, φ, rfl⟩ hL hpre hcl hK G hG
      simp [Region.binds, closedFrom] at hpre hcl
      simp only [hL, Bool.false_eq_true, if_false] at hK hG
      obtain ⟨B', c', e11, o11, h11⟩ := φ.s11 (by simp [hpre])
      subst e11
      have e12 := φ.s12 (by simp [hpre])
      subst e12
      have ch := φ.h3
      have cf := φ.fg
      have hk := hK [u62, u63, u64, u65, u66, u67, u68, u69, u70, u71, u72, (.slice B' (m + 1) c'), (.pointer (some ⟨g, s, none⟩))] _ ⟨_, _, _, _, _, _, _, _, _, _, _, _, _, wz, rfl,
        { b := φ.b,
          s0 := fun h0 => φ.s0 (by simpa using h0),
          s1 := fun h0 => φ.s1 (by simpa using h0),
          s2 := fun h0 => φ.s2 (by simpa using h0),
          s3 := fun h0 => φ.s3 (by simpa using h0),
          s4 := fun h0 => φ.s4 (by simpa using h0),
          s5 := fun h0 => φ.s5 (by simpa using h0),
          s6 := fun h0 => φ.s6 (by simpa using h0),
          s7 := fun h0 => φ.s7 (by simpa using h0),
          s8 := fun h0 => φ.s8 (by simpa using h0),
          s9 := fun h0 => φ.s9 (by simpa using h0),
          s10 := fun h0 h1 => φ.s10 (by simpa using h0) (by simpa using h1),
          s11 := fun h0 => φ.s11 (by simpa using h0),
          s12 := fun h0 => φ.s12 (by simpa using h0),
          d3 := φ.d3,
          h3 := φ.h3,
          fg := φ.fg,
          o0 := fun h0 => φ.o0 (by simpa using h0) }, rfl⟩
      refine hG ?_
      clear hK φ hG
      revert hk
      go_simp
      first | done | exact fun h => h
    case hend =>
      rintro vs w' ⟨u62, u63, u64, u65, u66, u67, u68, u69, u70, u71, u72, u73, u74, wz, rfl, φ, rfl⟩ G hG
      obtain ⟨B', c', e11, o11, h11⟩ := φ.s11 rfl
      have g9 := φ.b
      clear φ
      subst e11
      refine hG ?_
      clear hG
      have G4 : w8.grownBy wz (Value.slice B m c2).ownBlock := World.grownBy.trans (b := w8.drew) ⟨rfl, rfl, rfl, Nat.le_refl _, fun _ _ _ => rfl⟩ g9
      have hle : (l ++ [(⟨t, 0, 0, 0⟩ : Ln)]).length = m + 1 := by rw [List.length_append, HM.out]; rfl
      have hcs : l.flatMap Ln.enc ++ [.int .i64 t, .int .i64 0, .int .u32 0, .int .i64 0] = (l ++ [(⟨t, 0, 0, 0⟩ : Ln)]).flatMap Ln.enc := by rw [List.flatMap_append]; rfl
      rw [hcs] at o11
      have ST2 := ST.swap (m := m + 1) (c := c') (B := B') (l := l ++ [(⟨t, 0, 0, 0⟩ : Ln)]) hsn (by rw [HE.out]; exact G4) o11 hle (by rw [HE.out]; exact h11.imp id .inr)
      have he2 : (hs2.set s ⟨B', m + 1, c'⟩)[s]! = ⟨B', m + 1, c'⟩ := setSelf _ _ _ (by rw [ST.own.len]; exact hsn)
      have hlsl : s < ls.length := by rw [ST.own.num]; exact hsn
      have hls2 : (ls.set s (l ++ [(⟨t, 0, 0, 0⟩ : Ln)]))[s]! = l ++ [(⟨t, 0, 0, 0⟩ : Ln)] := setSelf _ _ _ hlsl
      have hk : m < (ls.set s (l ++ [(⟨t, 0, 0, 0⟩ : Ln)]))[s]!.length := by rw [hls2, hle]; omega
      have hval : (ls.set s (l ++ [(⟨t, 0, 0, 0⟩ : Ln)])).set s ((ls.set s (l ++ [(⟨t, 0, 0, 0⟩ : Ln)]))[s]!.set m ⟨(ls.set s (l ++ [(⟨t, 0, 0, 0⟩ : Ln)]))[s]![m]!.addr, st, v, x.clock + 1⟩) = ls.set s (l ++ [⟨t, st, v, x.clock + 1⟩]) := by
        have hml := HM.out
        have h1 : (l ++ [(⟨t, 0, 0, 0⟩ : Ln)])[m]! = ⟨t, 0, 0, 0⟩ := by
          rw [getElem!_pos _ m (by rw [hle]; omega), List.getElem_append_right (by omega)]
          simp [HM.out]
        rw [hls2, List.set_set, h1, List.set_append, if_neg (by omega), HM.out, Nat.sub_self]
        rfl
      have hcell2 := ST2.own.cellAt hsn he2
      have d3' := ST2.D.cell 3 _ rfl
      have hw1 : IntKind.i64.wrap (((m + 1 : Nat) : Int) - 1) = (m : Int) := by rw [IntWalk.i64_in _ (by omega)]; omega
      have hw2 : ((m + 1 : Nat) : Int) - 1 = (m : Int) := by omega
      have hw3 : (m : Int) + 1 - 1 = (m : Int) := by omega
      have HV := Lib.hid hval
      have HK := Lib.hid hk
      have hlen : (ls.set s (l ++ [(⟨t, 0, 0, 0⟩ : Ln)]))[s]!.length = m + 1 := by rw [hls2, hle]
      have HLEN := Lib.hid hlen
      clear hlen
      clear g9 G4 o11 hcell hfg d3 ST orow2 d3d hcd hfd hWd h11 hle hcs hval he2 hls2 hk hlsl hBg hBD hWs hmc
      simp only [decide_eq_true_eq]
      generalize wz.setCell ⟨g, s, none⟩ (.slice B' (m + 1) c') = w7 at *
      generalize hls3 : ls.set s (l ++ [(⟨t, 0, 0, 0⟩ : Ln)]) = ls3 at *
      generalize hs2.set s ⟨B', m + 1, c'⟩ = hs3 at *
      clear hls3
      have hk := HK.out
      go_simp
      have HLN := Lib.hid ST2.own.num
      have hU0 : putC x t st v = (⟨x.sets, x.ways, x.clock + 1, ls3.set s (ls3[s]!.set m ⟨ls3[s]![m]!.addr, st, v, x.clock + 1⟩)⟩, out, 0) := by
        have h1 := HP.out
        rw [HV.out, HL.out, HLV.out, HLS.out, List.set_set, HLF.out, HM2.out]
        exact h1
      have HU := Lib.hid hU0
      clear hU0
      have ST := ST2
      obtain ⟨k, hkd⟩ : ∃ k, k = m := ⟨_, rfl⟩
      have hkl : ls3[s]!.length = k + 1 := by rw [hkd]; exact HLEN.out
      have hk8 : k ≤ 1000000 := by omega
      have hw4 : wrap64 (k : Int) = (k : Int) := by unfold wrap64; omega
      rw [← hkd] at HU hk hw1 hw2 hw3 ⊢
      clear ST2 hcell2 d3' HV HK HL HE HLS HM HLEN HLF HM2 HLV hkd
      obtain ⟨b, m, c2, he, hm, hmc, hbb, hbl, orow⟩ := ST.own.at_ hsn (Nat.lt_of_le_of_lt (Nat.zero_le _) hk)
      obtain rfl : m = k + 1 := hm.symm.trans hkl
      have hcell := ST.own.cellAt hsn he
      have d3 := ST.D.cell 3 _ rfl
      have hkm : (k : Int) < ((k + 1 : Nat) : Int) := by omega
      have hkm2 : (k : Int) < (k : Int) + 1 := by omega
      have hsz : (s : Int) < (n : Int) := by omega
      have c1 : w7.cell? ⟨b, k * 4 + 1, none⟩ = some (.int .i64 ls3[s]![k]!.state) := own_cell orow (k * 4 + 1) _ (flat_at Ln.enc_len ls3[s]! k 1 _ hk rfl)
      have c2' : w7.cell? ⟨b, k * 4 + 2, none⟩ = some (.int .u32 ls3[s]![k]!.val_) := own_cell orow (k * 4 + 2) _ (flat_at Ln.enc_len ls3[s]! k 2 _ hk rfl)
      have c3 : w7.cell? ⟨b, k * 4 + 3, none⟩ = some (.int .i64 ls3[s]![k]!.used) := own_cell orow (k * 4 + 3) _ (flat_at Ln.enc_len ls3[s]! k 3 _ hk rfl)
      have hf1 := own_frozen orow (k * 4 + 1)
      have hf2 := own_frozen orow (k * 4 + 2)
      have hf3 := own_frozen orow (k * 4 + 3)
      have SD := ST.done hsn hk he st v
      have hbD := (ST.rows s hsn b (by rw [he]; rfl)).1
      have e3 : ((w7.setCell ⟨b, k * 4 + 1, none⟩ (.int .i64 st)).setCell ⟨b, k * 4 + 2, none⟩ (.int .u32 v)).cell? ⟨b, k * 4 + 3, none⟩ = some (.int .i64 ls3[s]![k]!.used) := by go_simp
      have ef3 : ((w7.setCell ⟨b, k * 4 + 1, none⟩ (.int .i64 st)).setCell ⟨b, k * 4 + 2, none⟩ (.int .u32 v)).frozen? ⟨b, k * 4 + 3, none⟩ = false := by go_simp
      have DM := (ST.D.far (Y := b) hbD (k * 4 + 1) (.int .i64 st)).far (Y := b) hbD (k * 4 + 2) (.int .u32 v)
      have cU := used_any DX b (k * 4) x.clock _ _ (DM.cell 2 _ rfl) (DM.froz 2) e3 ef3 (Ne.symm hbD) hclk0 hclk
      have HS := Lib.hid SD
      clear SD orow hm he hbb hbl c3 hf3 e3 ef3 DM ST
      go_wp2_with fail
      refine cU.mono ?_
      rintro e w5 ⟨rfl, hw5⟩
      have SD := HS.out
      rw [← hw5] at SD
      clear cU hw5 hcell d3 c1 c2' hf1 hf2 HS
      have D := SD.D
      have X8 := SD.X8
      have X9 := SD.X9
      have O := SD.O
      have d0 := D.cell 0 _ rfl
      have d1 := D.cell 1 _ rfl
      have d2 := D.cell 2 _ rfl
      have d3 := D.cell 3 _ rfl
      have z0 := X8.cell 0 _ rfl
      have z1 := X8.cell 1 _ rfl
      have z2 := X8.cell 2 _ rfl
      have z3 := X8.cell 3 _ rfl
      have f0 := X8.froz 0
      have f1 := X8.froz 1
      have f2 := X8.froz 2
      have f3 := X8.froz 3
      have y0 := X9.cell 0 _ rfl
      have y1 := X9.cell 1 _ rfl
      have y2 := X9.cell 2 _ rfl
      have y3 := X9.cell 3 _ rfl
      have g0 := X9.froz 0
      have g1 := X9.froz 1
      have g2 := X9.froz 2
      have g3 := X9.froz 3
      have o0 := O.cell 0 _ rfl
      have o1 := O.cell 1 _ rfl
      have o2 := O.cell 2 _ rfl
      have o3 := O.cell 3 _ rfl
      have own5 := SD.own
      have b5 := SD.b
      have hnum := SD.num
      have OF := True.intro
      have BF := True.intro
      have hE1 : w.heap.size + 2 < W0.heap.size := hnum.1
      obtain ⟨hn1', hn2', hn3', _, _, _⟩ := hnum
      have Dd := D.below (Below.refl _ _).drew
      have Od := O.below (Below.refl _ _).drew
      have X8d := X8.below (Below.refl _ _).drew
      have X9d := X9.below (Below.refl _ _).drew
      have OD := Lib.hid (((((((((own5.below (Below.refl _ _).drew).set (X := w.heap.size + 1) (by omega) 0 (.int .i64 x.sets)).set (X := w.heap.size + 1) (by omega) 1 (.int .i64 x.ways)).set (X := w.heap.size + 1) (by omega) 2 (.int .i64 (x.clock + 1))).set (X := w.heap.size + 1) (by omega) 3 (.slice (some ⟨g, 0, none⟩) n d)).set (X := w.heap.size + 2) (by omega) 0 (.int .i64 out.addr)).set (X := w.heap.size + 2) (by omega) 1 (.int .i64 out.state)).set (X := w.heap.size + 2) (by omega) 2 (.int .u32 out.val_)).set (X := w.heap.size + 2) (by omega) 3 (.int .i64 out.used))
      have BD := Lib.hid ((((((((b5.drew.setCell (p := ⟨w.heap.size + 1, 0, none⟩) (by show w.heap.size ≤ w.heap.size + 1; omega) (.int .i64 x.sets)).setCell (p := ⟨w.heap.size + 1, 1, none⟩) (by show w.heap.size ≤ w.heap.size + 1; omega) (.int .i64 x.ways)).setCell (p := ⟨w.heap.size + 1, 2, none⟩) (by show w.heap.size ≤ w.heap.size + 1; omega) (.int .i64 (x.clock + 1))).setCell (p := ⟨w.heap.size + 1, 3, none⟩) (by show w.heap.size ≤ w.heap.size + 1; omega) (.slice (some ⟨g, 0, none⟩) n d)).setCell (p := ⟨w.heap.size + 2, 0, none⟩) (by show w.heap.size ≤ w.heap.size + 2; omega) (.int .i64 out.addr)).setCell (p := ⟨w.heap.size + 2, 1, none⟩) (by show w.heap.size ≤ w.heap.size + 2; omega) (.int .i64 out.state)).setCell (p := ⟨w.heap.size + 2, 2, none⟩) (by show w.heap.size ≤ w.heap.size + 2; omega) (.int .u32 out.val_)).setCell (p := ⟨w.heap.size + 2, 3, none⟩) (by show w.heap.size ≤ w.heap.size + 2; omega) (.int .i64 out.used))
      clear X8 X9 own5 b5 SD d0 d1 d2 d3 o0 o1 o2 o3 z0 z1 z2 z3 y0 y1 y2 y3 f0 f1 f2 f3 g0 g1 g2 g3 OF BF D O
      go_wp2_with fail
      refine wp_region_rg (by kernel_rfl) (by kernel_rfl) [99, 100, 10] (OutRPhi w5.drew DX OX (w.heap.size + 1) (w.heap.size + 2) g n d ⟨x.sets, x.ways, x.clock + 1, x.lines⟩ out) ?h0 ⟨?q0, ?q1, ?q2, ?q3, ?q4, trivial⟩ ?hend
      case h0 => exact ⟨_, _, _, _, rfl, ⟨trivial, (fun h => by cases h), (fun h => by cases h), (fun h => by cases h), (Dd), (Od), (fun _ => X8d), (fun _ => X9d), (fun _ => rfl), (fun h => by cases h), (fun h => by cases h)⟩, rfl⟩
      case q0 =>
        rintro L vs w' K ⟨u99, u100, u10, wz, rfl, φ, rfl⟩ hL hpre hcl hK G hG
        simp [Region.binds, closedFrom] at hpre hcl
        have D := φ.dd
        have d0 := D.cell 0 _ rfl
        have d1 := D.cell 1 _ rfl
        have d2 := D.cell 2 _ rfl
        have d3 := D.cell 3 _ rfl
        have hk := hK [(.agg #[.int .i64 x.sets, .int .i64 x.ways, .int .i64 (x.clock + 1), .slice (some ⟨g, 0, none⟩) n d]), u100, u10] wz ⟨_, _, _, wz, rfl,
          { b := φ.b,
            s0 := fun _ => rfl,
            s1 := fun h0 => φ.s1 (by simpa using h0),
            s4 := fun h0 => φ.s4 (by simpa using h0),
            dd := φ.dd,
            oo := φ.oo,
            x8 := fun h0 => φ.x8 (by simpa using h0),
            x9 := fun h0 => φ.x9 (by simpa using h0),
            m0 := fun h0 => φ.m0 (by simpa using h0),
            m1 := fun h0 h1 => φ.m1 (by simpa using h0) (by simpa using h1),
            m2 := fun h0 => φ.m2 (by simpa using h0) }, rfl⟩
        refine hG ?_
        clear hK φ hG
        revert hk
        go_simp
        first | done | exact fun h => h
      case q1 =>
        rintro L vs w' K ⟨u99, u100, u10, wz, rfl, φ, rfl⟩ hL hpre hcl hK G hG
        simp [Region.binds, closedFrom] at hpre hcl
        have O := φ.oo
        have d0 := O.cell 0 _ rfl
        have d1 := O.cell 1 _ rfl
        have d2 := O.cell 2 _ rfl
        have d3 := O.cell 3 _ rfl
        have hk := hK [u99, (.agg #[.int .i64 out.addr, .int .i64 out.state, .int .u32 out.val_, .int .i64 out.used]), u10] wz ⟨_, _, _, wz, rfl,
          { b := φ.b,
            s0 := fun h0 => φ.s0 (by simpa using h0),
            s1 := fun _ => rfl,
            s4 := fun h0 => φ.s4 (by simpa using h0),
            dd := φ.dd,
            oo := φ.oo,
            x8 := fun h0 => φ.x8 (by simpa using h0),
            x9 := fun h0 => φ.x9 (by simpa using h0),
            m0 := fun h0 => φ.m0 (by simpa using h0),
            m1 := fun h0 h1 => φ.m1 (by simpa using h0) (by simpa using h1),
            m2 := fun h0 => φ.m2 (by simpa using h0) }, rfl⟩
        refine hG ?_
        clear hK φ hG
        revert hk
        go_simp
        first | done | exact fun h => h
      case q2 =>
        rintro L vs w' K ⟨u99, u100, u10, wz, rfl, φ, rfl⟩ hL hpre hcl hK G hG
        simp [Region.binds, closedFrom] at hpre hcl
        have e0 := φ.s0 (by simp [hpre])
        subst e0
        have L3 : L 3 = false := by
          cases h : L 3 with
          | false => rfl
          | true => simp [h, hL] at hcl
        have X := φ.x8 hL
        have X' := φ.x9 L3
        have z0 := X.cell 0 _ rfl
        have z1 := X.cell 1 _ rfl
        have z2 := X.cell 2 _ rfl
        have z3 := X.cell 3 _ rfl
        have f0 := X.froz 0
        have f1 := X.froz 1
        have f2 := X.froz 2
        have f3 := X.froz 3
        have em := Lib.hid (φ.m0 hL)
        have hk := hK [(.agg #[.int .i64 x.sets, .int .i64 x.ways, .int .i64 (x.clock + 1), .slice (some ⟨g, 0, none⟩) n d]), u100, u10] ((((wz.setCell ⟨(w.heap.size + 1), 0, none⟩ (.int .i64 x.sets)).setCell ⟨(w.heap.size + 1), 1, none⟩ (.int .i64 x.ways)).setCell ⟨(w.heap.size + 1), 2, none⟩ (.int .i64 (x.clock + 1))).setCell ⟨(w.heap.size + 1), 3, none⟩ (.slice (some ⟨g, 0, none⟩) n d)) ⟨_, _, _, ((((wz.setCell ⟨(w.heap.size + 1), 0, none⟩ (.int .i64 x.sets)).setCell ⟨(w.heap.size + 1), 1, none⟩ (.int .i64 x.ways)).setCell ⟨(w.heap.size + 1), 2, none⟩ (.int .i64 (x.clock + 1))).setCell ⟨(w.heap.size + 1), 3, none⟩ (.slice (some ⟨g, 0, none⟩) n d)), rfl,
          { b := φ.b,
            s0 := fun h0 => φ.s0 (by simpa using h0),
            s1 := fun h0 => φ.s1 (by simpa using h0),
            s4 := fun h0 => φ.s4 (by simpa using h0),
            dd := ((((φ.dd).far (Y := w.heap.size + 1) (by omega) 0 _).far (Y := w.heap.size + 1) (by omega) 1 _).far (Y := w.heap.size + 1) (by omega) 2 _).far (Y := w.heap.size + 1) (by omega) 3 _,
            oo := ((((φ.oo).far (Y := w.heap.size + 1) (by omega) 0 _).far (Y := w.heap.size + 1) (by omega) 1 _).far (Y := w.heap.size + 1) (by omega) 2 _).far (Y := w.heap.size + 1) (by omega) 3 _,
            x8 := fun h => by simp at h,
            x9 := fun _ => ((((X').far (Y := w.heap.size + 1) (by omega) 0 _).far (Y := w.heap.size + 1) (by omega) 1 _).far (Y := w.heap.size + 1) (by omega) 2 _).far (Y := w.heap.size + 1) (by omega) 3 _,
            m0 := fun h => by simp at h,
            m1 := fun _ _ => by rw [em.out],
            m2 := fun h => by simp [L3] at h }, rfl⟩
        refine hG ?_
        clear hK φ hG
        revert hk
        go_simp
        first | done | exact fun h => h
      case q3 =>
        rintro L vs w' K ⟨u99, u100, u10, wz, rfl, φ, rfl⟩ hL hpre hcl hK G hG
        simp [Region.binds, closedFrom] at hpre hcl
        have e1 := φ.s1 (by simp [hpre])
        subst e1
        have L2 : L 2 = true := by simp [hpre]
        have X := φ.x9 hL
        have z0 := X.cell 0 _ rfl
        have z1 := X.cell 1 _ rfl
        have z2 := X.cell 2 _ rfl
        have z3 := X.cell 3 _ rfl
        have f0 := X.froz 0
        have f1 := X.froz 1
        have f2 := X.froz 2
        have f3 := X.froz 3
        have em := Lib.hid (φ.m1 L2 hL)
        have hk := hK [u99, (.agg #[.int .i64 out.addr, .int .i64 out.state, .int .u32 out.val_, .int .i64 out.used]), u10] ((((wz.setCell ⟨(w.heap.size + 2), 0, none⟩ (.int .i64 out.addr)).setCell ⟨(w.heap.size + 2), 1, none⟩ (.int .i64 out.state)).setCell ⟨(w.heap.size + 2), 2, none⟩ (.int .u32 out.val_)).setCell ⟨(w.heap.size + 2), 3, none⟩ (.int .i64 out.used)) ⟨_, _, _, ((((wz.setCell ⟨(w.heap.size + 2), 0, none⟩ (.int .i64 out.addr)).setCell ⟨(w.heap.size + 2), 1, none⟩ (.int .i64 out.state)).setCell ⟨(w.heap.size + 2), 2, none⟩ (.int .u32 out.val_)).setCell ⟨(w.heap.size + 2), 3, none⟩ (.int .i64 out.used)), rfl,
          { b := φ.b,
            s0 := fun h0 => φ.s0 (by simpa using h0),
            s1 := fun h0 => φ.s1 (by simpa using h0),
            s4 := fun h0 => φ.s4 (by simpa using h0),
            dd := ((((φ.dd).far (Y := w.heap.size + 2) (by omega) 0 _).far (Y := w.heap.size + 2) (by omega) 1 _).far (Y := w.heap.size + 2) (by omega) 2 _).far (Y := w.heap.size + 2) (by omega) 3 _,
            oo := ((((φ.oo).far (Y := w.heap.size + 2) (by omega) 0 _).far (Y := w.heap.size + 2) (by omega) 1 _).far (Y := w.heap.size + 2) (by omega) 2 _).far (Y := w.heap.size + 2) (by omega) 3 _,
            x8 := fun h => by simp [L2] at h,
            x9 := fun h => by simp at h,
            m0 := fun h => by simp [L2] at h,
            m1 := fun _ h => by simp at h,
            m2 := fun _ => by rw [em.out] }, rfl⟩
        refine hG ?_
        clear hK φ hG
        revert hk
        go_simp
        first | done | exact fun h => h
      case q4 =>
        rintro L vs w' K ⟨u99, u100, u10, wz, rfl, φ, rfl⟩ hL hpre hcl hK G hG
        simp [Region.binds, closedFrom] at hpre hcl
        have hk := hK [u99, u100, (.int .i64 0)] wz ⟨_, _, _, wz, rfl,
          { b := φ.b,
            s0 := fun h0 => φ.s0 (by simpa using h0),
            s1 := fun h0 => φ.s1 (by simpa using h0),
            s4 := fun _ => rfl,
            dd := φ.dd,
            oo := φ.oo,
            x8 := fun h0 => φ.x8 (by simpa using h0),
            x9 := fun h0 => φ.x9 (by simpa using h0),
            m0 := fun h0 => φ.m0 (by simpa using h0),
            m1 := fun h0 h1 => φ.m1 (by simpa using h0) (by simpa using h1),
            m2 := fun h0 => φ.m2 (by simpa using h0) }, rfl⟩
        refine hG ?_
        clear hK φ hG
        revert hk
        go_simp
        first | done | exact fun h => h
      case hend =>
        rintro vs w' ⟨u99, u100, u10, wz, rfl, φ, rfl⟩ G hG
        have e4 := φ.s4 rfl
        subst e4
        have em := φ.m2 rfl
        clear φ
        subst em
        generalize w5.drew = w6 at *
        refine hG ?_
        clear hG
        have z0 := X8d.cell 0 _ rfl
        have z1 := X8d.cell 1 _ rfl
        have z2 := X8d.cell 2 _ rfl
        have z3 := X8d.cell 3 _ rfl
        have y0 := X9d.cell 0 _ rfl
        have y1 := X9d.cell 1 _ rfl
        have y2 := X9d.cell 2 _ rfl
        have y3 := X9d.cell 3 _ rfl
        go_simp
        go_wp2_with fail

        refine bodyPost_ret (v := .tuple #[.agg #[.int .i64 x.sets, .int .i64 x.ways, .int .i64 (x.clock + 1), .slice (some ⟨g, 0, none⟩) n d], .agg #[.int .i64 out.addr, .int .i64 out.state, .int .u32 out.val_, .int .i64 out.used], .int .i64 0]) (by simp [results, Try.results8, go_sem, z0, z1, z2, z3, y0, y1, y2, y3]) rfl ?_
        rw [HU.out]
        unfold GivesP
        simp only [List.length_set, HLN.out]
        exact ⟨some ⟨g, 0, none⟩, d, rfl, ⟨_, (by exact OD.out.weaken hW0)⟩, (by exact BD.out)⟩
end Go.Proofs.Ytdndanjabknjpaa
