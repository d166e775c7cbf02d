/- The walk of the reference's Same at two caches that read alike. -/
import Derived.Test.YtdndanjabknjpaaQ
namespace Go.Proofs.Ytdndanjabknjpaa
open Go.RowKit Go.Lib
set_option linter.unusedVariables false
attribute [local go_sem] Act.puts
structure SmR (w0 : World) (XA XB ba oa ca bb ob cb n i m da db : Nat) (RA RB : Option Addr) (L : Nat → Bool) (u41 u42 u43 u44 u45 u46 u47 u48 u49 u50 u51 u52 : Value) (wz : World) : Prop where
  b : Below w0.heap.size w0 wz
  s0 : L 0 = true → u41 = .pointer (some ⟨XA, 3, none⟩)
  s1 : L 1 = true → u42 = .slice (some ⟨ba, oa, none⟩) n ca
  s2 : L 2 = true → u43 = .int .i64 (i : Int)
  s3 : L 3 = true → u44 = .pointer (some ⟨ba, oa + i, none⟩)
  s4 : L 4 = true → u45 = .slice RA m da
  s5 : L 5 = true → u46 = .pointer (some ⟨XB, 3, none⟩)
  s6 : L 6 = true → u47 = .slice (some ⟨bb, ob, none⟩) n cb
  s7 : L 7 = true → u48 = .int .i64 (i : Int)
  s8 : L 8 = true → u49 = .pointer (some ⟨bb, ob + i, none⟩)
  s9 : L 9 = true → u50 = .slice RB m db
  s10 : L 10 = true → u51 = .bool true
  s11 : L 11 = true → u52 = .bool false
def SmRPhi (w0 : World) (XA XB ba oa ca bb ob cb n i m da db : Nat) (RA RB : Option Addr) (L : Nat → Bool) (vs : List Value) (w' : World) : Prop :=
  ∃ u41 u42 u43 u44 u45 u46 u47 u48 u49 u50 u51 u52 wz, vs = [u41, u42, u43, u44, u45, u46, u47, u48, u49, u50, u51, u52] ∧ SmR w0 XA XB ba oa ca bb ob cb n i m da db RA RB L u41 u42 u43 u44 u45 u46 u47 u48 u49 u50 u51 u52 wz ∧ wz = w'

set_option maxHeartbeats 16000000 in
set_option maxRecDepth 100000 in
theorem same_any2 (A B : Option Addr) (ca cb n : Nat) (x : Ca) (hs ht : List Hd) (w : World) (h : CIn w A x.lines hs) (h2 : CIn w B x.lines ht) (hn : x.lines.length = n) (hn1 : n ≤ 1000000) :
    Calls Try.prog 17 #[.agg #[.int .i64 x.sets, .int .i64 x.ways, .int .i64 x.clock, .slice A n ca], .agg #[.int .i64 x.sets, .int .i64 x.ways, .int .i64 x.clock, .slice B n cb]] w fun e w' => e = .returned (.bool true) ∧ Below w.heap.size w w' := by
  have b0 : Below w.heap.size w ((w.alloc (.cells #[.int .i64 x.sets, .int .i64 x.ways, .int .i64 x.clock, .slice A n ca] 26)).alloc (.cells #[.int .i64 x.sets, .int .i64 x.ways, .int .i64 x.clock, .slice B n cb] 26)) := ((Below.refl _ _).alloc (Nat.le_refl _) _).alloc (by simp) _
  have X := (Bx.new w [.int .i64 x.sets, .int .i64 x.ways, .int .i64 x.clock, .slice A n ca] 26).alloc (.cells #[.int .i64 x.sets, .int .i64 x.ways, .int .i64 x.clock, .slice B n cb] 26)
  have Y := Bx.new (w.alloc (.cells #[.int .i64 x.sets, .int .i64 x.ways, .int .i64 x.clock, .slice A n ca] 26)) [.int .i64 x.sets, .int .i64 x.ways, .int .i64 x.clock, .slice B n cb] 26
  rw [show (w.alloc (.cells #[.int .i64 x.sets, .int .i64 x.ways, .int .i64 x.clock, .slice A n ca] 26)).heap.size = w.heap.size + 1 by simp] at Y
  have H1 := Lib.hid (h.below b0)
  have H2 := Lib.hid (h2.below b0)
  have HN := Lib.hid hn
  have x0 := X.cell 0 _ rfl
  have x1 := X.cell 1 _ rfl
  have x2 := X.cell 2 _ rfl
  have x3 := X.cell 3 _ rfl
  have y0 := Y.cell 0 _ rfl
  have y1 := Y.cell 1 _ rfl
  have y2 := Y.cell 2 _ rfl
  have y3 := Y.cell 3 _ rfl
  clear h h2 hn
  go_enter Try.func17, Try.ntmps17
  have hb0 := b0.size
  go_wp2_with fail
  generalize (w.alloc (.cells #[.int .i64 x.sets, .int .i64 x.ways, .int .i64 x.clock, .slice A n ca] 26)).alloc (.cells #[.int .i64 x.sets, .int .i64 x.ways, .int .i64 x.clock, .slice B n cb] 26) = W1 at *
  clear x0 x1 x2 x3 y0 y1 y2 y3
  generalize w.heap.size = XA at X Y ⊢
  generalize XA + 1 = XB at *
  go_loopg [5] n (fun gg s5 wr => ∃ i : Nat, i ≤ n ∧ n - i ≤ gg ∧ s5 = .int .i64 (i : Int) ∧ Aside (Below W1.heap.size W1 wr))
  case atStart => exact ⟨0, Nat.zero_le _, by omega, rfl, Below.refl _ _⟩
  case round =>
    obtain ⟨i, hin, hg, rfl, HB⟩ := hrel
    have b := HB.out
    have bF := b0.trans (b.mono hb0)
    have x3 := (X.below b).cell 3 _ rfl
    have y3 := (Y.below b).cell 3 _ rfl
    by_cases hlt : i < n
    · have hltz : (i : Int) < (n : Int) := by omega
      obtain ⟨ba, oa, RA, m, da, e1, ha, hm, _, _, sa⟩ := (H1.out.below b).at_ i (by rw [HN.out]; exact hlt)
      obtain ⟨bb, ob, RB, m', db, e2, hb, hm', _, _, sb⟩ := (H2.out.below b).at_ i (by rw [HN.out]; exact hlt)
      obtain rfl : m = m' := hm.symm.trans hm'
      subst e1
      subst e2
      have SA := sa.below (Below.refl _ _).drew
      have SB := sb.below (Below.refl _ _).drew
      have cL := fun wz (hz : Below wr.drew.heap.size wr.drew wz) => lines_any RA RB da db m m x.lines[i]! x.lines[i]! wz (SA.below hz) (SB.below hz) hm hm
      simp only [decide_true] at cL
      have xa : wr.drew.cell? ⟨XA, 3, none⟩ = some (.slice (some ⟨ba, oa, none⟩) n ca) := x3
      have xb : wr.drew.cell? ⟨XB, 3, none⟩ = some (.slice (some ⟨bb, ob, none⟩) n cb) := y3
      replace ha : wr.drew.cell? ⟨ba, oa + i, none⟩ = some (.slice RA m da) := ha
      replace hb : wr.drew.cell? ⟨bb, ob + i, none⟩ = some (.slice RB m db) := hb
      clear sa sb SA SB
      go_wp2_with fail
      refine wp_region_rg (by kernel_rfl) (by kernel_rfl) [41, 42, 43, 44, 45, 46, 47, 48, 49, 50, 51, 52] (SmRPhi wr.drew XA XB ba oa ca bb ob cb n i m da db RA RB) ?h0 ⟨?q0, ?q1, ?q2, ?q3, ?q4, ?q5, ?q6, ?q7, ?q8, ?q9, ?q10, ?q11, trivial⟩ ?hend
      case h0 => exact ⟨_, _, _, _, _, _, _, _, _, _, _, _, _, rfl, ⟨Below.refl _ _, (fun h => by cases h), (fun h => by cases h), (fun h => by cases h), (fun h => by cases h), (fun h => by cases h), (fun h => by cases h), (fun h => by cases h), (fun h => by cases h), (fun h => by cases h), (fun h => by cases h), (fun h => by cases h), (fun h => by cases h)⟩, rfl⟩
      case q0 =>
        rintro L vs w' K ⟨u41, u42, u43, u44, u45, u46, u47, u48, u49, u50, u51, u52, wz, rfl, φ, rfl⟩ hL hpre hcl hK G hG
        simp [Region.binds, closedFrom] at hpre hcl
        have hk := hK [(.pointer (some ⟨XA, 3, none⟩)), u42, u43, u44, u45, u46, u47, u48, u49, u50, u51, u52] wz ⟨_, _, _, _, _, _, _, _, _, _, _, _, wz, rfl,
          { b := φ.b,
            s0 := fun _ => rfl,
            s1 := fun h0 => φ.s1 (by simpa using h0),
            s2 := fun h0 => φ.s2 (by simpa using h0),
            s3 := fun h0 => φ.s3 (by simpa using h0),
            s4 := fun h0 => φ.s4 (by simpa using h0),
            s5 := fun h0 => φ.s5 (by simpa using h0),
            s6 := fun h0 => φ.s6 (by simpa using h0),
            s7 := fun h0 => φ.s7 (by simpa using h0),
            s8 := fun h0 => φ.s8 (by simpa using h0),
            s9 := fun h0 => φ.s9 (by simpa using h0),
            s10 := fun h0 => φ.s10 (by simpa using h0),
            s11 := fun h0 => φ.s11 (by simpa using h0) }, rfl⟩
        refine hG ?_
        clear hK φ hG
        revert hk
        go_simp
        first | done | exact fun h => h
      case q1 =>
        rintro L vs w' K ⟨u41, u42, u43, u44, u45, u46, u47, u48, u49, u50, u51, u52, wz, rfl, φ, rfl⟩ hL hpre hcl hK G hG
        simp [Region.binds, closedFrom] at hpre hcl
        have e0 := φ.s0 (by simp [hpre])
        subst e0
        have ce0 := (φ.b.cell (p := ⟨XA, 3, none⟩) (World.block_lt_of_cell? _ _ xa)).trans xa
        have hk := hK [(.pointer (some ⟨XA, 3, none⟩)), (.slice (some ⟨ba, oa, none⟩) n ca), u43, u44, u45, u46, u47, u48, u49, u50, u51, u52] wz ⟨_, _, _, _, _, _, _, _, _, _, _, _, wz, rfl,
          { b := φ.b,
            s0 := fun h0 => φ.s0 (by simpa using h0),
            s1 := fun _ => rfl,
            s2 := fun h0 => φ.s2 (by simpa using h0),
            s3 := fun h0 => φ.s3 (by simpa using h0),
            s4 := fun h0 => φ.s4 (by simpa using h0),
            s5 := fun h0 => φ.s5 (by simpa using h0),
            s6 := fun h0 => φ.s6 (by simpa using h0),
            s7 := fun h0 => φ.s7 (by simpa using h0),
            s8 := fun h0 => φ.s8 (by simpa using h0),
            s9 := fun h0 => φ.s9 (by simpa using h0),
            s10 := fun h0 => φ.s10 (by simpa using h0),
            s11 := fun h0 => φ.s11 (by simpa using h0) }, rfl⟩
        refine hG ?_
        clear hK φ hG
        revert hk
        go_simp
        first | done | exact fun h => h
      case q2 =>
        rintro L vs w' K ⟨u41, u42, u43, u44, u45, u46, u47, u48, u49, u50, u51, u52, wz, rfl, φ, rfl⟩ hL hpre hcl hK G hG
        simp [Region.binds, closedFrom] at hpre hcl
        have hk := hK [u41, u42, (.int .i64 (i : Int)), u44, u45, u46, u47, u48, u49, u50, u51, u52] wz ⟨_, _, _, _, _, _, _, _, _, _, _, _, wz, rfl,
          { b := φ.b,
            s0 := fun h0 => φ.s0 (by simpa using h0),
            s1 := fun h0 => φ.s1 (by simpa using h0),
            s2 := fun _ => rfl,
            s3 := fun h0 => φ.s3 (by simpa using h0),
            s4 := fun h0 => φ.s4 (by simpa using h0),
            s5 := fun h0 => φ.s5 (by simpa using h0),
            s6 := fun h0 => φ.s6 (by simpa using h0),
            s7 := fun h0 => φ.s7 (by simpa using h0),
            s8 := fun h0 => φ.s8 (by simpa using h0),
            s9 := fun h0 => φ.s9 (by simpa using h0),
            s10 := fun h0 => φ.s10 (by simpa using h0),
            s11 := fun h0 => φ.s11 (by simpa using h0) }, rfl⟩
        refine hG ?_
        clear hK φ hG
        revert hk
        go_simp
        first | done | exact fun h => h
      case q3 =>
        rintro L vs w' K ⟨u41, u42, u43, u44, u45, u46, u47, u48, u49, u50, u51, u52, wz, rfl, φ, rfl⟩ hL hpre hcl hK G hG
        simp [Region.binds, closedFrom] at hpre hcl
        have e1 := φ.s1 (by simp [hpre])
        subst e1
        have e2 := φ.s2 (by simp [hpre])
        subst e2
        have hk := hK [u41, (.slice (some ⟨ba, oa, none⟩) n ca), (.int .i64 (i : Int)), (.pointer (some ⟨ba, oa + i, none⟩)), u45, u46, u47, u48, u49, u50, u51, u52] wz ⟨_, _, _, _, _, _, _, _, _, _, _, _, wz, rfl,
          { b := φ.b,
            s0 := fun h0 => φ.s0 (by simpa using h0),
            s1 := fun h0 => φ.s1 (by simpa using h0),
            s2 := fun h0 => φ.s2 (by simpa using h0),
            s3 := fun _ => rfl,
            s4 := fun h0 => φ.s4 (by simpa using h0),
            s5 := fun h0 => φ.s5 (by simpa using h0),
            s6 := fun h0 => φ.s6 (by simpa using h0),
            s7 := fun h0 => φ.s7 (by simpa using h0),
            s8 := fun h0 => φ.s8 (by simpa using h0),
            s9 := fun h0 => φ.s9 (by simpa using h0),
            s10 := fun h0 => φ.s10 (by simpa using h0),
            s11 := fun h0 => φ.s11 (by simpa using h0) }, rfl⟩
        refine hG ?_
        clear hK φ hG
        revert hk
        go_simp
        first | done | exact fun h => h
      case q4 =>
        rintro L vs w' K ⟨u41, u42, u43, u44, u45, u46, u47, u48, u49, u50, u51, u52, wz, rfl, φ, rfl⟩ hL hpre hcl hK G hG
        simp [Region.binds, closedFrom] at hpre hcl
        have e3 := φ.s3 (by simp [hpre])
        subst e3
        have ce0 := (φ.b.cell (p := ⟨ba, oa + i, none⟩) (World.block_lt_of_cell? _ _ ha)).trans ha
        have hk := hK [u41, u42, u43, (.pointer (some ⟨ba, oa + i, none⟩)), (.slice RA m da), u46, u47, u48, u49, u50, u51, u52] wz ⟨_, _, _, _, _, _, _, _, _, _, _, _, wz, rfl,
          { b := φ.b,
            s0 := fun h0 => φ.s0 (by simpa using h0),
            s1 := fun h0 => φ.s1 (by simpa using h0),
            s2 := fun h0 => φ.s2 (by simpa using h0),
            s3 := fun h0 => φ.s3 (by simpa using h0),
            s4 := fun _ => rfl,
            s5 := fun h0 => φ.s5 (by simpa using h0),
            s6 := fun h0 => φ.s6 (by simpa using h0),
            s7 := fun h0 => φ.s7 (by simpa using h0),
            s8 := fun h0 => φ.s8 (by simpa using h0),
            s9 := fun h0 => φ.s9 (by simpa using h0),
            s10 := fun h0 => φ.s10 (by simpa using h0),
            s11 := fun h0 => φ.s11 (by simpa using h0) }, rfl⟩
        refine hG ?_
        clear hK φ hG
        revert hk
        go_simp
        first | done | exact fun h => h
      case q5 =>
        rintro L vs w' K ⟨u41, u42, u43, u44, u45, u46, u47, u48, u49, u50, u51, u52, wz, rfl, φ, rfl⟩ hL hpre hcl hK G hG
        simp [Region.binds, closedFrom] at hpre hcl
        have hk := hK [u41, u42, u43, u44, u45, (.pointer (some ⟨XB, 3, none⟩)), u47, u48, u49, u50, u51, u52] wz ⟨_, _, _, _, _, _, _, _, _, _, _, _, wz, rfl,
          { b := φ.b,
            s0 := fun h0 => φ.s0 (by simpa using h0),
            s1 := fun h0 => φ.s1 (by simpa using h0),
            s2 := fun h0 => φ.s2 (by simpa using h0),
            s3 := fun h0 => φ.s3 (by simpa using h0),
            s4 := fun h0 => φ.s4 (by simpa using h0),
            s5 := fun _ => rfl,
            s6 := fun h0 => φ.s6 (by simpa using h0),
            s7 := fun h0 => φ.s7 (by simpa using h0),
            s8 := fun h0 => φ.s8 (by simpa using h0),
            s9 := fun h0 => φ.s9 (by simpa using h0),
            s10 := fun h0 => φ.s10 (by simpa using h0),
            s11 := fun h0 => φ.s11 (by simpa using h0) }, rfl⟩
        refine hG ?_
        clear hK φ hG
        revert hk
        go_simp
        first | done | exact fun h => h
      case q6 =>
        rintro L vs w' K ⟨u41, u42, u43, u44, u45, u46, u47, u48, u49, u50, u51, u52, wz, rfl, φ, rfl⟩ hL hpre hcl hK G hG
        simp [Region.binds, closedFrom] at hpre hcl
        have e5 := φ.s5 (by simp [hpre])
        subst e5
        have ce0 := (φ.b.cell (p := ⟨XB, 3, none⟩) (World.block_lt_of_cell? _ _ xb)).trans xb
        have hk := hK [u41, u42, u43, u44, u45, (.pointer (some ⟨XB, 3, none⟩)), (.slice (some ⟨bb, ob, none⟩) n cb), u48, u49, u50, u51, u52] wz ⟨_, _, _, _, _, _, _, _, _, _, _, _, wz, rfl,
          { b := φ.b,
            s0 := fun h0 => φ.s0 (by simpa using h0),
            s1 := fun h0 => φ.s1 (by simpa using h0),
            s2 := fun h0 => φ.s2 (by simpa using h0),
            s3 := fun h0 => φ.s3 (by simpa using h0),
            s4 := fun h0 => φ.s4 (by simpa using h0),
            s5 := fun h0 => φ.s5 (by simpa using h0),
            s6 := fun _ => rfl,
            s7 := fun h0 => φ.s7 (by simpa using h0),
            s8 := fun h0 => φ.s8 (by simpa using h0),
            s9 := fun h0 => φ.s9 (by simpa using h0),
            s10 := fun h0 => φ.s10 (by simpa using h0),
            s11 := fun h0 => φ.s11 (by simpa using h0) }, rfl⟩
        refine hG ?_
        clear hK φ hG
        revert hk
        go_simp
        first | done | exact fun h => h
      case q7 =>
        rintro L vs w' K ⟨u41, u42, u43, u44, u45, u46, u47, u48, u49, u50, u51, u52, wz, rfl, φ, rfl⟩ hL hpre hcl hK G hG
        simp [Region.binds, closedFrom] at hpre hcl
        have hk := hK [u41, u42, u43, u44, u45, u46, u47, (.int .i64 (i : Int)), u49, u50, u51, u52] wz ⟨_, _, _, _, _, _, _, _, _, _, _, _, wz, rfl,
          { b := φ.b,
            s0 := fun h0 => φ.s0 (by simpa using h0),
            s1 := fun h0 => φ.s1 (by simpa using h0),
            s2 := fun h0 => φ.s2 (by simpa using h0),
            s3 := fun h0 => φ.s3 (by simpa using h0),
            s4 := fun h0 => φ.s4 (by simpa using h0),
            s5 := fun h0 => φ.s5 (by simpa using h0),
            s6 := fun h0 => φ.s6 (by simpa using h0),
            s7 := fun _ => rfl,
            s8 := fun h0 => φ.s8 (by simpa using h0),
            s9 := fun h0 => φ.s9 (by simpa using h0),
            s10 := fun h0 => φ.s10 (by simpa using h0),
            s11 := fun h0 => φ.s11 (by simpa using h0) }, rfl⟩
        refine hG ?_
        clear hK φ hG
        revert hk
        go_simp
        first | done | exact fun h => h
      case q8 =>
        rintro L vs w' K ⟨u41, u42, u43, u44, u45, u46, u47, u48, u49, u50, u51, u52, wz, rfl, φ, rfl⟩ hL hpre hcl hK G hG
        simp [Region.binds, closedFrom] at hpre hcl
        have e6 := φ.s6 (by simp [hpre])
        subst e6
        have e7 := φ.s7 (by simp [hpre])
        subst e7
        have hk := hK [u41, u42, u43, u44, u45, u46, (.slice (some ⟨bb, ob, none⟩) n cb), (.int .i64 (i : Int)), (.pointer (some ⟨bb, ob + i, none⟩)), u50, u51, u52] wz ⟨_, _, _, _, _, _, _, _, _, _, _, _, wz, rfl,
          { b := φ.b,
            s0 := fun h0 => φ.s0 (by simpa using h0),
            s1 := fun h0 => φ.s1 (by simpa using h0),
            s2 := fun h0 => φ.s2 (by simpa using h0),
            s3 := fun h0 => φ.s3 (by simpa using h0),
            s4 := fun h0 => φ.s4 (by simpa using h0),
            s5 := fun h0 => φ.s5 (by simpa using h0),
            s6 := fun h0 => φ.s6 (by simpa using h0),
            s7 := fun h0 => φ.s7 (by simpa using h0),
            s8 := fun _ => rfl,
            s9 := fun h0 => φ.s9 (by simpa using h0),
            s10 := fun h0 => φ.s10 (by simpa using h0),
            s11 := fun h0 => φ.s11 (by simpa using h0) }, rfl⟩
        refine hG ?_
        clear hK φ hG
        revert hk
        go_simp
        first | done | exact fun h => h
      case q9 =>
        rintro L vs w' K ⟨u41, u42, u43, u44, u45, u46, u47, u48, u49, u50, u51, u52, wz, rfl, φ, rfl⟩ hL hpre hcl hK G hG
        simp [Region.binds, closedFrom] at hpre hcl
        have e8 := φ.s8 (by simp [hpre])
        subst e8
        have ce0 := (φ.b.cell (p := ⟨bb, ob + i, none⟩) (World.block_lt_of_cell? _ _ hb)).trans hb
        have hk := hK [u41, u42, u43, u44, u45, u46, u47, u48, (.pointer (some ⟨bb, ob + i, none⟩)), (.slice RB m db), u51, u52] wz ⟨_, _, _, _, _, _, _, _, _, _, _, _, wz, rfl,
          { b := φ.b,
            s0 := fun h0 => φ.s0 (by simpa using h0),
            s1 := fun h0 => φ.s1 (by simpa using h0),
            s2 := fun h0 => φ.s2 (by simpa using h0),
            s3 := fun h0 => φ.s3 (by simpa using h0),
            s4 := fun h0 => φ.s4 (by simpa using h0),
            s5 := fun h0 => φ.s5 (by simpa using h0),
            s6 := fun h0 => φ.s6 (by simpa using h0),
            s7 := fun h0 => φ.s7 (by simpa using h0),
            s8 := fun h0 => φ.s8 (by simpa using h0),
            s9 := fun _ => rfl,
            s10 := fun h0 => φ.s10 (by simpa using h0),
            s11 := fun h0 => φ.s11 (by simpa using h0) }, rfl⟩
        refine hG ?_
        clear hK φ hG
        revert hk
        go_simp
        first | done | exact fun h => h
      case q10 =>
        rintro L vs w' K ⟨u41, u42, u43, u44, u45, u46, u47, u48, u49, u50, u51, u52, wz, rfl, φ, rfl⟩ hL hpre hcl hK G hG
        simp [Region.binds, closedFrom] at hpre hcl
        have e4 := φ.s4 (by simp [hpre])
        subst e4
        have e9 := φ.s9 (by simp [hpre])
        subst e9
        refine hG (step_call wz rfl 12 #[.tmp 45, .tmp 50] #[40, 40] rfl #[.slice RA m da, .slice RB m db] (by simp [Act.eval, Act.puts, Act.put]) (enters_of Try.func12 (by kernel_rfl) rfl) (cL wz φ.b) ?_)
        rintro e w9 ⟨rfl, hb9⟩
        refine ⟨_, rfl, ?_⟩
        have hk := hK [u41, u42, u43, u44, (.slice RA m da), u46, u47, u48, u49, (.slice RB m db), (.bool true), u52] w9 ⟨_, _, _, _, _, _, _, _, _, _, _, _, w9, rfl,
          { b := φ.b.trans (hb9.mono φ.b.size),
            s0 := fun h0 => φ.s0 (by simpa using h0),
            s1 := fun h0 => φ.s1 (by simpa using h0),
            s2 := fun h0 => φ.s2 (by simpa using h0),
            s3 := fun h0 => φ.s3 (by simpa using h0),
            s4 := fun h0 => φ.s4 (by simpa using h0),
            s5 := fun h0 => φ.s5 (by simpa using h0),
            s6 := fun h0 => φ.s6 (by simpa using h0),
            s7 := fun h0 => φ.s7 (by simpa using h0),
            s8 := fun h0 => φ.s8 (by simpa using h0),
            s9 := fun h0 => φ.s9 (by simpa using h0),
            s10 := fun _ => rfl,
            s11 := fun h0 => φ.s11 (by simpa using h0) }, rfl⟩
        clear hK φ hG
        revert hk
        go_simp
        first | done | exact fun h => h
      case q11 =>
        rintro L vs w' K ⟨u41, u42, u43, u44, u45, u46, u47, u48, u49, u50, u51, u52, wz, rfl, φ, rfl⟩ hL hpre hcl hK G hG
        simp [Region.binds, closedFrom] at hpre hcl
        have e10 := φ.s10 (by simp [hpre])
        subst e10
        have hk := hK [u41, u42, u43, u44, u45, u46, u47, u48, u49, u50, (.bool true), (.bool false)] wz ⟨_, _, _, _, _, _, _, _, _, _, _, _, wz, rfl,
          { b := φ.b,
            s0 := fun h0 => φ.s0 (by simpa using h0),
            s1 := fun h0 => φ.s1 (by simpa using h0),
            s2 := fun h0 => φ.s2 (by simpa using h0),
            s3 := fun h0 => φ.s3 (by simpa using h0),
            s4 := fun h0 => φ.s4 (by simpa using h0),
            s5 := fun h0 => φ.s5 (by simpa using h0),
            s6 := fun h0 => φ.s6 (by simpa using h0),
            s7 := fun h0 => φ.s7 (by simpa using h0),
            s8 := fun h0 => φ.s8 (by simpa using h0),
            s9 := fun h0 => φ.s9 (by simpa using h0),
            s10 := fun h0 => φ.s10 (by simpa using h0),
            s11 := fun _ => rfl }, rfl⟩
        refine hG ?_
        clear hK φ hG
        revert hk
        go_simp
        first | done | exact fun h => h
      case hend =>
        rintro vs w' ⟨u41, u42, u43, u44, u45, u46, u47, u48, u49, u50, u51, u52, wz, rfl, φ, rfl⟩ G hG
        obtain rfl := φ.s11 rfl
        have b9 := φ.b
        clear φ
        refine hG ?_
        clear hG
        have bN := Lib.hid (HB.out.drew.trans (b9.mono HB.out.drew.size))
        clear b9 xa xb ha hb cL x3 y3 b bF
        go_simp
        go_wp2_with fail
        go_roundg (n - (i + 1))
        case measure => omega
        case rel => exact ⟨i + 1, by omega, by omega, by go_num, (show Aside _ from bN.out)⟩
    · obtain rfl : i = n := by omega
      have hltz : ¬ (i : Int) < (i : Int) := by omega
      go_wp2_with fail
      go_ret
      exact ⟨rfl, bF⟩
end Go.Proofs.Ytdndanjabknjpaa
