/- The walk of the reference's Right. -/
import Derived.Test.YtimhdkgllgdamaaR
namespace Go.Proofs.Ytimhdkgllgdamaa
open Go.RowKit Go.Lib D
set_option linter.unusedVariables false
attribute [local go_sem] Act.puts
structure RrBad (w0 : World) (bb off n c kk k1 : Nat) (x y : Du) (L : Nat → Bool) (u14 u15 u16 u17 u18 u19 u20 u21 u22 u23 u24 u25 u26 u27 u28 u29 u30 u31 u32 u33 u34 u35 u36 : Value) (wz : World) : Prop where
  b : Below w0.heap.size w0 wz
  s0 : L 0 = true → u14 = .slice (some ⟨bb, off, none⟩) n c
  s1 : L 1 = true → u15 = .int .i64 (kk : Int)
  s2 : L 2 = true → u16 = .pointer (some ⟨bb, off + kk * 2, none⟩)
  s3 : L 3 = true → u17 = .agg #[.int .i64 x.when_, .int .i64 x.which]
  s4 : L 4 = true → u18 = .bool false
  s5 : L 5 = true → u19 = .bool true
  s6 : L 6 = true → u20 = .bool true
  s7 : L 7 = true → u21 = undef
  s8 : L 8 = true → u22 = undef
  s9 : L 9 = true → u23 = undef
  s10 : L 10 = true → u24 = undef
  s11 : L 11 = true → u25 = undef
  s12 : L 12 = true → u26 = undef
  s13 : L 13 = true → u27 = undef
  s14 : L 14 = true → u28 = undef
  s15 : L 15 = true → u29 = undef
  s16 : L 16 = true → u30 = undef
  s17 : L 17 = true → u31 = undef
  s18 : L 18 = true → u32 = undef
  s19 : L 19 = true → u33 = undef
  s20 : L 20 = true → u34 = undef
  s21 : L 21 = true → u35 = undef
  s22 : L 22 = true → u36 = .bool true
def RrBadPhi (w0 : World) (bb off n c kk k1 : Nat) (x y : Du) (L : Nat → Bool) (vs : List Value) (w' : World) : Prop :=
  ∃ u14 u15 u16 u17 u18 u19 u20 u21 u22 u23 u24 u25 u26 u27 u28 u29 u30 u31 u32 u33 u34 u35 u36 wz, vs = [u14, u15, u16, u17, u18, u19, u20, u21, u22, u23, u24, u25, u26, u27, u28, u29, u30, u31, u32, u33, u34, u35, u36] ∧ RrBad w0 bb off n c kk k1 x y L u14 u15 u16 u17 u18 u19 u20 u21 u22 u23 u24 u25 u26 u27 u28 u29 u30 u31 u32 u33 u34 u35 u36 wz ∧ wz = w'
structure RrFirst (w0 : World) (bb off n c kk k1 : Nat) (x y : Du) (L : Nat → Bool) (u14 u15 u16 u17 u18 u19 u20 u21 u22 u23 u24 u25 u26 u27 u28 u29 u30 u31 u32 u33 u34 u35 u36 : Value) (wz : World) : Prop where
  b : Below w0.heap.size w0 wz
  s0 : L 0 = true → u14 = .slice (some ⟨bb, off, none⟩) n c
  s1 : L 1 = true → u15 = .int .i64 (kk : Int)
  s2 : L 2 = true → u16 = .pointer (some ⟨bb, off + kk * 2, none⟩)
  s3 : L 3 = true → u17 = .agg #[.int .i64 x.when_, .int .i64 x.which]
  s4 : L 4 = true → u18 = .bool true
  s5 : L 5 = true → u19 = .bool false
  s6 : L 6 = true → u20 = .bool false
  s7 : L 7 = true → u21 = .int .i64 (kk : Int)
  s8 : L 8 = true → u22 = .bool false
  s9 : L 9 = true → u23 = .bool false
  s10 : L 10 = true → u24 = undef
  s11 : L 11 = true → u25 = undef
  s12 : L 12 = true → u26 = undef
  s13 : L 13 = true → u27 = undef
  s14 : L 14 = true → u28 = undef
  s15 : L 15 = true → u29 = undef
  s16 : L 16 = true → u30 = undef
  s17 : L 17 = true → u31 = undef
  s18 : L 18 = true → u32 = undef
  s19 : L 19 = true → u33 = undef
  s20 : L 20 = true → u34 = undef
  s21 : L 21 = true → u35 = .bool false
  s22 : L 22 = true → u36 = .bool false
def RrFirstPhi (w0 : World) (bb off n c kk k1 : Nat) (x y : Du) (L : Nat → Bool) (vs : List Value) (w' : World) : Prop :=
  ∃ u14 u15 u16 u17 u18 u19 u20 u21 u22 u23 u24 u25 u26 u27 u28 u29 u30 u31 u32 u33 u34 u35 u36 wz, vs = [u14, u15, u16, u17, u18, u19, u20, u21, u22, u23, u24, u25, u26, u27, u28, u29, u30, u31, u32, u33, u34, u35, u36] ∧ RrFirst w0 bb off n c kk k1 x y L u14 u15 u16 u17 u18 u19 u20 u21 u22 u23 u24 u25 u26 u27 u28 u29 u30 u31 u32 u33 u34 u35 u36 wz ∧ wz = w'
structure RrLess0 (w0 : World) (bb off n c kk k1 : Nat) (x y : Du) (L : Nat → Bool) (u14 u15 u16 u17 u18 u19 u20 u21 u22 u23 u24 u25 u26 u27 u28 u29 u30 u31 u32 u33 u34 u35 u36 : Value) (wz : World) : Prop where
  b : Below w0.heap.size w0 wz
  s0 : L 0 = true → u14 = .slice (some ⟨bb, off, none⟩) n c
  s1 : L 1 = true → u15 = .int .i64 (kk : Int)
  s2 : L 2 = true → u16 = .pointer (some ⟨bb, off + kk * 2, none⟩)
  s3 : L 3 = true → u17 = .agg #[.int .i64 x.when_, .int .i64 x.which]
  s4 : L 4 = true → u18 = .bool true
  s5 : L 5 = true → u19 = .bool false
  s6 : L 6 = true → u20 = .bool false
  s7 : L 7 = true → u21 = .int .i64 (kk : Int)
  s8 : L 8 = true → u22 = .bool true
  s9 : L 9 = true → u23 = .bool true
  s10 : L 10 = true → u24 = .slice (some ⟨bb, off, none⟩) n c
  s11 : L 11 = true → u25 = .int .i64 (kk : Int)
  s12 : L 12 = true → u26 = .int .i64 (k1 : Int)
  s13 : L 13 = true → u27 = .pointer (some ⟨bb, off + k1 * 2, none⟩)
  s14 : L 14 = true → u28 = .agg #[.int .i64 y.when_, .int .i64 y.which]
  s15 : L 15 = true → u29 = .slice (some ⟨bb, off, none⟩) n c
  s16 : L 16 = true → u30 = .int .i64 (kk : Int)
  s17 : L 17 = true → u31 = .pointer (some ⟨bb, off + kk * 2, none⟩)
  s18 : L 18 = true → u32 = .agg #[.int .i64 x.when_, .int .i64 x.which]
  s19 : L 19 = true → u33 = .bool false
  s20 : L 20 = true → u34 = .bool true
  s21 : L 21 = true → u35 = .bool true
  s22 : L 22 = true → u36 = .bool true
def RrLess0Phi (w0 : World) (bb off n c kk k1 : Nat) (x y : Du) (L : Nat → Bool) (vs : List Value) (w' : World) : Prop :=
  ∃ u14 u15 u16 u17 u18 u19 u20 u21 u22 u23 u24 u25 u26 u27 u28 u29 u30 u31 u32 u33 u34 u35 u36 wz, vs = [u14, u15, u16, u17, u18, u19, u20, u21, u22, u23, u24, u25, u26, u27, u28, u29, u30, u31, u32, u33, u34, u35, u36] ∧ RrLess0 w0 bb off n c kk k1 x y L u14 u15 u16 u17 u18 u19 u20 u21 u22 u23 u24 u25 u26 u27 u28 u29 u30 u31 u32 u33 u34 u35 u36 wz ∧ wz = w'
structure RrLess1 (w0 : World) (bb off n c kk k1 : Nat) (x y : Du) (L : Nat → Bool) (u14 u15 u16 u17 u18 u19 u20 u21 u22 u23 u24 u25 u26 u27 u28 u29 u30 u31 u32 u33 u34 u35 u36 : Value) (wz : World) : Prop where
  b : Below w0.heap.size w0 wz
  s0 : L 0 = true → u14 = .slice (some ⟨bb, off, none⟩) n c
  s1 : L 1 = true → u15 = .int .i64 (kk : Int)
  s2 : L 2 = true → u16 = .pointer (some ⟨bb, off + kk * 2, none⟩)
  s3 : L 3 = true → u17 = .agg #[.int .i64 x.when_, .int .i64 x.which]
  s4 : L 4 = true → u18 = .bool true
  s5 : L 5 = true → u19 = .bool false
  s6 : L 6 = true → u20 = .bool false
  s7 : L 7 = true → u21 = .int .i64 (kk : Int)
  s8 : L 8 = true → u22 = .bool true
  s9 : L 9 = true → u23 = .bool true
  s10 : L 10 = true → u24 = .slice (some ⟨bb, off, none⟩) n c
  s11 : L 11 = true → u25 = .int .i64 (kk : Int)
  s12 : L 12 = true → u26 = .int .i64 (k1 : Int)
  s13 : L 13 = true → u27 = .pointer (some ⟨bb, off + k1 * 2, none⟩)
  s14 : L 14 = true → u28 = .agg #[.int .i64 y.when_, .int .i64 y.which]
  s15 : L 15 = true → u29 = .slice (some ⟨bb, off, none⟩) n c
  s16 : L 16 = true → u30 = .int .i64 (kk : Int)
  s17 : L 17 = true → u31 = .pointer (some ⟨bb, off + kk * 2, none⟩)
  s18 : L 18 = true → u32 = .agg #[.int .i64 x.when_, .int .i64 x.which]
  s19 : L 19 = true → u33 = .bool true
  s20 : L 20 = true → u34 = .bool false
  s21 : L 21 = true → u35 = .bool false
  s22 : L 22 = true → u36 = .bool false
def RrLess1Phi (w0 : World) (bb off n c kk k1 : Nat) (x y : Du) (L : Nat → Bool) (vs : List Value) (w' : World) : Prop :=
  ∃ u14 u15 u16 u17 u18 u19 u20 u21 u22 u23 u24 u25 u26 u27 u28 u29 u30 u31 u32 u33 u34 u35 u36 wz, vs = [u14, u15, u16, u17, u18, u19, u20, u21, u22, u23, u24, u25, u26, u27, u28, u29, u30, u31, u32, u33, u34, u35, u36] ∧ RrLess1 w0 bb off n c kk k1 x y L u14 u15 u16 u17 u18 u19 u20 u21 u22 u23 u24 u25 u26 u27 u28 u29 u30 u31 u32 u33 u34 u35 u36 wz ∧ wz = w'

set_option maxHeartbeats 16000000 in
set_option maxRecDepth 100000 in
theorem rright_any (A : Option Addr) (c n : Nat) (l : List Du) (w : World) (hs : Sl 2 Du.enc w A l) (hn : l.length = n) (hn1 : n ≤ 1000000) :
    Calls Try.prog 18 #[.slice A n c] w fun e w' => e = .returned (.bool (rightD l)) ∧ Below w.heap.size w w' := by
  have HS := Lib.hid hs
  have HN := Lib.hid hn
  clear hs hn
  by_cases h64 : n ≤ 64
  · have z64 : ¬ (64 : Int) < (n : Int) := by omega
    go_enter Try.func18, Try.ntmps18
    go_wp2_with fail
    go_loopg [3, 4] n (fun gg s3 s4 wr => ∃ kk : Nat, kk ≤ n ∧ n - kk ≤ gg ∧ s3 = .int .i64 (kk : Int) ∧ Aside (Below w.heap.size w wr) ∧ Aside (∀ j, j < kk → okD l j))
    case atStart => exact ⟨0, Nat.zero_le _, by omega, rfl, Below.refl _ _, fun j hj => absurd hj (Nat.not_lt_zero _)⟩
    case round =>
      obtain ⟨kk, hkk, hg, rfl, HB, AA⟩ := hrel
      have hsl := HS.out.below HB.out
      have b := HB.out
      clear HB
      by_cases hlt : kk < n
      · have hltz : (kk : Int) < (n : Int) := by omega
        have hin : kk < l.length := by rw [HN.out]; exact hlt
        have HIN := Lib.hid hin
        have HSL := Lib.hid hsl
        obtain ⟨bb, off, rfl, hq0⟩ := hsl.at_ kk hin
        have q0 := hq0 0 _ rfl
        have q1 := hq0 1 _ rfl
        rw [Nat.add_zero] at q0
        have hpr : 0 < kk → wr.cell? ⟨bb, off + (kk - 1) * 2, none⟩ = some (.int .i64 l[kk - 1]!.when_) ∧ wr.cell? ⟨bb, off + (kk - 1) * 2 + 1, none⟩ = some (.int .i64 l[kk - 1]!.which) := fun h0 => by
          obtain ⟨bb', off', e, hp⟩ := hsl.at_ (kk - 1) (by omega)
          obtain ⟨rfl, rfl⟩ : bb = bb' ∧ off = off' := by simpa using e
          exact ⟨hp 0 _ rfl, hp 1 _ rfl⟩
        have HPR := Lib.hid hpr
        have bad : ¬ okD l kk → rightD l = false := fun h => by
          simp only [rightD, decide_eq_false_iff_not]
          exact fun hh => h (hh.2 kk hin)
        have HBAD := Lib.hid bad
        have HOK : Aside (okD l kk → mayD l[kk]! = true ∧ (0 < kk → lessD l[kk - 1]! l[kk]! = true)) := fun h => ⟨h.1, h.2.2⟩
        have HMK : Aside (mayD l[kk]! = true → (∀ i, i < kk → l[i]!.which ≠ l[kk]!.which) → (0 < kk → lessD l[kk - 1]! l[kk]! = true) → okD l kk) := fun h1 h2 h3 => ⟨h1, h2, h3⟩
        have HUN : Aside (okD l kk → ∀ i, i < kk → l[i]!.which ≠ l[kk]!.which) := fun h => h.2.1
        clear hq0 hsl hin hpr bad
        have HXX := Lib.hid (rfl : l[kk]! = l[kk]!)
        obtain ⟨x, hx⟩ : ∃ x, x = l[kk]! := ⟨_, rfl⟩
        rw [← hx] at q0 q1 HOK HMK HUN
        have HX := Lib.hid hx
        clear hx HXX
        by_cases hm : mayD x = true
        · have cM := fun w1 => rmay_any x w1
          rw [hm] at cM
          have HM := Lib.hid hm
          clear hm
          by_cases hk0 : 0 < kk
          · obtain ⟨p0, p1⟩ := HPR.out hk0
            obtain ⟨k1, hk1⟩ : ∃ k1, kk - 1 = k1 := ⟨_, rfl⟩
            rw [hk1] at p0 p1 HOK HMK
            have hk1a : k1 + 1 ≤ kk := by omega
            have hk1b : kk ≤ k1 + 1 := by omega
            clear hk1 HPR
            obtain ⟨y, hy⟩ : ∃ y, y = l[k1]! := ⟨_, rfl⟩
            rw [← hy] at p0 p1 HOK HMK
            have HY := Lib.hid hy
            have cL := fun w1 => ahead_any y x w1
            have zk : decide (0 < kk) = true := decide_eq_true hk0
            have hk0z : (0 : Int) < (kk : Int) := by omega
            have zkz : decide ((0 : Int) < (kk : Int)) = true := decide_eq_true hk0z
            have hw2 : (0 : Int) ≤ (k1 : Int) := by omega
            have hw3 : (k1 : Int) < (n : Int) := by omega
            have hw4 : (kk : Int) - 1 = (k1 : Int) := by omega
            have hw5 : IntKind.i64.wrap (k1 : Int) = (k1 : Int) := IntWalk.i64_in _ (by omega)
            clear hy
            cases hls : lessD y x with
            | false =>
              rw [hls] at cL
              have HF := Lib.hid (HBAD.out (fun h => by have := (HOK h).2 hk0; rw [hls] at this; cases this))
              clear hls
              go_wp2_with fail
              replace q0 : wr.drew.cell? ⟨bb, off + kk * 2, none⟩ = some (.int .i64 x.when_) := q0
              replace q1 : wr.drew.cell? ⟨bb, off + kk * 2 + 1, none⟩ = some (.int .i64 x.which) := q1
              replace p0 : wr.drew.cell? ⟨bb, off + k1 * 2, none⟩ = some (.int .i64 y.when_) := p0
              replace p1 : wr.drew.cell? ⟨bb, off + k1 * 2 + 1, none⟩ = some (.int .i64 y.which) := p1
              replace b := b.drew
              refine wp_region_rg (by kernel_rfl) (by kernel_rfl) [14, 15, 16, 17, 18, 19, 20, 21, 22, 23, 24, 25, 26, 27, 28, 29, 30, 31, 32, 33, 34, 35, 36] (RrLess0Phi wr.drew bb off n c kk k1 x y) ?h0 ⟨?q0, ?q1, ?q2, ?q3, ?q4, ?q5, ?q6, ?q7, ?q8, ?q9, ?q10, ?q11, ?q12, ?q13, ?q14, ?q15, ?q16, ?q17, ?q18, ?q19, ?q20, ?q21, ?q22, trivial⟩ ?hend
              case h0 => exact ⟨_, _, _, _, _, _, _, _, _, _, _, _, _, _, _, _, _, _, _, _, _, _, _, _, rfl, ⟨Below.refl _ _, (fun h => by cases h), (fun h => by cases h), (fun h => by cases h), (fun h => by cases h), (fun h => by cases h), (fun h => by cases h), (fun h => by cases h), (fun h => by cases h), (fun h => by cases h), (fun h => by cases h), (fun h => by cases h), (fun h => by cases h), (fun h => by cases h), (fun h => by cases h), (fun h => by cases h), (fun h => by cases h), (fun h => by cases h), (fun h => by cases h), (fun h => by cases h), (fun h => by cases h), (fun h => by cases h), (fun h => by cases h), (fun h => by cases h)⟩, rfl⟩
              case q0 =>
                rintro L vs w' K ⟨u14, u15, u16, u17, u18, u19, u20, u21, u22, u23, u24, u25, u26, u27, u28, u29, u30, u31, u32, u33, u34, u35, u36, wz, rfl, φ, rfl⟩ hL hpre hcl hK G hG
                simp [Region.binds, closedFrom] at hpre hcl
                have hk := hK [(.slice (some ⟨bb, off, none⟩) n c), u15, u16, u17, u18, u19, u20, u21, u22, u23, u24, u25, u26, u27, u28, u29, u30, u31, u32, u33, u34, u35, u36] wz ⟨_, _, _, _, _, _, _, _, _, _, _, _, _, _, _, _, _, _, _, _, _, _, _, wz, rfl,
                  { b := φ.b,
                    s0 := fun _ => rfl,
                    s1 := fun h0 => φ.s1 (by simpa using h0),
                    s2 := fun h0 => φ.s2 (by simpa using h0),
                    s3 := fun h0 => φ.s3 (by simpa using h0),
                    s4 := fun h0 => φ.s4 (by simpa using h0),
                    s5 := fun h0 => φ.s5 (by simpa using h0),
                    s6 := fun h0 => φ.s6 (by simpa using h0),
                    s7 := fun h0 => φ.s7 (by simpa using h0),
                    s8 := fun h0 => φ.s8 (by simpa using h0),
                    s9 := fun h0 => φ.s9 (by simpa using h0),
                    s10 := fun h0 => φ.s10 (by simpa using h0),
                    s11 := fun h0 => φ.s11 (by simpa using h0),
                    s12 := fun h0 => φ.s12 (by simpa using h0),
                    s13 := fun h0 => φ.s13 (by simpa using h0),
                    s14 := fun h0 => φ.s14 (by simpa using h0),
                    s15 := fun h0 => φ.s15 (by simpa using h0),
                    s16 := fun h0 => φ.s16 (by simpa using h0),
                    s17 := fun h0 => φ.s17 (by simpa using h0),
                    s18 := fun h0 => φ.s18 (by simpa using h0),
                    s19 := fun h0 => φ.s19 (by simpa using h0),
                    s20 := fun h0 => φ.s20 (by simpa using h0),
                    s21 := fun h0 => φ.s21 (by simpa using h0),
                    s22 := fun h0 => φ.s22 (by simpa using h0) }, rfl⟩
                refine hG ?_
                clear hK φ hG
                revert hk
                go_simp
                first | done | exact fun h => h
              case q1 =>
                rintro L vs w' K ⟨u14, u15, u16, u17, u18, u19, u20, u21, u22, u23, u24, u25, u26, u27, u28, u29, u30, u31, u32, u33, u34, u35, u36, wz, rfl, φ, rfl⟩ hL hpre hcl hK G hG
                simp [Region.binds, closedFrom] at hpre hcl
                have hk := hK [u14, (.int .i64 (kk : Int)), u16, u17, u18, u19, u20, u21, u22, u23, u24, u25, u26, u27, u28, u29, u30, u31, u32, u33, u34, u35, u36] wz ⟨_, _, _, _, _, _, _, _, _, _, _, _, _, _, _, _, _, _, _, _, _, _, _, wz, rfl,
                  { b := φ.b,
                    s0 := fun h0 => φ.s0 (by simpa using h0),
                    s1 := fun _ => rfl,
                    s2 := fun h0 => φ.s2 (by simpa using h0),
                    s3 := fun h0 => φ.s3 (by simpa using h0),
                    s4 := fun h0 => φ.s4 (by simpa using h0),
                    s5 := fun h0 => φ.s5 (by simpa using h0),
                    s6 := fun h0 => φ.s6 (by simpa using h0),
                    s7 := fun h0 => φ.s7 (by simpa using h0),
                    s8 := fun h0 => φ.s8 (by simpa using h0),
                    s9 := fun h0 => φ.s9 (by simpa using h0),
                    s10 := fun h0 => φ.s10 (by simpa using h0),
                    s11 := fun h0 => φ.s11 (by simpa using h0),
                    s12 := fun h0 => φ.s12 (by simpa using h0),
                    s13 := fun h0 => φ.s13 (by simpa using h0),
                    s14 := fun h0 => φ.s14 (by simpa using h0),
                    s15 := fun h0 => φ.s15 (by simpa using h0),
                    s16 := fun h0 => φ.s16 (by simpa using h0),
                    s17 := fun h0 => φ.s17 (by simpa using h0),
                    s18 := fun h0 => φ.s18 (by simpa using h0),
                    s19 := fun h0 => φ.s19 (by simpa using h0),
                    s20 := fun h0 => φ.s20 (by simpa using h0),
                    s21 := fun h0 => φ.s21 (by simpa using h0),
                    s22 := fun h0 => φ.s22 (by simpa using h0) }, rfl⟩
                refine hG ?_
                clear hK φ hG
                revert hk
                go_simp
                first | done | exact fun h => h
              case q2 =>
                rintro L vs w' K ⟨u14, u15, u16, u17, u18, u19, u20, u21, u22, u23, u24, u25, u26, u27, u28, u29, u30, u31, u32, u33, u34, u35, u36, wz, rfl, φ, rfl⟩ hL hpre hcl hK G hG
                simp [Region.binds, closedFrom] at hpre hcl
                have e0 := φ.s0 (by simp [hpre])
                subst e0
                have e1 := φ.s1 (by simp [hpre])
                subst e1
                have hk := hK [(.slice (some ⟨bb, off, none⟩) n c), (.int .i64 (kk : Int)), (.pointer (some ⟨bb, off + kk * 2, none⟩)), u17, u18, u19, u20, u21, u22, u23, u24, u25, u26, u27, u28, u29, u30, u31, u32, u33, u34, u35, u36] wz ⟨_, _, _, _, _, _, _, _, _, _, _, _, _, _, _, _, _, _, _, _, _, _, _, wz, rfl,
                  { b := φ.b,
                    s0 := fun h0 => φ.s0 (by simpa using h0),
                    s1 := fun h0 => φ.s1 (by simpa using h0),
                    s2 := fun _ => rfl,
                    s3 := fun h0 => φ.s3 (by simpa using h0),
                    s4 := fun h0 => φ.s4 (by simpa using h0),
                    s5 := fun h0 => φ.s5 (by simpa using h0),
                    s6 := fun h0 => φ.s6 (by simpa using h0),
                    s7 := fun h0 => φ.s7 (by simpa using h0),
                    s8 := fun h0 => φ.s8 (by simpa using h0),
                    s9 := fun h0 => φ.s9 (by simpa using h0),
                    s10 := fun h0 => φ.s10 (by simpa using h0),
                    s11 := fun h0 => φ.s11 (by simpa using h0),
                    s12 := fun h0 => φ.s12 (by simpa using h0),
                    s13 := fun h0 => φ.s13 (by simpa using h0),
                    s14 := fun h0 => φ.s14 (by simpa using h0),
                    s15 := fun h0 => φ.s15 (by simpa using h0),
                    s16 := fun h0 => φ.s16 (by simpa using h0),
                    s17 := fun h0 => φ.s17 (by simpa using h0),
                    s18 := fun h0 => φ.s18 (by simpa using h0),
                    s19 := fun h0 => φ.s19 (by simpa using h0),
                    s20 := fun h0 => φ.s20 (by simpa using h0),
                    s21 := fun h0 => φ.s21 (by simpa using h0),
                    s22 := fun h0 => φ.s22 (by simpa using h0) }, rfl⟩
                refine hG ?_
                clear hK φ hG
                revert hk
                go_simp
                first | done | exact fun h => h
              case q3 =>
                rintro L vs w' K ⟨u14, u15, u16, u17, u18, u19, u20, u21, u22, u23, u24, u25, u26, u27, u28, u29, u30, u31, u32, u33, u34, u35, u36, wz, rfl, φ, rfl⟩ hL hpre hcl hK G hG
                simp [Region.binds, closedFrom] at hpre hcl
                have e2 := φ.s2 (by simp [hpre])
                subst e2
                have ce0 := (φ.b.cell (p := ⟨bb, off + kk * 2, none⟩) (World.block_lt_of_cell? _ _ q0)).trans q0
                have ce1 := (φ.b.cell (p := ⟨bb, off + kk * 2 + 1, none⟩) (World.block_lt_of_cell? _ _ q1)).trans q1
                have hk := hK [u14, u15, (.pointer (some ⟨bb, off + kk * 2, none⟩)), (.agg #[.int .i64 x.when_, .int .i64 x.which]), u18, u19, u20, u21, u22, u23, u24, u25, u26, u27, u28, u29, u30, u31, u32, u33, u34, u35, u36] wz ⟨_, _, _, _, _, _, _, _, _, _, _, _, _, _, _, _, _, _, _, _, _, _, _, wz, rfl,
                  { b := φ.b,
                    s0 := fun h0 => φ.s0 (by simpa using h0),
                    s1 := fun h0 => φ.s1 (by simpa using h0),
                    s2 := fun h0 => φ.s2 (by simpa using h0),
                    s3 := fun _ => rfl,
                    s4 := fun h0 => φ.s4 (by simpa using h0),
                    s5 := fun h0 => φ.s5 (by simpa using h0),
                    s6 := fun h0 => φ.s6 (by simpa using h0),
                    s7 := fun h0 => φ.s7 (by simpa using h0),
                    s8 := fun h0 => φ.s8 (by simpa using h0),
                    s9 := fun h0 => φ.s9 (by simpa using h0),
                    s10 := fun h0 => φ.s10 (by simpa using h0),
                    s11 := fun h0 => φ.s11 (by simpa using h0),
                    s12 := fun h0 => φ.s12 (by simpa using h0),
                    s13 := fun h0 => φ.s13 (by simpa using h0),
                    s14 := fun h0 => φ.s14 (by simpa using h0),
                    s15 := fun h0 => φ.s15 (by simpa using h0),
                    s16 := fun h0 => φ.s16 (by simpa using h0),
                    s17 := fun h0 => φ.s17 (by simpa using h0),
                    s18 := fun h0 => φ.s18 (by simpa using h0),
                    s19 := fun h0 => φ.s19 (by simpa using h0),
                    s20 := fun h0 => φ.s20 (by simpa using h0),
                    s21 := fun h0 => φ.s21 (by simpa using h0),
                    s22 := fun h0 => φ.s22 (by simpa using h0) }, rfl⟩
                refine hG ?_
                clear hK φ hG
                revert hk
                go_simp
                first | done | exact fun h => h
              case q4 =>
                rintro L vs w' K ⟨u14, u15, u16, u17, u18, u19, u20, u21, u22, u23, u24, u25, u26, u27, u28, u29, u30, u31, u32, u33, u34, u35, u36, wz, rfl, φ, rfl⟩ hL hpre hcl hK G hG
                simp [Region.binds, closedFrom] at hpre hcl
                have e3 := φ.s3 (by simp [hpre])
                subst e3
                refine step_callg hG wz (by rfl) 30 #[.tmp 17] #[30] rfl #[.agg #[.int .i64 x.when_, .int .i64 x.which]] (by simp [Act.eval, Act.puts, Act.put]) (enters_of Try.func30 (by kernel_rfl) rfl) (cM wz) ?_
                rintro e w9 ⟨rfl, hb9⟩
                refine ⟨_, rfl, ?_⟩
                have hk := hK [u14, u15, u16, (.agg #[.int .i64 x.when_, .int .i64 x.which]), (.bool true), u19, u20, u21, u22, u23, u24, u25, u26, u27, u28, u29, u30, u31, u32, u33, u34, u35, u36] w9 ⟨_, _, _, _, _, _, _, _, _, _, _, _, _, _, _, _, _, _, _, _, _, _, _, w9, rfl,
                  { b := φ.b.trans (hb9.mono φ.b.size),
                    s0 := fun h0 => φ.s0 (by simpa using h0),
                    s1 := fun h0 => φ.s1 (by simpa using h0),
                    s2 := fun h0 => φ.s2 (by simpa using h0),
                    s3 := fun h0 => φ.s3 (by simpa using h0),
                    s4 := fun _ => rfl,
                    s5 := fun h0 => φ.s5 (by simpa using h0),
                    s6 := fun h0 => φ.s6 (by simpa using h0),
                    s7 := fun h0 => φ.s7 (by simpa using h0),
                    s8 := fun h0 => φ.s8 (by simpa using h0),
                    s9 := fun h0 => φ.s9 (by simpa using h0),
                    s10 := fun h0 => φ.s10 (by simpa using h0),
                    s11 := fun h0 => φ.s11 (by simpa using h0),
                    s12 := fun h0 => φ.s12 (by simpa using h0),
                    s13 := fun h0 => φ.s13 (by simpa using h0),
                    s14 := fun h0 => φ.s14 (by simpa using h0),
                    s15 := fun h0 => φ.s15 (by simpa using h0),
                    s16 := fun h0 => φ.s16 (by simpa using h0),
                    s17 := fun h0 => φ.s17 (by simpa using h0),
                    s18 := fun h0 => φ.s18 (by simpa using h0),
                    s19 := fun h0 => φ.s19 (by simpa using h0),
                    s20 := fun h0 => φ.s20 (by simpa using h0),
                    s21 := fun h0 => φ.s21 (by simpa using h0),
                    s22 := fun h0 => φ.s22 (by simpa using h0) }, rfl⟩
                clear hK φ hG
                revert hk
                go_simp
                first | done | exact fun h => h
              case q5 =>
                rintro L vs w' K ⟨u14, u15, u16, u17, u18, u19, u20, u21, u22, u23, u24, u25, u26, u27, u28, u29, u30, u31, u32, u33, u34, u35, u36, wz, rfl, φ, rfl⟩ hL hpre hcl hK G hG
                simp [Region.binds, closedFrom] at hpre hcl
                have e4 := φ.s4 (by simp [hpre])
                subst e4
                have hk := hK [u14, u15, u16, u17, (.bool true), (.bool false), u20, u21, u22, u23, u24, u25, u26, u27, u28, u29, u30, u31, u32, u33, u34, u35, u36] wz ⟨_, _, _, _, _, _, _, _, _, _, _, _, _, _, _, _, _, _, _, _, _, _, _, wz, rfl,
                  { b := φ.b,
                    s0 := fun h0 => φ.s0 (by simpa using h0),
                    s1 := fun h0 => φ.s1 (by simpa using h0),
                    s2 := fun h0 => φ.s2 (by simpa using h0),
                    s3 := fun h0 => φ.s3 (by simpa using h0),
                    s4 := fun h0 => φ.s4 (by simpa using h0),
                    s5 := fun _ => rfl,
                    s6 := fun h0 => φ.s6 (by simpa using h0),
                    s7 := fun h0 => φ.s7 (by simpa using h0),
                    s8 := fun h0 => φ.s8 (by simpa using h0),
                    s9 := fun h0 => φ.s9 (by simpa using h0),
                    s10 := fun h0 => φ.s10 (by simpa using h0),
                    s11 := fun h0 => φ.s11 (by simpa using h0),
                    s12 := fun h0 => φ.s12 (by simpa using h0),
                    s13 := fun h0 => φ.s13 (by simpa using h0),
                    s14 := fun h0 => φ.s14 (by simpa using h0),
                    s15 := fun h0 => φ.s15 (by simpa using h0),
                    s16 := fun h0 => φ.s16 (by simpa using h0),
                    s17 := fun h0 => φ.s17 (by simpa using h0),
                    s18 := fun h0 => φ.s18 (by simpa using h0),
                    s19 := fun h0 => φ.s19 (by simpa using h0),
                    s20 := fun h0 => φ.s20 (by simpa using h0),
                    s21 := fun h0 => φ.s21 (by simpa using h0),
                    s22 := fun h0 => φ.s22 (by simpa using h0) }, rfl⟩
                refine hG ?_
                clear hK φ hG
                revert hk
                go_simp
                first | done | exact fun h => h
              case q6 =>
                rintro L vs w' K ⟨u14, u15, u16, u17, u18, u19, u20, u21, u22, u23, u24, u25, u26, u27, u28, u29, u30, u31, u32, u33, u34, u35, u36, wz, rfl, φ, rfl⟩ hL hpre hcl hK G hG
                simp [Region.binds, closedFrom] at hpre hcl
                have e5 := φ.s5 (by simp [hpre])
                subst e5
                have hk := hK [u14, u15, u16, u17, u18, (.bool false), (.bool false), u21, u22, u23, u24, u25, u26, u27, u28, u29, u30, u31, u32, u33, u34, u35, u36] wz ⟨_, _, _, _, _, _, _, _, _, _, _, _, _, _, _, _, _, _, _, _, _, _, _, wz, rfl,
                  { b := φ.b,
                    s0 := fun h0 => φ.s0 (by simpa using h0),
                    s1 := fun h0 => φ.s1 (by simpa using h0),
                    s2 := fun h0 => φ.s2 (by simpa using h0),
                    s3 := fun h0 => φ.s3 (by simpa using h0),
                    s4 := fun h0 => φ.s4 (by simpa using h0),
                    s5 := fun h0 => φ.s5 (by simpa using h0),
                    s6 := fun _ => rfl,
                    s7 := fun h0 => φ.s7 (by simpa using h0),
                    s8 := fun h0 => φ.s8 (by simpa using h0),
                    s9 := fun h0 => φ.s9 (by simpa using h0),
                    s10 := fun h0 => φ.s10 (by simpa using h0),
                    s11 := fun h0 => φ.s11 (by simpa using h0),
                    s12 := fun h0 => φ.s12 (by simpa using h0),
                    s13 := fun h0 => φ.s13 (by simpa using h0),
                    s14 := fun h0 => φ.s14 (by simpa using h0),
                    s15 := fun h0 => φ.s15 (by simpa using h0),
                    s16 := fun h0 => φ.s16 (by simpa using h0),
                    s17 := fun h0 => φ.s17 (by simpa using h0),
                    s18 := fun h0 => φ.s18 (by simpa using h0),
                    s19 := fun h0 => φ.s19 (by simpa using h0),
                    s20 := fun h0 => φ.s20 (by simpa using h0),
                    s21 := fun h0 => φ.s21 (by simpa using h0),
                    s22 := fun h0 => φ.s22 (by simpa using h0) }, rfl⟩
                refine hG ?_
                clear hK φ hG
                revert hk
                go_simp
                first | done | exact fun h => h
              case q7 =>
                rintro L vs w' K ⟨u14, u15, u16, u17, u18, u19, u20, u21, u22, u23, u24, u25, u26, u27, u28, u29, u30, u31, u32, u33, u34, u35, u36, wz, rfl, φ, rfl⟩ hL hpre hcl hK G hG
                simp [Region.binds, closedFrom] at hpre hcl
                have e6 := φ.s6 (by simp [hpre])
                subst e6
                have hk := hK [u14, u15, u16, u17, u18, u19, (.bool false), (.int .i64 (kk : Int)), u22, u23, u24, u25, u26, u27, u28, u29, u30, u31, u32, u33, u34, u35, u36] wz ⟨_, _, _, _, _, _, _, _, _, _, _, _, _, _, _, _, _, _, _, _, _, _, _, wz, rfl,
                  { b := φ.b,
                    s0 := fun h0 => φ.s0 (by simpa using h0),
                    s1 := fun h0 => φ.s1 (by simpa using h0),
                    s2 := fun h0 => φ.s2 (by simpa using h0),
                    s3 := fun h0 => φ.s3 (by simpa using h0),
                    s4 := fun h0 => φ.s4 (by simpa using h0),
                    s5 := fun h0 => φ.s5 (by simpa using h0),
                    s6 := fun h0 => φ.s6 (by simpa using h0),
                    s7 := fun _ => rfl,
                    s8 := fun h0 => φ.s8 (by simpa using h0),
                    s9 := fun h0 => φ.s9 (by simpa using h0),
                    s10 := fun h0 => φ.s10 (by simpa using h0),
                    s11 := fun h0 => φ.s11 (by simpa using h0),
                    s12 := fun h0 => φ.s12 (by simpa using h0),
                    s13 := fun h0 => φ.s13 (by simpa using h0),
                    s14 := fun h0 => φ.s14 (by simpa using h0),
                    s15 := fun h0 => φ.s15 (by simpa using h0),
                    s16 := fun h0 => φ.s16 (by simpa using h0),
                    s17 := fun h0 => φ.s17 (by simpa using h0),
                    s18 := fun h0 => φ.s18 (by simpa using h0),
                    s19 := fun h0 => φ.s19 (by simpa using h0),
                    s20 := fun h0 => φ.s20 (by simpa using h0),
                    s21 := fun h0 => φ.s21 (by simpa using h0),
                    s22 := fun h0 => φ.s22 (by simpa using h0) }, rfl⟩
                refine hG ?_
                clear hK φ hG
                revert hk
                simp only [yielded, Region.wanted]
                go_simp
                first | done | exact fun h => h
              case q8 =>
                rintro L vs w' K ⟨u14, u15, u16, u17, u18, u19, u20, u21, u22, u23, u24, u25, u26, u27, u28, u29, u30, u31, u32, u33, u34, u35, u36, wz, rfl, φ, rfl⟩ hL hpre hcl hK G hG
                simp [Region.binds, closedFrom] at hpre hcl
                have e6 := φ.s6 (by simp [hpre])
                subst e6
                have e7 := φ.s7 (by simp [hpre])
                subst e7
                have hk := hK [u14, u15, u16, u17, u18, u19, (.bool false), (.int .i64 (kk : Int)), (.bool true), u23, u24, u25, u26, u27, u28, u29, u30, u31, u32, u33, u34, u35, u36] wz ⟨_, _, _, _, _, _, _, _, _, _, _, _, _, _, _, _, _, _, _, _, _, _, _, wz, rfl,
                  { b := φ.b,
                    s0 := fun h0 => φ.s0 (by simpa using h0),
                    s1 := fun h0 => φ.s1 (by simpa using h0),
                    s2 := fun h0 => φ.s2 (by simpa using h0),
                    s3 := fun h0 => φ.s3 (by simpa using h0),
                    s4 := fun h0 => φ.s4 (by simpa using h0),
                    s5 := fun h0 => φ.s5 (by simpa using h0),
                    s6 := fun h0 => φ.s6 (by simpa using h0),
                    s7 := fun h0 => φ.s7 (by simpa using h0),
                    s8 := fun _ => rfl,
                    s9 := fun h0 => φ.s9 (by simpa using h0),
                    s10 := fun h0 => φ.s10 (by simpa using h0),
                    s11 := fun h0 => φ.s11 (by simpa using h0),
                    s12 := fun h0 => φ.s12 (by simpa using h0),
                    s13 := fun h0 => φ.s13 (by simpa using h0),
                    s14 := fun h0 => φ.s14 (by simpa using h0),
                    s15 := fun h0 => φ.s15 (by simpa using h0),
                    s16 := fun h0 => φ.s16 (by simpa using h0),
                    s17 := fun h0 => φ.s17 (by simpa using h0),
                    s18 := fun h0 => φ.s18 (by simpa using h0),
                    s19 := fun h0 => φ.s19 (by simpa using h0),
                    s20 := fun h0 => φ.s20 (by simpa using h0),
                    s21 := fun h0 => φ.s21 (by simpa using h0),
                    s22 := fun h0 => φ.s22 (by simpa using h0) }, rfl⟩
                refine hG ?_
                clear hK φ hG
                revert hk
                simp only [yielded, Region.wanted]
                go_simp
                first | done | exact fun h => h
              case q9 =>
                rintro L vs w' K ⟨u14, u15, u16, u17, u18, u19, u20, u21, u22, u23, u24, u25, u26, u27, u28, u29, u30, u31, u32, u33, u34, u35, u36, wz, rfl, φ, rfl⟩ hL hpre hcl hK G hG
                simp [Region.binds, closedFrom] at hpre hcl
                have e6 := φ.s6 (by simp [hpre])
                subst e6
                have e8 := φ.s8 (by simp [hpre])
                subst e8
                have hk := hK [u14, u15, u16, u17, u18, u19, (.bool false), u21, (.bool true), (.bool true), u24, u25, u26, u27, u28, u29, u30, u31, u32, u33, u34, u35, u36] wz ⟨_, _, _, _, _, _, _, _, _, _, _, _, _, _, _, _, _, _, _, _, _, _, _, wz, rfl,
                  { b := φ.b,
                    s0 := fun h0 => φ.s0 (by simpa using h0),
                    s1 := fun h0 => φ.s1 (by simpa using h0),
                    s2 := fun h0 => φ.s2 (by simpa using h0),
                    s3 := fun h0 => φ.s3 (by simpa using h0),
                    s4 := fun h0 => φ.s4 (by simpa using h0),
                    s5 := fun h0 => φ.s5 (by simpa using h0),
                    s6 := fun h0 => φ.s6 (by simpa using h0),
                    s7 := fun h0 => φ.s7 (by simpa using h0),
                    s8 := fun h0 => φ.s8 (by simpa using h0),
                    s9 := fun _ => rfl,
                    s10 := fun h0 => φ.s10 (by simpa using h0),
                    s11 := fun h0 => φ.s11 (by simpa using h0),
                    s12 := fun h0 => φ.s12 (by simpa using h0),
                    s13 := fun h0 => φ.s13 (by simpa using h0),
                    s14 := fun h0 => φ.s14 (by simpa using h0),
                    s15 := fun h0 => φ.s15 (by simpa using h0),
                    s16 := fun h0 => φ.s16 (by simpa using h0),
                    s17 := fun h0 => φ.s17 (by simpa using h0),
                    s18 := fun h0 => φ.s18 (by simpa using h0),
                    s19 := fun h0 => φ.s19 (by simpa using h0),
                    s20 := fun h0 => φ.s20 (by simpa using h0),
                    s21 := fun h0 => φ.s21 (by simpa using h0),
                    s22 := fun h0 => φ.s22 (by simpa using h0) }, rfl⟩
                refine hG ?_
                clear hK φ hG
                revert hk
                simp only [yielded, Region.wanted]
                go_simp
                first | done | exact fun h => h
              case q10 =>
                rintro L vs w' K ⟨u14, u15, u16, u17, u18, u19, u20, u21, u22, u23, u24, u25, u26, u27, u28, u29, u30, u31, u32, u33, u34, u35, u36, wz, rfl, φ, rfl⟩ hL hpre hcl hK G hG
                simp [Region.binds, closedFrom] at hpre hcl
                have e9 := φ.s9 (by simp [hpre])
                subst e9
                have hk := hK [u14, u15, u16, u17, u18, u19, u20, u21, u22, (.bool true), (.slice (some ⟨bb, off, none⟩) n c), u25, u26, u27, u28, u29, u30, u31, u32, u33, u34, u35, u36] wz ⟨_, _, _, _, _, _, _, _, _, _, _, _, _, _, _, _, _, _, _, _, _, _, _, wz, rfl,
                  { b := φ.b,
                    s0 := fun h0 => φ.s0 (by simpa using h0),
                    s1 := fun h0 => φ.s1 (by simpa using h0),
                    s2 := fun h0 => φ.s2 (by simpa using h0),
                    s3 := fun h0 => φ.s3 (by simpa using h0),
                    s4 := fun h0 => φ.s4 (by simpa using h0),
                    s5 := fun h0 => φ.s5 (by simpa using h0),
                    s6 := fun h0 => φ.s6 (by simpa using h0),
                    s7 := fun h0 => φ.s7 (by simpa using h0),
                    s8 := fun h0 => φ.s8 (by simpa using h0),
                    s9 := fun h0 => φ.s9 (by simpa using h0),
                    s10 := fun _ => rfl,
                    s11 := fun h0 => φ.s11 (by simpa using h0),
                    s12 := fun h0 => φ.s12 (by simpa using h0),
                    s13 := fun h0 => φ.s13 (by simpa using h0),
                    s14 := fun h0 => φ.s14 (by simpa using h0),
                    s15 := fun h0 => φ.s15 (by simpa using h0),
                    s16 := fun h0 => φ.s16 (by simpa using h0),
                    s17 := fun h0 => φ.s17 (by simpa using h0),
                    s18 := fun h0 => φ.s18 (by simpa using h0),
                    s19 := fun h0 => φ.s19 (by simpa using h0),
                    s20 := fun h0 => φ.s20 (by simpa using h0),
                    s21 := fun h0 => φ.s21 (by simpa using h0),
                    s22 := fun h0 => φ.s22 (by simpa using h0) }, rfl⟩
                refine hG ?_
                clear hK φ hG
                revert hk
                simp only [yielded, Region.wanted]
                go_simp
                first | done | exact fun h => h
              case q11 =>
                rintro L vs w' K ⟨u14, u15, u16, u17, u18, u19, u20, u21, u22, u23, u24, u25, u26, u27, u28, u29, u30, u31, u32, u33, u34, u35, u36, wz, rfl, φ, rfl⟩ hL hpre hcl hK G hG
                simp [Region.binds, closedFrom] at hpre hcl
                have e9 := φ.s9 (by simp [hpre])
                subst e9
                have hk := hK [u14, u15, u16, u17, u18, u19, u20, u21, u22, (.bool true), u24, (.int .i64 (kk : Int)), u26, u27, u28, u29, u30, u31, u32, u33, u34, u35, u36] wz ⟨_, _, _, _, _, _, _, _, _, _, _, _, _, _, _, _, _, _, _, _, _, _, _, wz, rfl,
                  { b := φ.b,
                    s0 := fun h0 => φ.s0 (by simpa using h0),
                    s1 := fun h0 => φ.s1 (by simpa using h0),
                    s2 := fun h0 => φ.s2 (by simpa using h0),
                    s3 := fun h0 => φ.s3 (by simpa using h0),
                    s4 := fun h0 => φ.s4 (by simpa using h0),
                    s5 := fun h0 => φ.s5 (by simpa using h0),
                    s6 := fun h0 => φ.s6 (by simpa using h0),
                    s7 := fun h0 => φ.s7 (by simpa using h0),
                    s8 := fun h0 => φ.s8 (by simpa using h0),
                    s9 := fun h0 => φ.s9 (by simpa using h0),
                    s10 := fun h0 => φ.s10 (by simpa using h0),
                    s11 := fun _ => rfl,
                    s12 := fun h0 => φ.s12 (by simpa using h0),
                    s13 := fun h0 => φ.s13 (by simpa using h0),
                    s14 := fun h0 => φ.s14 (by simpa using h0),
                    s15 := fun h0 => φ.s15 (by simpa using h0),
                    s16 := fun h0 => φ.s16 (by simpa using h0),
                    s17 := fun h0 => φ.s17 (by simpa using h0),
                    s18 := fun h0 => φ.s18 (by simpa using h0),
                    s19 := fun h0 => φ.s19 (by simpa using h0),
                    s20 := fun h0 => φ.s20 (by simpa using h0),
                    s21 := fun h0 => φ.s21 (by simpa using h0),
                    s22 := fun h0 => φ.s22 (by simpa using h0) }, rfl⟩
                refine hG ?_
                clear hK φ hG
                revert hk
                simp only [yielded, Region.wanted]
                go_simp
                first | done | exact fun h => h
              case q12 =>
                rintro L vs w' K ⟨u14, u15, u16, u17, u18, u19, u20, u21, u22, u23, u24, u25, u26, u27, u28, u29, u30, u31, u32, u33, u34, u35, u36, wz, rfl, φ, rfl⟩ hL hpre hcl hK G hG
                simp [Region.binds, closedFrom] at hpre hcl
                have e9 := φ.s9 (by simp [hpre])
                subst e9
                have e11 := φ.s11 (by simp [hpre])
                subst e11
                have hk := hK [u14, u15, u16, u17, u18, u19, u20, u21, u22, (.bool true), u24, (.int .i64 (kk : Int)), (.int .i64 (k1 : Int)), u27, u28, u29, u30, u31, u32, u33, u34, u35, u36] wz ⟨_, _, _, _, _, _, _, _, _, _, _, _, _, _, _, _, _, _, _, _, _, _, _, wz, rfl,
                  { b := φ.b,
                    s0 := fun h0 => φ.s0 (by simpa using h0),
                    s1 := fun h0 => φ.s1 (by simpa using h0),
                    s2 := fun h0 => φ.s2 (by simpa using h0),
                    s3 := fun h0 => φ.s3 (by simpa using h0),
                    s4 := fun h0 => φ.s4 (by simpa using h0),
                    s5 := fun h0 => φ.s5 (by simpa using h0),
                    s6 := fun h0 => φ.s6 (by simpa using h0),
                    s7 := fun h0 => φ.s7 (by simpa using h0),
                    s8 := fun h0 => φ.s8 (by simpa using h0),
                    s9 := fun h0 => φ.s9 (by simpa using h0),
                    s10 := fun h0 => φ.s10 (by simpa using h0),
                    s11 := fun h0 => φ.s11 (by simpa using h0),
                    s12 := fun _ => rfl,
                    s13 := fun h0 => φ.s13 (by simpa using h0),
                    s14 := fun h0 => φ.s14 (by simpa using h0),
                    s15 := fun h0 => φ.s15 (by simpa using h0),
                    s16 := fun h0 => φ.s16 (by simpa using h0),
                    s17 := fun h0 => φ.s17 (by simpa using h0),
                    s18 := fun h0 => φ.s18 (by simpa using h0),
                    s19 := fun h0 => φ.s19 (by simpa using h0),
                    s20 := fun h0 => φ.s20 (by simpa using h0),
                    s21 := fun h0 => φ.s21 (by simpa using h0),
                    s22 := fun h0 => φ.s22 (by simpa using h0) }, rfl⟩
                refine hG ?_
                clear hK φ hG
                revert hk
                simp only [yielded, Region.wanted]
                go_simp
                first | done | exact fun h => h
              case q13 =>
                rintro L vs w' K ⟨u14, u15, u16, u17, u18, u19, u20, u21, u22, u23, u24, u25, u26, u27, u28, u29, u30, u31, u32, u33, u34, u35, u36, wz, rfl, φ, rfl⟩ hL hpre hcl hK G hG
                simp [Region.binds, closedFrom] at hpre hcl
                have e9 := φ.s9 (by simp [hpre])
                subst e9
                have e10 := φ.s10 (by simp [hpre])
                subst e10
                have e12 := φ.s12 (by simp [hpre])
                subst e12
                have hk := hK [u14, u15, u16, u17, u18, u19, u20, u21, u22, (.bool true), (.slice (some ⟨bb, off, none⟩) n c), u25, (.int .i64 (k1 : Int)), (.pointer (some ⟨bb, off + k1 * 2, none⟩)), u28, u29, u30, u31, u32, u33, u34, u35, u36] wz ⟨_, _, _, _, _, _, _, _, _, _, _, _, _, _, _, _, _, _, _, _, _, _, _, wz, rfl,
                  { b := φ.b,
                    s0 := fun h0 => φ.s0 (by simpa using h0),
                    s1 := fun h0 => φ.s1 (by simpa using h0),
                    s2 := fun h0 => φ.s2 (by simpa using h0),
                    s3 := fun h0 => φ.s3 (by simpa using h0),
                    s4 := fun h0 => φ.s4 (by simpa using h0),
                    s5 := fun h0 => φ.s5 (by simpa using h0),
                    s6 := fun h0 => φ.s6 (by simpa using h0),
                    s7 := fun h0 => φ.s7 (by simpa using h0),
                    s8 := fun h0 => φ.s8 (by simpa using h0),
                    s9 := fun h0 => φ.s9 (by simpa using h0),
                    s10 := fun h0 => φ.s10 (by simpa using h0),
                    s11 := fun h0 => φ.s11 (by simpa using h0),
                    s12 := fun h0 => φ.s12 (by simpa using h0),
                    s13 := fun _ => rfl,
                    s14 := fun h0 => φ.s14 (by simpa using h0),
                    s15 := fun h0 => φ.s15 (by simpa using h0),
                    s16 := fun h0 => φ.s16 (by simpa using h0),
                    s17 := fun h0 => φ.s17 (by simpa using h0),
                    s18 := fun h0 => φ.s18 (by simpa using h0),
                    s19 := fun h0 => φ.s19 (by simpa using h0),
                    s20 := fun h0 => φ.s20 (by simpa using h0),
                    s21 := fun h0 => φ.s21 (by simpa using h0),
                    s22 := fun h0 => φ.s22 (by simpa using h0) }, rfl⟩
                refine hG ?_
                clear hK φ hG
                revert hk
                simp only [yielded, Region.wanted]
                go_simp
                first | done | exact fun h => h
              case q14 =>
                rintro L vs w' K ⟨u14, u15, u16, u17, u18, u19, u20, u21, u22, u23, u24, u25, u26, u27, u28, u29, u30, u31, u32, u33, u34, u35, u36, wz, rfl, φ, rfl⟩ hL hpre hcl hK G hG
                simp [Region.binds, closedFrom] at hpre hcl
                have e9 := φ.s9 (by simp [hpre])
                subst e9
                have e13 := φ.s13 (by simp [hpre])
                subst e13
                have ce0 := (φ.b.cell (p := ⟨bb, off + k1 * 2, none⟩) (World.block_lt_of_cell? _ _ p0)).trans p0
                have ce1 := (φ.b.cell (p := ⟨bb, off + k1 * 2 + 1, none⟩) (World.block_lt_of_cell? _ _ p1)).trans p1
                have hk := hK [u14, u15, u16, u17, u18, u19, u20, u21, u22, (.bool true), u24, u25, u26, (.pointer (some ⟨bb, off + k1 * 2, none⟩)), (.agg #[.int .i64 y.when_, .int .i64 y.which]), u29, u30, u31, u32, u33, u34, u35, u36] wz ⟨_, _, _, _, _, _, _, _, _, _, _, _, _, _, _, _, _, _, _, _, _, _, _, wz, rfl,
                  { b := φ.b,
                    s0 := fun h0 => φ.s0 (by simpa using h0),
                    s1 := fun h0 => φ.s1 (by simpa using h0),
                    s2 := fun h0 => φ.s2 (by simpa using h0),
                    s3 := fun h0 => φ.s3 (by simpa using h0),
                    s4 := fun h0 => φ.s4 (by simpa using h0),
                    s5 := fun h0 => φ.s5 (by simpa using h0),
                    s6 := fun h0 => φ.s6 (by simpa using h0),
                    s7 := fun h0 => φ.s7 (by simpa using h0),
                    s8 := fun h0 => φ.s8 (by simpa using h0),
                    s9 := fun h0 => φ.s9 (by simpa using h0),
                    s10 := fun h0 => φ.s10 (by simpa using h0),
                    s11 := fun h0 => φ.s11 (by simpa using h0),
                    s12 := fun h0 => φ.s12 (by simpa using h0),
                    s13 := fun h0 => φ.s13 (by simpa using h0),
                    s14 := fun _ => rfl,
                    s15 := fun h0 => φ.s15 (by simpa using h0),
                    s16 := fun h0 => φ.s16 (by simpa using h0),
                    s17 := fun h0 => φ.s17 (by simpa using h0),
                    s18 := fun h0 => φ.s18 (by simpa using h0),
                    s19 := fun h0 => φ.s19 (by simpa using h0),
                    s20 := fun h0 => φ.s20 (by simpa using h0),
                    s21 := fun h0 => φ.s21 (by simpa using h0),
                    s22 := fun h0 => φ.s22 (by simpa using h0) }, rfl⟩
                refine hG ?_
                clear hK φ hG
                revert hk
                simp only [yielded, Region.wanted]
                go_simp
                first | done | exact fun h => h
              case q15 =>
                rintro L vs w' K ⟨u14, u15, u16, u17, u18, u19, u20, u21, u22, u23, u24, u25, u26, u27, u28, u29, u30, u31, u32, u33, u34, u35, u36, wz, rfl, φ, rfl⟩ hL hpre hcl hK G hG
                simp [Region.binds, closedFrom] at hpre hcl
                have e9 := φ.s9 (by simp [hpre])
                subst e9
                have hk := hK [u14, u15, u16, u17, u18, u19, u20, u21, u22, (.bool true), u24, u25, u26, u27, u28, (.slice (some ⟨bb, off, none⟩) n c), u30, u31, u32, u33, u34, u35, u36] wz ⟨_, _, _, _, _, _, _, _, _, _, _, _, _, _, _, _, _, _, _, _, _, _, _, wz, rfl,
                  { b := φ.b,
                    s0 := fun h0 => φ.s0 (by simpa using h0),
                    s1 := fun h0 => φ.s1 (by simpa using h0),
                    s2 := fun h0 => φ.s2 (by simpa using h0),
                    s3 := fun h0 => φ.s3 (by simpa using h0),
                    s4 := fun h0 => φ.s4 (by simpa using h0),
                    s5 := fun h0 => φ.s5 (by simpa using h0),
                    s6 := fun h0 => φ.s6 (by simpa using h0),
                    s7 := fun h0 => φ.s7 (by simpa using h0),
                    s8 := fun h0 => φ.s8 (by simpa using h0),
                    s9 := fun h0 => φ.s9 (by simpa using h0),
                    s10 := fun h0 => φ.s10 (by simpa using h0),
                    s11 := fun h0 => φ.s11 (by simpa using h0),
                    s12 := fun h0 => φ.s12 (by simpa using h0),
                    s13 := fun h0 => φ.s13 (by simpa using h0),
                    s14 := fun h0 => φ.s14 (by simpa using h0),
                    s15 := fun _ => rfl,
                    s16 := fun h0 => φ.s16 (by simpa using h0),
                    s17 := fun h0 => φ.s17 (by simpa using h0),
                    s18 := fun h0 => φ.s18 (by simpa using h0),
                    s19 := fun h0 => φ.s19 (by simpa using h0),
                    s20 := fun h0 => φ.s20 (by simpa using h0),
                    s21 := fun h0 => φ.s21 (by simpa using h0),
                    s22 := fun h0 => φ.s22 (by simpa using h0) }, rfl⟩
                refine hG ?_
                clear hK φ hG
                revert hk
                simp only [yielded, Region.wanted]
                go_simp
                first | done | exact fun h => h
              case q16 =>
                rintro L vs w' K ⟨u14, u15, u16, u17, u18, u19, u20, u21, u22, u23, u24, u25, u26, u27, u28, u29, u30, u31, u32, u33, u34, u35, u36, wz, rfl, φ, rfl⟩ hL hpre hcl hK G hG
                simp [Region.binds, closedFrom] at hpre hcl
                have e9 := φ.s9 (by simp [hpre])
                subst e9
                have hk := hK [u14, u15, u16, u17, u18, u19, u20, u21, u22, (.bool true), u24, u25, u26, u27, u28, u29, (.int .i64 (kk : Int)), u31, u32, u33, u34, u35, u36] wz ⟨_, _, _, _, _, _, _, _, _, _, _, _, _, _, _, _, _, _, _, _, _, _, _, wz, rfl,
                  { b := φ.b,
                    s0 := fun h0 => φ.s0 (by simpa using h0),
                    s1 := fun h0 => φ.s1 (by simpa using h0),
                    s2 := fun h0 => φ.s2 (by simpa using h0),
                    s3 := fun h0 => φ.s3 (by simpa using h0),
                    s4 := fun h0 => φ.s4 (by simpa using h0),
                    s5 := fun h0 => φ.s5 (by simpa using h0),
                    s6 := fun h0 => φ.s6 (by simpa using h0),
                    s7 := fun h0 => φ.s7 (by simpa using h0),
                    s8 := fun h0 => φ.s8 (by simpa using h0),
                    s9 := fun h0 => φ.s9 (by simpa using h0),
                    s10 := fun h0 => φ.s10 (by simpa using h0),
                    s11 := fun h0 => φ.s11 (by simpa using h0),
                    s12 := fun h0 => φ.s12 (by simpa using h0),
                    s13 := fun h0 => φ.s13 (by simpa using h0),
                    s14 := fun h0 => φ.s14 (by simpa using h0),
                    s15 := fun h0 => φ.s15 (by simpa using h0),
                    s16 := fun _ => rfl,
                    s17 := fun h0 => φ.s17 (by simpa using h0),
                    s18 := fun h0 => φ.s18 (by simpa using h0),
                    s19 := fun h0 => φ.s19 (by simpa using h0),
                    s20 := fun h0 => φ.s20 (by simpa using h0),
                    s21 := fun h0 => φ.s21 (by simpa using h0),
                    s22 := fun h0 => φ.s22 (by simpa using h0) }, rfl⟩
                refine hG ?_
                clear hK φ hG
                revert hk
                simp only [yielded, Region.wanted]
                go_simp
                first | done | exact fun h => h
              case q17 =>
                rintro L vs w' K ⟨u14, u15, u16, u17, u18, u19, u20, u21, u22, u23, u24, u25, u26, u27, u28, u29, u30, u31, u32, u33, u34, u35, u36, wz, rfl, φ, rfl⟩ hL hpre hcl hK G hG
                simp [Region.binds, closedFrom] at hpre hcl
                have e9 := φ.s9 (by simp [hpre])
                subst e9
                have e15 := φ.s15 (by simp [hpre])
                subst e15
                have e16 := φ.s16 (by simp [hpre])
                subst e16
                have hk := hK [u14, u15, u16, u17, u18, u19, u20, u21, u22, (.bool true), u24, u25, u26, u27, u28, (.slice (some ⟨bb, off, none⟩) n c), (.int .i64 (kk : Int)), (.pointer (some ⟨bb, off + kk * 2, none⟩)), u32, u33, u34, u35, u36] wz ⟨_, _, _, _, _, _, _, _, _, _, _, _, _, _, _, _, _, _, _, _, _, _, _, wz, rfl,
                  { b := φ.b,
                    s0 := fun h0 => φ.s0 (by simpa using h0),
                    s1 := fun h0 => φ.s1 (by simpa using h0),
                    s2 := fun h0 => φ.s2 (by simpa using h0),
                    s3 := fun h0 => φ.s3 (by simpa using h0),
                    s4 := fun h0 => φ.s4 (by simpa using h0),
                    s5 := fun h0 => φ.s5 (by simpa using h0),
                    s6 := fun h0 => φ.s6 (by simpa using h0),
                    s7 := fun h0 => φ.s7 (by simpa using h0),
                    s8 := fun h0 => φ.s8 (by simpa using h0),
                    s9 := fun h0 => φ.s9 (by simpa using h0),
                    s10 := fun h0 => φ.s10 (by simpa using h0),
                    s11 := fun h0 => φ.s11 (by simpa using h0),
                    s12 := fun h0 => φ.s12 (by simpa using h0),
                    s13 := fun h0 => φ.s13 (by simpa using h0),
                    s14 := fun h0 => φ.s14 (by simpa using h0),
                    s15 := fun h0 => φ.s15 (by simpa using h0),
                    s16 := fun h0 => φ.s16 (by simpa using h0),
                    s17 := fun _ => rfl,
                    s18 := fun h0 => φ.s18 (by simpa using h0),
                    s19 := fun h0 => φ.s19 (by simpa using h0),
                    s20 := fun h0 => φ.s20 (by simpa using h0),
                    s21 := fun h0 => φ.s21 (by simpa using h0),
                    s22 := fun h0 => φ.s22 (by simpa using h0) }, rfl⟩
                refine hG ?_
                clear hK φ hG
                revert hk
                simp only [yielded, Region.wanted]
                go_simp
                first | done | exact fun h => h
              case q18 =>
                rintro L vs w' K ⟨u14, u15, u16, u17, u18, u19, u20, u21, u22, u23, u24, u25, u26, u27, u28, u29, u30, u31, u32, u33, u34, u35, u36, wz, rfl, φ, rfl⟩ hL hpre hcl hK G hG
                simp [Region.binds, closedFrom] at hpre hcl
                have e9 := φ.s9 (by simp [hpre])
                subst e9
                have e17 := φ.s17 (by simp [hpre])
                subst e17
                have ce0 := (φ.b.cell (p := ⟨bb, off + kk * 2, none⟩) (World.block_lt_of_cell? _ _ q0)).trans q0
                have ce1 := (φ.b.cell (p := ⟨bb, off + kk * 2 + 1, none⟩) (World.block_lt_of_cell? _ _ q1)).trans q1
                have hk := hK [u14, u15, u16, u17, u18, u19, u20, u21, u22, (.bool true), u24, u25, u26, u27, u28, u29, u30, (.pointer (some ⟨bb, off + kk * 2, none⟩)), (.agg #[.int .i64 x.when_, .int .i64 x.which]), u33, u34, u35, u36] wz ⟨_, _, _, _, _, _, _, _, _, _, _, _, _, _, _, _, _, _, _, _, _, _, _, wz, rfl,
                  { b := φ.b,
                    s0 := fun h0 => φ.s0 (by simpa using h0),
                    s1 := fun h0 => φ.s1 (by simpa using h0),
                    s2 := fun h0 => φ.s2 (by simpa using h0),
                    s3 := fun h0 => φ.s3 (by simpa using h0),
                    s4 := fun h0 => φ.s4 (by simpa using h0),
                    s5 := fun h0 => φ.s5 (by simpa using h0),
                    s6 := fun h0 => φ.s6 (by simpa using h0),
                    s7 := fun h0 => φ.s7 (by simpa using h0),
                    s8 := fun h0 => φ.s8 (by simpa using h0),
                    s9 := fun h0 => φ.s9 (by simpa using h0),
                    s10 := fun h0 => φ.s10 (by simpa using h0),
                    s11 := fun h0 => φ.s11 (by simpa using h0),
                    s12 := fun h0 => φ.s12 (by simpa using h0),
                    s13 := fun h0 => φ.s13 (by simpa using h0),
                    s14 := fun h0 => φ.s14 (by simpa using h0),
                    s15 := fun h0 => φ.s15 (by simpa using h0),
                    s16 := fun h0 => φ.s16 (by simpa using h0),
                    s17 := fun h0 => φ.s17 (by simpa using h0),
                    s18 := fun _ => rfl,
                    s19 := fun h0 => φ.s19 (by simpa using h0),
                    s20 := fun h0 => φ.s20 (by simpa using h0),
                    s21 := fun h0 => φ.s21 (by simpa using h0),
                    s22 := fun h0 => φ.s22 (by simpa using h0) }, rfl⟩
                refine hG ?_
                clear hK φ hG
                revert hk
                simp only [yielded, Region.wanted]
                go_simp
                first | done | exact fun h => h
              case q19 =>
                rintro L vs w' K ⟨u14, u15, u16, u17, u18, u19, u20, u21, u22, u23, u24, u25, u26, u27, u28, u29, u30, u31, u32, u33, u34, u35, u36, wz, rfl, φ, rfl⟩ hL hpre hcl hK G hG
                simp [Region.binds, closedFrom] at hpre hcl
                have e9 := φ.s9 (by simp [hpre])
                subst e9
                have e14 := φ.s14 (by simp [hpre])
                subst e14
                have e18 := φ.s18 (by simp [hpre])
                subst e18
                refine step_callg hG wz (by simp only [yielded, Region.wanted]; go_simp) 34 #[.tmp 28, .tmp 32] #[30, 30] rfl #[.agg #[.int .i64 y.when_, .int .i64 y.which], .agg #[.int .i64 x.when_, .int .i64 x.which]] (by simp [Act.eval, Act.puts, Act.put]) (enters_of Try.func34 (by kernel_rfl) rfl) (cL wz) ?_
                rintro e w9 ⟨rfl, hb9⟩
                refine ⟨_, rfl, ?_⟩
                have hk := hK [u14, u15, u16, u17, u18, u19, u20, u21, u22, (.bool true), u24, u25, u26, u27, (.agg #[.int .i64 y.when_, .int .i64 y.which]), u29, u30, u31, (.agg #[.int .i64 x.when_, .int .i64 x.which]), (.bool false), u34, u35, u36] w9 ⟨_, _, _, _, _, _, _, _, _, _, _, _, _, _, _, _, _, _, _, _, _, _, _, w9, rfl,
                  { b := φ.b.trans (hb9.mono φ.b.size),
                    s0 := fun h0 => φ.s0 (by simpa using h0),
                    s1 := fun h0 => φ.s1 (by simpa using h0),
                    s2 := fun h0 => φ.s2 (by simpa using h0),
                    s3 := fun h0 => φ.s3 (by simpa using h0),
                    s4 := fun h0 => φ.s4 (by simpa using h0),
                    s5 := fun h0 => φ.s5 (by simpa using h0),
                    s6 := fun h0 => φ.s6 (by simpa using h0),
                    s7 := fun h0 => φ.s7 (by simpa using h0),
                    s8 := fun h0 => φ.s8 (by simpa using h0),
                    s9 := fun h0 => φ.s9 (by simpa using h0),
                    s10 := fun h0 => φ.s10 (by simpa using h0),
                    s11 := fun h0 => φ.s11 (by simpa using h0),
                    s12 := fun h0 => φ.s12 (by simpa using h0),
                    s13 := fun h0 => φ.s13 (by simpa using h0),
                    s14 := fun h0 => φ.s14 (by simpa using h0),
                    s15 := fun h0 => φ.s15 (by simpa using h0),
                    s16 := fun h0 => φ.s16 (by simpa using h0),
                    s17 := fun h0 => φ.s17 (by simpa using h0),
                    s18 := fun h0 => φ.s18 (by simpa using h0),
                    s19 := fun _ => rfl,
                    s20 := fun h0 => φ.s20 (by simpa using h0),
                    s21 := fun h0 => φ.s21 (by simpa using h0),
                    s22 := fun h0 => φ.s22 (by simpa using h0) }, rfl⟩
                clear hK φ hG
                revert hk
                go_simp
                first | done | exact fun h => h
              case q20 =>
                rintro L vs w' K ⟨u14, u15, u16, u17, u18, u19, u20, u21, u22, u23, u24, u25, u26, u27, u28, u29, u30, u31, u32, u33, u34, u35, u36, wz, rfl, φ, rfl⟩ hL hpre hcl hK G hG
                simp [Region.binds, closedFrom] at hpre hcl
                have e9 := φ.s9 (by simp [hpre])
                subst e9
                have e19 := φ.s19 (by simp [hpre])
                subst e19
                have hk := hK [u14, u15, u16, u17, u18, u19, u20, u21, u22, (.bool true), u24, u25, u26, u27, u28, u29, u30, u31, u32, (.bool false), (.bool true), u35, u36] wz ⟨_, _, _, _, _, _, _, _, _, _, _, _, _, _, _, _, _, _, _, _, _, _, _, wz, rfl,
                  { b := φ.b,
                    s0 := fun h0 => φ.s0 (by simpa using h0),
                    s1 := fun h0 => φ.s1 (by simpa using h0),
                    s2 := fun h0 => φ.s2 (by simpa using h0),
                    s3 := fun h0 => φ.s3 (by simpa using h0),
                    s4 := fun h0 => φ.s4 (by simpa using h0),
                    s5 := fun h0 => φ.s5 (by simpa using h0),
                    s6 := fun h0 => φ.s6 (by simpa using h0),
                    s7 := fun h0 => φ.s7 (by simpa using h0),
                    s8 := fun h0 => φ.s8 (by simpa using h0),
                    s9 := fun h0 => φ.s9 (by simpa using h0),
                    s10 := fun h0 => φ.s10 (by simpa using h0),
                    s11 := fun h0 => φ.s11 (by simpa using h0),
                    s12 := fun h0 => φ.s12 (by simpa using h0),
                    s13 := fun h0 => φ.s13 (by simpa using h0),
                    s14 := fun h0 => φ.s14 (by simpa using h0),
                    s15 := fun h0 => φ.s15 (by simpa using h0),
                    s16 := fun h0 => φ.s16 (by simpa using h0),
                    s17 := fun h0 => φ.s17 (by simpa using h0),
                    s18 := fun h0 => φ.s18 (by simpa using h0),
                    s19 := fun h0 => φ.s19 (by simpa using h0),
                    s20 := fun _ => rfl,
                    s21 := fun h0 => φ.s21 (by simpa using h0),
                    s22 := fun h0 => φ.s22 (by simpa using h0) }, rfl⟩
                refine hG ?_
                clear hK φ hG
                revert hk
                simp only [yielded, Region.wanted]
                go_simp
                first | done | exact fun h => h
              case q21 =>
                rintro L vs w' K ⟨u14, u15, u16, u17, u18, u19, u20, u21, u22, u23, u24, u25, u26, u27, u28, u29, u30, u31, u32, u33, u34, u35, u36, wz, rfl, φ, rfl⟩ hL hpre hcl hK G hG
                simp [Region.binds, closedFrom] at hpre hcl
                have e6 := φ.s6 (by simp [hpre])
                subst e6
                have e9 := φ.s9 (by simp [hpre])
                subst e9
                have e20 := φ.s20 (by simp [hpre])
                subst e20
                have hk := hK [u14, u15, u16, u17, u18, u19, (.bool false), u21, u22, (.bool true), u24, u25, u26, u27, u28, u29, u30, u31, u32, u33, (.bool true), (.bool true), u36] wz ⟨_, _, _, _, _, _, _, _, _, _, _, _, _, _, _, _, _, _, _, _, _, _, _, wz, rfl,
                  { b := φ.b,
                    s0 := fun h0 => φ.s0 (by simpa using h0),
                    s1 := fun h0 => φ.s1 (by simpa using h0),
                    s2 := fun h0 => φ.s2 (by simpa using h0),
                    s3 := fun h0 => φ.s3 (by simpa using h0),
                    s4 := fun h0 => φ.s4 (by simpa using h0),
                    s5 := fun h0 => φ.s5 (by simpa using h0),
                    s6 := fun h0 => φ.s6 (by simpa using h0),
                    s7 := fun h0 => φ.s7 (by simpa using h0),
                    s8 := fun h0 => φ.s8 (by simpa using h0),
                    s9 := fun h0 => φ.s9 (by simpa using h0),
                    s10 := fun h0 => φ.s10 (by simpa using h0),
                    s11 := fun h0 => φ.s11 (by simpa using h0),
                    s12 := fun h0 => φ.s12 (by simpa using h0),
                    s13 := fun h0 => φ.s13 (by simpa using h0),
                    s14 := fun h0 => φ.s14 (by simpa using h0),
                    s15 := fun h0 => φ.s15 (by simpa using h0),
                    s16 := fun h0 => φ.s16 (by simpa using h0),
                    s17 := fun h0 => φ.s17 (by simpa using h0),
                    s18 := fun h0 => φ.s18 (by simpa using h0),
                    s19 := fun h0 => φ.s19 (by simpa using h0),
                    s20 := fun h0 => φ.s20 (by simpa using h0),
                    s21 := fun _ => rfl,
                    s22 := fun h0 => φ.s22 (by simpa using h0) }, rfl⟩
                refine hG ?_
                clear hK φ hG
                revert hk
                simp only [yielded, Region.wanted]
                go_simp
                first | done | exact fun h => h
              case q22 =>
                rintro L vs w' K ⟨u14, u15, u16, u17, u18, u19, u20, u21, u22, u23, u24, u25, u26, u27, u28, u29, u30, u31, u32, u33, u34, u35, u36, wz, rfl, φ, rfl⟩ hL hpre hcl hK G hG
                simp [Region.binds, closedFrom] at hpre hcl
                have e6 := φ.s6 (by simp [hpre])
                subst e6
                have e21 := φ.s21 (by simp [hpre])
                subst e21
                have hk := hK [u14, u15, u16, u17, u18, u19, (.bool false), u21, u22, u23, u24, u25, u26, u27, u28, u29, u30, u31, u32, u33, u34, (.bool true), (.bool true)] wz ⟨_, _, _, _, _, _, _, _, _, _, _, _, _, _, _, _, _, _, _, _, _, _, _, wz, rfl,
                  { b := φ.b,
                    s0 := fun h0 => φ.s0 (by simpa using h0),
                    s1 := fun h0 => φ.s1 (by simpa using h0),
                    s2 := fun h0 => φ.s2 (by simpa using h0),
                    s3 := fun h0 => φ.s3 (by simpa using h0),
                    s4 := fun h0 => φ.s4 (by simpa using h0),
                    s5 := fun h0 => φ.s5 (by simpa using h0),
                    s6 := fun h0 => φ.s6 (by simpa using h0),
                    s7 := fun h0 => φ.s7 (by simpa using h0),
                    s8 := fun h0 => φ.s8 (by simpa using h0),
                    s9 := fun h0 => φ.s9 (by simpa using h0),
                    s10 := fun h0 => φ.s10 (by simpa using h0),
                    s11 := fun h0 => φ.s11 (by simpa using h0),
                    s12 := fun h0 => φ.s12 (by simpa using h0),
                    s13 := fun h0 => φ.s13 (by simpa using h0),
                    s14 := fun h0 => φ.s14 (by simpa using h0),
                    s15 := fun h0 => φ.s15 (by simpa using h0),
                    s16 := fun h0 => φ.s16 (by simpa using h0),
                    s17 := fun h0 => φ.s17 (by simpa using h0),
                    s18 := fun h0 => φ.s18 (by simpa using h0),
                    s19 := fun h0 => φ.s19 (by simpa using h0),
                    s20 := fun h0 => φ.s20 (by simpa using h0),
                    s21 := fun h0 => φ.s21 (by simpa using h0),
                    s22 := fun _ => rfl }, rfl⟩
                refine hG ?_
                clear hK φ hG
                revert hk
                go_simp
                first | done | exact fun h => h
              case hend =>
                rintro vs w' ⟨u14, u15, u16, u17, u18, u19, u20, u21, u22, u23, u24, u25, u26, u27, u28, u29, u30, u31, u32, u33, u34, u35, u36, wz, rfl, φ, rfl⟩ G hG
                obtain rfl := φ.s22 rfl
                have b9 := φ.b
                clear φ
                refine hG ?_
                clear hG
                have b2 := b.trans (b9.mono b.size)
                clear q0 q1 b9 b cM
                go_simp
                go_wp2_with fail
                go_ret
                rw [HF.out]
                exact ⟨rfl, b2⟩
            | true =>
              rw [hls] at cL
              have HNEW : Aside ((∀ i, i < kk → l[i]!.which ≠ x.which) → okD l kk) := fun h => HMK HM.out h (fun _ => hls)
              clear hls
              go_wp2_with fail
              replace q0 : wr.drew.cell? ⟨bb, off + kk * 2, none⟩ = some (.int .i64 x.when_) := q0
              replace q1 : wr.drew.cell? ⟨bb, off + kk * 2 + 1, none⟩ = some (.int .i64 x.which) := q1
              replace p0 : wr.drew.cell? ⟨bb, off + k1 * 2, none⟩ = some (.int .i64 y.when_) := p0
              replace p1 : wr.drew.cell? ⟨bb, off + k1 * 2 + 1, none⟩ = some (.int .i64 y.which) := p1
              replace b := b.drew
              refine wp_region_rg (by kernel_rfl) (by kernel_rfl) [14, 15, 16, 17, 18, 19, 20, 21, 22, 23, 24, 25, 26, 27, 28, 29, 30, 31, 32, 33, 34, 35, 36] (RrLess1Phi wr.drew bb off n c kk k1 x y) ?h0 ⟨?q0, ?q1, ?q2, ?q3, ?q4, ?q5, ?q6, ?q7, ?q8, ?q9, ?q10, ?q11, ?q12, ?q13, ?q14, ?q15, ?q16, ?q17, ?q18, ?q19, ?q20, ?q21, ?q22, trivial⟩ ?hend
              case h0 => exact ⟨_, _, _, _, _, _, _, _, _, _, _, _, _, _, _, _, _, _, _, _, _, _, _, _, rfl, ⟨Below.refl _ _, (fun h => by cases h), (fun h => by cases h), (fun h => by cases h), (fun h => by cases h), (fun h => by cases h), (fun h => by cases h), (fun h => by cases h), (fun h => by cases h), (fun h => by cases h), (fun h => by cases h), (fun h => by cases h), (fun h => by cases h), (fun h => by cases h), (fun h => by cases h), (fun h => by cases h), (fun h => by cases h), (fun h => by cases h), (fun h => by cases h), (fun h => by cases h), (fun h => by cases h), (fun h => by cases h), (fun h => by cases h), (fun h => by cases h)⟩, rfl⟩
              case q0 =>
                rintro L vs w' K ⟨u14, u15, u16, u17, u18, u19, u20, u21, u22, u23, u24, u25, u26, u27, u28, u29, u30, u31, u32, u33, u34, u35, u36, wz, rfl, φ, rfl⟩ hL hpre hcl hK G hG
                simp [Region.binds, closedFrom] at hpre hcl
                have hk := hK [(.slice (some ⟨bb, off, none⟩) n c), u15, u16, u17, u18, u19, u20, u21, u22, u23, u24, u25, u26, u27, u28, u29, u30, u31, u32, u33, u34, u35, u36] wz ⟨_, _, _, _, _, _, _, _, _, _, _, _, _, _, _, _, _, _, _, _, _, _, _, wz, rfl,
                  { b := φ.b,
                    s0 := fun _ => rfl,
                    s1 := fun h0 => φ.s1 (by simpa using h0),
                    s2 := fun h0 => φ.s2 (by simpa using h0),
                    s3 := fun h0 => φ.s3 (by simpa using h0),
                    s4 := fun h0 => φ.s4 (by simpa using h0),
                    s5 := fun h0 => φ.s5 (by simpa using h0),
                    s6 := fun h0 => φ.s6 (by simpa using h0),
                    s7 := fun h0 => φ.s7 (by simpa using h0),
                    s8 := fun h0 => φ.s8 (by simpa using h0),
                    s9 := fun h0 => φ.s9 (by simpa using h0),
                    s10 := fun h0 => φ.s10 (by simpa using h0),
                    s11 := fun h0 => φ.s11 (by simpa using h0),
                    s12 := fun h0 => φ.s12 (by simpa using h0),
                    s13 := fun h0 => φ.s13 (by simpa using h0),
                    s14 := fun h0 => φ.s14 (by simpa using h0),
                    s15 := fun h0 => φ.s15 (by simpa using h0),
                    s16 := fun h0 => φ.s16 (by simpa using h0),
                    s17 := fun h0 => φ.s17 (by simpa using h0),
                    s18 := fun h0 => φ.s18 (by simpa using h0),
                    s19 := fun h0 => φ.s19 (by simpa using h0),
                    s20 := fun h0 => φ.s20 (by simpa using h0),
                    s21 := fun h0 => φ.s21 (by simpa using h0),
                    s22 := fun h0 => φ.s22 (by simpa using h0) }, rfl⟩
                refine hG ?_
                clear hK φ hG
                revert hk
                go_simp
                first | done | exact fun h => h
              case q1 =>
                rintro L vs w' K ⟨u14, u15, u16, u17, u18, u19, u20, u21, u22, u23, u24, u25, u26, u27, u28, u29, u30, u31, u32, u33, u34, u35, u36, wz, rfl, φ, rfl⟩ hL hpre hcl hK G hG
                simp [Region.binds, closedFrom] at hpre hcl
                have hk := hK [u14, (.int .i64 (kk : Int)), u16, u17, u18, u19, u20, u21, u22, u23, u24, u25, u26, u27, u28, u29, u30, u31, u32, u33, u34, u35, u36] wz ⟨_, _, _, _, _, _, _, _, _, _, _, _, _, _, _, _, _, _, _, _, _, _, _, wz, rfl,
                  { b := φ.b,
                    s0 := fun h0 => φ.s0 (by simpa using h0),
                    s1 := fun _ => rfl,
                    s2 := fun h0 => φ.s2 (by simpa using h0),
                    s3 := fun h0 => φ.s3 (by simpa using h0),
                    s4 := fun h0 => φ.s4 (by simpa using h0),
                    s5 := fun h0 => φ.s5 (by simpa using h0),
                    s6 := fun h0 => φ.s6 (by simpa using h0),
                    s7 := fun h0 => φ.s7 (by simpa using h0),
                    s8 := fun h0 => φ.s8 (by simpa using h0),
                    s9 := fun h0 => φ.s9 (by simpa using h0),
                    s10 := fun h0 => φ.s10 (by simpa using h0),
                    s11 := fun h0 => φ.s11 (by simpa using h0),
                    s12 := fun h0 => φ.s12 (by simpa using h0),
                    s13 := fun h0 => φ.s13 (by simpa using h0),
                    s14 := fun h0 => φ.s14 (by simpa using h0),
                    s15 := fun h0 => φ.s15 (by simpa using h0),
                    s16 := fun h0 => φ.s16 (by simpa using h0),
                    s17 := fun h0 => φ.s17 (by simpa using h0),
                    s18 := fun h0 => φ.s18 (by simpa using h0),
                    s19 := fun h0 => φ.s19 (by simpa using h0),
                    s20 := fun h0 => φ.s20 (by simpa using h0),
                    s21 := fun h0 => φ.s21 (by simpa using h0),
                    s22 := fun h0 => φ.s22 (by simpa using h0) }, rfl⟩
                refine hG ?_
                clear hK φ hG
                revert hk
                go_simp
                first | done | exact fun h => h
              case q2 =>
                rintro L vs w' K ⟨u14, u15, u16, u17, u18, u19, u20, u21, u22, u23, u24, u25, u26, u27, u28, u29, u30, u31, u32, u33, u34, u35, u36, wz, rfl, φ, rfl⟩ hL hpre hcl hK G hG
                simp [Region.binds, closedFrom] at hpre hcl
                have e0 := φ.s0 (by simp [hpre])
                subst e0
                have e1 := φ.s1 (by simp [hpre])
                subst e1
                have hk := hK [(.slice (some ⟨bb, off, none⟩) n c), (.int .i64 (kk : Int)), (.pointer (some ⟨bb, off + kk * 2, none⟩)), u17, u18, u19, u20, u21, u22, u23, u24, u25, u26, u27, u28, u29, u30, u31, u32, u33, u34, u35, u36] wz ⟨_, _, _, _, _, _, _, _, _, _, _, _, _, _, _, _, _, _, _, _, _, _, _, wz, rfl,
                  { b := φ.b,
                    s0 := fun h0 => φ.s0 (by simpa using h0),
                    s1 := fun h0 => φ.s1 (by simpa using h0),
                    s2 := fun _ => rfl,
                    s3 := fun h0 => φ.s3 (by simpa using h0),
                    s4 := fun h0 => φ.s4 (by simpa using h0),
                    s5 := fun h0 => φ.s5 (by simpa using h0),
                    s6 := fun h0 => φ.s6 (by simpa using h0),
                    s7 := fun h0 => φ.s7 (by simpa using h0),
                    s8 := fun h0 => φ.s8 (by simpa using h0),
                    s9 := fun h0 => φ.s9 (by simpa using h0),
                    s10 := fun h0 => φ.s10 (by simpa using h0),
                    s11 := fun h0 => φ.s11 (by simpa using h0),
                    s12 := fun h0 => φ.s12 (by simpa using h0),
                    s13 := fun h0 => φ.s13 (by simpa using h0),
                    s14 := fun h0 => φ.s14 (by simpa using h0),
                    s15 := fun h0 => φ.s15 (by simpa using h0),
                    s16 := fun h0 => φ.s16 (by simpa using h0),
                    s17 := fun h0 => φ.s17 (by simpa using h0),
                    s18 := fun h0 => φ.s18 (by simpa using h0),
                    s19 := fun h0 => φ.s19 (by simpa using h0),
                    s20 := fun h0 => φ.s20 (by simpa using h0),
                    s21 := fun h0 => φ.s21 (by simpa using h0),
                    s22 := fun h0 => φ.s22 (by simpa using h0) }, rfl⟩
                refine hG ?_
                clear hK φ hG
                revert hk
                go_simp
                first | done | exact fun h => h
              case q3 =>
                rintro L vs w' K ⟨u14, u15, u16, u17, u18, u19, u20, u21, u22, u23, u24, u25, u26, u27, u28, u29, u30, u31, u32, u33, u34, u35, u36, wz, rfl, φ, rfl⟩ hL hpre hcl hK G hG
                simp [Region.binds, closedFrom] at hpre hcl
                have e2 := φ.s2 (by simp [hpre])
                subst e2
                have ce0 := (φ.b.cell (p := ⟨bb, off + kk * 2, none⟩) (World.block_lt_of_cell? _ _ q0)).trans q0
                have ce1 := (φ.b.cell (p := ⟨bb, off + kk * 2 + 1, none⟩) (World.block_lt_of_cell? _ _ q1)).trans q1
                have hk := hK [u14, u15, (.pointer (some ⟨bb, off + kk * 2, none⟩)), (.agg #[.int .i64 x.when_, .int .i64 x.which]), u18, u19, u20, u21, u22, u23, u24, u25, u26, u27, u28, u29, u30, u31, u32, u33, u34, u35, u36] wz ⟨_, _, _, _, _, _, _, _, _, _, _, _, _, _, _, _, _, _, _, _, _, _, _, wz, rfl,
                  { b := φ.b,
                    s0 := fun h0 => φ.s0 (by simpa using h0),
                    s1 := fun h0 => φ.s1 (by simpa using h0),
                    s2 := fun h0 => φ.s2 (by simpa using h0),
                    s3 := fun _ => rfl,
                    s4 := fun h0 => φ.s4 (by simpa using h0),
                    s5 := fun h0 => φ.s5 (by simpa using h0),
                    s6 := fun h0 => φ.s6 (by simpa using h0),
                    s7 := fun h0 => φ.s7 (by simpa using h0),
                    s8 := fun h0 => φ.s8 (by simpa using h0),
                    s9 := fun h0 => φ.s9 (by simpa using h0),
                    s10 := fun h0 => φ.s10 (by simpa using h0),
                    s11 := fun h0 => φ.s11 (by simpa using h0),
                    s12 := fun h0 => φ.s12 (by simpa using h0),
                    s13 := fun h0 => φ.s13 (by simpa using h0),
                    s14 := fun h0 => φ.s14 (by simpa using h0),
                    s15 := fun h0 => φ.s15 (by simpa using h0),
                    s16 := fun h0 => φ.s16 (by simpa using h0),
                    s17 := fun h0 => φ.s17 (by simpa using h0),
                    s18 := fun h0 => φ.s18 (by simpa using h0),
                    s19 := fun h0 => φ.s19 (by simpa using h0),
                    s20 := fun h0 => φ.s20 (by simpa using h0),
                    s21 := fun h0 => φ.s21 (by simpa using h0),
                    s22 := fun h0 => φ.s22 (by simpa using h0) }, rfl⟩
                refine hG ?_
                clear hK φ hG
                revert hk
                go_simp
                first | done | exact fun h => h
              case q4 =>
                rintro L vs w' K ⟨u14, u15, u16, u17, u18, u19, u20, u21, u22, u23, u24, u25, u26, u27, u28, u29, u30, u31, u32, u33, u34, u35, u36, wz, rfl, φ, rfl⟩ hL hpre hcl hK G hG
                simp [Region.binds, closedFrom] at hpre hcl
                have e3 := φ.s3 (by simp [hpre])
                subst e3
                refine step_callg hG wz (by rfl) 30 #[.tmp 17] #[30] rfl #[.agg #[.int .i64 x.when_, .int .i64 x.which]] (by simp [Act.eval, Act.puts, Act.put]) (enters_of Try.func30 (by kernel_rfl) rfl) (cM wz) ?_
                rintro e w9 ⟨rfl, hb9⟩
                refine ⟨_, rfl, ?_⟩
                have hk := hK [u14, u15, u16, (.agg #[.int .i64 x.when_, .int .i64 x.which]), (.bool true), u19, u20, u21, u22, u23, u24, u25, u26, u27, u28, u29, u30, u31, u32, u33, u34, u35, u36] w9 ⟨_, _, _, _, _, _, _, _, _, _, _, _, _, _, _, _, _, _, _, _, _, _, _, w9, rfl,
                  { b := φ.b.trans (hb9.mono φ.b.size),
                    s0 := fun h0 => φ.s0 (by simpa using h0),
                    s1 := fun h0 => φ.s1 (by simpa using h0),
                    s2 := fun h0 => φ.s2 (by simpa using h0),
                    s3 := fun h0 => φ.s3 (by simpa using h0),
                    s4 := fun _ => rfl,
                    s5 := fun h0 => φ.s5 (by simpa using h0),
                    s6 := fun h0 => φ.s6 (by simpa using h0),
                    s7 := fun h0 => φ.s7 (by simpa using h0),
                    s8 := fun h0 => φ.s8 (by simpa using h0),
                    s9 := fun h0 => φ.s9 (by simpa using h0),
                    s10 := fun h0 => φ.s10 (by simpa using h0),
                    s11 := fun h0 => φ.s11 (by simpa using h0),
                    s12 := fun h0 => φ.s12 (by simpa using h0),
                    s13 := fun h0 => φ.s13 (by simpa using h0),
                    s14 := fun h0 => φ.s14 (by simpa using h0),
                    s15 := fun h0 => φ.s15 (by simpa using h0),
                    s16 := fun h0 => φ.s16 (by simpa using h0),
                    s17 := fun h0 => φ.s17 (by simpa using h0),
                    s18 := fun h0 => φ.s18 (by simpa using h0),
                    s19 := fun h0 => φ.s19 (by simpa using h0),
                    s20 := fun h0 => φ.s20 (by simpa using h0),
                    s21 := fun h0 => φ.s21 (by simpa using h0),
                    s22 := fun h0 => φ.s22 (by simpa using h0) }, rfl⟩
                clear hK φ hG
                revert hk
                go_simp
                first | done | exact fun h => h
              case q5 =>
                rintro L vs w' K ⟨u14, u15, u16, u17, u18, u19, u20, u21, u22, u23, u24, u25, u26, u27, u28, u29, u30, u31, u32, u33, u34, u35, u36, wz, rfl, φ, rfl⟩ hL hpre hcl hK G hG
                simp [Region.binds, closedFrom] at hpre hcl
                have e4 := φ.s4 (by simp [hpre])
                subst e4
                have hk := hK [u14, u15, u16, u17, (.bool true), (.bool false), u20, u21, u22, u23, u24, u25, u26, u27, u28, u29, u30, u31, u32, u33, u34, u35, u36] wz ⟨_, _, _, _, _, _, _, _, _, _, _, _, _, _, _, _, _, _, _, _, _, _, _, wz, rfl,
                  { b := φ.b,
                    s0 := fun h0 => φ.s0 (by simpa using h0),
                    s1 := fun h0 => φ.s1 (by simpa using h0),
                    s2 := fun h0 => φ.s2 (by simpa using h0),
                    s3 := fun h0 => φ.s3 (by simpa using h0),
                    s4 := fun h0 => φ.s4 (by simpa using h0),
                    s5 := fun _ => rfl,
                    s6 := fun h0 => φ.s6 (by simpa using h0),
                    s7 := fun h0 => φ.s7 (by simpa using h0),
                    s8 := fun h0 => φ.s8 (by simpa using h0),
                    s9 := fun h0 => φ.s9 (by simpa using h0),
                    s10 := fun h0 => φ.s10 (by simpa using h0),
                    s11 := fun h0 => φ.s11 (by simpa using h0),
                    s12 := fun h0 => φ.s12 (by simpa using h0),
                    s13 := fun h0 => φ.s13 (by simpa using h0),
                    s14 := fun h0 => φ.s14 (by simpa using h0),
                    s15 := fun h0 => φ.s15 (by simpa using h0),
                    s16 := fun h0 => φ.s16 (by simpa using h0),
                    s17 := fun h0 => φ.s17 (by simpa using h0),
                    s18 := fun h0 => φ.s18 (by simpa using h0),
                    s19 := fun h0 => φ.s19 (by simpa using h0),
                    s20 := fun h0 => φ.s20 (by simpa using h0),
                    s21 := fun h0 => φ.s21 (by simpa using h0),
                    s22 := fun h0 => φ.s22 (by simpa using h0) }, rfl⟩
                refine hG ?_
                clear hK φ hG
                revert hk
                go_simp
                first | done | exact fun h => h
              case q6 =>
                rintro L vs w' K ⟨u14, u15, u16, u17, u18, u19, u20, u21, u22, u23, u24, u25, u26, u27, u28, u29, u30, u31, u32, u33, u34, u35, u36, wz, rfl, φ, rfl⟩ hL hpre hcl hK G hG
                simp [Region.binds, closedFrom] at hpre hcl
                have e5 := φ.s5 (by simp [hpre])
                subst e5
                have hk := hK [u14, u15, u16, u17, u18, (.bool false), (.bool false), u21, u22, u23, u24, u25, u26, u27, u28, u29, u30, u31, u32, u33, u34, u35, u36] wz ⟨_, _, _, _, _, _, _, _, _, _, _, _, _, _, _, _, _, _, _, _, _, _, _, wz, rfl,
                  { b := φ.b,
                    s0 := fun h0 => φ.s0 (by simpa using h0),
                    s1 := fun h0 => φ.s1 (by simpa using h0),
                    s2 := fun h0 => φ.s2 (by simpa using h0),
                    s3 := fun h0 => φ.s3 (by simpa using h0),
                    s4 := fun h0 => φ.s4 (by simpa using h0),
                    s5 := fun h0 => φ.s5 (by simpa using h0),
                    s6 := fun _ => rfl,
                    s7 := fun h0 => φ.s7 (by simpa using h0),
                    s8 := fun h0 => φ.s8 (by simpa using h0),
                    s9 := fun h0 => φ.s9 (by simpa using h0),
                    s10 := fun h0 => φ.s10 (by simpa using h0),
                    s11 := fun h0 => φ.s11 (by simpa using h0),
                    s12 := fun h0 => φ.s12 (by simpa using h0),
                    s13 := fun h0 => φ.s13 (by simpa using h0),
                    s14 := fun h0 => φ.s14 (by simpa using h0),
                    s15 := fun h0 => φ.s15 (by simpa using h0),
                    s16 := fun h0 => φ.s16 (by simpa using h0),
                    s17 := fun h0 => φ.s17 (by simpa using h0),
                    s18 := fun h0 => φ.s18 (by simpa using h0),
                    s19 := fun h0 => φ.s19 (by simpa using h0),
                    s20 := fun h0 => φ.s20 (by simpa using h0),
                    s21 := fun h0 => φ.s21 (by simpa using h0),
                    s22 := fun h0 => φ.s22 (by simpa using h0) }, rfl⟩
                refine hG ?_
                clear hK φ hG
                revert hk
                go_simp
                first | done | exact fun h => h
              case q7 =>
                rintro L vs w' K ⟨u14, u15, u16, u17, u18, u19, u20, u21, u22, u23, u24, u25, u26, u27, u28, u29, u30, u31, u32, u33, u34, u35, u36, wz, rfl, φ, rfl⟩ hL hpre hcl hK G hG
                simp [Region.binds, closedFrom] at hpre hcl
                have e6 := φ.s6 (by simp [hpre])
                subst e6
                have hk := hK [u14, u15, u16, u17, u18, u19, (.bool false), (.int .i64 (kk : Int)), u22, u23, u24, u25, u26, u27, u28, u29, u30, u31, u32, u33, u34, u35, u36] wz ⟨_, _, _, _, _, _, _, _, _, _, _, _, _, _, _, _, _, _, _, _, _, _, _, wz, rfl,
                  { b := φ.b,
                    s0 := fun h0 => φ.s0 (by simpa using h0),
                    s1 := fun h0 => φ.s1 (by simpa using h0),
                    s2 := fun h0 => φ.s2 (by simpa using h0),
                    s3 := fun h0 => φ.s3 (by simpa using h0),
                    s4 := fun h0 => φ.s4 (by simpa using h0),
                    s5 := fun h0 => φ.s5 (by simpa using h0),
                    s6 := fun h0 => φ.s6 (by simpa using h0),
                    s7 := fun _ => rfl,
                    s8 := fun h0 => φ.s8 (by simpa using h0),
                    s9 := fun h0 => φ.s9 (by simpa using h0),
                    s10 := fun h0 => φ.s10 (by simpa using h0),
                    s11 := fun h0 => φ.s11 (by simpa using h0),
                    s12 := fun h0 => φ.s12 (by simpa using h0),
                    s13 := fun h0 => φ.s13 (by simpa using h0),
                    s14 := fun h0 => φ.s14 (by simpa using h0),
                    s15 := fun h0 => φ.s15 (by simpa using h0),
                    s16 := fun h0 => φ.s16 (by simpa using h0),
                    s17 := fun h0 => φ.s17 (by simpa using h0),
                    s18 := fun h0 => φ.s18 (by simpa using h0),
                    s19 := fun h0 => φ.s19 (by simpa using h0),
                    s20 := fun h0 => φ.s20 (by simpa using h0),
                    s21 := fun h0 => φ.s21 (by simpa using h0),
                    s22 := fun h0 => φ.s22 (by simpa using h0) }, rfl⟩
                refine hG ?_
                clear hK φ hG
                revert hk
                simp only [yielded, Region.wanted]
                go_simp
                first | done | exact fun h => h
              case q8 =>
                rintro L vs w' K ⟨u14, u15, u16, u17, u18, u19, u20, u21, u22, u23, u24, u25, u26, u27, u28, u29, u30, u31, u32, u33, u34, u35, u36, wz, rfl, φ, rfl⟩ hL hpre hcl hK G hG
                simp [Region.binds, closedFrom] at hpre hcl
                have e6 := φ.s6 (by simp [hpre])
                subst e6
                have e7 := φ.s7 (by simp [hpre])
                subst e7
                have hk := hK [u14, u15, u16, u17, u18, u19, (.bool false), (.int .i64 (kk : Int)), (.bool true), u23, u24, u25, u26, u27, u28, u29, u30, u31, u32, u33, u34, u35, u36] wz ⟨_, _, _, _, _, _, _, _, _, _, _, _, _, _, _, _, _, _, _, _, _, _, _, wz, rfl,
                  { b := φ.b,
                    s0 := fun h0 => φ.s0 (by simpa using h0),
                    s1 := fun h0 => φ.s1 (by simpa using h0),
                    s2 := fun h0 => φ.s2 (by simpa using h0),
                    s3 := fun h0 => φ.s3 (by simpa using h0),
                    s4 := fun h0 => φ.s4 (by simpa using h0),
                    s5 := fun h0 => φ.s5 (by simpa using h0),
                    s6 := fun h0 => φ.s6 (by simpa using h0),
                    s7 := fun h0 => φ.s7 (by simpa using h0),
                    s8 := fun _ => rfl,
                    s9 := fun h0 => φ.s9 (by simpa using h0),
                    s10 := fun h0 => φ.s10 (by simpa using h0),
                    s11 := fun h0 => φ.s11 (by simpa using h0),
                    s12 := fun h0 => φ.s12 (by simpa using h0),
                    s13 := fun h0 => φ.s13 (by simpa using h0),
                    s14 := fun h0 => φ.s14 (by simpa using h0),
                    s15 := fun h0 => φ.s15 (by simpa using h0),
                    s16 := fun h0 => φ.s16 (by simpa using h0),
                    s17 := fun h0 => φ.s17 (by simpa using h0),
                    s18 := fun h0 => φ.s18 (by simpa using h0),
                    s19 := fun h0 => φ.s19 (by simpa using h0),
                    s20 := fun h0 => φ.s20 (by simpa using h0),
                    s21 := fun h0 => φ.s21 (by simpa using h0),
                    s22 := fun h0 => φ.s22 (by simpa using h0) }, rfl⟩
                refine hG ?_
                clear hK φ hG
                revert hk
                simp only [yielded, Region.wanted]
                go_simp
                first | done | exact fun h => h
              case q9 =>
                rintro L vs w' K ⟨u14, u15, u16, u17, u18, u19, u20, u21, u22, u23, u24, u25, u26, u27, u28, u29, u30, u31, u32, u33, u34, u35, u36, wz, rfl, φ, rfl⟩ hL hpre hcl hK G hG
                simp [Region.binds, closedFrom] at hpre hcl
                have e6 := φ.s6 (by simp [hpre])
                subst e6
                have e8 := φ.s8 (by simp [hpre])
                subst e8
                have hk := hK [u14, u15, u16, u17, u18, u19, (.bool false), u21, (.bool true), (.bool true), u24, u25, u26, u27, u28, u29, u30, u31, u32, u33, u34, u35, u36] wz ⟨_, _, _, _, _, _, _, _, _, _, _, _, _, _, _, _, _, _, _, _, _, _, _, wz, rfl,
                  { b := φ.b,
                    s0 := fun h0 => φ.s0 (by simpa using h0),
                    s1 := fun h0 => φ.s1 (by simpa using h0),
                    s2 := fun h0 => φ.s2 (by simpa using h0),
                    s3 := fun h0 => φ.s3 (by simpa using h0),
                    s4 := fun h0 => φ.s4 (by simpa using h0),
                    s5 := fun h0 => φ.s5 (by simpa using h0),
                    s6 := fun h0 => φ.s6 (by simpa using h0),
                    s7 := fun h0 => φ.s7 (by simpa using h0),
                    s8 := fun h0 => φ.s8 (by simpa using h0),
                    s9 := fun _ => rfl,
                    s10 := fun h0 => φ.s10 (by simpa using h0),
                    s11 := fun h0 => φ.s11 (by simpa using h0),
                    s12 := fun h0 => φ.s12 (by simpa using h0),
                    s13 := fun h0 => φ.s13 (by simpa using h0),
                    s14 := fun h0 => φ.s14 (by simpa using h0),
                    s15 := fun h0 => φ.s15 (by simpa using h0),
                    s16 := fun h0 => φ.s16 (by simpa using h0),
                    s17 := fun h0 => φ.s17 (by simpa using h0),
                    s18 := fun h0 => φ.s18 (by simpa using h0),
                    s19 := fun h0 => φ.s19 (by simpa using h0),
                    s20 := fun h0 => φ.s20 (by simpa using h0),
                    s21 := fun h0 => φ.s21 (by simpa using h0),
                    s22 := fun h0 => φ.s22 (by simpa using h0) }, rfl⟩
                refine hG ?_
                clear hK φ hG
                revert hk
                simp only [yielded, Region.wanted]
                go_simp
                first | done | exact fun h => h
              case q10 =>
                rintro L vs w' K ⟨u14, u15, u16, u17, u18, u19, u20, u21, u22, u23, u24, u25, u26, u27, u28, u29, u30, u31, u32, u33, u34, u35, u36, wz, rfl, φ, rfl⟩ hL hpre hcl hK G hG
                simp [Region.binds, closedFrom] at hpre hcl
                have e9 := φ.s9 (by simp [hpre])
                subst e9
                have hk := hK [u14, u15, u16, u17, u18, u19, u20, u21, u22, (.bool true), (.slice (some ⟨bb, off, none⟩) n c), u25, u26, u27, u28, u29, u30, u31, u32, u33, u34, u35, u36] wz ⟨_, _, _, _, _, _, _, _, _, _, _, _, _, _, _, _, _, _, _, _, _, _, _, wz, rfl,
                  { b := φ.b,
                    s0 := fun h0 => φ.s0 (by simpa using h0),
                    s1 := fun h0 => φ.s1 (by simpa using h0),
                    s2 := fun h0 => φ.s2 (by simpa using h0),
                    s3 := fun h0 => φ.s3 (by simpa using h0),
                    s4 := fun h0 => φ.s4 (by simpa using h0),
                    s5 := fun h0 => φ.s5 (by simpa using h0),
                    s6 := fun h0 => φ.s6 (by simpa using h0),
                    s7 := fun h0 => φ.s7 (by simpa using h0),
                    s8 := fun h0 => φ.s8 (by simpa using h0),
                    s9 := fun h0 => φ.s9 (by simpa using h0),
                    s10 := fun _ => rfl,
                    s11 := fun h0 => φ.s11 (by simpa using h0),
                    s12 := fun h0 => φ.s12 (by simpa using h0),
                    s13 := fun h0 => φ.s13 (by simpa using h0),
                    s14 := fun h0 => φ.s14 (by simpa using h0),
                    s15 := fun h0 => φ.s15 (by simpa using h0),
                    s16 := fun h0 => φ.s16 (by simpa using h0),
                    s17 := fun h0 => φ.s17 (by simpa using h0),
                    s18 := fun h0 => φ.s18 (by simpa using h0),
                    s19 := fun h0 => φ.s19 (by simpa using h0),
                    s20 := fun h0 => φ.s20 (by simpa using h0),
                    s21 := fun h0 => φ.s21 (by simpa using h0),
                    s22 := fun h0 => φ.s22 (by simpa using h0) }, rfl⟩
                refine hG ?_
                clear hK φ hG
                revert hk
                simp only [yielded, Region.wanted]
                go_simp
                first | done | exact fun h => h
              case q11 =>
                rintro L vs w' K ⟨u14, u15, u16, u17, u18, u19, u20, u21, u22, u23, u24, u25, u26, u27, u28, u29, u30, u31, u32, u33, u34, u35, u36, wz, rfl, φ, rfl⟩ hL hpre hcl hK G hG
                simp [Region.binds, closedFrom] at hpre hcl
                have e9 := φ.s9 (by simp [hpre])
                subst e9
                have hk := hK [u14, u15, u16, u17, u18, u19, u20, u21, u22, (.bool true), u24, (.int .i64 (kk : Int)), u26, u27, u28, u29, u30, u31, u32, u33, u34, u35, u36] wz ⟨_, _, _, _, _, _, _, _, _, _, _, _, _, _, _, _, _, _, _, _, _, _, _, wz, rfl,
                  { b := φ.b,
                    s0 := fun h0 => φ.s0 (by simpa using h0),
                    s1 := fun h0 => φ.s1 (by simpa using h0),
                    s2 := fun h0 => φ.s2 (by simpa using h0),
                    s3 := fun h0 => φ.s3 (by simpa using h0),
                    s4 := fun h0 => φ.s4 (by simpa using h0),
                    s5 := fun h0 => φ.s5 (by simpa using h0),
                    s6 := fun h0 => φ.s6 (by simpa using h0),
                    s7 := fun h0 => φ.s7 (by simpa using h0),
                    s8 := fun h0 => φ.s8 (by simpa using h0),
                    s9 := fun h0 => φ.s9 (by simpa using h0),
                    s10 := fun h0 => φ.s10 (by simpa using h0),
                    s11 := fun _ => rfl,
                    s12 := fun h0 => φ.s12 (by simpa using h0),
                    s13 := fun h0 => φ.s13 (by simpa using h0),
                    s14 := fun h0 => φ.s14 (by simpa using h0),
                    s15 := fun h0 => φ.s15 (by simpa using h0),
                    s16 := fun h0 => φ.s16 (by simpa using h0),
                    s17 := fun h0 => φ.s17 (by simpa using h0),
                    s18 := fun h0 => φ.s18 (by simpa using h0),
                    s19 := fun h0 => φ.s19 (by simpa using h0),
                    s20 := fun h0 => φ.s20 (by simpa using h0),
                    s21 := fun h0 => φ.s21 (by simpa using h0),
                    s22 := fun h0 => φ.s22 (by simpa using h0) }, rfl⟩
                refine hG ?_
                clear hK φ hG
                revert hk
                simp only [yielded, Region.wanted]
                go_simp
                first | done | exact fun h => h
              case q12 =>
                rintro L vs w' K ⟨u14, u15, u16, u17, u18, u19, u20, u21, u22, u23, u24, u25, u26, u27, u28, u29, u30, u31, u32, u33, u34, u35, u36, wz, rfl, φ, rfl⟩ hL hpre hcl hK G hG
                simp [Region.binds, closedFrom] at hpre hcl
                have e9 := φ.s9 (by simp [hpre])
                subst e9
                have e11 := φ.s11 (by simp [hpre])
                subst e11
                have hk := hK [u14, u15, u16, u17, u18, u19, u20, u21, u22, (.bool true), u24, (.int .i64 (kk : Int)), (.int .i64 (k1 : Int)), u27, u28, u29, u30, u31, u32, u33, u34, u35, u36] wz ⟨_, _, _, _, _, _, _, _, _, _, _, _, _, _, _, _, _, _, _, _, _, _, _, wz, rfl,
                  { b := φ.b,
                    s0 := fun h0 => φ.s0 (by simpa using h0),
                    s1 := fun h0 => φ.s1 (by simpa using h0),
                    s2 := fun h0 => φ.s2 (by simpa using h0),
                    s3 := fun h0 => φ.s3 (by simpa using h0),
                    s4 := fun h0 => φ.s4 (by simpa using h0),
                    s5 := fun h0 => φ.s5 (by simpa using h0),
                    s6 := fun h0 => φ.s6 (by simpa using h0),
                    s7 := fun h0 => φ.s7 (by simpa using h0),
                    s8 := fun h0 => φ.s8 (by simpa using h0),
                    s9 := fun h0 => φ.s9 (by simpa using h0),
                    s10 := fun h0 => φ.s10 (by simpa using h0),
                    s11 := fun h0 => φ.s11 (by simpa using h0),
                    s12 := fun _ => rfl,
                    s13 := fun h0 => φ.s13 (by simpa using h0),
                    s14 := fun h0 => φ.s14 (by simpa using h0),
                    s15 := fun h0 => φ.s15 (by simpa using h0),
                    s16 := fun h0 => φ.s16 (by simpa using h0),
                    s17 := fun h0 => φ.s17 (by simpa using h0),
                    s18 := fun h0 => φ.s18 (by simpa using h0),
                    s19 := fun h0 => φ.s19 (by simpa using h0),
                    s20 := fun h0 => φ.s20 (by simpa using h0),
                    s21 := fun h0 => φ.s21 (by simpa using h0),
                    s22 := fun h0 => φ.s22 (by simpa using h0) }, rfl⟩
                refine hG ?_
                clear hK φ hG
                revert hk
                simp only [yielded, Region.wanted]
                go_simp
                first | done | exact fun h => h
              case q13 =>
                rintro L vs w' K ⟨u14, u15, u16, u17, u18, u19, u20, u21, u22, u23, u24, u25, u26, u27, u28, u29, u30, u31, u32, u33, u34, u35, u36, wz, rfl, φ, rfl⟩ hL hpre hcl hK G hG
                simp [Region.binds, closedFrom] at hpre hcl
                have e9 := φ.s9 (by simp [hpre])
                subst e9
                have e10 := φ.s10 (by simp [hpre])
                subst e10
                have e12 := φ.s12 (by simp [hpre])
                subst e12
                have hk := hK [u14, u15, u16, u17, u18, u19, u20, u21, u22, (.bool true), (.slice (some ⟨bb, off, none⟩) n c), u25, (.int .i64 (k1 : Int)), (.pointer (some ⟨bb, off + k1 * 2, none⟩)), u28, u29, u30, u31, u32, u33, u34, u35, u36] wz ⟨_, _, _, _, _, _, _, _, _, _, _, _, _, _, _, _, _, _, _, _, _, _, _, wz, rfl,
                  { b := φ.b,
                    s0 := fun h0 => φ.s0 (by simpa using h0),
                    s1 := fun h0 => φ.s1 (by simpa using h0),
                    s2 := fun h0 => φ.s2 (by simpa using h0),
                    s3 := fun h0 => φ.s3 (by simpa using h0),
                    s4 := fun h0 => φ.s4 (by simpa using h0),
                    s5 := fun h0 => φ.s5 (by simpa using h0),
                    s6 := fun h0 => φ.s6 (by simpa using h0),
                    s7 := fun h0 => φ.s7 (by simpa using h0),
                    s8 := fun h0 => φ.s8 (by simpa using h0),
                    s9 := fun h0 => φ.s9 (by simpa using h0),
                    s10 := fun h0 => φ.s10 (by simpa using h0),
                    s11 := fun h0 => φ.s11 (by simpa using h0),
                    s12 := fun h0 => φ.s12 (by simpa using h0),
                    s13 := fun _ => rfl,
                    s14 := fun h0 => φ.s14 (by simpa using h0),
                    s15 := fun h0 => φ.s15 (by simpa using h0),
                    s16 := fun h0 => φ.s16 (by simpa using h0),
                    s17 := fun h0 => φ.s17 (by simpa using h0),
                    s18 := fun h0 => φ.s18 (by simpa using h0),
                    s19 := fun h0 => φ.s19 (by simpa using h0),
                    s20 := fun h0 => φ.s20 (by simpa using h0),
                    s21 := fun h0 => φ.s21 (by simpa using h0),
                    s22 := fun h0 => φ.s22 (by simpa using h0) }, rfl⟩
                refine hG ?_
                clear hK φ hG
                revert hk
                simp only [yielded, Region.wanted]
                go_simp
                first | done | exact fun h => h
              case q14 =>
                rintro L vs w' K ⟨u14, u15, u16, u17, u18, u19, u20, u21, u22, u23, u24, u25, u26, u27, u28, u29, u30, u31, u32, u33, u34, u35, u36, wz, rfl, φ, rfl⟩ hL hpre hcl hK G hG
                simp [Region.binds, closedFrom] at hpre hcl
                have e9 := φ.s9 (by simp [hpre])
                subst e9
                have e13 := φ.s13 (by simp [hpre])
                subst e13
                have ce0 := (φ.b.cell (p := ⟨bb, off + k1 * 2, none⟩) (World.block_lt_of_cell? _ _ p0)).trans p0
                have ce1 := (φ.b.cell (p := ⟨bb, off + k1 * 2 + 1, none⟩) (World.block_lt_of_cell? _ _ p1)).trans p1
                have hk := hK [u14, u15, u16, u17, u18, u19, u20, u21, u22, (.bool true), u24, u25, u26, (.pointer (some ⟨bb, off + k1 * 2, none⟩)), (.agg #[.int .i64 y.when_, .int .i64 y.which]), u29, u30, u31, u32, u33, u34, u35, u36] wz ⟨_, _, _, _, _, _, _, _, _, _, _, _, _, _, _, _, _, _, _, _, _, _, _, wz, rfl,
                  { b := φ.b,
                    s0 := fun h0 => φ.s0 (by simpa using h0),
                    s1 := fun h0 => φ.s1 (by simpa using h0),
                    s2 := fun h0 => φ.s2 (by simpa using h0),
                    s3 := fun h0 => φ.s3 (by simpa using h0),
                    s4 := fun h0 => φ.s4 (by simpa using h0),
                    s5 := fun h0 => φ.s5 (by simpa using h0),
                    s6 := fun h0 => φ.s6 (by simpa using h0),
                    s7 := fun h0 => φ.s7 (by simpa using h0),
                    s8 := fun h0 => φ.s8 (by simpa using h0),
                    s9 := fun h0 => φ.s9 (by simpa using h0),
                    s10 := fun h0 => φ.s10 (by simpa using h0),
                    s11 := fun h0 => φ.s11 (by simpa using h0),
                    s12 := fun h0 => φ.s12 (by simpa using h0),
                    s13 := fun h0 => φ.s13 (by simpa using h0),
                    s14 := fun _ => rfl,
                    s15 := fun h0 => φ.s15 (by simpa using h0),
                    s16 := fun h0 => φ.s16 (by simpa using h0),
                    s17 := fun h0 => φ.s17 (by simpa using h0),
                    s18 := fun h0 => φ.s18 (by simpa using h0),
                    s19 := fun h0 => φ.s19 (by simpa using h0),
                    s20 := fun h0 => φ.s20 (by simpa using h0),
                    s21 := fun h0 => φ.s21 (by simpa using h0),
                    s22 := fun h0 => φ.s22 (by simpa using h0) }, rfl⟩
                refine hG ?_
                clear hK φ hG
                revert hk
                simp only [yielded, Region.wanted]
                go_simp
                first | done | exact fun h => h
              case q15 =>
                rintro L vs w' K ⟨u14, u15, u16, u17, u18, u19, u20, u21, u22, u23, u24, u25, u26, u27, u28, u29, u30, u31, u32, u33, u34, u35, u36, wz, rfl, φ, rfl⟩ hL hpre hcl hK G hG
                simp [Region.binds, closedFrom] at hpre hcl
                have e9 := φ.s9 (by simp [hpre])
                subst e9
                have hk := hK [u14, u15, u16, u17, u18, u19, u20, u21, u22, (.bool true), u24, u25, u26, u27, u28, (.slice (some ⟨bb, off, none⟩) n c), u30, u31, u32, u33, u34, u35, u36] wz ⟨_, _, _, _, _, _, _, _, _, _, _, _, _, _, _, _, _, _, _, _, _, _, _, wz, rfl,
                  { b := φ.b,
                    s0 := fun h0 => φ.s0 (by simpa using h0),
                    s1 := fun h0 => φ.s1 (by simpa using h0),
                    s2 := fun h0 => φ.s2 (by simpa using h0),
                    s3 := fun h0 => φ.s3 (by simpa using h0),
                    s4 := fun h0 => φ.s4 (by simpa using h0),
                    s5 := fun h0 => φ.s5 (by simpa using h0),
                    s6 := fun h0 => φ.s6 (by simpa using h0),
                    s7 := fun h0 => φ.s7 (by simpa using h0),
                    s8 := fun h0 => φ.s8 (by simpa using h0),
                    s9 := fun h0 => φ.s9 (by simpa using h0),
                    s10 := fun h0 => φ.s10 (by simpa using h0),
                    s11 := fun h0 => φ.s11 (by simpa using h0),
                    s12 := fun h0 => φ.s12 (by simpa using h0),
                    s13 := fun h0 => φ.s13 (by simpa using h0),
                    s14 := fun h0 => φ.s14 (by simpa using h0),
                    s15 := fun _ => rfl,
                    s16 := fun h0 => φ.s16 (by simpa using h0),
                    s17 := fun h0 => φ.s17 (by simpa using h0),
                    s18 := fun h0 => φ.s18 (by simpa using h0),
                    s19 := fun h0 => φ.s19 (by simpa using h0),
                    s20 := fun h0 => φ.s20 (by simpa using h0),
                    s21 := fun h0 => φ.s21 (by simpa using h0),
                    s22 := fun h0 => φ.s22 (by simpa using h0) }, rfl⟩
                refine hG ?_
                clear hK φ hG
                revert hk
                simp only [yielded, Region.wanted]
                go_simp
                first | done | exact fun h => h
              case q16 =>
                rintro L vs w' K ⟨u14, u15, u16, u17, u18, u19, u20, u21, u22, u23, u24, u25, u26, u27, u28, u29, u30, u31, u32, u33, u34, u35, u36, wz, rfl, φ, rfl⟩ hL hpre hcl hK G hG
                simp [Region.binds, closedFrom] at hpre hcl
                have e9 := φ.s9 (by simp [hpre])
                subst e9
                have hk := hK [u14, u15, u16, u17, u18, u19, u20, u21, u22, (.bool true), u24, u25, u26, u27, u28, u29, (.int .i64 (kk : Int)), u31, u32, u33, u34, u35, u36] wz ⟨_, _, _, _, _, _, _, _, _, _, _, _, _, _, _, _, _, _, _, _, _, _, _, wz, rfl,
                  { b := φ.b,
                    s0 := fun h0 => φ.s0 (by simpa using h0),
                    s1 := fun h0 => φ.s1 (by simpa using h0),
                    s2 := fun h0 => φ.s2 (by simpa using h0),
                    s3 := fun h0 => φ.s3 (by simpa using h0),
                    s4 := fun h0 => φ.s4 (by simpa using h0),
                    s5 := fun h0 => φ.s5 (by simpa using h0),
                    s6 := fun h0 => φ.s6 (by simpa using h0),
                    s7 := fun h0 => φ.s7 (by simpa using h0),
                    s8 := fun h0 => φ.s8 (by simpa using h0),
                    s9 := fun h0 => φ.s9 (by simpa using h0),
                    s10 := fun h0 => φ.s10 (by simpa using h0),
                    s11 := fun h0 => φ.s11 (by simpa using h0),
                    s12 := fun h0 => φ.s12 (by simpa using h0),
                    s13 := fun h0 => φ.s13 (by simpa using h0),
                    s14 := fun h0 => φ.s14 (by simpa using h0),
                    s15 := fun h0 => φ.s15 (by simpa using h0),
                    s16 := fun _ => rfl,
                    s17 := fun h0 => φ.s17 (by simpa using h0),
                    s18 := fun h0 => φ.s18 (by simpa using h0),
                    s19 := fun h0 => φ.s19 (by simpa using h0),
                    s20 := fun h0 => φ.s20 (by simpa using h0),
                    s21 := fun h0 => φ.s21 (by simpa using h0),
                    s22 := fun h0 => φ.s22 (by simpa using h0) }, rfl⟩
                refine hG ?_
                clear hK φ hG
                revert hk
                simp only [yielded, Region.wanted]
                go_simp
                first | done | exact fun h => h
              case q17 =>
                rintro L vs w' K ⟨u14, u15, u16, u17, u18, u19, u20, u21, u22, u23, u24, u25, u26, u27, u28, u29, u30, u31, u32, u33, u34, u35, u36, wz, rfl, φ, rfl⟩ hL hpre hcl hK G hG
                simp [Region.binds, closedFrom] at hpre hcl
                have e9 := φ.s9 (by simp [hpre])
                subst e9
                have e15 := φ.s15 (by simp [hpre])
                subst e15
                have e16 := φ.s16 (by simp [hpre])
                subst e16
                have hk := hK [u14, u15, u16, u17, u18, u19, u20, u21, u22, (.bool true), u24, u25, u26, u27, u28, (.slice (some ⟨bb, off, none⟩) n c), (.int .i64 (kk : Int)), (.pointer (some ⟨bb, off + kk * 2, none⟩)), u32, u33, u34, u35, u36] wz ⟨_, _, _, _, _, _, _, _, _, _, _, _, _, _, _, _, _, _, _, _, _, _, _, wz, rfl,
                  { b := φ.b,
                    s0 := fun h0 => φ.s0 (by simpa using h0),
                    s1 := fun h0 => φ.s1 (by simpa using h0),
                    s2 := fun h0 => φ.s2 (by simpa using h0),
                    s3 := fun h0 => φ.s3 (by simpa using h0),
                    s4 := fun h0 => φ.s4 (by simpa using h0),
                    s5 := fun h0 => φ.s5 (by simpa using h0),
                    s6 := fun h0 => φ.s6 (by simpa using h0),
                    s7 := fun h0 => φ.s7 (by simpa using h0),
                    s8 := fun h0 => φ.s8 (by simpa using h0),
                    s9 := fun h0 => φ.s9 (by simpa using h0),
                    s10 := fun h0 => φ.s10 (by simpa using h0),
                    s11 := fun h0 => φ.s11 (by simpa using h0),
                    s12 := fun h0 => φ.s12 (by simpa using h0),
                    s13 := fun h0 => φ.s13 (by simpa using h0),
                    s14 := fun h0 => φ.s14 (by simpa using h0),
                    s15 := fun h0 => φ.s15 (by simpa using h0),
                    s16 := fun h0 => φ.s16 (by simpa using h0),
                    s17 := fun _ => rfl,
                    s18 := fun h0 => φ.s18 (by simpa using h0),
                    s19 := fun h0 => φ.s19 (by simpa using h0),
                    s20 := fun h0 => φ.s20 (by simpa using h0),
                    s21 := fun h0 => φ.s21 (by simpa using h0),
                    s22 := fun h0 => φ.s22 (by simpa using h0) }, rfl⟩
                refine hG ?_
                clear hK φ hG
                revert hk
                simp only [yielded, Region.wanted]
                go_simp
                first | done | exact fun h => h
              case q18 =>
                rintro L vs w' K ⟨u14, u15, u16, u17, u18, u19, u20, u21, u22, u23, u24, u25, u26, u27, u28, u29, u30, u31, u32, u33, u34, u35, u36, wz, rfl, φ, rfl⟩ hL hpre hcl hK G hG
                simp [Region.binds, closedFrom] at hpre hcl
                have e9 := φ.s9 (by simp [hpre])
                subst e9
                have e17 := φ.s17 (by simp [hpre])
                subst e17
                have ce0 := (φ.b.cell (p := ⟨bb, off + kk * 2, none⟩) (World.block_lt_of_cell? _ _ q0)).trans q0
                have ce1 := (φ.b.cell (p := ⟨bb, off + kk * 2 + 1, none⟩) (World.block_lt_of_cell? _ _ q1)).trans q1
                have hk := hK [u14, u15, u16, u17, u18, u19, u20, u21, u22, (.bool true), u24, u25, u26, u27, u28, u29, u30, (.pointer (some ⟨bb, off + kk * 2, none⟩)), (.agg #[.int .i64 x.when_, .int .i64 x.which]), u33, u34, u35, u36] wz ⟨_, _, _, _, _, _, _, _, _, _, _, _, _, _, _, _, _, _, _, _, _, _, _, wz, rfl,
                  { b := φ.b,
                    s0 := fun h0 => φ.s0 (by simpa using h0),
                    s1 := fun h0 => φ.s1 (by simpa using h0),
                    s2 := fun h0 => φ.s2 (by simpa using h0),
                    s3 := fun h0 => φ.s3 (by simpa using h0),
                    s4 := fun h0 => φ.s4 (by simpa using h0),
                    s5 := fun h0 => φ.s5 (by simpa using h0),
                    s6 := fun h0 => φ.s6 (by simpa using h0),
                    s7 := fun h0 => φ.s7 (by simpa using h0),
                    s8 := fun h0 => φ.s8 (by simpa using h0),
                    s9 := fun h0 => φ.s9 (by simpa using h0),
                    s10 := fun h0 => φ.s10 (by simpa using h0),
                    s11 := fun h0 => φ.s11 (by simpa using h0),
                    s12 := fun h0 => φ.s12 (by simpa using h0),
                    s13 := fun h0 => φ.s13 (by simpa using h0),
                    s14 := fun h0 => φ.s14 (by simpa using h0),
                    s15 := fun h0 => φ.s15 (by simpa using h0),
                    s16 := fun h0 => φ.s16 (by simpa using h0),
                    s17 := fun h0 => φ.s17 (by simpa using h0),
                    s18 := fun _ => rfl,
                    s19 := fun h0 => φ.s19 (by simpa using h0),
                    s20 := fun h0 => φ.s20 (by simpa using h0),
                    s21 := fun h0 => φ.s21 (by simpa using h0),
                    s22 := fun h0 => φ.s22 (by simpa using h0) }, rfl⟩
                refine hG ?_
                clear hK φ hG
                revert hk
                simp only [yielded, Region.wanted]
                go_simp
                first | done | exact fun h => h
              case q19 =>
                rintro L vs w' K ⟨u14, u15, u16, u17, u18, u19, u20, u21, u22, u23, u24, u25, u26, u27, u28, u29, u30, u31, u32, u33, u34, u35, u36, wz, rfl, φ, rfl⟩ hL hpre hcl hK G hG
                simp [Region.binds, closedFrom] at hpre hcl
                have e9 := φ.s9 (by simp [hpre])
                subst e9
                have e14 := φ.s14 (by simp [hpre])
                subst e14
                have e18 := φ.s18 (by simp [hpre])
                subst e18
                refine step_callg hG wz (by simp only [yielded, Region.wanted]; go_simp) 34 #[.tmp 28, .tmp 32] #[30, 30] rfl #[.agg #[.int .i64 y.when_, .int .i64 y.which], .agg #[.int .i64 x.when_, .int .i64 x.which]] (by simp [Act.eval, Act.puts, Act.put]) (enters_of Try.func34 (by kernel_rfl) rfl) (cL wz) ?_
                rintro e w9 ⟨rfl, hb9⟩
                refine ⟨_, rfl, ?_⟩
                have hk := hK [u14, u15, u16, u17, u18, u19, u20, u21, u22, (.bool true), u24, u25, u26, u27, (.agg #[.int .i64 y.when_, .int .i64 y.which]), u29, u30, u31, (.agg #[.int .i64 x.when_, .int .i64 x.which]), (.bool true), u34, u35, u36] w9 ⟨_, _, _, _, _, _, _, _, _, _, _, _, _, _, _, _, _, _, _, _, _, _, _, w9, rfl,
                  { b := φ.b.trans (hb9.mono φ.b.size),
                    s0 := fun h0 => φ.s0 (by simpa using h0),
                    s1 := fun h0 => φ.s1 (by simpa using h0),
                    s2 := fun h0 => φ.s2 (by simpa using h0),
                    s3 := fun h0 => φ.s3 (by simpa using h0),
                    s4 := fun h0 => φ.s4 (by simpa using h0),
                    s5 := fun h0 => φ.s5 (by simpa using h0),
                    s6 := fun h0 => φ.s6 (by simpa using h0),
                    s7 := fun h0 => φ.s7 (by simpa using h0),
                    s8 := fun h0 => φ.s8 (by simpa using h0),
                    s9 := fun h0 => φ.s9 (by simpa using h0),
                    s10 := fun h0 => φ.s10 (by simpa using h0),
                    s11 := fun h0 => φ.s11 (by simpa using h0),
                    s12 := fun h0 => φ.s12 (by simpa using h0),
                    s13 := fun h0 => φ.s13 (by simpa using h0),
                    s14 := fun h0 => φ.s14 (by simpa using h0),
                    s15 := fun h0 => φ.s15 (by simpa using h0),
                    s16 := fun h0 => φ.s16 (by simpa using h0),
                    s17 := fun h0 => φ.s17 (by simpa using h0),
                    s18 := fun h0 => φ.s18 (by simpa using h0),
                    s19 := fun _ => rfl,
                    s20 := fun h0 => φ.s20 (by simpa using h0),
                    s21 := fun h0 => φ.s21 (by simpa using h0),
                    s22 := fun h0 => φ.s22 (by simpa using h0) }, rfl⟩
                clear hK φ hG
                revert hk
                go_simp
                first | done | exact fun h => h
              case q20 =>
                rintro L vs w' K ⟨u14, u15, u16, u17, u18, u19, u20, u21, u22, u23, u24, u25, u26, u27, u28, u29, u30, u31, u32, u33, u34, u35, u36, wz, rfl, φ, rfl⟩ hL hpre hcl hK G hG
                simp [Region.binds, closedFrom] at hpre hcl
                have e9 := φ.s9 (by simp [hpre])
                subst e9
                have e19 := φ.s19 (by simp [hpre])
                subst e19
                have hk := hK [u14, u15, u16, u17, u18, u19, u20, u21, u22, (.bool true), u24, u25, u26, u27, u28, u29, u30, u31, u32, (.bool true), (.bool false), u35, u36] wz ⟨_, _, _, _, _, _, _, _, _, _, _, _, _, _, _, _, _, _, _, _, _, _, _, wz, rfl,
                  { b := φ.b,
                    s0 := fun h0 => φ.s0 (by simpa using h0),
                    s1 := fun h0 => φ.s1 (by simpa using h0),
                    s2 := fun h0 => φ.s2 (by simpa using h0),
                    s3 := fun h0 => φ.s3 (by simpa using h0),
                    s4 := fun h0 => φ.s4 (by simpa using h0),
                    s5 := fun h0 => φ.s5 (by simpa using h0),
                    s6 := fun h0 => φ.s6 (by simpa using h0),
                    s7 := fun h0 => φ.s7 (by simpa using h0),
                    s8 := fun h0 => φ.s8 (by simpa using h0),
                    s9 := fun h0 => φ.s9 (by simpa using h0),
                    s10 := fun h0 => φ.s10 (by simpa using h0),
                    s11 := fun h0 => φ.s11 (by simpa using h0),
                    s12 := fun h0 => φ.s12 (by simpa using h0),
                    s13 := fun h0 => φ.s13 (by simpa using h0),
                    s14 := fun h0 => φ.s14 (by simpa using h0),
                    s15 := fun h0 => φ.s15 (by simpa using h0),
                    s16 := fun h0 => φ.s16 (by simpa using h0),
                    s17 := fun h0 => φ.s17 (by simpa using h0),
                    s18 := fun h0 => φ.s18 (by simpa using h0),
                    s19 := fun h0 => φ.s19 (by simpa using h0),
                    s20 := fun _ => rfl,
                    s21 := fun h0 => φ.s21 (by simpa using h0),
                    s22 := fun h0 => φ.s22 (by simpa using h0) }, rfl⟩
                refine hG ?_
                clear hK φ hG
                revert hk
                simp only [yielded, Region.wanted]
                go_simp
                first | done | exact fun h => h
              case q21 =>
                rintro L vs w' K ⟨u14, u15, u16, u17, u18, u19, u20, u21, u22, u23, u24, u25, u26, u27, u28, u29, u30, u31, u32, u33, u34, u35, u36, wz, rfl, φ, rfl⟩ hL hpre hcl hK G hG
                simp [Region.binds, closedFrom] at hpre hcl
                have e6 := φ.s6 (by simp [hpre])
                subst e6
                have e9 := φ.s9 (by simp [hpre])
                subst e9
                have e20 := φ.s20 (by simp [hpre])
                subst e20
                have hk := hK [u14, u15, u16, u17, u18, u19, (.bool false), u21, u22, (.bool true), u24, u25, u26, u27, u28, u29, u30, u31, u32, u33, (.bool false), (.bool false), u36] wz ⟨_, _, _, _, _, _, _, _, _, _, _, _, _, _, _, _, _, _, _, _, _, _, _, wz, rfl,
                  { b := φ.b,
                    s0 := fun h0 => φ.s0 (by simpa using h0),
                    s1 := fun h0 => φ.s1 (by simpa using h0),
                    s2 := fun h0 => φ.s2 (by simpa using h0),
                    s3 := fun h0 => φ.s3 (by simpa using h0),
                    s4 := fun h0 => φ.s4 (by simpa using h0),
                    s5 := fun h0 => φ.s5 (by simpa using h0),
                    s6 := fun h0 => φ.s6 (by simpa using h0),
                    s7 := fun h0 => φ.s7 (by simpa using h0),
                    s8 := fun h0 => φ.s8 (by simpa using h0),
                    s9 := fun h0 => φ.s9 (by simpa using h0),
                    s10 := fun h0 => φ.s10 (by simpa using h0),
                    s11 := fun h0 => φ.s11 (by simpa using h0),
                    s12 := fun h0 => φ.s12 (by simpa using h0),
                    s13 := fun h0 => φ.s13 (by simpa using h0),
                    s14 := fun h0 => φ.s14 (by simpa using h0),
                    s15 := fun h0 => φ.s15 (by simpa using h0),
                    s16 := fun h0 => φ.s16 (by simpa using h0),
                    s17 := fun h0 => φ.s17 (by simpa using h0),
                    s18 := fun h0 => φ.s18 (by simpa using h0),
                    s19 := fun h0 => φ.s19 (by simpa using h0),
                    s20 := fun h0 => φ.s20 (by simpa using h0),
                    s21 := fun _ => rfl,
                    s22 := fun h0 => φ.s22 (by simpa using h0) }, rfl⟩
                refine hG ?_
                clear hK φ hG
                revert hk
                simp only [yielded, Region.wanted]
                go_simp
                first | done | exact fun h => h
              case q22 =>
                rintro L vs w' K ⟨u14, u15, u16, u17, u18, u19, u20, u21, u22, u23, u24, u25, u26, u27, u28, u29, u30, u31, u32, u33, u34, u35, u36, wz, rfl, φ, rfl⟩ hL hpre hcl hK G hG
                simp [Region.binds, closedFrom] at hpre hcl
                have e6 := φ.s6 (by simp [hpre])
                subst e6
                have e21 := φ.s21 (by simp [hpre])
                subst e21
                have hk := hK [u14, u15, u16, u17, u18, u19, (.bool false), u21, u22, u23, u24, u25, u26, u27, u28, u29, u30, u31, u32, u33, u34, (.bool false), (.bool false)] wz ⟨_, _, _, _, _, _, _, _, _, _, _, _, _, _, _, _, _, _, _, _, _, _, _, wz, rfl,
                  { b := φ.b,
                    s0 := fun h0 => φ.s0 (by simpa using h0),
                    s1 := fun h0 => φ.s1 (by simpa using h0),
                    s2 := fun h0 => φ.s2 (by simpa using h0),
                    s3 := fun h0 => φ.s3 (by simpa using h0),
                    s4 := fun h0 => φ.s4 (by simpa using h0),
                    s5 := fun h0 => φ.s5 (by simpa using h0),
                    s6 := fun h0 => φ.s6 (by simpa using h0),
                    s7 := fun h0 => φ.s7 (by simpa using h0),
                    s8 := fun h0 => φ.s8 (by simpa using h0),
                    s9 := fun h0 => φ.s9 (by simpa using h0),
                    s10 := fun h0 => φ.s10 (by simpa using h0),
                    s11 := fun h0 => φ.s11 (by simpa using h0),
                    s12 := fun h0 => φ.s12 (by simpa using h0),
                    s13 := fun h0 => φ.s13 (by simpa using h0),
                    s14 := fun h0 => φ.s14 (by simpa using h0),
                    s15 := fun h0 => φ.s15 (by simpa using h0),
                    s16 := fun h0 => φ.s16 (by simpa using h0),
                    s17 := fun h0 => φ.s17 (by simpa using h0),
                    s18 := fun h0 => φ.s18 (by simpa using h0),
                    s19 := fun h0 => φ.s19 (by simpa using h0),
                    s20 := fun h0 => φ.s20 (by simpa using h0),
                    s21 := fun h0 => φ.s21 (by simpa using h0),
                    s22 := fun _ => rfl }, rfl⟩
                refine hG ?_
                clear hK φ hG
                revert hk
                go_simp
                first | done | exact fun h => h
              case hend =>
                rintro vs w' ⟨u14, u15, u16, u17, u18, u19, u20, u21, u22, u23, u24, u25, u26, u27, u28, u29, u30, u31, u32, u33, u34, u35, u36, wz, rfl, φ, rfl⟩ G hG
                obtain rfl := φ.s22 rfl
                have b9 := φ.b
                clear φ
                refine hG ?_
                clear hG
                have b2 := b.trans (b9.mono b.size)
                clear q0 q1 b9 b cM HM
                go_simp
                go_wp2_with fail
                go_loopg [4] kk (fun gg s4 wq => ∃ jj : Nat, jj ≤ kk ∧ kk - jj ≤ gg ∧ s4 = .int .i64 (jj : Int) ∧ Aside (Below w.heap.size w wq) ∧ Aside (∀ i, i < jj → l[i]!.which ≠ x.which))
                case atStart => exact ⟨0, Nat.zero_le _, by omega, rfl, b2, fun j hj => absurd hj (Nat.not_lt_zero _)⟩
                case round =>
                  clear b2
                  obtain ⟨jj, hjj, hgj, rfl, HBQ, AJ⟩ := hrel
                  have hslq := HS.out.below HBQ.out
                  have bq := HBQ.out
                  by_cases hjlt : jj < kk
                  · have hjz : (jj : Int) < (kk : Int) := by omega
                    have hjn : (jj : Int) < (n : Int) := by omega
                    obtain ⟨b1, o1, e1, hj0⟩ := hslq.at_ jj (by have := HIN.out; omega)
                    obtain ⟨b2, o2, e2, hk0⟩ := hslq.at_ kk HIN.out
                    obtain ⟨rfl, rfl⟩ : bb = b1 ∧ off = o1 := by injection e1 with e1; injection e1 with e1 e2; exact ⟨e1, e2⟩
                    obtain ⟨rfl, rfl⟩ : bb = b2 ∧ off = o2 := by injection e2 with e2; injection e2 with e2 e3; exact ⟨e2, e3⟩
                    have j1 := hj0 1 _ rfl
                    have k1' := hk0 1 _ rfl
                    rw [← HX.out] at k1'
                    clear hj0 hk0 hslq e1 e2
                    by_cases heq : l[jj]!.which = x.which
                    · have HF := Lib.hid (HBAD.out (fun h => HUN h jj hjlt heq))
                      rw [heq] at j1
                      have zb : (x.which == x.which) = true := by simp
                      clear heq
                      go_wp2_with fail
                      go_quiet (fail)
                      go_wp2_with fail
                      go_ret
                      rw [HF.out]
                      exact ⟨rfl, bdrewN bq _⟩
                    · have HNE := Lib.hid heq
                      have zb : (l[jj]!.which == x.which) = false := by rw [beq_eq_false_iff_ne]; exact heq
                      clear heq
                      generalize hz : l[jj]!.which = z at j1 zb
                      have HZ := Lib.hid hz
                      clear hz
                      go_wp2_with fail
                      go_quiet (fail)
                      go_wp2_with fail
                      go_roundg (kk - (jj + 1))
                      case measure => omega
                      case rel =>
                        refine ⟨jj + 1, by omega, by omega, by go_num, (show Aside _ from bdrewN bq _), (show Aside _ from fun i hi => ?_)⟩
                        by_cases e : i = jj
                        · subst e; exact HNE.out
                        · exact AJ.out i (by omega)
                  · obtain rfl : jj = kk := by omega
                    have hjz : ¬ (jj : Int) < (jj : Int) := by omega
                    have HOKK := Lib.hid (HNEW AJ.out)
                    clear hslq
                    go_wp2_with fail
                    go_roundg (n - (jj + 1))
                    case measure => omega
                    case rel => exact ⟨jj + 1, by omega, by omega, by go_num, (show Aside _ from bq), (show Aside _ from ok_next AA.out HOKK.out)⟩
          · have zk : decide (0 < kk) = false := decide_eq_false hk0
            have hk0z : ¬ (0 : Int) < (kk : Int) := by omega
            have zkz : decide ((0 : Int) < (kk : Int)) = false := decide_eq_false hk0z
            have HNEW : Aside ((∀ i, i < kk → l[i]!.which ≠ x.which) → okD l kk) := fun h => HMK HM.out h (fun h => absurd h hk0)
            go_wp2_with fail
            replace q0 : wr.drew.cell? ⟨bb, off + kk * 2, none⟩ = some (.int .i64 x.when_) := q0
            replace q1 : wr.drew.cell? ⟨bb, off + kk * 2 + 1, none⟩ = some (.int .i64 x.which) := q1
            replace b := b.drew
            refine wp_region_rg (by kernel_rfl) (by kernel_rfl) [14, 15, 16, 17, 18, 19, 20, 21, 22, 23, 24, 25, 26, 27, 28, 29, 30, 31, 32, 33, 34, 35, 36] (RrFirstPhi wr.drew bb off n c kk kk x x) ?h0 ⟨?q0, ?q1, ?q2, ?q3, ?q4, ?q5, ?q6, ?q7, ?q8, ?q9, ?q10, ?q11, ?q12, ?q13, ?q14, ?q15, ?q16, ?q17, ?q18, ?q19, ?q20, ?q21, ?q22, trivial⟩ ?hend
            case h0 => exact ⟨_, _, _, _, _, _, _, _, _, _, _, _, _, _, _, _, _, _, _, _, _, _, _, _, rfl, ⟨Below.refl _ _, (fun h => by cases h), (fun h => by cases h), (fun h => by cases h), (fun h => by cases h), (fun h => by cases h), (fun h => by cases h), (fun h => by cases h), (fun h => by cases h), (fun h => by cases h), (fun h => by cases h), (fun h => by cases h), (fun h => by cases h), (fun h => by cases h), (fun h => by cases h), (fun h => by cases h), (fun h => by cases h), (fun h => by cases h), (fun h => by cases h), (fun h => by cases h), (fun h => by cases h), (fun h => by cases h), (fun h => by cases h), (fun h => by cases h)⟩, rfl⟩
            case q0 =>
              rintro L vs w' K ⟨u14, u15, u16, u17, u18, u19, u20, u21, u22, u23, u24, u25, u26, u27, u28, u29, u30, u31, u32, u33, u34, u35, u36, wz, rfl, φ, rfl⟩ hL hpre hcl hK G hG
              simp [Region.binds, closedFrom] at hpre hcl
              have hk := hK [(.slice (some ⟨bb, off, none⟩) n c), u15, u16, u17, u18, u19, u20, u21, u22, u23, u24, u25, u26, u27, u28, u29, u30, u31, u32, u33, u34, u35, u36] wz ⟨_, _, _, _, _, _, _, _, _, _, _, _, _, _, _, _, _, _, _, _, _, _, _, wz, rfl,
                { b := φ.b,
                  s0 := fun _ => rfl,
                  s1 := fun h0 => φ.s1 (by simpa using h0),
                  s2 := fun h0 => φ.s2 (by simpa using h0),
                  s3 := fun h0 => φ.s3 (by simpa using h0),
                  s4 := fun h0 => φ.s4 (by simpa using h0),
                  s5 := fun h0 => φ.s5 (by simpa using h0),
                  s6 := fun h0 => φ.s6 (by simpa using h0),
                  s7 := fun h0 => φ.s7 (by simpa using h0),
                  s8 := fun h0 => φ.s8 (by simpa using h0),
                  s9 := fun h0 => φ.s9 (by simpa using h0),
                  s10 := fun h0 => φ.s10 (by simpa using h0),
                  s11 := fun h0 => φ.s11 (by simpa using h0),
                  s12 := fun h0 => φ.s12 (by simpa using h0),
                  s13 := fun h0 => φ.s13 (by simpa using h0),
                  s14 := fun h0 => φ.s14 (by simpa using h0),
                  s15 := fun h0 => φ.s15 (by simpa using h0),
                  s16 := fun h0 => φ.s16 (by simpa using h0),
                  s17 := fun h0 => φ.s17 (by simpa using h0),
                  s18 := fun h0 => φ.s18 (by simpa using h0),
                  s19 := fun h0 => φ.s19 (by simpa using h0),
                  s20 := fun h0 => φ.s20 (by simpa using h0),
                  s21 := fun h0 => φ.s21 (by simpa using h0),
                  s22 := fun h0 => φ.s22 (by simpa using h0) }, rfl⟩
              refine hG ?_
              clear hK φ hG
              revert hk
              go_simp
              first | done | exact fun h => h
            case q1 =>
              rintro L vs w' K ⟨u14, u15, u16, u17, u18, u19, u20, u21, u22, u23, u24, u25, u26, u27, u28, u29, u30, u31, u32, u33, u34, u35, u36, wz, rfl, φ, rfl⟩ hL hpre hcl hK G hG
              simp [Region.binds, closedFrom] at hpre hcl
              have hk := hK [u14, (.int .i64 (kk : Int)), u16, u17, u18, u19, u20, u21, u22, u23, u24, u25, u26, u27, u28, u29, u30, u31, u32, u33, u34, u35, u36] wz ⟨_, _, _, _, _, _, _, _, _, _, _, _, _, _, _, _, _, _, _, _, _, _, _, wz, rfl,
                { b := φ.b,
                  s0 := fun h0 => φ.s0 (by simpa using h0),
                  s1 := fun _ => rfl,
                  s2 := fun h0 => φ.s2 (by simpa using h0),
                  s3 := fun h0 => φ.s3 (by simpa using h0),
                  s4 := fun h0 => φ.s4 (by simpa using h0),
                  s5 := fun h0 => φ.s5 (by simpa using h0),
                  s6 := fun h0 => φ.s6 (by simpa using h0),
                  s7 := fun h0 => φ.s7 (by simpa using h0),
                  s8 := fun h0 => φ.s8 (by simpa using h0),
                  s9 := fun h0 => φ.s9 (by simpa using h0),
                  s10 := fun h0 => φ.s10 (by simpa using h0),
                  s11 := fun h0 => φ.s11 (by simpa using h0),
                  s12 := fun h0 => φ.s12 (by simpa using h0),
                  s13 := fun h0 => φ.s13 (by simpa using h0),
                  s14 := fun h0 => φ.s14 (by simpa using h0),
                  s15 := fun h0 => φ.s15 (by simpa using h0),
                  s16 := fun h0 => φ.s16 (by simpa using h0),
                  s17 := fun h0 => φ.s17 (by simpa using h0),
                  s18 := fun h0 => φ.s18 (by simpa using h0),
                  s19 := fun h0 => φ.s19 (by simpa using h0),
                  s20 := fun h0 => φ.s20 (by simpa using h0),
                  s21 := fun h0 => φ.s21 (by simpa using h0),
                  s22 := fun h0 => φ.s22 (by simpa using h0) }, rfl⟩
              refine hG ?_
              clear hK φ hG
              revert hk
              go_simp
              first | done | exact fun h => h
            case q2 =>
              rintro L vs w' K ⟨u14, u15, u16, u17, u18, u19, u20, u21, u22, u23, u24, u25, u26, u27, u28, u29, u30, u31, u32, u33, u34, u35, u36, wz, rfl, φ, rfl⟩ hL hpre hcl hK G hG
              simp [Region.binds, closedFrom] at hpre hcl
              have e0 := φ.s0 (by simp [hpre])
              subst e0
              have e1 := φ.s1 (by simp [hpre])
              subst e1
              have hk := hK [(.slice (some ⟨bb, off, none⟩) n c), (.int .i64 (kk : Int)), (.pointer (some ⟨bb, off + kk * 2, none⟩)), u17, u18, u19, u20, u21, u22, u23, u24, u25, u26, u27, u28, u29, u30, u31, u32, u33, u34, u35, u36] wz ⟨_, _, _, _, _, _, _, _, _, _, _, _, _, _, _, _, _, _, _, _, _, _, _, wz, rfl,
                { b := φ.b,
                  s0 := fun h0 => φ.s0 (by simpa using h0),
                  s1 := fun h0 => φ.s1 (by simpa using h0),
                  s2 := fun _ => rfl,
                  s3 := fun h0 => φ.s3 (by simpa using h0),
                  s4 := fun h0 => φ.s4 (by simpa using h0),
                  s5 := fun h0 => φ.s5 (by simpa using h0),
                  s6 := fun h0 => φ.s6 (by simpa using h0),
                  s7 := fun h0 => φ.s7 (by simpa using h0),
                  s8 := fun h0 => φ.s8 (by simpa using h0),
                  s9 := fun h0 => φ.s9 (by simpa using h0),
                  s10 := fun h0 => φ.s10 (by simpa using h0),
                  s11 := fun h0 => φ.s11 (by simpa using h0),
                  s12 := fun h0 => φ.s12 (by simpa using h0),
                  s13 := fun h0 => φ.s13 (by simpa using h0),
                  s14 := fun h0 => φ.s14 (by simpa using h0),
                  s15 := fun h0 => φ.s15 (by simpa using h0),
                  s16 := fun h0 => φ.s16 (by simpa using h0),
                  s17 := fun h0 => φ.s17 (by simpa using h0),
                  s18 := fun h0 => φ.s18 (by simpa using h0),
                  s19 := fun h0 => φ.s19 (by simpa using h0),
                  s20 := fun h0 => φ.s20 (by simpa using h0),
                  s21 := fun h0 => φ.s21 (by simpa using h0),
                  s22 := fun h0 => φ.s22 (by simpa using h0) }, rfl⟩
              refine hG ?_
              clear hK φ hG
              revert hk
              go_simp
              first | done | exact fun h => h
            case q3 =>
              rintro L vs w' K ⟨u14, u15, u16, u17, u18, u19, u20, u21, u22, u23, u24, u25, u26, u27, u28, u29, u30, u31, u32, u33, u34, u35, u36, wz, rfl, φ, rfl⟩ hL hpre hcl hK G hG
              simp [Region.binds, closedFrom] at hpre hcl
              have e2 := φ.s2 (by simp [hpre])
              subst e2
              have ce0 := (φ.b.cell (p := ⟨bb, off + kk * 2, none⟩) (World.block_lt_of_cell? _ _ q0)).trans q0
              have ce1 := (φ.b.cell (p := ⟨bb, off + kk * 2 + 1, none⟩) (World.block_lt_of_cell? _ _ q1)).trans q1
              have hk := hK [u14, u15, (.pointer (some ⟨bb, off + kk * 2, none⟩)), (.agg #[.int .i64 x.when_, .int .i64 x.which]), u18, u19, u20, u21, u22, u23, u24, u25, u26, u27, u28, u29, u30, u31, u32, u33, u34, u35, u36] wz ⟨_, _, _, _, _, _, _, _, _, _, _, _, _, _, _, _, _, _, _, _, _, _, _, wz, rfl,
                { b := φ.b,
                  s0 := fun h0 => φ.s0 (by simpa using h0),
                  s1 := fun h0 => φ.s1 (by simpa using h0),
                  s2 := fun h0 => φ.s2 (by simpa using h0),
                  s3 := fun _ => rfl,
                  s4 := fun h0 => φ.s4 (by simpa using h0),
                  s5 := fun h0 => φ.s5 (by simpa using h0),
                  s6 := fun h0 => φ.s6 (by simpa using h0),
                  s7 := fun h0 => φ.s7 (by simpa using h0),
                  s8 := fun h0 => φ.s8 (by simpa using h0),
                  s9 := fun h0 => φ.s9 (by simpa using h0),
                  s10 := fun h0 => φ.s10 (by simpa using h0),
                  s11 := fun h0 => φ.s11 (by simpa using h0),
                  s12 := fun h0 => φ.s12 (by simpa using h0),
                  s13 := fun h0 => φ.s13 (by simpa using h0),
                  s14 := fun h0 => φ.s14 (by simpa using h0),
                  s15 := fun h0 => φ.s15 (by simpa using h0),
                  s16 := fun h0 => φ.s16 (by simpa using h0),
                  s17 := fun h0 => φ.s17 (by simpa using h0),
                  s18 := fun h0 => φ.s18 (by simpa using h0),
                  s19 := fun h0 => φ.s19 (by simpa using h0),
                  s20 := fun h0 => φ.s20 (by simpa using h0),
                  s21 := fun h0 => φ.s21 (by simpa using h0),
                  s22 := fun h0 => φ.s22 (by simpa using h0) }, rfl⟩
              refine hG ?_
              clear hK φ hG
              revert hk
              go_simp
              first | done | exact fun h => h
            case q4 =>
              rintro L vs w' K ⟨u14, u15, u16, u17, u18, u19, u20, u21, u22, u23, u24, u25, u26, u27, u28, u29, u30, u31, u32, u33, u34, u35, u36, wz, rfl, φ, rfl⟩ hL hpre hcl hK G hG
              simp [Region.binds, closedFrom] at hpre hcl
              have e3 := φ.s3 (by simp [hpre])
              subst e3
              refine step_callg hG wz (by rfl) 30 #[.tmp 17] #[30] rfl #[.agg #[.int .i64 x.when_, .int .i64 x.which]] (by simp [Act.eval, Act.puts, Act.put]) (enters_of Try.func30 (by kernel_rfl) rfl) (cM wz) ?_
              rintro e w9 ⟨rfl, hb9⟩
              refine ⟨_, rfl, ?_⟩
              have hk := hK [u14, u15, u16, (.agg #[.int .i64 x.when_, .int .i64 x.which]), (.bool true), u19, u20, u21, u22, u23, u24, u25, u26, u27, u28, u29, u30, u31, u32, u33, u34, u35, u36] w9 ⟨_, _, _, _, _, _, _, _, _, _, _, _, _, _, _, _, _, _, _, _, _, _, _, w9, rfl,
                { b := φ.b.trans (hb9.mono φ.b.size),
                  s0 := fun h0 => φ.s0 (by simpa using h0),
                  s1 := fun h0 => φ.s1 (by simpa using h0),
                  s2 := fun h0 => φ.s2 (by simpa using h0),
                  s3 := fun h0 => φ.s3 (by simpa using h0),
                  s4 := fun _ => rfl,
                  s5 := fun h0 => φ.s5 (by simpa using h0),
                  s6 := fun h0 => φ.s6 (by simpa using h0),
                  s7 := fun h0 => φ.s7 (by simpa using h0),
                  s8 := fun h0 => φ.s8 (by simpa using h0),
                  s9 := fun h0 => φ.s9 (by simpa using h0),
                  s10 := fun h0 => φ.s10 (by simpa using h0),
                  s11 := fun h0 => φ.s11 (by simpa using h0),
                  s12 := fun h0 => φ.s12 (by simpa using h0),
                  s13 := fun h0 => φ.s13 (by simpa using h0),
                  s14 := fun h0 => φ.s14 (by simpa using h0),
                  s15 := fun h0 => φ.s15 (by simpa using h0),
                  s16 := fun h0 => φ.s16 (by simpa using h0),
                  s17 := fun h0 => φ.s17 (by simpa using h0),
                  s18 := fun h0 => φ.s18 (by simpa using h0),
                  s19 := fun h0 => φ.s19 (by simpa using h0),
                  s20 := fun h0 => φ.s20 (by simpa using h0),
                  s21 := fun h0 => φ.s21 (by simpa using h0),
                  s22 := fun h0 => φ.s22 (by simpa using h0) }, rfl⟩
              clear hK φ hG
              revert hk
              go_simp
              first | done | exact fun h => h
            case q5 =>
              rintro L vs w' K ⟨u14, u15, u16, u17, u18, u19, u20, u21, u22, u23, u24, u25, u26, u27, u28, u29, u30, u31, u32, u33, u34, u35, u36, wz, rfl, φ, rfl⟩ hL hpre hcl hK G hG
              simp [Region.binds, closedFrom] at hpre hcl
              have e4 := φ.s4 (by simp [hpre])
              subst e4
              have hk := hK [u14, u15, u16, u17, (.bool true), (.bool false), u20, u21, u22, u23, u24, u25, u26, u27, u28, u29, u30, u31, u32, u33, u34, u35, u36] wz ⟨_, _, _, _, _, _, _, _, _, _, _, _, _, _, _, _, _, _, _, _, _, _, _, wz, rfl,
                { b := φ.b,
                  s0 := fun h0 => φ.s0 (by simpa using h0),
                  s1 := fun h0 => φ.s1 (by simpa using h0),
                  s2 := fun h0 => φ.s2 (by simpa using h0),
                  s3 := fun h0 => φ.s3 (by simpa using h0),
                  s4 := fun h0 => φ.s4 (by simpa using h0),
                  s5 := fun _ => rfl,
                  s6 := fun h0 => φ.s6 (by simpa using h0),
                  s7 := fun h0 => φ.s7 (by simpa using h0),
                  s8 := fun h0 => φ.s8 (by simpa using h0),
                  s9 := fun h0 => φ.s9 (by simpa using h0),
                  s10 := fun h0 => φ.s10 (by simpa using h0),
                  s11 := fun h0 => φ.s11 (by simpa using h0),
                  s12 := fun h0 => φ.s12 (by simpa using h0),
                  s13 := fun h0 => φ.s13 (by simpa using h0),
                  s14 := fun h0 => φ.s14 (by simpa using h0),
                  s15 := fun h0 => φ.s15 (by simpa using h0),
                  s16 := fun h0 => φ.s16 (by simpa using h0),
                  s17 := fun h0 => φ.s17 (by simpa using h0),
                  s18 := fun h0 => φ.s18 (by simpa using h0),
                  s19 := fun h0 => φ.s19 (by simpa using h0),
                  s20 := fun h0 => φ.s20 (by simpa using h0),
                  s21 := fun h0 => φ.s21 (by simpa using h0),
                  s22 := fun h0 => φ.s22 (by simpa using h0) }, rfl⟩
              refine hG ?_
              clear hK φ hG
              revert hk
              go_simp
              first | done | exact fun h => h
            case q6 =>
              rintro L vs w' K ⟨u14, u15, u16, u17, u18, u19, u20, u21, u22, u23, u24, u25, u26, u27, u28, u29, u30, u31, u32, u33, u34, u35, u36, wz, rfl, φ, rfl⟩ hL hpre hcl hK G hG
              simp [Region.binds, closedFrom] at hpre hcl
              have e5 := φ.s5 (by simp [hpre])
              subst e5
              have hk := hK [u14, u15, u16, u17, u18, (.bool false), (.bool false), u21, u22, u23, u24, u25, u26, u27, u28, u29, u30, u31, u32, u33, u34, u35, u36] wz ⟨_, _, _, _, _, _, _, _, _, _, _, _, _, _, _, _, _, _, _, _, _, _, _, wz, rfl,
                { b := φ.b,
                  s0 := fun h0 => φ.s0 (by simpa using h0),
                  s1 := fun h0 => φ.s1 (by simpa using h0),
                  s2 := fun h0 => φ.s2 (by simpa using h0),
                  s3 := fun h0 => φ.s3 (by simpa using h0),
                  s4 := fun h0 => φ.s4 (by simpa using h0),
                  s5 := fun h0 => φ.s5 (by simpa using h0),
                  s6 := fun _ => rfl,
                  s7 := fun h0 => φ.s7 (by simpa using h0),
                  s8 := fun h0 => φ.s8 (by simpa using h0),
                  s9 := fun h0 => φ.s9 (by simpa using h0),
                  s10 := fun h0 => φ.s10 (by simpa using h0),
                  s11 := fun h0 => φ.s11 (by simpa using h0),
                  s12 := fun h0 => φ.s12 (by simpa using h0),
                  s13 := fun h0 => φ.s13 (by simpa using h0),
                  s14 := fun h0 => φ.s14 (by simpa using h0),
                  s15 := fun h0 => φ.s15 (by simpa using h0),
                  s16 := fun h0 => φ.s16 (by simpa using h0),
                  s17 := fun h0 => φ.s17 (by simpa using h0),
                  s18 := fun h0 => φ.s18 (by simpa using h0),
                  s19 := fun h0 => φ.s19 (by simpa using h0),
                  s20 := fun h0 => φ.s20 (by simpa using h0),
                  s21 := fun h0 => φ.s21 (by simpa using h0),
                  s22 := fun h0 => φ.s22 (by simpa using h0) }, rfl⟩
              refine hG ?_
              clear hK φ hG
              revert hk
              go_simp
              first | done | exact fun h => h
            case q7 =>
              rintro L vs w' K ⟨u14, u15, u16, u17, u18, u19, u20, u21, u22, u23, u24, u25, u26, u27, u28, u29, u30, u31, u32, u33, u34, u35, u36, wz, rfl, φ, rfl⟩ hL hpre hcl hK G hG
              simp [Region.binds, closedFrom] at hpre hcl
              have e6 := φ.s6 (by simp [hpre])
              subst e6
              have hk := hK [u14, u15, u16, u17, u18, u19, (.bool false), (.int .i64 (kk : Int)), u22, u23, u24, u25, u26, u27, u28, u29, u30, u31, u32, u33, u34, u35, u36] wz ⟨_, _, _, _, _, _, _, _, _, _, _, _, _, _, _, _, _, _, _, _, _, _, _, wz, rfl,
                { b := φ.b,
                  s0 := fun h0 => φ.s0 (by simpa using h0),
                  s1 := fun h0 => φ.s1 (by simpa using h0),
                  s2 := fun h0 => φ.s2 (by simpa using h0),
                  s3 := fun h0 => φ.s3 (by simpa using h0),
                  s4 := fun h0 => φ.s4 (by simpa using h0),
                  s5 := fun h0 => φ.s5 (by simpa using h0),
                  s6 := fun h0 => φ.s6 (by simpa using h0),
                  s7 := fun _ => rfl,
                  s8 := fun h0 => φ.s8 (by simpa using h0),
                  s9 := fun h0 => φ.s9 (by simpa using h0),
                  s10 := fun h0 => φ.s10 (by simpa using h0),
                  s11 := fun h0 => φ.s11 (by simpa using h0),
                  s12 := fun h0 => φ.s12 (by simpa using h0),
                  s13 := fun h0 => φ.s13 (by simpa using h0),
                  s14 := fun h0 => φ.s14 (by simpa using h0),
                  s15 := fun h0 => φ.s15 (by simpa using h0),
                  s16 := fun h0 => φ.s16 (by simpa using h0),
                  s17 := fun h0 => φ.s17 (by simpa using h0),
                  s18 := fun h0 => φ.s18 (by simpa using h0),
                  s19 := fun h0 => φ.s19 (by simpa using h0),
                  s20 := fun h0 => φ.s20 (by simpa using h0),
                  s21 := fun h0 => φ.s21 (by simpa using h0),
                  s22 := fun h0 => φ.s22 (by simpa using h0) }, rfl⟩
              refine hG ?_
              clear hK φ hG
              revert hk
              simp only [yielded, Region.wanted]
              go_simp
              first | done | exact fun h => h
            case q8 =>
              rintro L vs w' K ⟨u14, u15, u16, u17, u18, u19, u20, u21, u22, u23, u24, u25, u26, u27, u28, u29, u30, u31, u32, u33, u34, u35, u36, wz, rfl, φ, rfl⟩ hL hpre hcl hK G hG
              simp [Region.binds, closedFrom] at hpre hcl
              have e6 := φ.s6 (by simp [hpre])
              subst e6
              have e7 := φ.s7 (by simp [hpre])
              subst e7
              have hk := hK [u14, u15, u16, u17, u18, u19, (.bool false), (.int .i64 (kk : Int)), (.bool false), u23, u24, u25, u26, u27, u28, u29, u30, u31, u32, u33, u34, u35, u36] wz ⟨_, _, _, _, _, _, _, _, _, _, _, _, _, _, _, _, _, _, _, _, _, _, _, wz, rfl,
                { b := φ.b,
                  s0 := fun h0 => φ.s0 (by simpa using h0),
                  s1 := fun h0 => φ.s1 (by simpa using h0),
                  s2 := fun h0 => φ.s2 (by simpa using h0),
                  s3 := fun h0 => φ.s3 (by simpa using h0),
                  s4 := fun h0 => φ.s4 (by simpa using h0),
                  s5 := fun h0 => φ.s5 (by simpa using h0),
                  s6 := fun h0 => φ.s6 (by simpa using h0),
                  s7 := fun h0 => φ.s7 (by simpa using h0),
                  s8 := fun _ => rfl,
                  s9 := fun h0 => φ.s9 (by simpa using h0),
                  s10 := fun h0 => φ.s10 (by simpa using h0),
                  s11 := fun h0 => φ.s11 (by simpa using h0),
                  s12 := fun h0 => φ.s12 (by simpa using h0),
                  s13 := fun h0 => φ.s13 (by simpa using h0),
                  s14 := fun h0 => φ.s14 (by simpa using h0),
                  s15 := fun h0 => φ.s15 (by simpa using h0),
                  s16 := fun h0 => φ.s16 (by simpa using h0),
                  s17 := fun h0 => φ.s17 (by simpa using h0),
                  s18 := fun h0 => φ.s18 (by simpa using h0),
                  s19 := fun h0 => φ.s19 (by simpa using h0),
                  s20 := fun h0 => φ.s20 (by simpa using h0),
                  s21 := fun h0 => φ.s21 (by simpa using h0),
                  s22 := fun h0 => φ.s22 (by simpa using h0) }, rfl⟩
              refine hG ?_
              clear hK φ hG
              revert hk
              simp only [yielded, Region.wanted]
              go_simp
              first | done | exact fun h => h
            case q9 =>
              rintro L vs w' K ⟨u14, u15, u16, u17, u18, u19, u20, u21, u22, u23, u24, u25, u26, u27, u28, u29, u30, u31, u32, u33, u34, u35, u36, wz, rfl, φ, rfl⟩ hL hpre hcl hK G hG
              simp [Region.binds, closedFrom] at hpre hcl
              have e6 := φ.s6 (by simp [hpre])
              subst e6
              have e8 := φ.s8 (by simp [hpre])
              subst e8
              have hk := hK [u14, u15, u16, u17, u18, u19, (.bool false), u21, (.bool false), (.bool false), u24, u25, u26, u27, u28, u29, u30, u31, u32, u33, u34, u35, u36] wz ⟨_, _, _, _, _, _, _, _, _, _, _, _, _, _, _, _, _, _, _, _, _, _, _, wz, rfl,
                { b := φ.b,
                  s0 := fun h0 => φ.s0 (by simpa using h0),
                  s1 := fun h0 => φ.s1 (by simpa using h0),
                  s2 := fun h0 => φ.s2 (by simpa using h0),
                  s3 := fun h0 => φ.s3 (by simpa using h0),
                  s4 := fun h0 => φ.s4 (by simpa using h0),
                  s5 := fun h0 => φ.s5 (by simpa using h0),
                  s6 := fun h0 => φ.s6 (by simpa using h0),
                  s7 := fun h0 => φ.s7 (by simpa using h0),
                  s8 := fun h0 => φ.s8 (by simpa using h0),
                  s9 := fun _ => rfl,
                  s10 := fun h0 => φ.s10 (by simpa using h0),
                  s11 := fun h0 => φ.s11 (by simpa using h0),
                  s12 := fun h0 => φ.s12 (by simpa using h0),
                  s13 := fun h0 => φ.s13 (by simpa using h0),
                  s14 := fun h0 => φ.s14 (by simpa using h0),
                  s15 := fun h0 => φ.s15 (by simpa using h0),
                  s16 := fun h0 => φ.s16 (by simpa using h0),
                  s17 := fun h0 => φ.s17 (by simpa using h0),
                  s18 := fun h0 => φ.s18 (by simpa using h0),
                  s19 := fun h0 => φ.s19 (by simpa using h0),
                  s20 := fun h0 => φ.s20 (by simpa using h0),
                  s21 := fun h0 => φ.s21 (by simpa using h0),
                  s22 := fun h0 => φ.s22 (by simpa using h0) }, rfl⟩
              refine hG ?_
              clear hK φ hG
              revert hk
              simp only [yielded, Region.wanted]
              go_simp
              first | done | exact fun h => h
            case q10 =>
              rintro L vs w' K ⟨u14, u15, u16, u17, u18, u19, u20, u21, u22, u23, u24, u25, u26, u27, u28, u29, u30, u31, u32, u33, u34, u35, u36, wz, rfl, φ, rfl⟩ hL hpre hcl hK G hG
              simp [Region.binds, closedFrom] at hpre hcl
              have e9 := φ.s9 (by simp [hpre])
              subst e9
              have hk := hK [u14, u15, u16, u17, u18, u19, u20, u21, u22, (.bool false), (undef), u25, u26, u27, u28, u29, u30, u31, u32, u33, u34, u35, u36] wz ⟨_, _, _, _, _, _, _, _, _, _, _, _, _, _, _, _, _, _, _, _, _, _, _, wz, rfl,
                { b := φ.b,
                  s0 := fun h0 => φ.s0 (by simpa using h0),
                  s1 := fun h0 => φ.s1 (by simpa using h0),
                  s2 := fun h0 => φ.s2 (by simpa using h0),
                  s3 := fun h0 => φ.s3 (by simpa using h0),
                  s4 := fun h0 => φ.s4 (by simpa using h0),
                  s5 := fun h0 => φ.s5 (by simpa using h0),
                  s6 := fun h0 => φ.s6 (by simpa using h0),
                  s7 := fun h0 => φ.s7 (by simpa using h0),
                  s8 := fun h0 => φ.s8 (by simpa using h0),
                  s9 := fun h0 => φ.s9 (by simpa using h0),
                  s10 := fun _ => rfl,
                  s11 := fun h0 => φ.s11 (by simpa using h0),
                  s12 := fun h0 => φ.s12 (by simpa using h0),
                  s13 := fun h0 => φ.s13 (by simpa using h0),
                  s14 := fun h0 => φ.s14 (by simpa using h0),
                  s15 := fun h0 => φ.s15 (by simpa using h0),
                  s16 := fun h0 => φ.s16 (by simpa using h0),
                  s17 := fun h0 => φ.s17 (by simpa using h0),
                  s18 := fun h0 => φ.s18 (by simpa using h0),
                  s19 := fun h0 => φ.s19 (by simpa using h0),
                  s20 := fun h0 => φ.s20 (by simpa using h0),
                  s21 := fun h0 => φ.s21 (by simpa using h0),
                  s22 := fun h0 => φ.s22 (by simpa using h0) }, rfl⟩
              refine hG ?_
              clear hK φ hG
              revert hk
              simp only [yielded, Region.wanted]
              go_simp
              first | done | exact fun h => h
            case q11 =>
              rintro L vs w' K ⟨u14, u15, u16, u17, u18, u19, u20, u21, u22, u23, u24, u25, u26, u27, u28, u29, u30, u31, u32, u33, u34, u35, u36, wz, rfl, φ, rfl⟩ hL hpre hcl hK G hG
              simp [Region.binds, closedFrom] at hpre hcl
              have e9 := φ.s9 (by simp [hpre])
              subst e9
              have hk := hK [u14, u15, u16, u17, u18, u19, u20, u21, u22, (.bool false), u24, (undef), u26, u27, u28, u29, u30, u31, u32, u33, u34, u35, u36] wz ⟨_, _, _, _, _, _, _, _, _, _, _, _, _, _, _, _, _, _, _, _, _, _, _, wz, rfl,
                { b := φ.b,
                  s0 := fun h0 => φ.s0 (by simpa using h0),
                  s1 := fun h0 => φ.s1 (by simpa using h0),
                  s2 := fun h0 => φ.s2 (by simpa using h0),
                  s3 := fun h0 => φ.s3 (by simpa using h0),
                  s4 := fun h0 => φ.s4 (by simpa using h0),
                  s5 := fun h0 => φ.s5 (by simpa using h0),
                  s6 := fun h0 => φ.s6 (by simpa using h0),
                  s7 := fun h0 => φ.s7 (by simpa using h0),
                  s8 := fun h0 => φ.s8 (by simpa using h0),
                  s9 := fun h0 => φ.s9 (by simpa using h0),
                  s10 := fun h0 => φ.s10 (by simpa using h0),
                  s11 := fun _ => rfl,
                  s12 := fun h0 => φ.s12 (by simpa using h0),
                  s13 := fun h0 => φ.s13 (by simpa using h0),
                  s14 := fun h0 => φ.s14 (by simpa using h0),
                  s15 := fun h0 => φ.s15 (by simpa using h0),
                  s16 := fun h0 => φ.s16 (by simpa using h0),
                  s17 := fun h0 => φ.s17 (by simpa using h0),
                  s18 := fun h0 => φ.s18 (by simpa using h0),
                  s19 := fun h0 => φ.s19 (by simpa using h0),
                  s20 := fun h0 => φ.s20 (by simpa using h0),
                  s21 := fun h0 => φ.s21 (by simpa using h0),
                  s22 := fun h0 => φ.s22 (by simpa using h0) }, rfl⟩
              refine hG ?_
              clear hK φ hG
              revert hk
              simp only [yielded, Region.wanted]
              go_simp
              first | done | exact fun h => h
            case q12 =>
              rintro L vs w' K ⟨u14, u15, u16, u17, u18, u19, u20, u21, u22, u23, u24, u25, u26, u27, u28, u29, u30, u31, u32, u33, u34, u35, u36, wz, rfl, φ, rfl⟩ hL hpre hcl hK G hG
              simp [Region.binds, closedFrom] at hpre hcl
              have e9 := φ.s9 (by simp [hpre])
              subst e9
              have hk := hK [u14, u15, u16, u17, u18, u19, u20, u21, u22, (.bool false), u24, u25, (undef), u27, u28, u29, u30, u31, u32, u33, u34, u35, u36] wz ⟨_, _, _, _, _, _, _, _, _, _, _, _, _, _, _, _, _, _, _, _, _, _, _, wz, rfl,
                { b := φ.b,
                  s0 := fun h0 => φ.s0 (by simpa using h0),
                  s1 := fun h0 => φ.s1 (by simpa using h0),
                  s2 := fun h0 => φ.s2 (by simpa using h0),
                  s3 := fun h0 => φ.s3 (by simpa using h0),
                  s4 := fun h0 => φ.s4 (by simpa using h0),
                  s5 := fun h0 => φ.s5 (by simpa using h0),
                  s6 := fun h0 => φ.s6 (by simpa using h0),
                  s7 := fun h0 => φ.s7 (by simpa using h0),
                  s8 := fun h0 => φ.s8 (by simpa using h0),
                  s9 := fun h0 => φ.s9 (by simpa using h0),
                  s10 := fun h0 => φ.s10 (by simpa using h0),
                  s11 := fun h0 => φ.s11 (by simpa using h0),
                  s12 := fun _ => rfl,
                  s13 := fun h0 => φ.s13 (by simpa using h0),
                  s14 := fun h0 => φ.s14 (by simpa using h0),
                  s15 := fun h0 => φ.s15 (by simpa using h0),
                  s16 := fun h0 => φ.s16 (by simpa using h0),
                  s17 := fun h0 => φ.s17 (by simpa using h0),
                  s18 := fun h0 => φ.s18 (by simpa using h0),
                  s19 := fun h0 => φ.s19 (by simpa using h0),
                  s20 := fun h0 => φ.s20 (by simpa using h0),
                  s21 := fun h0 => φ.s21 (by simpa using h0),
                  s22 := fun h0 => φ.s22 (by simpa using h0) }, rfl⟩
              refine hG ?_
              clear hK φ hG
              revert hk
              simp only [yielded, Region.wanted]
              go_simp
              first | done | exact fun h => h
            case q13 =>
              rintro L vs w' K ⟨u14, u15, u16, u17, u18, u19, u20, u21, u22, u23, u24, u25, u26, u27, u28, u29, u30, u31, u32, u33, u34, u35, u36, wz, rfl, φ, rfl⟩ hL hpre hcl hK G hG
              simp [Region.binds, closedFrom] at hpre hcl
              have e9 := φ.s9 (by simp [hpre])
              subst e9
              have hk := hK [u14, u15, u16, u17, u18, u19, u20, u21, u22, (.bool false), u24, u25, u26, (undef), u28, u29, u30, u31, u32, u33, u34, u35, u36] wz ⟨_, _, _, _, _, _, _, _, _, _, _, _, _, _, _, _, _, _, _, _, _, _, _, wz, rfl,
                { b := φ.b,
                  s0 := fun h0 => φ.s0 (by simpa using h0),
                  s1 := fun h0 => φ.s1 (by simpa using h0),
                  s2 := fun h0 => φ.s2 (by simpa using h0),
                  s3 := fun h0 => φ.s3 (by simpa using h0),
                  s4 := fun h0 => φ.s4 (by simpa using h0),
                  s5 := fun h0 => φ.s5 (by simpa using h0),
                  s6 := fun h0 => φ.s6 (by simpa using h0),
                  s7 := fun h0 => φ.s7 (by simpa using h0),
                  s8 := fun h0 => φ.s8 (by simpa using h0),
                  s9 := fun h0 => φ.s9 (by simpa using h0),
                  s10 := fun h0 => φ.s10 (by simpa using h0),
                  s11 := fun h0 => φ.s11 (by simpa using h0),
                  s12 := fun h0 => φ.s12 (by simpa using h0),
                  s13 := fun _ => rfl,
                  s14 := fun h0 => φ.s14 (by simpa using h0),
                  s15 := fun h0 => φ.s15 (by simpa using h0),
                  s16 := fun h0 => φ.s16 (by simpa using h0),
                  s17 := fun h0 => φ.s17 (by simpa using h0),
                  s18 := fun h0 => φ.s18 (by simpa using h0),
                  s19 := fun h0 => φ.s19 (by simpa using h0),
                  s20 := fun h0 => φ.s20 (by simpa using h0),
                  s21 := fun h0 => φ.s21 (by simpa using h0),
                  s22 := fun h0 => φ.s22 (by simpa using h0) }, rfl⟩
              refine hG ?_
              clear hK φ hG
              revert hk
              simp only [yielded, Region.wanted]
              go_simp
              first | done | exact fun h => h
            case q14 =>
              rintro L vs w' K ⟨u14, u15, u16, u17, u18, u19, u20, u21, u22, u23, u24, u25, u26, u27, u28, u29, u30, u31, u32, u33, u34, u35, u36, wz, rfl, φ, rfl⟩ hL hpre hcl hK G hG
              simp [Region.binds, closedFrom] at hpre hcl
              have e9 := φ.s9 (by simp [hpre])
              subst e9
              have hk := hK [u14, u15, u16, u17, u18, u19, u20, u21, u22, (.bool false), u24, u25, u26, u27, (undef), u29, u30, u31, u32, u33, u34, u35, u36] wz ⟨_, _, _, _, _, _, _, _, _, _, _, _, _, _, _, _, _, _, _, _, _, _, _, wz, rfl,
                { b := φ.b,
                  s0 := fun h0 => φ.s0 (by simpa using h0),
                  s1 := fun h0 => φ.s1 (by simpa using h0),
                  s2 := fun h0 => φ.s2 (by simpa using h0),
                  s3 := fun h0 => φ.s3 (by simpa using h0),
                  s4 := fun h0 => φ.s4 (by simpa using h0),
                  s5 := fun h0 => φ.s5 (by simpa using h0),
                  s6 := fun h0 => φ.s6 (by simpa using h0),
                  s7 := fun h0 => φ.s7 (by simpa using h0),
                  s8 := fun h0 => φ.s8 (by simpa using h0),
                  s9 := fun h0 => φ.s9 (by simpa using h0),
                  s10 := fun h0 => φ.s10 (by simpa using h0),
                  s11 := fun h0 => φ.s11 (by simpa using h0),
                  s12 := fun h0 => φ.s12 (by simpa using h0),
                  s13 := fun h0 => φ.s13 (by simpa using h0),
                  s14 := fun _ => rfl,
                  s15 := fun h0 => φ.s15 (by simpa using h0),
                  s16 := fun h0 => φ.s16 (by simpa using h0),
                  s17 := fun h0 => φ.s17 (by simpa using h0),
                  s18 := fun h0 => φ.s18 (by simpa using h0),
                  s19 := fun h0 => φ.s19 (by simpa using h0),
                  s20 := fun h0 => φ.s20 (by simpa using h0),
                  s21 := fun h0 => φ.s21 (by simpa using h0),
                  s22 := fun h0 => φ.s22 (by simpa using h0) }, rfl⟩
              refine hG ?_
              clear hK φ hG
              revert hk
              simp only [yielded, Region.wanted]
              go_simp
              first | done | exact fun h => h
            case q15 =>
              rintro L vs w' K ⟨u14, u15, u16, u17, u18, u19, u20, u21, u22, u23, u24, u25, u26, u27, u28, u29, u30, u31, u32, u33, u34, u35, u36, wz, rfl, φ, rfl⟩ hL hpre hcl hK G hG
              simp [Region.binds, closedFrom] at hpre hcl
              have e9 := φ.s9 (by simp [hpre])
              subst e9
              have hk := hK [u14, u15, u16, u17, u18, u19, u20, u21, u22, (.bool false), u24, u25, u26, u27, u28, (undef), u30, u31, u32, u33, u34, u35, u36] wz ⟨_, _, _, _, _, _, _, _, _, _, _, _, _, _, _, _, _, _, _, _, _, _, _, wz, rfl,
                { b := φ.b,
                  s0 := fun h0 => φ.s0 (by simpa using h0),
                  s1 := fun h0 => φ.s1 (by simpa using h0),
                  s2 := fun h0 => φ.s2 (by simpa using h0),
                  s3 := fun h0 => φ.s3 (by simpa using h0),
                  s4 := fun h0 => φ.s4 (by simpa using h0),
                  s5 := fun h0 => φ.s5 (by simpa using h0),
                  s6 := fun h0 => φ.s6 (by simpa using h0),
                  s7 := fun h0 => φ.s7 (by simpa using h0),
                  s8 := fun h0 => φ.s8 (by simpa using h0),
                  s9 := fun h0 => φ.s9 (by simpa using h0),
                  s10 := fun h0 => φ.s10 (by simpa using h0),
                  s11 := fun h0 => φ.s11 (by simpa using h0),
                  s12 := fun h0 => φ.s12 (by simpa using h0),
                  s13 := fun h0 => φ.s13 (by simpa using h0),
                  s14 := fun h0 => φ.s14 (by simpa using h0),
                  s15 := fun _ => rfl,
                  s16 := fun h0 => φ.s16 (by simpa using h0),
                  s17 := fun h0 => φ.s17 (by simpa using h0),
                  s18 := fun h0 => φ.s18 (by simpa using h0),
                  s19 := fun h0 => φ.s19 (by simpa using h0),
                  s20 := fun h0 => φ.s20 (by simpa using h0),
                  s21 := fun h0 => φ.s21 (by simpa using h0),
                  s22 := fun h0 => φ.s22 (by simpa using h0) }, rfl⟩
              refine hG ?_
              clear hK φ hG
              revert hk
              simp only [yielded, Region.wanted]
              go_simp
              first | done | exact fun h => h
            case q16 =>
              rintro L vs w' K ⟨u14, u15, u16, u17, u18, u19, u20, u21, u22, u23, u24, u25, u26, u27, u28, u29, u30, u31, u32, u33, u34, u35, u36, wz, rfl, φ, rfl⟩ hL hpre hcl hK G hG
              simp [Region.binds, closedFrom] at hpre hcl
              have e9 := φ.s9 (by simp [hpre])
              subst e9
              have hk := hK [u14, u15, u16, u17, u18, u19, u20, u21, u22, (.bool false), u24, u25, u26, u27, u28, u29, (undef), u31, u32, u33, u34, u35, u36] wz ⟨_, _, _, _, _, _, _, _, _, _, _, _, _, _, _, _, _, _, _, _, _, _, _, wz, rfl,
                { b := φ.b,
                  s0 := fun h0 => φ.s0 (by simpa using h0),
                  s1 := fun h0 => φ.s1 (by simpa using h0),
                  s2 := fun h0 => φ.s2 (by simpa using h0),
                  s3 := fun h0 => φ.s3 (by simpa using h0),
                  s4 := fun h0 => φ.s4 (by simpa using h0),
                  s5 := fun h0 => φ.s5 (by simpa using h0),
                  s6 := fun h0 => φ.s6 (by simpa using h0),
                  s7 := fun h0 => φ.s7 (by simpa using h0),
                  s8 := fun h0 => φ.s8 (by simpa using h0),
                  s9 := fun h0 => φ.s9 (by simpa using h0),
                  s10 := fun h0 => φ.s10 (by simpa using h0),
                  s11 := fun h0 => φ.s11 (by simpa using h0),
                  s12 := fun h0 => φ.s12 (by simpa using h0),
                  s13 := fun h0 => φ.s13 (by simpa using h0),
                  s14 := fun h0 => φ.s14 (by simpa using h0),
                  s15 := fun h0 => φ.s15 (by simpa using h0),
                  s16 := fun _ => rfl,
                  s17 := fun h0 => φ.s17 (by simpa using h0),
                  s18 := fun h0 => φ.s18 (by simpa using h0),
                  s19 := fun h0 => φ.s19 (by simpa using h0),
                  s20 := fun h0 => φ.s20 (by simpa using h0),
                  s21 := fun h0 => φ.s21 (by simpa using h0),
                  s22 := fun h0 => φ.s22 (by simpa using h0) }, rfl⟩
              refine hG ?_
              clear hK φ hG
              revert hk
              simp only [yielded, Region.wanted]
              go_simp
              first | done | exact fun h => h
            case q17 =>
              rintro L vs w' K ⟨u14, u15, u16, u17, u18, u19, u20, u21, u22, u23, u24, u25, u26, u27, u28, u29, u30, u31, u32, u33, u34, u35, u36, wz, rfl, φ, rfl⟩ hL hpre hcl hK G hG
              simp [Region.binds, closedFrom] at hpre hcl
              have e9 := φ.s9 (by simp [hpre])
              subst e9
              have hk := hK [u14, u15, u16, u17, u18, u19, u20, u21, u22, (.bool false), u24, u25, u26, u27, u28, u29, u30, (undef), u32, u33, u34, u35, u36] wz ⟨_, _, _, _, _, _, _, _, _, _, _, _, _, _, _, _, _, _, _, _, _, _, _, wz, rfl,
                { b := φ.b,
                  s0 := fun h0 => φ.s0 (by simpa using h0),
                  s1 := fun h0 => φ.s1 (by simpa using h0),
                  s2 := fun h0 => φ.s2 (by simpa using h0),
                  s3 := fun h0 => φ.s3 (by simpa using h0),
                  s4 := fun h0 => φ.s4 (by simpa using h0),
                  s5 := fun h0 => φ.s5 (by simpa using h0),
                  s6 := fun h0 => φ.s6 (by simpa using h0),
                  s7 := fun h0 => φ.s7 (by simpa using h0),
                  s8 := fun h0 => φ.s8 (by simpa using h0),
                  s9 := fun h0 => φ.s9 (by simpa using h0),
                  s10 := fun h0 => φ.s10 (by simpa using h0),
                  s11 := fun h0 => φ.s11 (by simpa using h0),
                  s12 := fun h0 => φ.s12 (by simpa using h0),
                  s13 := fun h0 => φ.s13 (by simpa using h0),
                  s14 := fun h0 => φ.s14 (by simpa using h0),
                  s15 := fun h0 => φ.s15 (by simpa using h0),
                  s16 := fun h0 => φ.s16 (by simpa using h0),
                  s17 := fun _ => rfl,
                  s18 := fun h0 => φ.s18 (by simpa using h0),
                  s19 := fun h0 => φ.s19 (by simpa using h0),
                  s20 := fun h0 => φ.s20 (by simpa using h0),
                  s21 := fun h0 => φ.s21 (by simpa using h0),
                  s22 := fun h0 => φ.s22 (by simpa using h0) }, rfl⟩
              refine hG ?_
              clear hK φ hG
              revert hk
              simp only [yielded, Region.wanted]
              go_simp
              first | done | exact fun h => h
            case q18 =>
              rintro L vs w' K ⟨u14, u15, u16, u17, u18, u19, u20, u21, u22, u23, u24, u25, u26, u27, u28, u29, u30, u31, u32, u33, u34, u35, u36, wz, rfl, φ, rfl⟩ hL hpre hcl hK G hG
              simp [Region.binds, closedFrom] at hpre hcl
              have e9 := φ.s9 (by simp [hpre])
              subst e9
              have hk := hK [u14, u15, u16, u17, u18, u19, u20, u21, u22, (.bool false), u24, u25, u26, u27, u28, u29, u30, u31, (undef), u33, u34, u35, u36] wz ⟨_, _, _, _, _, _, _, _, _, _, _, _, _, _, _, _, _, _, _, _, _, _, _, wz, rfl,
                { b := φ.b,
                  s0 := fun h0 => φ.s0 (by simpa using h0),
                  s1 := fun h0 => φ.s1 (by simpa using h0),
                  s2 := fun h0 => φ.s2 (by simpa using h0),
                  s3 := fun h0 => φ.s3 (by simpa using h0),
                  s4 := fun h0 => φ.s4 (by simpa using h0),
                  s5 := fun h0 => φ.s5 (by simpa using h0),
                  s6 := fun h0 => φ.s6 (by simpa using h0),
                  s7 := fun h0 => φ.s7 (by simpa using h0),
                  s8 := fun h0 => φ.s8 (by simpa using h0),
                  s9 := fun h0 => φ.s9 (by simpa using h0),
                  s10 := fun h0 => φ.s10 (by simpa using h0),
                  s11 := fun h0 => φ.s11 (by simpa using h0),
                  s12 := fun h0 => φ.s12 (by simpa using h0),
                  s13 := fun h0 => φ.s13 (by simpa using h0),
                  s14 := fun h0 => φ.s14 (by simpa using h0),
                  s15 := fun h0 => φ.s15 (by simpa using h0),
                  s16 := fun h0 => φ.s16 (by simpa using h0),
                  s17 := fun h0 => φ.s17 (by simpa using h0),
                  s18 := fun _ => rfl,
                  s19 := fun h0 => φ.s19 (by simpa using h0),
                  s20 := fun h0 => φ.s20 (by simpa using h0),
                  s21 := fun h0 => φ.s21 (by simpa using h0),
                  s22 := fun h0 => φ.s22 (by simpa using h0) }, rfl⟩
              refine hG ?_
              clear hK φ hG
              revert hk
              simp only [yielded, Region.wanted]
              go_simp
              first | done | exact fun h => h
            case q19 =>
              rintro L vs w' K ⟨u14, u15, u16, u17, u18, u19, u20, u21, u22, u23, u24, u25, u26, u27, u28, u29, u30, u31, u32, u33, u34, u35, u36, wz, rfl, φ, rfl⟩ hL hpre hcl hK G hG
              simp [Region.binds, closedFrom] at hpre hcl
              have e9 := φ.s9 (by simp [hpre])
              subst e9
              have hk := hK [u14, u15, u16, u17, u18, u19, u20, u21, u22, (.bool false), u24, u25, u26, u27, u28, u29, u30, u31, u32, (undef), u34, u35, u36] wz ⟨_, _, _, _, _, _, _, _, _, _, _, _, _, _, _, _, _, _, _, _, _, _, _, wz, rfl,
                { b := φ.b,
                  s0 := fun h0 => φ.s0 (by simpa using h0),
                  s1 := fun h0 => φ.s1 (by simpa using h0),
                  s2 := fun h0 => φ.s2 (by simpa using h0),
                  s3 := fun h0 => φ.s3 (by simpa using h0),
                  s4 := fun h0 => φ.s4 (by simpa using h0),
                  s5 := fun h0 => φ.s5 (by simpa using h0),
                  s6 := fun h0 => φ.s6 (by simpa using h0),
                  s7 := fun h0 => φ.s7 (by simpa using h0),
                  s8 := fun h0 => φ.s8 (by simpa using h0),
                  s9 := fun h0 => φ.s9 (by simpa using h0),
                  s10 := fun h0 => φ.s10 (by simpa using h0),
                  s11 := fun h0 => φ.s11 (by simpa using h0),
                  s12 := fun h0 => φ.s12 (by simpa using h0),
                  s13 := fun h0 => φ.s13 (by simpa using h0),
                  s14 := fun h0 => φ.s14 (by simpa using h0),
                  s15 := fun h0 => φ.s15 (by simpa using h0),
                  s16 := fun h0 => φ.s16 (by simpa using h0),
                  s17 := fun h0 => φ.s17 (by simpa using h0),
                  s18 := fun h0 => φ.s18 (by simpa using h0),
                  s19 := fun _ => rfl,
                  s20 := fun h0 => φ.s20 (by simpa using h0),
                  s21 := fun h0 => φ.s21 (by simpa using h0),
                  s22 := fun h0 => φ.s22 (by simpa using h0) }, rfl⟩
              refine hG ?_
              clear hK φ hG
              revert hk
              simp only [yielded, Region.wanted]
              go_simp
              first | done | exact fun h => h
            case q20 =>
              rintro L vs w' K ⟨u14, u15, u16, u17, u18, u19, u20, u21, u22, u23, u24, u25, u26, u27, u28, u29, u30, u31, u32, u33, u34, u35, u36, wz, rfl, φ, rfl⟩ hL hpre hcl hK G hG
              simp [Region.binds, closedFrom] at hpre hcl
              have e9 := φ.s9 (by simp [hpre])
              subst e9
              have hk := hK [u14, u15, u16, u17, u18, u19, u20, u21, u22, (.bool false), u24, u25, u26, u27, u28, u29, u30, u31, u32, u33, (undef), u35, u36] wz ⟨_, _, _, _, _, _, _, _, _, _, _, _, _, _, _, _, _, _, _, _, _, _, _, wz, rfl,
                { b := φ.b,
                  s0 := fun h0 => φ.s0 (by simpa using h0),
                  s1 := fun h0 => φ.s1 (by simpa using h0),
                  s2 := fun h0 => φ.s2 (by simpa using h0),
                  s3 := fun h0 => φ.s3 (by simpa using h0),
                  s4 := fun h0 => φ.s4 (by simpa using h0),
                  s5 := fun h0 => φ.s5 (by simpa using h0),
                  s6 := fun h0 => φ.s6 (by simpa using h0),
                  s7 := fun h0 => φ.s7 (by simpa using h0),
                  s8 := fun h0 => φ.s8 (by simpa using h0),
                  s9 := fun h0 => φ.s9 (by simpa using h0),
                  s10 := fun h0 => φ.s10 (by simpa using h0),
                  s11 := fun h0 => φ.s11 (by simpa using h0),
                  s12 := fun h0 => φ.s12 (by simpa using h0),
                  s13 := fun h0 => φ.s13 (by simpa using h0),
                  s14 := fun h0 => φ.s14 (by simpa using h0),
                  s15 := fun h0 => φ.s15 (by simpa using h0),
                  s16 := fun h0 => φ.s16 (by simpa using h0),
                  s17 := fun h0 => φ.s17 (by simpa using h0),
                  s18 := fun h0 => φ.s18 (by simpa using h0),
                  s19 := fun h0 => φ.s19 (by simpa using h0),
                  s20 := fun _ => rfl,
                  s21 := fun h0 => φ.s21 (by simpa using h0),
                  s22 := fun h0 => φ.s22 (by simpa using h0) }, rfl⟩
              refine hG ?_
              clear hK φ hG
              revert hk
              simp only [yielded, Region.wanted]
              go_simp
              first | done | exact fun h => h
            case q21 =>
              rintro L vs w' K ⟨u14, u15, u16, u17, u18, u19, u20, u21, u22, u23, u24, u25, u26, u27, u28, u29, u30, u31, u32, u33, u34, u35, u36, wz, rfl, φ, rfl⟩ hL hpre hcl hK G hG
              simp [Region.binds, closedFrom] at hpre hcl
              have e6 := φ.s6 (by simp [hpre])
              subst e6
              have e9 := φ.s9 (by simp [hpre])
              subst e9
              have hk := hK [u14, u15, u16, u17, u18, u19, (.bool false), u21, u22, (.bool false), u24, u25, u26, u27, u28, u29, u30, u31, u32, u33, u34, (.bool false), u36] wz ⟨_, _, _, _, _, _, _, _, _, _, _, _, _, _, _, _, _, _, _, _, _, _, _, wz, rfl,
                { b := φ.b,
                  s0 := fun h0 => φ.s0 (by simpa using h0),
                  s1 := fun h0 => φ.s1 (by simpa using h0),
                  s2 := fun h0 => φ.s2 (by simpa using h0),
                  s3 := fun h0 => φ.s3 (by simpa using h0),
                  s4 := fun h0 => φ.s4 (by simpa using h0),
                  s5 := fun h0 => φ.s5 (by simpa using h0),
                  s6 := fun h0 => φ.s6 (by simpa using h0),
                  s7 := fun h0 => φ.s7 (by simpa using h0),
                  s8 := fun h0 => φ.s8 (by simpa using h0),
                  s9 := fun h0 => φ.s9 (by simpa using h0),
                  s10 := fun h0 => φ.s10 (by simpa using h0),
                  s11 := fun h0 => φ.s11 (by simpa using h0),
                  s12 := fun h0 => φ.s12 (by simpa using h0),
                  s13 := fun h0 => φ.s13 (by simpa using h0),
                  s14 := fun h0 => φ.s14 (by simpa using h0),
                  s15 := fun h0 => φ.s15 (by simpa using h0),
                  s16 := fun h0 => φ.s16 (by simpa using h0),
                  s17 := fun h0 => φ.s17 (by simpa using h0),
                  s18 := fun h0 => φ.s18 (by simpa using h0),
                  s19 := fun h0 => φ.s19 (by simpa using h0),
                  s20 := fun h0 => φ.s20 (by simpa using h0),
                  s21 := fun _ => rfl,
                  s22 := fun h0 => φ.s22 (by simpa using h0) }, rfl⟩
              refine hG ?_
              clear hK φ hG
              revert hk
              simp only [yielded, Region.wanted]
              go_simp
              first | done | exact fun h => h
            case q22 =>
              rintro L vs w' K ⟨u14, u15, u16, u17, u18, u19, u20, u21, u22, u23, u24, u25, u26, u27, u28, u29, u30, u31, u32, u33, u34, u35, u36, wz, rfl, φ, rfl⟩ hL hpre hcl hK G hG
              simp [Region.binds, closedFrom] at hpre hcl
              have e6 := φ.s6 (by simp [hpre])
              subst e6
              have e21 := φ.s21 (by simp [hpre])
              subst e21
              have hk := hK [u14, u15, u16, u17, u18, u19, (.bool false), u21, u22, u23, u24, u25, u26, u27, u28, u29, u30, u31, u32, u33, u34, (.bool false), (.bool false)] wz ⟨_, _, _, _, _, _, _, _, _, _, _, _, _, _, _, _, _, _, _, _, _, _, _, wz, rfl,
                { b := φ.b,
                  s0 := fun h0 => φ.s0 (by simpa using h0),
                  s1 := fun h0 => φ.s1 (by simpa using h0),
                  s2 := fun h0 => φ.s2 (by simpa using h0),
                  s3 := fun h0 => φ.s3 (by simpa using h0),
                  s4 := fun h0 => φ.s4 (by simpa using h0),
                  s5 := fun h0 => φ.s5 (by simpa using h0),
                  s6 := fun h0 => φ.s6 (by simpa using h0),
                  s7 := fun h0 => φ.s7 (by simpa using h0),
                  s8 := fun h0 => φ.s8 (by simpa using h0),
                  s9 := fun h0 => φ.s9 (by simpa using h0),
                  s10 := fun h0 => φ.s10 (by simpa using h0),
                  s11 := fun h0 => φ.s11 (by simpa using h0),
                  s12 := fun h0 => φ.s12 (by simpa using h0),
                  s13 := fun h0 => φ.s13 (by simpa using h0),
                  s14 := fun h0 => φ.s14 (by simpa using h0),
                  s15 := fun h0 => φ.s15 (by simpa using h0),
                  s16 := fun h0 => φ.s16 (by simpa using h0),
                  s17 := fun h0 => φ.s17 (by simpa using h0),
                  s18 := fun h0 => φ.s18 (by simpa using h0),
                  s19 := fun h0 => φ.s19 (by simpa using h0),
                  s20 := fun h0 => φ.s20 (by simpa using h0),
                  s21 := fun h0 => φ.s21 (by simpa using h0),
                  s22 := fun _ => rfl }, rfl⟩
              refine hG ?_
              clear hK φ hG
              revert hk
              go_simp
              first | done | exact fun h => h
            case hend =>
              rintro vs w' ⟨u14, u15, u16, u17, u18, u19, u20, u21, u22, u23, u24, u25, u26, u27, u28, u29, u30, u31, u32, u33, u34, u35, u36, wz, rfl, φ, rfl⟩ G hG
              obtain rfl := φ.s22 rfl
              have b9 := φ.b
              clear φ
              refine hG ?_
              clear hG
              have b2 := b.trans (b9.mono b.size)
              clear q0 q1 b9 b cM HM
              go_simp
              go_wp2_with fail
              go_loopg [4] kk (fun gg s4 wq => ∃ jj : Nat, jj ≤ kk ∧ kk - jj ≤ gg ∧ s4 = .int .i64 (jj : Int) ∧ Aside (Below w.heap.size w wq) ∧ Aside (∀ i, i < jj → l[i]!.which ≠ x.which))
              case atStart => exact ⟨0, Nat.zero_le _, by omega, rfl, b2, fun j hj => absurd hj (Nat.not_lt_zero _)⟩
              case round =>
                clear b2
                obtain ⟨jj, hjj, hgj, rfl, HBQ, AJ⟩ := hrel
                have hslq := HS.out.below HBQ.out
                have bq := HBQ.out
                by_cases hjlt : jj < kk
                · have hjz : (jj : Int) < (kk : Int) := by omega
                  have hjn : (jj : Int) < (n : Int) := by omega
                  obtain ⟨b1, o1, e1, hj0⟩ := hslq.at_ jj (by have := HIN.out; omega)
                  obtain ⟨b2, o2, e2, hk0⟩ := hslq.at_ kk HIN.out
                  obtain ⟨rfl, rfl⟩ : bb = b1 ∧ off = o1 := by injection e1 with e1; injection e1 with e1 e2; exact ⟨e1, e2⟩
                  obtain ⟨rfl, rfl⟩ : bb = b2 ∧ off = o2 := by injection e2 with e2; injection e2 with e2 e3; exact ⟨e2, e3⟩
                  have j1 := hj0 1 _ rfl
                  have k1' := hk0 1 _ rfl
                  rw [← HX.out] at k1'
                  clear hj0 hk0 hslq e1 e2
                  by_cases heq : l[jj]!.which = x.which
                  · have HF := Lib.hid (HBAD.out (fun h => HUN h jj hjlt heq))
                    rw [heq] at j1
                    have zb : (x.which == x.which) = true := by simp
                    clear heq
                    go_wp2_with fail
                    go_quiet (fail)
                    go_wp2_with fail
                    go_ret
                    rw [HF.out]
                    exact ⟨rfl, bdrewN bq _⟩
                  · have HNE := Lib.hid heq
                    have zb : (l[jj]!.which == x.which) = false := by rw [beq_eq_false_iff_ne]; exact heq
                    clear heq
                    generalize hz : l[jj]!.which = z at j1 zb
                    have HZ := Lib.hid hz
                    clear hz
                    go_wp2_with fail
                    go_quiet (fail)
                    go_wp2_with fail
                    go_roundg (kk - (jj + 1))
                    case measure => omega
                    case rel =>
                      refine ⟨jj + 1, by omega, by omega, by go_num, (show Aside _ from bdrewN bq _), (show Aside _ from fun i hi => ?_)⟩
                      by_cases e : i = jj
                      · subst e; exact HNE.out
                      · exact AJ.out i (by omega)
                · obtain rfl : jj = kk := by omega
                  have hjz : ¬ (jj : Int) < (jj : Int) := by omega
                  have HOKK := Lib.hid (HNEW AJ.out)
                  clear hslq
                  go_wp2_with fail
                  go_roundg (n - (jj + 1))
                  case measure => omega
                  case rel => exact ⟨jj + 1, by omega, by omega, by go_num, (show Aside _ from bq), (show Aside _ from ok_next AA.out HOKK.out)⟩
        · have hm' : mayD x = false := by simpa using hm
          have cM := fun w1 => rmay_any x w1
          rw [hm'] at cM
          have HF := Lib.hid (HBAD.out (fun h => hm (HOK h).1))
          clear hm hm'
          go_wp2_with fail
          replace q0 : wr.drew.cell? ⟨bb, off + kk * 2, none⟩ = some (.int .i64 x.when_) := q0
          replace q1 : wr.drew.cell? ⟨bb, off + kk * 2 + 1, none⟩ = some (.int .i64 x.which) := q1
          replace b := b.drew
          refine wp_region_rg (by kernel_rfl) (by kernel_rfl) [14, 15, 16, 17, 18, 19, 20, 21, 22, 23, 24, 25, 26, 27, 28, 29, 30, 31, 32, 33, 34, 35, 36] (RrBadPhi wr.drew bb off n c kk kk x x) ?h0 ⟨?q0, ?q1, ?q2, ?q3, ?q4, ?q5, ?q6, ?q7, ?q8, ?q9, ?q10, ?q11, ?q12, ?q13, ?q14, ?q15, ?q16, ?q17, ?q18, ?q19, ?q20, ?q21, ?q22, trivial⟩ ?hend
          case h0 => exact ⟨_, _, _, _, _, _, _, _, _, _, _, _, _, _, _, _, _, _, _, _, _, _, _, _, rfl, ⟨Below.refl _ _, (fun h => by cases h), (fun h => by cases h), (fun h => by cases h), (fun h => by cases h), (fun h => by cases h), (fun h => by cases h), (fun h => by cases h), (fun h => by cases h), (fun h => by cases h), (fun h => by cases h), (fun h => by cases h), (fun h => by cases h), (fun h => by cases h), (fun h => by cases h), (fun h => by cases h), (fun h => by cases h), (fun h => by cases h), (fun h => by cases h), (fun h => by cases h), (fun h => by cases h), (fun h => by cases h), (fun h => by cases h), (fun h => by cases h)⟩, rfl⟩
          case q0 =>
            rintro L vs w' K ⟨u14, u15, u16, u17, u18, u19, u20, u21, u22, u23, u24, u25, u26, u27, u28, u29, u30, u31, u32, u33, u34, u35, u36, wz, rfl, φ, rfl⟩ hL hpre hcl hK G hG
            simp [Region.binds, closedFrom] at hpre hcl
            have hk := hK [(.slice (some ⟨bb, off, none⟩) n c), u15, u16, u17, u18, u19, u20, u21, u22, u23, u24, u25, u26, u27, u28, u29, u30, u31, u32, u33, u34, u35, u36] wz ⟨_, _, _, _, _, _, _, _, _, _, _, _, _, _, _, _, _, _, _, _, _, _, _, wz, rfl,
              { b := φ.b,
                s0 := fun _ => rfl,
                s1 := fun h0 => φ.s1 (by simpa using h0),
                s2 := fun h0 => φ.s2 (by simpa using h0),
                s3 := fun h0 => φ.s3 (by simpa using h0),
                s4 := fun h0 => φ.s4 (by simpa using h0),
                s5 := fun h0 => φ.s5 (by simpa using h0),
                s6 := fun h0 => φ.s6 (by simpa using h0),
                s7 := fun h0 => φ.s7 (by simpa using h0),
                s8 := fun h0 => φ.s8 (by simpa using h0),
                s9 := fun h0 => φ.s9 (by simpa using h0),
                s10 := fun h0 => φ.s10 (by simpa using h0),
                s11 := fun h0 => φ.s11 (by simpa using h0),
                s12 := fun h0 => φ.s12 (by simpa using h0),
                s13 := fun h0 => φ.s13 (by simpa using h0),
                s14 := fun h0 => φ.s14 (by simpa using h0),
                s15 := fun h0 => φ.s15 (by simpa using h0),
                s16 := fun h0 => φ.s16 (by simpa using h0),
                s17 := fun h0 => φ.s17 (by simpa using h0),
                s18 := fun h0 => φ.s18 (by simpa using h0),
                s19 := fun h0 => φ.s19 (by simpa using h0),
                s20 := fun h0 => φ.s20 (by simpa using h0),
                s21 := fun h0 => φ.s21 (by simpa using h0),
                s22 := fun h0 => φ.s22 (by simpa using h0) }, rfl⟩
            refine hG ?_
            clear hK φ hG
            revert hk
            go_simp
            first | done | exact fun h => h
          case q1 =>
            rintro L vs w' K ⟨u14, u15, u16, u17, u18, u19, u20, u21, u22, u23, u24, u25, u26, u27, u28, u29, u30, u31, u32, u33, u34, u35, u36, wz, rfl, φ, rfl⟩ hL hpre hcl hK G hG
            simp [Region.binds, closedFrom] at hpre hcl
            have hk := hK [u14, (.int .i64 (kk : Int)), u16, u17, u18, u19, u20, u21, u22, u23, u24, u25, u26, u27, u28, u29, u30, u31, u32, u33, u34, u35, u36] wz ⟨_, _, _, _, _, _, _, _, _, _, _, _, _, _, _, _, _, _, _, _, _, _, _, wz, rfl,
              { b := φ.b,
                s0 := fun h0 => φ.s0 (by simpa using h0),
                s1 := fun _ => rfl,
                s2 := fun h0 => φ.s2 (by simpa using h0),
                s3 := fun h0 => φ.s3 (by simpa using h0),
                s4 := fun h0 => φ.s4 (by simpa using h0),
                s5 := fun h0 => φ.s5 (by simpa using h0),
                s6 := fun h0 => φ.s6 (by simpa using h0),
                s7 := fun h0 => φ.s7 (by simpa using h0),
                s8 := fun h0 => φ.s8 (by simpa using h0),
                s9 := fun h0 => φ.s9 (by simpa using h0),
                s10 := fun h0 => φ.s10 (by simpa using h0),
                s11 := fun h0 => φ.s11 (by simpa using h0),
                s12 := fun h0 => φ.s12 (by simpa using h0),
                s13 := fun h0 => φ.s13 (by simpa using h0),
                s14 := fun h0 => φ.s14 (by simpa using h0),
                s15 := fun h0 => φ.s15 (by simpa using h0),
                s16 := fun h0 => φ.s16 (by simpa using h0),
                s17 := fun h0 => φ.s17 (by simpa using h0),
                s18 := fun h0 => φ.s18 (by simpa using h0),
                s19 := fun h0 => φ.s19 (by simpa using h0),
                s20 := fun h0 => φ.s20 (by simpa using h0),
                s21 := fun h0 => φ.s21 (by simpa using h0),
                s22 := fun h0 => φ.s22 (by simpa using h0) }, rfl⟩
            refine hG ?_
            clear hK φ hG
            revert hk
            go_simp
            first | done | exact fun h => h
          case q2 =>
            rintro L vs w' K ⟨u14, u15, u16, u17, u18, u19, u20, u21, u22, u23, u24, u25, u26, u27, u28, u29, u30, u31, u32, u33, u34, u35, u36, wz, rfl, φ, rfl⟩ hL hpre hcl hK G hG
            simp [Region.binds, closedFrom] at hpre hcl
            have e0 := φ.s0 (by simp [hpre])
            subst e0
            have e1 := φ.s1 (by simp [hpre])
            subst e1
            have hk := hK [(.slice (some ⟨bb, off, none⟩) n c), (.int .i64 (kk : Int)), (.pointer (some ⟨bb, off + kk * 2, none⟩)), u17, u18, u19, u20, u21, u22, u23, u24, u25, u26, u27, u28, u29, u30, u31, u32, u33, u34, u35, u36] wz ⟨_, _, _, _, _, _, _, _, _, _, _, _, _, _, _, _, _, _, _, _, _, _, _, wz, rfl,
              { b := φ.b,
                s0 := fun h0 => φ.s0 (by simpa using h0),
                s1 := fun h0 => φ.s1 (by simpa using h0),
                s2 := fun _ => rfl,
                s3 := fun h0 => φ.s3 (by simpa using h0),
                s4 := fun h0 => φ.s4 (by simpa using h0),
                s5 := fun h0 => φ.s5 (by simpa using h0),
                s6 := fun h0 => φ.s6 (by simpa using h0),
                s7 := fun h0 => φ.s7 (by simpa using h0),
                s8 := fun h0 => φ.s8 (by simpa using h0),
                s9 := fun h0 => φ.s9 (by simpa using h0),
                s10 := fun h0 => φ.s10 (by simpa using h0),
                s11 := fun h0 => φ.s11 (by simpa using h0),
                s12 := fun h0 => φ.s12 (by simpa using h0),
                s13 := fun h0 => φ.s13 (by simpa using h0),
                s14 := fun h0 => φ.s14 (by simpa using h0),
                s15 := fun h0 => φ.s15 (by simpa using h0),
                s16 := fun h0 => φ.s16 (by simpa using h0),
                s17 := fun h0 => φ.s17 (by simpa using h0),
                s18 := fun h0 => φ.s18 (by simpa using h0),
                s19 := fun h0 => φ.s19 (by simpa using h0),
                s20 := fun h0 => φ.s20 (by simpa using h0),
                s21 := fun h0 => φ.s21 (by simpa using h0),
                s22 := fun h0 => φ.s22 (by simpa using h0) }, rfl⟩
            refine hG ?_
            clear hK φ hG
            revert hk
            go_simp
            first | done | exact fun h => h
          case q3 =>
            rintro L vs w' K ⟨u14, u15, u16, u17, u18, u19, u20, u21, u22, u23, u24, u25, u26, u27, u28, u29, u30, u31, u32, u33, u34, u35, u36, wz, rfl, φ, rfl⟩ hL hpre hcl hK G hG
            simp [Region.binds, closedFrom] at hpre hcl
            have e2 := φ.s2 (by simp [hpre])
            subst e2
            have ce0 := (φ.b.cell (p := ⟨bb, off + kk * 2, none⟩) (World.block_lt_of_cell? _ _ q0)).trans q0
            have ce1 := (φ.b.cell (p := ⟨bb, off + kk * 2 + 1, none⟩) (World.block_lt_of_cell? _ _ q1)).trans q1
            have hk := hK [u14, u15, (.pointer (some ⟨bb, off + kk * 2, none⟩)), (.agg #[.int .i64 x.when_, .int .i64 x.which]), u18, u19, u20, u21, u22, u23, u24, u25, u26, u27, u28, u29, u30, u31, u32, u33, u34, u35, u36] wz ⟨_, _, _, _, _, _, _, _, _, _, _, _, _, _, _, _, _, _, _, _, _, _, _, wz, rfl,
              { b := φ.b,
                s0 := fun h0 => φ.s0 (by simpa using h0),
                s1 := fun h0 => φ.s1 (by simpa using h0),
                s2 := fun h0 => φ.s2 (by simpa using h0),
                s3 := fun _ => rfl,
                s4 := fun h0 => φ.s4 (by simpa using h0),
                s5 := fun h0 => φ.s5 (by simpa using h0),
                s6 := fun h0 => φ.s6 (by simpa using h0),
                s7 := fun h0 => φ.s7 (by simpa using h0),
                s8 := fun h0 => φ.s8 (by simpa using h0),
                s9 := fun h0 => φ.s9 (by simpa using h0),
                s10 := fun h0 => φ.s10 (by simpa using h0),
                s11 := fun h0 => φ.s11 (by simpa using h0),
                s12 := fun h0 => φ.s12 (by simpa using h0),
                s13 := fun h0 => φ.s13 (by simpa using h0),
                s14 := fun h0 => φ.s14 (by simpa using h0),
                s15 := fun h0 => φ.s15 (by simpa using h0),
                s16 := fun h0 => φ.s16 (by simpa using h0),
                s17 := fun h0 => φ.s17 (by simpa using h0),
                s18 := fun h0 => φ.s18 (by simpa using h0),
                s19 := fun h0 => φ.s19 (by simpa using h0),
                s20 := fun h0 => φ.s20 (by simpa using h0),
                s21 := fun h0 => φ.s21 (by simpa using h0),
                s22 := fun h0 => φ.s22 (by simpa using h0) }, rfl⟩
            refine hG ?_
            clear hK φ hG
            revert hk
            go_simp
            first | done | exact fun h => h
          case q4 =>
            rintro L vs w' K ⟨u14, u15, u16, u17, u18, u19, u20, u21, u22, u23, u24, u25, u26, u27, u28, u29, u30, u31, u32, u33, u34, u35, u36, wz, rfl, φ, rfl⟩ hL hpre hcl hK G hG
            simp [Region.binds, closedFrom] at hpre hcl
            have e3 := φ.s3 (by simp [hpre])
            subst e3
            refine step_callg hG wz (by rfl) 30 #[.tmp 17] #[30] rfl #[.agg #[.int .i64 x.when_, .int .i64 x.which]] (by simp [Act.eval, Act.puts, Act.put]) (enters_of Try.func30 (by kernel_rfl) rfl) (cM wz) ?_
            rintro e w9 ⟨rfl, hb9⟩
            refine ⟨_, rfl, ?_⟩
            have hk := hK [u14, u15, u16, (.agg #[.int .i64 x.when_, .int .i64 x.which]), (.bool false), u19, u20, u21, u22, u23, u24, u25, u26, u27, u28, u29, u30, u31, u32, u33, u34, u35, u36] w9 ⟨_, _, _, _, _, _, _, _, _, _, _, _, _, _, _, _, _, _, _, _, _, _, _, w9, rfl,
              { b := φ.b.trans (hb9.mono φ.b.size),
                s0 := fun h0 => φ.s0 (by simpa using h0),
                s1 := fun h0 => φ.s1 (by simpa using h0),
                s2 := fun h0 => φ.s2 (by simpa using h0),
                s3 := fun h0 => φ.s3 (by simpa using h0),
                s4 := fun _ => rfl,
                s5 := fun h0 => φ.s5 (by simpa using h0),
                s6 := fun h0 => φ.s6 (by simpa using h0),
                s7 := fun h0 => φ.s7 (by simpa using h0),
                s8 := fun h0 => φ.s8 (by simpa using h0),
                s9 := fun h0 => φ.s9 (by simpa using h0),
                s10 := fun h0 => φ.s10 (by simpa using h0),
                s11 := fun h0 => φ.s11 (by simpa using h0),
                s12 := fun h0 => φ.s12 (by simpa using h0),
                s13 := fun h0 => φ.s13 (by simpa using h0),
                s14 := fun h0 => φ.s14 (by simpa using h0),
                s15 := fun h0 => φ.s15 (by simpa using h0),
                s16 := fun h0 => φ.s16 (by simpa using h0),
                s17 := fun h0 => φ.s17 (by simpa using h0),
                s18 := fun h0 => φ.s18 (by simpa using h0),
                s19 := fun h0 => φ.s19 (by simpa using h0),
                s20 := fun h0 => φ.s20 (by simpa using h0),
                s21 := fun h0 => φ.s21 (by simpa using h0),
                s22 := fun h0 => φ.s22 (by simpa using h0) }, rfl⟩
            clear hK φ hG
            revert hk
            go_simp
            first | done | exact fun h => h
          case q5 =>
            rintro L vs w' K ⟨u14, u15, u16, u17, u18, u19, u20, u21, u22, u23, u24, u25, u26, u27, u28, u29, u30, u31, u32, u33, u34, u35, u36, wz, rfl, φ, rfl⟩ hL hpre hcl hK G hG
            simp [Region.binds, closedFrom] at hpre hcl
            have e4 := φ.s4 (by simp [hpre])
            subst e4
            have hk := hK [u14, u15, u16, u17, (.bool false), (.bool true), u20, u21, u22, u23, u24, u25, u26, u27, u28, u29, u30, u31, u32, u33, u34, u35, u36] wz ⟨_, _, _, _, _, _, _, _, _, _, _, _, _, _, _, _, _, _, _, _, _, _, _, wz, rfl,
              { b := φ.b,
                s0 := fun h0 => φ.s0 (by simpa using h0),
                s1 := fun h0 => φ.s1 (by simpa using h0),
                s2 := fun h0 => φ.s2 (by simpa using h0),
                s3 := fun h0 => φ.s3 (by simpa using h0),
                s4 := fun h0 => φ.s4 (by simpa using h0),
                s5 := fun _ => rfl,
                s6 := fun h0 => φ.s6 (by simpa using h0),
                s7 := fun h0 => φ.s7 (by simpa using h0),
                s8 := fun h0 => φ.s8 (by simpa using h0),
                s9 := fun h0 => φ.s9 (by simpa using h0),
                s10 := fun h0 => φ.s10 (by simpa using h0),
                s11 := fun h0 => φ.s11 (by simpa using h0),
                s12 := fun h0 => φ.s12 (by simpa using h0),
                s13 := fun h0 => φ.s13 (by simpa using h0),
                s14 := fun h0 => φ.s14 (by simpa using h0),
                s15 := fun h0 => φ.s15 (by simpa using h0),
                s16 := fun h0 => φ.s16 (by simpa using h0),
                s17 := fun h0 => φ.s17 (by simpa using h0),
                s18 := fun h0 => φ.s18 (by simpa using h0),
                s19 := fun h0 => φ.s19 (by simpa using h0),
                s20 := fun h0 => φ.s20 (by simpa using h0),
                s21 := fun h0 => φ.s21 (by simpa using h0),
                s22 := fun h0 => φ.s22 (by simpa using h0) }, rfl⟩
            refine hG ?_
            clear hK φ hG
            revert hk
            go_simp
            first | done | exact fun h => h
          case q6 =>
            rintro L vs w' K ⟨u14, u15, u16, u17, u18, u19, u20, u21, u22, u23, u24, u25, u26, u27, u28, u29, u30, u31, u32, u33, u34, u35, u36, wz, rfl, φ, rfl⟩ hL hpre hcl hK G hG
            simp [Region.binds, closedFrom] at hpre hcl
            have e5 := φ.s5 (by simp [hpre])
            subst e5
            have hk := hK [u14, u15, u16, u17, u18, (.bool true), (.bool true), u21, u22, u23, u24, u25, u26, u27, u28, u29, u30, u31, u32, u33, u34, u35, u36] wz ⟨_, _, _, _, _, _, _, _, _, _, _, _, _, _, _, _, _, _, _, _, _, _, _, wz, rfl,
              { b := φ.b,
                s0 := fun h0 => φ.s0 (by simpa using h0),
                s1 := fun h0 => φ.s1 (by simpa using h0),
                s2 := fun h0 => φ.s2 (by simpa using h0),
                s3 := fun h0 => φ.s3 (by simpa using h0),
                s4 := fun h0 => φ.s4 (by simpa using h0),
                s5 := fun h0 => φ.s5 (by simpa using h0),
                s6 := fun _ => rfl,
                s7 := fun h0 => φ.s7 (by simpa using h0),
                s8 := fun h0 => φ.s8 (by simpa using h0),
                s9 := fun h0 => φ.s9 (by simpa using h0),
                s10 := fun h0 => φ.s10 (by simpa using h0),
                s11 := fun h0 => φ.s11 (by simpa using h0),
                s12 := fun h0 => φ.s12 (by simpa using h0),
                s13 := fun h0 => φ.s13 (by simpa using h0),
                s14 := fun h0 => φ.s14 (by simpa using h0),
                s15 := fun h0 => φ.s15 (by simpa using h0),
                s16 := fun h0 => φ.s16 (by simpa using h0),
                s17 := fun h0 => φ.s17 (by simpa using h0),
                s18 := fun h0 => φ.s18 (by simpa using h0),
                s19 := fun h0 => φ.s19 (by simpa using h0),
                s20 := fun h0 => φ.s20 (by simpa using h0),
                s21 := fun h0 => φ.s21 (by simpa using h0),
                s22 := fun h0 => φ.s22 (by simpa using h0) }, rfl⟩
            refine hG ?_
            clear hK φ hG
            revert hk
            go_simp
            first | done | exact fun h => h
          case q7 =>
            rintro L vs w' K ⟨u14, u15, u16, u17, u18, u19, u20, u21, u22, u23, u24, u25, u26, u27, u28, u29, u30, u31, u32, u33, u34, u35, u36, wz, rfl, φ, rfl⟩ hL hpre hcl hK G hG
            simp [Region.binds, closedFrom] at hpre hcl
            have e6 := φ.s6 (by simp [hpre])
            subst e6
            have hk := hK [u14, u15, u16, u17, u18, u19, (.bool true), (undef), u22, u23, u24, u25, u26, u27, u28, u29, u30, u31, u32, u33, u34, u35, u36] wz ⟨_, _, _, _, _, _, _, _, _, _, _, _, _, _, _, _, _, _, _, _, _, _, _, wz, rfl,
              { b := φ.b,
                s0 := fun h0 => φ.s0 (by simpa using h0),
                s1 := fun h0 => φ.s1 (by simpa using h0),
                s2 := fun h0 => φ.s2 (by simpa using h0),
                s3 := fun h0 => φ.s3 (by simpa using h0),
                s4 := fun h0 => φ.s4 (by simpa using h0),
                s5 := fun h0 => φ.s5 (by simpa using h0),
                s6 := fun h0 => φ.s6 (by simpa using h0),
                s7 := fun _ => rfl,
                s8 := fun h0 => φ.s8 (by simpa using h0),
                s9 := fun h0 => φ.s9 (by simpa using h0),
                s10 := fun h0 => φ.s10 (by simpa using h0),
                s11 := fun h0 => φ.s11 (by simpa using h0),
                s12 := fun h0 => φ.s12 (by simpa using h0),
                s13 := fun h0 => φ.s13 (by simpa using h0),
                s14 := fun h0 => φ.s14 (by simpa using h0),
                s15 := fun h0 => φ.s15 (by simpa using h0),
                s16 := fun h0 => φ.s16 (by simpa using h0),
                s17 := fun h0 => φ.s17 (by simpa using h0),
                s18 := fun h0 => φ.s18 (by simpa using h0),
                s19 := fun h0 => φ.s19 (by simpa using h0),
                s20 := fun h0 => φ.s20 (by simpa using h0),
                s21 := fun h0 => φ.s21 (by simpa using h0),
                s22 := fun h0 => φ.s22 (by simpa using h0) }, rfl⟩
            refine hG ?_
            clear hK φ hG
            revert hk
            simp only [yielded, Region.wanted]
            go_simp
            first | done | exact fun h => h
          case q8 =>
            rintro L vs w' K ⟨u14, u15, u16, u17, u18, u19, u20, u21, u22, u23, u24, u25, u26, u27, u28, u29, u30, u31, u32, u33, u34, u35, u36, wz, rfl, φ, rfl⟩ hL hpre hcl hK G hG
            simp [Region.binds, closedFrom] at hpre hcl
            have e6 := φ.s6 (by simp [hpre])
            subst e6
            have hk := hK [u14, u15, u16, u17, u18, u19, (.bool true), u21, (undef), u23, u24, u25, u26, u27, u28, u29, u30, u31, u32, u33, u34, u35, u36] wz ⟨_, _, _, _, _, _, _, _, _, _, _, _, _, _, _, _, _, _, _, _, _, _, _, wz, rfl,
              { b := φ.b,
                s0 := fun h0 => φ.s0 (by simpa using h0),
                s1 := fun h0 => φ.s1 (by simpa using h0),
                s2 := fun h0 => φ.s2 (by simpa using h0),
                s3 := fun h0 => φ.s3 (by simpa using h0),
                s4 := fun h0 => φ.s4 (by simpa using h0),
                s5 := fun h0 => φ.s5 (by simpa using h0),
                s6 := fun h0 => φ.s6 (by simpa using h0),
                s7 := fun h0 => φ.s7 (by simpa using h0),
                s8 := fun _ => rfl,
                s9 := fun h0 => φ.s9 (by simpa using h0),
                s10 := fun h0 => φ.s10 (by simpa using h0),
                s11 := fun h0 => φ.s11 (by simpa using h0),
                s12 := fun h0 => φ.s12 (by simpa using h0),
                s13 := fun h0 => φ.s13 (by simpa using h0),
                s14 := fun h0 => φ.s14 (by simpa using h0),
                s15 := fun h0 => φ.s15 (by simpa using h0),
                s16 := fun h0 => φ.s16 (by simpa using h0),
                s17 := fun h0 => φ.s17 (by simpa using h0),
                s18 := fun h0 => φ.s18 (by simpa using h0),
                s19 := fun h0 => φ.s19 (by simpa using h0),
                s20 := fun h0 => φ.s20 (by simpa using h0),
                s21 := fun h0 => φ.s21 (by simpa using h0),
                s22 := fun h0 => φ.s22 (by simpa using h0) }, rfl⟩
            refine hG ?_
            clear hK φ hG
            revert hk
            simp only [yielded, Region.wanted]
            go_simp
            first | done | exact fun h => h
          case q9 =>
            rintro L vs w' K ⟨u14, u15, u16, u17, u18, u19, u20, u21, u22, u23, u24, u25, u26, u27, u28, u29, u30, u31, u32, u33, u34, u35, u36, wz, rfl, φ, rfl⟩ hL hpre hcl hK G hG
            simp [Region.binds, closedFrom] at hpre hcl
            have e6 := φ.s6 (by simp [hpre])
            subst e6
            have hk := hK [u14, u15, u16, u17, u18, u19, (.bool true), u21, u22, (undef), u24, u25, u26, u27, u28, u29, u30, u31, u32, u33, u34, u35, u36] wz ⟨_, _, _, _, _, _, _, _, _, _, _, _, _, _, _, _, _, _, _, _, _, _, _, wz, rfl,
              { b := φ.b,
                s0 := fun h0 => φ.s0 (by simpa using h0),
                s1 := fun h0 => φ.s1 (by simpa using h0),
                s2 := fun h0 => φ.s2 (by simpa using h0),
                s3 := fun h0 => φ.s3 (by simpa using h0),
                s4 := fun h0 => φ.s4 (by simpa using h0),
                s5 := fun h0 => φ.s5 (by simpa using h0),
                s6 := fun h0 => φ.s6 (by simpa using h0),
                s7 := fun h0 => φ.s7 (by simpa using h0),
                s8 := fun h0 => φ.s8 (by simpa using h0),
                s9 := fun _ => rfl,
                s10 := fun h0 => φ.s10 (by simpa using h0),
                s11 := fun h0 => φ.s11 (by simpa using h0),
                s12 := fun h0 => φ.s12 (by simpa using h0),
                s13 := fun h0 => φ.s13 (by simpa using h0),
                s14 := fun h0 => φ.s14 (by simpa using h0),
                s15 := fun h0 => φ.s15 (by simpa using h0),
                s16 := fun h0 => φ.s16 (by simpa using h0),
                s17 := fun h0 => φ.s17 (by simpa using h0),
                s18 := fun h0 => φ.s18 (by simpa using h0),
                s19 := fun h0 => φ.s19 (by simpa using h0),
                s20 := fun h0 => φ.s20 (by simpa using h0),
                s21 := fun h0 => φ.s21 (by simpa using h0),
                s22 := fun h0 => φ.s22 (by simpa using h0) }, rfl⟩
            refine hG ?_
            clear hK φ hG
            revert hk
            simp only [yielded, Region.wanted]
            go_simp
            first | done | exact fun h => h
          case q10 =>
            rintro L vs w' K ⟨u14, u15, u16, u17, u18, u19, u20, u21, u22, u23, u24, u25, u26, u27, u28, u29, u30, u31, u32, u33, u34, u35, u36, wz, rfl, φ, rfl⟩ hL hpre hcl hK G hG
            simp [Region.binds, closedFrom] at hpre hcl
            have e9 := φ.s9 (by simp [hpre])
            subst e9
            have hk := hK [u14, u15, u16, u17, u18, u19, u20, u21, u22, (undef), (undef), u25, u26, u27, u28, u29, u30, u31, u32, u33, u34, u35, u36] wz ⟨_, _, _, _, _, _, _, _, _, _, _, _, _, _, _, _, _, _, _, _, _, _, _, wz, rfl,
              { b := φ.b,
                s0 := fun h0 => φ.s0 (by simpa using h0),
                s1 := fun h0 => φ.s1 (by simpa using h0),
                s2 := fun h0 => φ.s2 (by simpa using h0),
                s3 := fun h0 => φ.s3 (by simpa using h0),
                s4 := fun h0 => φ.s4 (by simpa using h0),
                s5 := fun h0 => φ.s5 (by simpa using h0),
                s6 := fun h0 => φ.s6 (by simpa using h0),
                s7 := fun h0 => φ.s7 (by simpa using h0),
                s8 := fun h0 => φ.s8 (by simpa using h0),
                s9 := fun h0 => φ.s9 (by simpa using h0),
                s10 := fun _ => rfl,
                s11 := fun h0 => φ.s11 (by simpa using h0),
                s12 := fun h0 => φ.s12 (by simpa using h0),
                s13 := fun h0 => φ.s13 (by simpa using h0),
                s14 := fun h0 => φ.s14 (by simpa using h0),
                s15 := fun h0 => φ.s15 (by simpa using h0),
                s16 := fun h0 => φ.s16 (by simpa using h0),
                s17 := fun h0 => φ.s17 (by simpa using h0),
                s18 := fun h0 => φ.s18 (by simpa using h0),
                s19 := fun h0 => φ.s19 (by simpa using h0),
                s20 := fun h0 => φ.s20 (by simpa using h0),
                s21 := fun h0 => φ.s21 (by simpa using h0),
                s22 := fun h0 => φ.s22 (by simpa using h0) }, rfl⟩
            refine hG ?_
            clear hK φ hG
            revert hk
            simp only [yielded, Region.wanted]
            go_simp
            first | done | exact fun h => h
          case q11 =>
            rintro L vs w' K ⟨u14, u15, u16, u17, u18, u19, u20, u21, u22, u23, u24, u25, u26, u27, u28, u29, u30, u31, u32, u33, u34, u35, u36, wz, rfl, φ, rfl⟩ hL hpre hcl hK G hG
            simp [Region.binds, closedFrom] at hpre hcl
            have e9 := φ.s9 (by simp [hpre])
            subst e9
            have hk := hK [u14, u15, u16, u17, u18, u19, u20, u21, u22, (undef), u24, (undef), u26, u27, u28, u29, u30, u31, u32, u33, u34, u35, u36] wz ⟨_, _, _, _, _, _, _, _, _, _, _, _, _, _, _, _, _, _, _, _, _, _, _, wz, rfl,
              { b := φ.b,
                s0 := fun h0 => φ.s0 (by simpa using h0),
                s1 := fun h0 => φ.s1 (by simpa using h0),
                s2 := fun h0 => φ.s2 (by simpa using h0),
                s3 := fun h0 => φ.s3 (by simpa using h0),
                s4 := fun h0 => φ.s4 (by simpa using h0),
                s5 := fun h0 => φ.s5 (by simpa using h0),
                s6 := fun h0 => φ.s6 (by simpa using h0),
                s7 := fun h0 => φ.s7 (by simpa using h0),
                s8 := fun h0 => φ.s8 (by simpa using h0),
                s9 := fun h0 => φ.s9 (by simpa using h0),
                s10 := fun h0 => φ.s10 (by simpa using h0),
                s11 := fun _ => rfl,
                s12 := fun h0 => φ.s12 (by simpa using h0),
                s13 := fun h0 => φ.s13 (by simpa using h0),
                s14 := fun h0 => φ.s14 (by simpa using h0),
                s15 := fun h0 => φ.s15 (by simpa using h0),
                s16 := fun h0 => φ.s16 (by simpa using h0),
                s17 := fun h0 => φ.s17 (by simpa using h0),
                s18 := fun h0 => φ.s18 (by simpa using h0),
                s19 := fun h0 => φ.s19 (by simpa using h0),
                s20 := fun h0 => φ.s20 (by simpa using h0),
                s21 := fun h0 => φ.s21 (by simpa using h0),
                s22 := fun h0 => φ.s22 (by simpa using h0) }, rfl⟩
            refine hG ?_
            clear hK φ hG
            revert hk
            simp only [yielded, Region.wanted]
            go_simp
            first | done | exact fun h => h
          case q12 =>
            rintro L vs w' K ⟨u14, u15, u16, u17, u18, u19, u20, u21, u22, u23, u24, u25, u26, u27, u28, u29, u30, u31, u32, u33, u34, u35, u36, wz, rfl, φ, rfl⟩ hL hpre hcl hK G hG
            simp [Region.binds, closedFrom] at hpre hcl
            have e9 := φ.s9 (by simp [hpre])
            subst e9
            have hk := hK [u14, u15, u16, u17, u18, u19, u20, u21, u22, (undef), u24, u25, (undef), u27, u28, u29, u30, u31, u32, u33, u34, u35, u36] wz ⟨_, _, _, _, _, _, _, _, _, _, _, _, _, _, _, _, _, _, _, _, _, _, _, wz, rfl,
              { b := φ.b,
                s0 := fun h0 => φ.s0 (by simpa using h0),
                s1 := fun h0 => φ.s1 (by simpa using h0),
                s2 := fun h0 => φ.s2 (by simpa using h0),
                s3 := fun h0 => φ.s3 (by simpa using h0),
                s4 := fun h0 => φ.s4 (by simpa using h0),
                s5 := fun h0 => φ.s5 (by simpa using h0),
                s6 := fun h0 => φ.s6 (by simpa using h0),
                s7 := fun h0 => φ.s7 (by simpa using h0),
                s8 := fun h0 => φ.s8 (by simpa using h0),
                s9 := fun h0 => φ.s9 (by simpa using h0),
                s10 := fun h0 => φ.s10 (by simpa using h0),
                s11 := fun h0 => φ.s11 (by simpa using h0),
                s12 := fun _ => rfl,
                s13 := fun h0 => φ.s13 (by simpa using h0),
                s14 := fun h0 => φ.s14 (by simpa using h0),
                s15 := fun h0 => φ.s15 (by simpa using h0),
                s16 := fun h0 => φ.s16 (by simpa using h0),
                s17 := fun h0 => φ.s17 (by simpa using h0),
                s18 := fun h0 => φ.s18 (by simpa using h0),
                s19 := fun h0 => φ.s19 (by simpa using h0),
                s20 := fun h0 => φ.s20 (by simpa using h0),
                s21 := fun h0 => φ.s21 (by simpa using h0),
                s22 := fun h0 => φ.s22 (by simpa using h0) }, rfl⟩
            refine hG ?_
            clear hK φ hG
            revert hk
            simp only [yielded, Region.wanted]
            go_simp
            first | done | exact fun h => h
          case q13 =>
            rintro L vs w' K ⟨u14, u15, u16, u17, u18, u19, u20, u21, u22, u23, u24, u25, u26, u27, u28, u29, u30, u31, u32, u33, u34, u35, u36, wz, rfl, φ, rfl⟩ hL hpre hcl hK G hG
            simp [Region.binds, closedFrom] at hpre hcl
            have e9 := φ.s9 (by simp [hpre])
            subst e9
            have hk := hK [u14, u15, u16, u17, u18, u19, u20, u21, u22, (undef), u24, u25, u26, (undef), u28, u29, u30, u31, u32, u33, u34, u35, u36] wz ⟨_, _, _, _, _, _, _, _, _, _, _, _, _, _, _, _, _, _, _, _, _, _, _, wz, rfl,
              { b := φ.b,
                s0 := fun h0 => φ.s0 (by simpa using h0),
                s1 := fun h0 => φ.s1 (by simpa using h0),
                s2 := fun h0 => φ.s2 (by simpa using h0),
                s3 := fun h0 => φ.s3 (by simpa using h0),
                s4 := fun h0 => φ.s4 (by simpa using h0),
                s5 := fun h0 => φ.s5 (by simpa using h0),
                s6 := fun h0 => φ.s6 (by simpa using h0),
                s7 := fun h0 => φ.s7 (by simpa using h0),
                s8 := fun h0 => φ.s8 (by simpa using h0),
                s9 := fun h0 => φ.s9 (by simpa using h0),
                s10 := fun h0 => φ.s10 (by simpa using h0),
                s11 := fun h0 => φ.s11 (by simpa using h0),
                s12 := fun h0 => φ.s12 (by simpa using h0),
                s13 := fun _ => rfl,
                s14 := fun h0 => φ.s14 (by simpa using h0),
                s15 := fun h0 => φ.s15 (by simpa using h0),
                s16 := fun h0 => φ.s16 (by simpa using h0),
                s17 := fun h0 => φ.s17 (by simpa using h0),
                s18 := fun h0 => φ.s18 (by simpa using h0),
                s19 := fun h0 => φ.s19 (by simpa using h0),
                s20 := fun h0 => φ.s20 (by simpa using h0),
                s21 := fun h0 => φ.s21 (by simpa using h0),
                s22 := fun h0 => φ.s22 (by simpa using h0) }, rfl⟩
            refine hG ?_
            clear hK φ hG
            revert hk
            simp only [yielded, Region.wanted]
            go_simp
            first | done | exact fun h => h
          case q14 =>
            rintro L vs w' K ⟨u14, u15, u16, u17, u18, u19, u20, u21, u22, u23, u24, u25, u26, u27, u28, u29, u30, u31, u32, u33, u34, u35, u36, wz, rfl, φ, rfl⟩ hL hpre hcl hK G hG
            simp [Region.binds, closedFrom] at hpre hcl
            have e9 := φ.s9 (by simp [hpre])
            subst e9
            have hk := hK [u14, u15, u16, u17, u18, u19, u20, u21, u22, (undef), u24, u25, u26, u27, (undef), u29, u30, u31, u32, u33, u34, u35, u36] wz ⟨_, _, _, _, _, _, _, _, _, _, _, _, _, _, _, _, _, _, _, _, _, _, _, wz, rfl,
              { b := φ.b,
                s0 := fun h0 => φ.s0 (by simpa using h0),
                s1 := fun h0 => φ.s1 (by simpa using h0),
                s2 := fun h0 => φ.s2 (by simpa using h0),
                s3 := fun h0 => φ.s3 (by simpa using h0),
                s4 := fun h0 => φ.s4 (by simpa using h0),
                s5 := fun h0 => φ.s5 (by simpa using h0),
                s6 := fun h0 => φ.s6 (by simpa using h0),
                s7 := fun h0 => φ.s7 (by simpa using h0),
                s8 := fun h0 => φ.s8 (by simpa using h0),
                s9 := fun h0 => φ.s9 (by simpa using h0),
                s10 := fun h0 => φ.s10 (by simpa using h0),
                s11 := fun h0 => φ.s11 (by simpa using h0),
                s12 := fun h0 => φ.s12 (by simpa using h0),
                s13 := fun h0 => φ.s13 (by simpa using h0),
                s14 := fun _ => rfl,
                s15 := fun h0 => φ.s15 (by simpa using h0),
                s16 := fun h0 => φ.s16 (by simpa using h0),
                s17 := fun h0 => φ.s17 (by simpa using h0),
                s18 := fun h0 => φ.s18 (by simpa using h0),
                s19 := fun h0 => φ.s19 (by simpa using h0),
                s20 := fun h0 => φ.s20 (by simpa using h0),
                s21 := fun h0 => φ.s21 (by simpa using h0),
                s22 := fun h0 => φ.s22 (by simpa using h0) }, rfl⟩
            refine hG ?_
            clear hK φ hG
            revert hk
            simp only [yielded, Region.wanted]
            go_simp
            first | done | exact fun h => h
          case q15 =>
            rintro L vs w' K ⟨u14, u15, u16, u17, u18, u19, u20, u21, u22, u23, u24, u25, u26, u27, u28, u29, u30, u31, u32, u33, u34, u35, u36, wz, rfl, φ, rfl⟩ hL hpre hcl hK G hG
            simp [Region.binds, closedFrom] at hpre hcl
            have e9 := φ.s9 (by simp [hpre])
            subst e9
            have hk := hK [u14, u15, u16, u17, u18, u19, u20, u21, u22, (undef), u24, u25, u26, u27, u28, (undef), u30, u31, u32, u33, u34, u35, u36] wz ⟨_, _, _, _, _, _, _, _, _, _, _, _, _, _, _, _, _, _, _, _, _, _, _, wz, rfl,
              { b := φ.b,
                s0 := fun h0 => φ.s0 (by simpa using h0),
                s1 := fun h0 => φ.s1 (by simpa using h0),
                s2 := fun h0 => φ.s2 (by simpa using h0),
                s3 := fun h0 => φ.s3 (by simpa using h0),
                s4 := fun h0 => φ.s4 (by simpa using h0),
                s5 := fun h0 => φ.s5 (by simpa using h0),
                s6 := fun h0 => φ.s6 (by simpa using h0),
                s7 := fun h0 => φ.s7 (by simpa using h0),
                s8 := fun h0 => φ.s8 (by simpa using h0),
                s9 := fun h0 => φ.s9 (by simpa using h0),
                s10 := fun h0 => φ.s10 (by simpa using h0),
                s11 := fun h0 => φ.s11 (by simpa using h0),
                s12 := fun h0 => φ.s12 (by simpa using h0),
                s13 := fun h0 => φ.s13 (by simpa using h0),
                s14 := fun h0 => φ.s14 (by simpa using h0),
                s15 := fun _ => rfl,
                s16 := fun h0 => φ.s16 (by simpa using h0),
                s17 := fun h0 => φ.s17 (by simpa using h0),
                s18 := fun h0 => φ.s18 (by simpa using h0),
                s19 := fun h0 => φ.s19 (by simpa using h0),
                s20 := fun h0 => φ.s20 (by simpa using h0),
                s21 := fun h0 => φ.s21 (by simpa using h0),
                s22 := fun h0 => φ.s22 (by simpa using h0) }, rfl⟩
            refine hG ?_
            clear hK φ hG
            revert hk
            simp only [yielded, Region.wanted]
            go_simp
            first | done | exact fun h => h
          case q16 =>
            rintro L vs w' K ⟨u14, u15, u16, u17, u18, u19, u20, u21, u22, u23, u24, u25, u26, u27, u28, u29, u30, u31, u32, u33, u34, u35, u36, wz, rfl, φ, rfl⟩ hL hpre hcl hK G hG
            simp [Region.binds, closedFrom] at hpre hcl
            have e9 := φ.s9 (by simp [hpre])
            subst e9
            have hk := hK [u14, u15, u16, u17, u18, u19, u20, u21, u22, (undef), u24, u25, u26, u27, u28, u29, (undef), u31, u32, u33, u34, u35, u36] wz ⟨_, _, _, _, _, _, _, _, _, _, _, _, _, _, _, _, _, _, _, _, _, _, _, wz, rfl,
              { b := φ.b,
                s0 := fun h0 => φ.s0 (by simpa using h0),
                s1 := fun h0 => φ.s1 (by simpa using h0),
                s2 := fun h0 => φ.s2 (by simpa using h0),
                s3 := fun h0 => φ.s3 (by simpa using h0),
                s4 := fun h0 => φ.s4 (by simpa using h0),
                s5 := fun h0 => φ.s5 (by simpa using h0),
                s6 := fun h0 => φ.s6 (by simpa using h0),
                s7 := fun h0 => φ.s7 (by simpa using h0),
                s8 := fun h0 => φ.s8 (by simpa using h0),
                s9 := fun h0 => φ.s9 (by simpa using h0),
                s10 := fun h0 => φ.s10 (by simpa using h0),
                s11 := fun h0 => φ.s11 (by simpa using h0),
                s12 := fun h0 => φ.s12 (by simpa using h0),
                s13 := fun h0 => φ.s13 (by simpa using h0),
                s14 := fun h0 => φ.s14 (by simpa using h0),
                s15 := fun h0 => φ.s15 (by simpa using h0),
                s16 := fun _ => rfl,
                s17 := fun h0 => φ.s17 (by simpa using h0),
                s18 := fun h0 => φ.s18 (by simpa using h0),
                s19 := fun h0 => φ.s19 (by simpa using h0),
                s20 := fun h0 => φ.s20 (by simpa using h0),
                s21 := fun h0 => φ.s21 (by simpa using h0),
                s22 := fun h0 => φ.s22 (by simpa using h0) }, rfl⟩
            refine hG ?_
            clear hK φ hG
            revert hk
            simp only [yielded, Region.wanted]
            go_simp
            first | done | exact fun h => h
          case q17 =>
            rintro L vs w' K ⟨u14, u15, u16, u17, u18, u19, u20, u21, u22, u23, u24, u25, u26, u27, u28, u29, u30, u31, u32, u33, u34, u35, u36, wz, rfl, φ, rfl⟩ hL hpre hcl hK G hG
            simp [Region.binds, closedFrom] at hpre hcl
            have e9 := φ.s9 (by simp [hpre])
            subst e9
            have hk := hK [u14, u15, u16, u17, u18, u19, u20, u21, u22, (undef), u24, u25, u26, u27, u28, u29, u30, (undef), u32, u33, u34, u35, u36] wz ⟨_, _, _, _, _, _, _, _, _, _, _, _, _, _, _, _, _, _, _, _, _, _, _, wz, rfl,
              { b := φ.b,
                s0 := fun h0 => φ.s0 (by simpa using h0),
                s1 := fun h0 => φ.s1 (by simpa using h0),
                s2 := fun h0 => φ.s2 (by simpa using h0),
                s3 := fun h0 => φ.s3 (by simpa using h0),
                s4 := fun h0 => φ.s4 (by simpa using h0),
                s5 := fun h0 => φ.s5 (by simpa using h0),
                s6 := fun h0 => φ.s6 (by simpa using h0),
                s7 := fun h0 => φ.s7 (by simpa using h0),
                s8 := fun h0 => φ.s8 (by simpa using h0),
                s9 := fun h0 => φ.s9 (by simpa using h0),
                s10 := fun h0 => φ.s10 (by simpa using h0),
                s11 := fun h0 => φ.s11 (by simpa using h0),
                s12 := fun h0 => φ.s12 (by simpa using h0),
                s13 := fun h0 => φ.s13 (by simpa using h0),
                s14 := fun h0 => φ.s14 (by simpa using h0),
                s15 := fun h0 => φ.s15 (by simpa using h0),
                s16 := fun h0 => φ.s16 (by simpa using h0),
                s17 := fun _ => rfl,
                s18 := fun h0 => φ.s18 (by simpa using h0),
                s19 := fun h0 => φ.s19 (by simpa using h0),
                s20 := fun h0 => φ.s20 (by simpa using h0),
                s21 := fun h0 => φ.s21 (by simpa using h0),
                s22 := fun h0 => φ.s22 (by simpa using h0) }, rfl⟩
            refine hG ?_
            clear hK φ hG
            revert hk
            simp only [yielded, Region.wanted]
            go_simp
            first | done | exact fun h => h
          case q18 =>
            rintro L vs w' K ⟨u14, u15, u16, u17, u18, u19, u20, u21, u22, u23, u24, u25, u26, u27, u28, u29, u30, u31, u32, u33, u34, u35, u36, wz, rfl, φ, rfl⟩ hL hpre hcl hK G hG
            simp [Region.binds, closedFrom] at hpre hcl
            have e9 := φ.s9 (by simp [hpre])
            subst e9
            have hk := hK [u14, u15, u16, u17, u18, u19, u20, u21, u22, (undef), u24, u25, u26, u27, u28, u29, u30, u31, (undef), u33, u34, u35, u36] wz ⟨_, _, _, _, _, _, _, _, _, _, _, _, _, _, _, _, _, _, _, _, _, _, _, wz, rfl,
              { b := φ.b,
                s0 := fun h0 => φ.s0 (by simpa using h0),
                s1 := fun h0 => φ.s1 (by simpa using h0),
                s2 := fun h0 => φ.s2 (by simpa using h0),
                s3 := fun h0 => φ.s3 (by simpa using h0),
                s4 := fun h0 => φ.s4 (by simpa using h0),
                s5 := fun h0 => φ.s5 (by simpa using h0),
                s6 := fun h0 => φ.s6 (by simpa using h0),
                s7 := fun h0 => φ.s7 (by simpa using h0),
                s8 := fun h0 => φ.s8 (by simpa using h0),
                s9 := fun h0 => φ.s9 (by simpa using h0),
                s10 := fun h0 => φ.s10 (by simpa using h0),
                s11 := fun h0 => φ.s11 (by simpa using h0),
                s12 := fun h0 => φ.s12 (by simpa using h0),
                s13 := fun h0 => φ.s13 (by simpa using h0),
                s14 := fun h0 => φ.s14 (by simpa using h0),
                s15 := fun h0 => φ.s15 (by simpa using h0),
                s16 := fun h0 => φ.s16 (by simpa using h0),
                s17 := fun h0 => φ.s17 (by simpa using h0),
                s18 := fun _ => rfl,
                s19 := fun h0 => φ.s19 (by simpa using h0),
                s20 := fun h0 => φ.s20 (by simpa using h0),
                s21 := fun h0 => φ.s21 (by simpa using h0),
                s22 := fun h0 => φ.s22 (by simpa using h0) }, rfl⟩
            refine hG ?_
            clear hK φ hG
            revert hk
            simp only [yielded, Region.wanted]
            go_simp
            first | done | exact fun h => h
          case q19 =>
            rintro L vs w' K ⟨u14, u15, u16, u17, u18, u19, u20, u21, u22, u23, u24, u25, u26, u27, u28, u29, u30, u31, u32, u33, u34, u35, u36, wz, rfl, φ, rfl⟩ hL hpre hcl hK G hG
            simp [Region.binds, closedFrom] at hpre hcl
            have e9 := φ.s9 (by simp [hpre])
            subst e9
            have hk := hK [u14, u15, u16, u17, u18, u19, u20, u21, u22, (undef), u24, u25, u26, u27, u28, u29, u30, u31, u32, (undef), u34, u35, u36] wz ⟨_, _, _, _, _, _, _, _, _, _, _, _, _, _, _, _, _, _, _, _, _, _, _, wz, rfl,
              { b := φ.b,
                s0 := fun h0 => φ.s0 (by simpa using h0),
                s1 := fun h0 => φ.s1 (by simpa using h0),
                s2 := fun h0 => φ.s2 (by simpa using h0),
                s3 := fun h0 => φ.s3 (by simpa using h0),
                s4 := fun h0 => φ.s4 (by simpa using h0),
                s5 := fun h0 => φ.s5 (by simpa using h0),
                s6 := fun h0 => φ.s6 (by simpa using h0),
                s7 := fun h0 => φ.s7 (by simpa using h0),
                s8 := fun h0 => φ.s8 (by simpa using h0),
                s9 := fun h0 => φ.s9 (by simpa using h0),
                s10 := fun h0 => φ.s10 (by simpa using h0),
                s11 := fun h0 => φ.s11 (by simpa using h0),
                s12 := fun h0 => φ.s12 (by simpa using h0),
                s13 := fun h0 => φ.s13 (by simpa using h0),
                s14 := fun h0 => φ.s14 (by simpa using h0),
                s15 := fun h0 => φ.s15 (by simpa using h0),
                s16 := fun h0 => φ.s16 (by simpa using h0),
                s17 := fun h0 => φ.s17 (by simpa using h0),
                s18 := fun h0 => φ.s18 (by simpa using h0),
                s19 := fun _ => rfl,
                s20 := fun h0 => φ.s20 (by simpa using h0),
                s21 := fun h0 => φ.s21 (by simpa using h0),
                s22 := fun h0 => φ.s22 (by simpa using h0) }, rfl⟩
            refine hG ?_
            clear hK φ hG
            revert hk
            simp only [yielded, Region.wanted]
            go_simp
            first | done | exact fun h => h
          case q20 =>
            rintro L vs w' K ⟨u14, u15, u16, u17, u18, u19, u20, u21, u22, u23, u24, u25, u26, u27, u28, u29, u30, u31, u32, u33, u34, u35, u36, wz, rfl, φ, rfl⟩ hL hpre hcl hK G hG
            simp [Region.binds, closedFrom] at hpre hcl
            have e9 := φ.s9 (by simp [hpre])
            subst e9
            have hk := hK [u14, u15, u16, u17, u18, u19, u20, u21, u22, (undef), u24, u25, u26, u27, u28, u29, u30, u31, u32, u33, (undef), u35, u36] wz ⟨_, _, _, _, _, _, _, _, _, _, _, _, _, _, _, _, _, _, _, _, _, _, _, wz, rfl,
              { b := φ.b,
                s0 := fun h0 => φ.s0 (by simpa using h0),
                s1 := fun h0 => φ.s1 (by simpa using h0),
                s2 := fun h0 => φ.s2 (by simpa using h0),
                s3 := fun h0 => φ.s3 (by simpa using h0),
                s4 := fun h0 => φ.s4 (by simpa using h0),
                s5 := fun h0 => φ.s5 (by simpa using h0),
                s6 := fun h0 => φ.s6 (by simpa using h0),
                s7 := fun h0 => φ.s7 (by simpa using h0),
                s8 := fun h0 => φ.s8 (by simpa using h0),
                s9 := fun h0 => φ.s9 (by simpa using h0),
                s10 := fun h0 => φ.s10 (by simpa using h0),
                s11 := fun h0 => φ.s11 (by simpa using h0),
                s12 := fun h0 => φ.s12 (by simpa using h0),
                s13 := fun h0 => φ.s13 (by simpa using h0),
                s14 := fun h0 => φ.s14 (by simpa using h0),
                s15 := fun h0 => φ.s15 (by simpa using h0),
                s16 := fun h0 => φ.s16 (by simpa using h0),
                s17 := fun h0 => φ.s17 (by simpa using h0),
                s18 := fun h0 => φ.s18 (by simpa using h0),
                s19 := fun h0 => φ.s19 (by simpa using h0),
                s20 := fun _ => rfl,
                s21 := fun h0 => φ.s21 (by simpa using h0),
                s22 := fun h0 => φ.s22 (by simpa using h0) }, rfl⟩
            refine hG ?_
            clear hK φ hG
            revert hk
            simp only [yielded, Region.wanted]
            go_simp
            first | done | exact fun h => h
          case q21 =>
            rintro L vs w' K ⟨u14, u15, u16, u17, u18, u19, u20, u21, u22, u23, u24, u25, u26, u27, u28, u29, u30, u31, u32, u33, u34, u35, u36, wz, rfl, φ, rfl⟩ hL hpre hcl hK G hG
            simp [Region.binds, closedFrom] at hpre hcl
            have e6 := φ.s6 (by simp [hpre])
            subst e6
            have hk := hK [u14, u15, u16, u17, u18, u19, (.bool true), u21, u22, u23, u24, u25, u26, u27, u28, u29, u30, u31, u32, u33, u34, (undef), u36] wz ⟨_, _, _, _, _, _, _, _, _, _, _, _, _, _, _, _, _, _, _, _, _, _, _, wz, rfl,
              { b := φ.b,
                s0 := fun h0 => φ.s0 (by simpa using h0),
                s1 := fun h0 => φ.s1 (by simpa using h0),
                s2 := fun h0 => φ.s2 (by simpa using h0),
                s3 := fun h0 => φ.s3 (by simpa using h0),
                s4 := fun h0 => φ.s4 (by simpa using h0),
                s5 := fun h0 => φ.s5 (by simpa using h0),
                s6 := fun h0 => φ.s6 (by simpa using h0),
                s7 := fun h0 => φ.s7 (by simpa using h0),
                s8 := fun h0 => φ.s8 (by simpa using h0),
                s9 := fun h0 => φ.s9 (by simpa using h0),
                s10 := fun h0 => φ.s10 (by simpa using h0),
                s11 := fun h0 => φ.s11 (by simpa using h0),
                s12 := fun h0 => φ.s12 (by simpa using h0),
                s13 := fun h0 => φ.s13 (by simpa using h0),
                s14 := fun h0 => φ.s14 (by simpa using h0),
                s15 := fun h0 => φ.s15 (by simpa using h0),
                s16 := fun h0 => φ.s16 (by simpa using h0),
                s17 := fun h0 => φ.s17 (by simpa using h0),
                s18 := fun h0 => φ.s18 (by simpa using h0),
                s19 := fun h0 => φ.s19 (by simpa using h0),
                s20 := fun h0 => φ.s20 (by simpa using h0),
                s21 := fun _ => rfl,
                s22 := fun h0 => φ.s22 (by simpa using h0) }, rfl⟩
            refine hG ?_
            clear hK φ hG
            revert hk
            simp only [yielded, Region.wanted]
            go_simp
            first | done | exact fun h => h
          case q22 =>
            rintro L vs w' K ⟨u14, u15, u16, u17, u18, u19, u20, u21, u22, u23, u24, u25, u26, u27, u28, u29, u30, u31, u32, u33, u34, u35, u36, wz, rfl, φ, rfl⟩ hL hpre hcl hK G hG
            simp [Region.binds, closedFrom] at hpre hcl
            have e6 := φ.s6 (by simp [hpre])
            subst e6
            have e21 := φ.s21 (by simp [hpre])
            subst e21
            have hk := hK [u14, u15, u16, u17, u18, u19, (.bool true), u21, u22, u23, u24, u25, u26, u27, u28, u29, u30, u31, u32, u33, u34, (undef), (.bool true)] wz ⟨_, _, _, _, _, _, _, _, _, _, _, _, _, _, _, _, _, _, _, _, _, _, _, wz, rfl,
              { b := φ.b,
                s0 := fun h0 => φ.s0 (by simpa using h0),
                s1 := fun h0 => φ.s1 (by simpa using h0),
                s2 := fun h0 => φ.s2 (by simpa using h0),
                s3 := fun h0 => φ.s3 (by simpa using h0),
                s4 := fun h0 => φ.s4 (by simpa using h0),
                s5 := fun h0 => φ.s5 (by simpa using h0),
                s6 := fun h0 => φ.s6 (by simpa using h0),
                s7 := fun h0 => φ.s7 (by simpa using h0),
                s8 := fun h0 => φ.s8 (by simpa using h0),
                s9 := fun h0 => φ.s9 (by simpa using h0),
                s10 := fun h0 => φ.s10 (by simpa using h0),
                s11 := fun h0 => φ.s11 (by simpa using h0),
                s12 := fun h0 => φ.s12 (by simpa using h0),
                s13 := fun h0 => φ.s13 (by simpa using h0),
                s14 := fun h0 => φ.s14 (by simpa using h0),
                s15 := fun h0 => φ.s15 (by simpa using h0),
                s16 := fun h0 => φ.s16 (by simpa using h0),
                s17 := fun h0 => φ.s17 (by simpa using h0),
                s18 := fun h0 => φ.s18 (by simpa using h0),
                s19 := fun h0 => φ.s19 (by simpa using h0),
                s20 := fun h0 => φ.s20 (by simpa using h0),
                s21 := fun h0 => φ.s21 (by simpa using h0),
                s22 := fun _ => rfl }, rfl⟩
            refine hG ?_
            clear hK φ hG
            revert hk
            go_simp
            first | done | exact fun h => h
          case hend =>
            rintro vs w' ⟨u14, u15, u16, u17, u18, u19, u20, u21, u22, u23, u24, u25, u26, u27, u28, u29, u30, u31, u32, u33, u34, u35, u36, wz, rfl, φ, rfl⟩ G hG
            obtain rfl := φ.s22 rfl
            have b9 := φ.b
            clear φ
            refine hG ?_
            clear hG
            have b2 := b.trans (b9.mono b.size)
            clear q0 q1 b9 b cM
            go_simp
            go_wp2_with fail
            go_ret
            rw [HF.out]
            exact ⟨rfl, b2⟩
      · obtain rfl : kk = n := by omega
        have hltz : ¬ (kk : Int) < (kk : Int) := by omega
        have hfin : rightD l = true := by
          rw [right_iff, HN.out]
          exact ⟨h64, AA.out⟩
        have HF := Lib.hid hfin
        clear hfin hsl
        go_wp2_with fail
        go_ret
        rw [HF.out]
        exact ⟨by simp, b⟩
  · have z64 : (64 : Int) < (n : Int) := by omega
    have hF : rightD l = false := by
      simp only [rightD, decide_eq_false_iff_not, HN.out]
      exact fun h => h64 h.1
    rw [hF]
    clear hF HS HN
    go_enter Try.func18, Try.ntmps18
    go_wp2_with fail
    go_ret
    exact ⟨rfl, Below.refl _ _⟩
end Go.Proofs.Ytimhdkgllgdamaa
