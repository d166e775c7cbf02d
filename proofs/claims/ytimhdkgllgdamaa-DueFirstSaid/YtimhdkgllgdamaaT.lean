/- The walk of the reference's put. -/
import Derived.Test.YtimhdkgllgdamaaS
namespace Go.Proofs.Ytimhdkgllgdamaa
open Go.RowKit Go.Lib D
set_option linter.unusedVariables false
attribute [local go_sem] Act.puts
structure PtYes (w0 : World) (DX bb n c a k1 : Nat) (d y : Du) (L : Nat → Bool) (u9 u10 u11 u12 u13 u14 u15 u16 u17 u18 u19 : Value) (wz : World) : Prop where
  b : Below w0.heap.size w0 wz
  s0 : L 0 = true → u9 = .int .i64 (a : Int)
  s1 : L 1 = true → u10 = .bool true
  s2 : L 2 = true → u11 = .bool true
  s3 : L 3 = true → u12 = .agg #[.int .i64 d.when_, .int .i64 d.which]
  s4 : L 4 = true → u13 = .slice (some ⟨bb, 0, none⟩) n c
  s5 : L 5 = true → u14 = .int .i64 (a : Int)
  s6 : L 6 = true → u15 = .int .i64 (k1 : Int)
  s7 : L 7 = true → u16 = .pointer (some ⟨bb, k1 * 2, none⟩)
  s8 : L 8 = true → u17 = .agg #[.int .i64 y.when_, .int .i64 y.which]
  s9 : L 9 = true → u18 = .bool true
  s10 : L 10 = true → u19 = .bool true
def PtYesPhi (w0 : World) (DX bb n c a k1 : Nat) (d y : Du) (L : Nat → Bool) (vs : List Value) (w' : World) : Prop :=
  ∃ u9 u10 u11 u12 u13 u14 u15 u16 u17 u18 u19 wz, vs = [u9, u10, u11, u12, u13, u14, u15, u16, u17, u18, u19] ∧ PtYes w0 DX bb n c a k1 d y L u9 u10 u11 u12 u13 u14 u15 u16 u17 u18 u19 wz ∧ wz = w'
structure PtNo (w0 : World) (DX bb n c a k1 : Nat) (d y : Du) (L : Nat → Bool) (u9 u10 u11 u12 u13 u14 u15 u16 u17 u18 u19 : Value) (wz : World) : Prop where
  b : Below w0.heap.size w0 wz
  s0 : L 0 = true → u9 = .int .i64 (a : Int)
  s1 : L 1 = true → u10 = .bool true
  s2 : L 2 = true → u11 = .bool true
  s3 : L 3 = true → u12 = .agg #[.int .i64 d.when_, .int .i64 d.which]
  s4 : L 4 = true → u13 = .slice (some ⟨bb, 0, none⟩) n c
  s5 : L 5 = true → u14 = .int .i64 (a : Int)
  s6 : L 6 = true → u15 = .int .i64 (k1 : Int)
  s7 : L 7 = true → u16 = .pointer (some ⟨bb, k1 * 2, none⟩)
  s8 : L 8 = true → u17 = .agg #[.int .i64 y.when_, .int .i64 y.which]
  s9 : L 9 = true → u18 = .bool false
  s10 : L 10 = true → u19 = .bool false
def PtNoPhi (w0 : World) (DX bb n c a k1 : Nat) (d y : Du) (L : Nat → Bool) (vs : List Value) (w' : World) : Prop :=
  ∃ u9 u10 u11 u12 u13 u14 u15 u16 u17 u18 u19 wz, vs = [u9, u10, u11, u12, u13, u14, u15, u16, u17, u18, u19] ∧ PtNo w0 DX bb n c a k1 d y L u9 u10 u11 u12 u13 u14 u15 u16 u17 u18 u19 wz ∧ wz = w'
structure PtZero (w0 : World) (DX : Nat) (L : Nat → Bool) (u9 u10 u11 u12 u13 u14 u15 u16 u17 u18 u19 : Value) (wz : World) : Prop where
  b : Below w0.heap.size w0 wz
  s0 : L 0 = true → u9 = .int .i64 0
  s1 : L 1 = true → u10 = .bool false
  s2 : L 2 = true → u11 = .bool false
  s3 : L 3 = true → u12 = undef
  s4 : L 4 = true → u13 = undef
  s5 : L 5 = true → u14 = undef
  s6 : L 6 = true → u15 = undef
  s7 : L 7 = true → u16 = undef
  s8 : L 8 = true → u17 = undef
  s9 : L 9 = true → u18 = undef
  s10 : L 10 = true → u19 = .bool false
def PtZeroPhi (w0 : World) (DX : Nat) (L : Nat → Bool) (vs : List Value) (w' : World) : Prop :=
  ∃ u9 u10 u11 u12 u13 u14 u15 u16 u17 u18 u19 wz, vs = [u9, u10, u11, u12, u13, u14, u15, u16, u17, u18, u19] ∧ PtZero w0 DX L u9 u10 u11 u12 u13 u14 u15 u16 u17 u18 u19 wz ∧ wz = w'

set_option maxHeartbeats 16000000 in
set_option maxRecDepth 100000 in
theorem put_any (A : Option Addr) (c n base : Nat) (l : List Du) (d : Du) (w : World) (own : w.ownsRow base 30 2 (.slice A n c) n (l.flatMap Du.enc)) (hn : l.length = n) (hn1 : n ≤ 1000000) :
    Calls Try.prog 32 #[.slice A n c, .agg #[.int .i64 d.when_, .int .i64 d.which]] w fun e w' => ∃ v', e = .returned v' ∧ w'.ownsRow w.heap.size 30 2 v' (n + 1) ((putD l d).flatMap Du.enc) ∧ Below w.heap.size w w' := by
  obtain ⟨i0, hi, hz0, hz1, hz2⟩ := info_parts info30
  have b0 : Below w.heap.size w (w.alloc (.cells #[.int .i64 d.when_, .int .i64 d.which] 30)) := (Below.refl _ _).alloc (Nat.le_refl _) _
  have d00 : (w.alloc (.cells #[.int .i64 d.when_, .int .i64 d.which] 30)).cell? ⟨w.heap.size, 0, none⟩ = some (.int .i64 d.when_) := World.cell?_alloc_new (w := w) _ _ _
  have d10 : (w.alloc (.cells #[.int .i64 d.when_, .int .i64 d.which] 30)).cell? ⟨w.heap.size, 1, none⟩ = some (.int .i64 d.which) := World.cell?_alloc_new (w := w) _ _ _
  have ltd0 : w.heap.size < (w.alloc (.cells #[.int .i64 d.when_, .int .i64 d.which] 30)).heap.size := by simp
  have HS := Lib.hid ((Sl.of_own Du.enc_len own hn).below b0)
  have HN := Lib.hid hn
  obtain ⟨hnc, _⟩ := own_cap own
  have hform := own_form own
  have hput : ∀ a, putAt l d a = a → putAt l d a = putAt l d n → (l.take a ++ [d] ++ l.drop a) = putD l d := fun a h1 h2 => by
    unfold putD
    rw [hn, ← h2, h1]; simp
  have HPUT := Lib.hid hput
  have hle := putAt_le l d
  clear hn hput own
  generalize hW0 : w.alloc (.cells #[.int .i64 d.when_, .int .i64 d.which] 30) = W0 at *
  have HW0 := Lib.hid hW0
  clear hW0
  rcases hform with ⟨rfl, rfl, rfl⟩ | ⟨bb, rfl⟩
  · clear hnc
    go_enter Try.func32, Try.ntmps32
    go_wp2_with fail
    rw [HW0.out]
    generalize hDX : w.heap.size = DX at d00 d10 ltd0 ⊢
    have HDX := Lib.hid hDX
    clear hDX
    go_loopg [5] 0 (fun gg s5 wr => s5 = .int .i64 ((0 : Nat) : Int) ∧ wr = W0)
    case atStart => exact ⟨rfl, rfl⟩
    case round =>
      obtain ⟨rfl, rfl⟩ := hrel
      have B1 : Below wr.heap.size wr wr := Below.refl _ _
      have d0 := d00
      have d1 := d10
      have ltd := ltd0
      have HA := Lib.hid (show putAt l d 0 = 0 from rfl)
      have HP := Lib.hid (show putAt l d 0 = putAt l d 0 from rfl)
      go_wp2_with fail
      have d0 : wr.drew.cell? ⟨DX, 0, none⟩ = some (.int .i64 d.when_) := d0
      have d1 : wr.drew.cell? ⟨DX, 1, none⟩ = some (.int .i64 d.which) := d1
      have ltd : DX < wr.drew.heap.size := ltd
      replace B1 := B1.drew
      refine wp_region_rg (by kernel_rfl) (by kernel_rfl) [9, 10, 11, 12, 13, 14, 15, 16, 17, 18, 19] (PtZeroPhi wr.drew DX) ?h0 ⟨?q0, ?q1, ?q2, ?q3, ?q4, ?q5, ?q6, ?q7, ?q8, ?q9, ?q10, trivial⟩ ?hend
      case h0 => exact ⟨_, _, _, _, _, _, _, _, _, _, _, _, rfl, ⟨Below.refl _ _, (fun h => by cases h), (fun h => by cases h), (fun h => by cases h), (fun h => by cases h), (fun h => by cases h), (fun h => by cases h), (fun h => by cases h), (fun h => by cases h), (fun h => by cases h), (fun h => by cases h), (fun h => by cases h)⟩, rfl⟩
      case q0 =>
        rintro L vs w' K ⟨u9, u10, u11, u12, u13, u14, u15, u16, u17, u18, u19, wz, rfl, φ, rfl⟩ hL hpre hcl hK G hG
        simp [Region.binds, closedFrom] at hpre hcl
        have hk := hK [(.int .i64 0), u10, u11, u12, u13, u14, u15, u16, u17, u18, u19] wz ⟨_, _, _, _, _, _, _, _, _, _, _, wz, rfl,
          { b := φ.b,
            s0 := fun _ => rfl,
            s1 := fun h0 => φ.s1 (by simpa using h0),
            s2 := fun h0 => φ.s2 (by simpa using h0),
            s3 := fun h0 => φ.s3 (by simpa using h0),
            s4 := fun h0 => φ.s4 (by simpa using h0),
            s5 := fun h0 => φ.s5 (by simpa using h0),
            s6 := fun h0 => φ.s6 (by simpa using h0),
            s7 := fun h0 => φ.s7 (by simpa using h0),
            s8 := fun h0 => φ.s8 (by simpa using h0),
            s9 := fun h0 => φ.s9 (by simpa using h0),
            s10 := fun h0 => φ.s10 (by simpa using h0) }, rfl⟩
        refine hG ?_
        clear hK φ hG
        revert hk
        go_simp
        first | done | exact fun h => h
      case q1 =>
        rintro L vs w' K ⟨u9, u10, u11, u12, u13, u14, u15, u16, u17, u18, u19, wz, rfl, φ, rfl⟩ hL hpre hcl hK G hG
        simp [Region.binds, closedFrom] at hpre hcl
        have e0 := φ.s0 (by simp [hpre])
        subst e0
        have hk := hK [(.int .i64 0), (.bool false), u11, u12, u13, u14, u15, u16, u17, u18, u19] wz ⟨_, _, _, _, _, _, _, _, _, _, _, wz, rfl,
          { b := φ.b,
            s0 := fun h0 => φ.s0 (by simpa using h0),
            s1 := fun _ => rfl,
            s2 := fun h0 => φ.s2 (by simpa using h0),
            s3 := fun h0 => φ.s3 (by simpa using h0),
            s4 := fun h0 => φ.s4 (by simpa using h0),
            s5 := fun h0 => φ.s5 (by simpa using h0),
            s6 := fun h0 => φ.s6 (by simpa using h0),
            s7 := fun h0 => φ.s7 (by simpa using h0),
            s8 := fun h0 => φ.s8 (by simpa using h0),
            s9 := fun h0 => φ.s9 (by simpa using h0),
            s10 := fun h0 => φ.s10 (by simpa using h0) }, rfl⟩
        refine hG ?_
        clear hK φ hG
        revert hk
        go_simp
        first | done | exact fun h => h
      case q2 =>
        rintro L vs w' K ⟨u9, u10, u11, u12, u13, u14, u15, u16, u17, u18, u19, wz, rfl, φ, rfl⟩ hL hpre hcl hK G hG
        simp [Region.binds, closedFrom] at hpre hcl
        have e1 := φ.s1 (by simp [hpre])
        subst e1
        have hk := hK [u9, (.bool false), (.bool false), u12, u13, u14, u15, u16, u17, u18, u19] wz ⟨_, _, _, _, _, _, _, _, _, _, _, wz, rfl,
          { b := φ.b,
            s0 := fun h0 => φ.s0 (by simpa using h0),
            s1 := fun h0 => φ.s1 (by simpa using h0),
            s2 := fun _ => rfl,
            s3 := fun h0 => φ.s3 (by simpa using h0),
            s4 := fun h0 => φ.s4 (by simpa using h0),
            s5 := fun h0 => φ.s5 (by simpa using h0),
            s6 := fun h0 => φ.s6 (by simpa using h0),
            s7 := fun h0 => φ.s7 (by simpa using h0),
            s8 := fun h0 => φ.s8 (by simpa using h0),
            s9 := fun h0 => φ.s9 (by simpa using h0),
            s10 := fun h0 => φ.s10 (by simpa using h0) }, rfl⟩
        refine hG ?_
        clear hK φ hG
        revert hk
        go_simp
        first | done | exact fun h => h
      case q3 =>
        rintro L vs w' K ⟨u9, u10, u11, u12, u13, u14, u15, u16, u17, u18, u19, wz, rfl, φ, rfl⟩ hL hpre hcl hK G hG
        simp [Region.binds, closedFrom] at hpre hcl
        have e2 := φ.s2 (by simp [hpre])
        subst e2
        have hk := hK [u9, u10, (.bool false), (undef), u13, u14, u15, u16, u17, u18, u19] wz ⟨_, _, _, _, _, _, _, _, _, _, _, wz, rfl,
          { b := φ.b,
            s0 := fun h0 => φ.s0 (by simpa using h0),
            s1 := fun h0 => φ.s1 (by simpa using h0),
            s2 := fun h0 => φ.s2 (by simpa using h0),
            s3 := fun _ => rfl,
            s4 := fun h0 => φ.s4 (by simpa using h0),
            s5 := fun h0 => φ.s5 (by simpa using h0),
            s6 := fun h0 => φ.s6 (by simpa using h0),
            s7 := fun h0 => φ.s7 (by simpa using h0),
            s8 := fun h0 => φ.s8 (by simpa using h0),
            s9 := fun h0 => φ.s9 (by simpa using h0),
            s10 := fun h0 => φ.s10 (by simpa using h0) }, rfl⟩
        refine hG ?_
        clear hK φ hG
        revert hk
        simp only [yielded, Region.wanted]
        go_simp
        first | done | exact fun h => h
      case q4 =>
        rintro L vs w' K ⟨u9, u10, u11, u12, u13, u14, u15, u16, u17, u18, u19, wz, rfl, φ, rfl⟩ hL hpre hcl hK G hG
        simp [Region.binds, closedFrom] at hpre hcl
        have e2 := φ.s2 (by simp [hpre])
        subst e2
        have hk := hK [u9, u10, (.bool false), u12, (undef), u14, u15, u16, u17, u18, u19] wz ⟨_, _, _, _, _, _, _, _, _, _, _, wz, rfl,
          { b := φ.b,
            s0 := fun h0 => φ.s0 (by simpa using h0),
            s1 := fun h0 => φ.s1 (by simpa using h0),
            s2 := fun h0 => φ.s2 (by simpa using h0),
            s3 := fun h0 => φ.s3 (by simpa using h0),
            s4 := fun _ => rfl,
            s5 := fun h0 => φ.s5 (by simpa using h0),
            s6 := fun h0 => φ.s6 (by simpa using h0),
            s7 := fun h0 => φ.s7 (by simpa using h0),
            s8 := fun h0 => φ.s8 (by simpa using h0),
            s9 := fun h0 => φ.s9 (by simpa using h0),
            s10 := fun h0 => φ.s10 (by simpa using h0) }, rfl⟩
        refine hG ?_
        clear hK φ hG
        revert hk
        simp only [yielded, Region.wanted]
        go_simp
        first | done | exact fun h => h
      case q5 =>
        rintro L vs w' K ⟨u9, u10, u11, u12, u13, u14, u15, u16, u17, u18, u19, wz, rfl, φ, rfl⟩ hL hpre hcl hK G hG
        simp [Region.binds, closedFrom] at hpre hcl
        have e2 := φ.s2 (by simp [hpre])
        subst e2
        have hk := hK [u9, u10, (.bool false), u12, u13, (undef), u15, u16, u17, u18, u19] wz ⟨_, _, _, _, _, _, _, _, _, _, _, wz, rfl,
          { b := φ.b,
            s0 := fun h0 => φ.s0 (by simpa using h0),
            s1 := fun h0 => φ.s1 (by simpa using h0),
            s2 := fun h0 => φ.s2 (by simpa using h0),
            s3 := fun h0 => φ.s3 (by simpa using h0),
            s4 := fun h0 => φ.s4 (by simpa using h0),
            s5 := fun _ => rfl,
            s6 := fun h0 => φ.s6 (by simpa using h0),
            s7 := fun h0 => φ.s7 (by simpa using h0),
            s8 := fun h0 => φ.s8 (by simpa using h0),
            s9 := fun h0 => φ.s9 (by simpa using h0),
            s10 := fun h0 => φ.s10 (by simpa using h0) }, rfl⟩
        refine hG ?_
        clear hK φ hG
        revert hk
        simp only [yielded, Region.wanted]
        go_simp
        first | done | exact fun h => h
      case q6 =>
        rintro L vs w' K ⟨u9, u10, u11, u12, u13, u14, u15, u16, u17, u18, u19, wz, rfl, φ, rfl⟩ hL hpre hcl hK G hG
        simp [Region.binds, closedFrom] at hpre hcl
        have e2 := φ.s2 (by simp [hpre])
        subst e2
        have hk := hK [u9, u10, (.bool false), u12, u13, u14, (undef), u16, u17, u18, u19] wz ⟨_, _, _, _, _, _, _, _, _, _, _, wz, rfl,
          { b := φ.b,
            s0 := fun h0 => φ.s0 (by simpa using h0),
            s1 := fun h0 => φ.s1 (by simpa using h0),
            s2 := fun h0 => φ.s2 (by simpa using h0),
            s3 := fun h0 => φ.s3 (by simpa using h0),
            s4 := fun h0 => φ.s4 (by simpa using h0),
            s5 := fun h0 => φ.s5 (by simpa using h0),
            s6 := fun _ => rfl,
            s7 := fun h0 => φ.s7 (by simpa using h0),
            s8 := fun h0 => φ.s8 (by simpa using h0),
            s9 := fun h0 => φ.s9 (by simpa using h0),
            s10 := fun h0 => φ.s10 (by simpa using h0) }, rfl⟩
        refine hG ?_
        clear hK φ hG
        revert hk
        simp only [yielded, Region.wanted]
        go_simp
        first | done | exact fun h => h
      case q7 =>
        rintro L vs w' K ⟨u9, u10, u11, u12, u13, u14, u15, u16, u17, u18, u19, wz, rfl, φ, rfl⟩ hL hpre hcl hK G hG
        simp [Region.binds, closedFrom] at hpre hcl
        have e2 := φ.s2 (by simp [hpre])
        subst e2
        have hk := hK [u9, u10, (.bool false), u12, u13, u14, u15, (undef), u17, u18, u19] wz ⟨_, _, _, _, _, _, _, _, _, _, _, wz, rfl,
          { b := φ.b,
            s0 := fun h0 => φ.s0 (by simpa using h0),
            s1 := fun h0 => φ.s1 (by simpa using h0),
            s2 := fun h0 => φ.s2 (by simpa using h0),
            s3 := fun h0 => φ.s3 (by simpa using h0),
            s4 := fun h0 => φ.s4 (by simpa using h0),
            s5 := fun h0 => φ.s5 (by simpa using h0),
            s6 := fun h0 => φ.s6 (by simpa using h0),
            s7 := fun _ => rfl,
            s8 := fun h0 => φ.s8 (by simpa using h0),
            s9 := fun h0 => φ.s9 (by simpa using h0),
            s10 := fun h0 => φ.s10 (by simpa using h0) }, rfl⟩
        refine hG ?_
        clear hK φ hG
        revert hk
        simp only [yielded, Region.wanted]
        go_simp
        first | done | exact fun h => h
      case q8 =>
        rintro L vs w' K ⟨u9, u10, u11, u12, u13, u14, u15, u16, u17, u18, u19, wz, rfl, φ, rfl⟩ hL hpre hcl hK G hG
        simp [Region.binds, closedFrom] at hpre hcl
        have e2 := φ.s2 (by simp [hpre])
        subst e2
        have hk := hK [u9, u10, (.bool false), u12, u13, u14, u15, u16, (undef), u18, u19] wz ⟨_, _, _, _, _, _, _, _, _, _, _, wz, rfl,
          { b := φ.b,
            s0 := fun h0 => φ.s0 (by simpa using h0),
            s1 := fun h0 => φ.s1 (by simpa using h0),
            s2 := fun h0 => φ.s2 (by simpa using h0),
            s3 := fun h0 => φ.s3 (by simpa using h0),
            s4 := fun h0 => φ.s4 (by simpa using h0),
            s5 := fun h0 => φ.s5 (by simpa using h0),
            s6 := fun h0 => φ.s6 (by simpa using h0),
            s7 := fun h0 => φ.s7 (by simpa using h0),
            s8 := fun _ => rfl,
            s9 := fun h0 => φ.s9 (by simpa using h0),
            s10 := fun h0 => φ.s10 (by simpa using h0) }, rfl⟩
        refine hG ?_
        clear hK φ hG
        revert hk
        simp only [yielded, Region.wanted]
        go_simp
        first | done | exact fun h => h
      case q9 =>
        rintro L vs w' K ⟨u9, u10, u11, u12, u13, u14, u15, u16, u17, u18, u19, wz, rfl, φ, rfl⟩ hL hpre hcl hK G hG
        simp [Region.binds, closedFrom] at hpre hcl
        have e2 := φ.s2 (by simp [hpre])
        subst e2
        have hk := hK [u9, u10, (.bool false), u12, u13, u14, u15, u16, u17, (undef), u19] wz ⟨_, _, _, _, _, _, _, _, _, _, _, wz, rfl,
          { b := φ.b,
            s0 := fun h0 => φ.s0 (by simpa using h0),
            s1 := fun h0 => φ.s1 (by simpa using h0),
            s2 := fun h0 => φ.s2 (by simpa using h0),
            s3 := fun h0 => φ.s3 (by simpa using h0),
            s4 := fun h0 => φ.s4 (by simpa using h0),
            s5 := fun h0 => φ.s5 (by simpa using h0),
            s6 := fun h0 => φ.s6 (by simpa using h0),
            s7 := fun h0 => φ.s7 (by simpa using h0),
            s8 := fun h0 => φ.s8 (by simpa using h0),
            s9 := fun _ => rfl,
            s10 := fun h0 => φ.s10 (by simpa using h0) }, rfl⟩
        refine hG ?_
        clear hK φ hG
        revert hk
        simp only [yielded, Region.wanted]
        go_simp
        first | done | exact fun h => h
      case q10 =>
        rintro L vs w' K ⟨u9, u10, u11, u12, u13, u14, u15, u16, u17, u18, u19, wz, rfl, φ, rfl⟩ hL hpre hcl hK G hG
        simp [Region.binds, closedFrom] at hpre hcl
        have e2 := φ.s2 (by simp [hpre])
        subst e2
        have hk := hK [u9, u10, (.bool false), u12, u13, u14, u15, u16, u17, u18, (.bool false)] wz ⟨_, _, _, _, _, _, _, _, _, _, _, wz, rfl,
          { b := φ.b,
            s0 := fun h0 => φ.s0 (by simpa using h0),
            s1 := fun h0 => φ.s1 (by simpa using h0),
            s2 := fun h0 => φ.s2 (by simpa using h0),
            s3 := fun h0 => φ.s3 (by simpa using h0),
            s4 := fun h0 => φ.s4 (by simpa using h0),
            s5 := fun h0 => φ.s5 (by simpa using h0),
            s6 := fun h0 => φ.s6 (by simpa using h0),
            s7 := fun h0 => φ.s7 (by simpa using h0),
            s8 := fun h0 => φ.s8 (by simpa using h0),
            s9 := fun h0 => φ.s9 (by simpa using h0),
            s10 := fun _ => rfl }, rfl⟩
        refine hG ?_
        clear hK φ hG
        revert hk
        go_simp
        first | done | exact fun h => h
      case hend =>
        rintro vs w' ⟨u9, u10, u11, u12, u13, u14, u15, u16, u17, u18, u19, wz, rfl, φ, rfl⟩ G hG
        obtain rfl := φ.s10 rfl
        have b9 := φ.b
        clear φ
        refine hG ?_
        clear hG
        replace B1 := B1.trans (b9.mono B1.size)
        have d0 := (b9.cell (p := ⟨DX, 0, none⟩) ltd).trans d0
        have d1 := (b9.cell (p := ⟨DX, 1, none⟩) ltd).trans d1
        have ltd := Nat.lt_of_lt_of_le ltd b9.size
        clear b9
        go_simp
        go_wp2_with (at_builtin; refine wpList_as ?_)
        intro _
        have hbz := b0.trans (B1.mono b0.size)
        refine wpList_append_sl _ rfl _ _ 24 rfl wr.heap.size 30 i0 _ 2 16 Try.underlying24 hi hz0 hz1 hz2 rfl (by decide) _ _ _ rfl (World.ownsRow_made wz #[] 0 B1.size (Nat.zero_le _) (by simp)) Du.enc Du.enc_len Du.enc_one none 0 0 (l.take 0) rfl (by simp) (((HS.out.below B1).below bnew).take 0) (by unfold maxLen; omega) (by omega) (by simp; have := B1.size; omega) ?_
        intro v1 w1 own1 hg1 hat1
        have B2 := below_append (k := 2) (B1.alloc B1.size _) hg1 (by simp; have := B1.size; omega) (World.ownsRow_made wz #[] 0 B1.size (Nat.zero_le _) (by simp)) (Nat.le_refl _)
        rw [Nat.zero_add, List.nil_append] at own1
        have e0 := (B2.cell (p := ⟨DX, 0, none⟩) ltd0).trans d00
        have e1 := (B2.cell (p := ⟨DX, 1, none⟩) ltd0).trans d10
        obtain ⟨A1, c1, rfl⟩ := own_shape own1
        clear hg1 hat1 d0 d1 ltd
        go_wp2_with (at_builtin; refine wpList_as ?_)
        intro _
        refine wpList_append_own_at _ rfl _ _ 24 rfl wr.heap.size 30 i0 _ 2 16 Try.underlying24 hi hz0 hz1 hz2 rfl (by decide) _ _ _ rfl (own1.alloc _) ⟨w1.heap.size, 0, none⟩ 1 1 [.int .i64 d.when_, .int .i64 d.which] rfl rfl (fun j u hj => cell_new_block w1 _ 30 j u hj) (by intro u hu; simp at hu; rcases hu with rfl | rfl <;> rfl) (by unfold maxLen; omega) (by omega) (by simp; have := B2.size; omega) ?_
        intro v2 w2 own2 hg2 hnil2 hat2
        have B3 := below_append (k := 2) (B2.alloc B2.size _) hg2 (by simp; have := B2.size; omega) (own1.alloc _) (Nat.le_refl _)
        obtain ⟨A2, c2, rfl⟩ := own_shape own2
        clear hg2 hat2 hnil2 own1 e0 e1 B2
  
        go_wp2_with (at_builtin; refine wpList_as ?_)
        intro _
        refine wpList_append_sl _ rfl _ _ 24 rfl wr.heap.size 30 i0 _ 2 16 Try.underlying24 hi hz0 hz1 hz2 rfl (by decide) _ _ _ rfl own2 Du.enc Du.enc_len Du.enc_one none 0 0 (l.drop 0) rfl (by rw [List.drop_zero, HN.out]) (by rw [List.drop_zero]; exact HS.out.below B3) (by unfold maxLen; omega) (by omega) B3.size ?_
        intro v3 w3 own3 hg3 hat3
        have B4 := below_append (k := 2) B3 hg3 B3.size own2 (Nat.le_refl _)
        obtain ⟨A3, c3, rfl⟩ := own_shape own3
        clear hg3 hat3 own2 B3
        go_wp2_with fail
        go_ret
        rw [← HDX.out]
        have hlist : (l.take 0).flatMap Du.enc ++ [.int .i64 d.when_, .int .i64 d.which] ++ (l.drop 0).flatMap Du.enc = (putD l d).flatMap Du.enc := by
          rw [← HPUT.out 0 HA.out rfl, List.flatMap_append, List.flatMap_append]; simp [Du.enc]
        rw [hlist] at own3
        exact ⟨_, rfl, own_weaken' own3 b0.size, b0.trans (B4.mono b0.size)⟩
  · go_enter Try.func32, Try.ntmps32
    go_wp2_with fail
    rw [HW0.out]
    generalize hDX : w.heap.size = DX at d00 d10 ltd0 ⊢
    have HDX := Lib.hid hDX
    clear hDX
    go_loopg [5] n (fun gg s5 wr => ∃ a : Nat, a ≤ n ∧ a ≤ gg ∧ s5 = .int .i64 (a : Int) ∧ Aside (Below W0.heap.size W0 wr) ∧ Aside (putAt l d a = putAt l d n))
    case atStart => exact ⟨n, Nat.le_refl _, Nat.le_refl _, rfl, Below.refl _ _, rfl⟩
    case round =>
      obtain ⟨a, han, hg, rfl, HB, HP⟩ := hrel
      have B1 := HB.out
      have d0 := (B1.cell (p := ⟨DX, 0, none⟩) ltd0).trans d00
      have d1 := (B1.cell (p := ⟨DX, 1, none⟩) ltd0).trans d10
      have ltd := Nat.lt_of_lt_of_le ltd0 B1.size
      clear HB
      have hac : (a : Int) ≤ (c : Int) := by omega
      by_cases h0 : a = 0
      · subst h0
        have HA := Lib.hid (show putAt l d 0 = 0 from rfl)
        go_wp2_with fail
        have d0 : wr.drew.cell? ⟨DX, 0, none⟩ = some (.int .i64 d.when_) := d0
        have d1 : wr.drew.cell? ⟨DX, 1, none⟩ = some (.int .i64 d.which) := d1
        have ltd : DX < wr.drew.heap.size := ltd
        replace B1 := B1.drew
        refine wp_region_rg (by kernel_rfl) (by kernel_rfl) [9, 10, 11, 12, 13, 14, 15, 16, 17, 18, 19] (PtZeroPhi wr.drew DX) ?h0 ⟨?q0, ?q1, ?q2, ?q3, ?q4, ?q5, ?q6, ?q7, ?q8, ?q9, ?q10, trivial⟩ ?hend
        case h0 => exact ⟨_, _, _, _, _, _, _, _, _, _, _, _, rfl, ⟨Below.refl _ _, (fun h => by cases h), (fun h => by cases h), (fun h => by cases h), (fun h => by cases h), (fun h => by cases h), (fun h => by cases h), (fun h => by cases h), (fun h => by cases h), (fun h => by cases h), (fun h => by cases h), (fun h => by cases h)⟩, rfl⟩
        case q0 =>
          rintro L vs w' K ⟨u9, u10, u11, u12, u13, u14, u15, u16, u17, u18, u19, wz, rfl, φ, rfl⟩ hL hpre hcl hK G hG
          simp [Region.binds, closedFrom] at hpre hcl
          have hk := hK [(.int .i64 0), u10, u11, u12, u13, u14, u15, u16, u17, u18, u19] wz ⟨_, _, _, _, _, _, _, _, _, _, _, wz, rfl,
            { b := φ.b,
              s0 := fun _ => rfl,
              s1 := fun h0 => φ.s1 (by simpa using h0),
              s2 := fun h0 => φ.s2 (by simpa using h0),
              s3 := fun h0 => φ.s3 (by simpa using h0),
              s4 := fun h0 => φ.s4 (by simpa using h0),
              s5 := fun h0 => φ.s5 (by simpa using h0),
              s6 := fun h0 => φ.s6 (by simpa using h0),
              s7 := fun h0 => φ.s7 (by simpa using h0),
              s8 := fun h0 => φ.s8 (by simpa using h0),
              s9 := fun h0 => φ.s9 (by simpa using h0),
              s10 := fun h0 => φ.s10 (by simpa using h0) }, rfl⟩
          refine hG ?_
          clear hK φ hG
          revert hk
          go_simp
          first | done | exact fun h => h
        case q1 =>
          rintro L vs w' K ⟨u9, u10, u11, u12, u13, u14, u15, u16, u17, u18, u19, wz, rfl, φ, rfl⟩ hL hpre hcl hK G hG
          simp [Region.binds, closedFrom] at hpre hcl
          have e0 := φ.s0 (by simp [hpre])
          subst e0
          have hk := hK [(.int .i64 0), (.bool false), u11, u12, u13, u14, u15, u16, u17, u18, u19] wz ⟨_, _, _, _, _, _, _, _, _, _, _, wz, rfl,
            { b := φ.b,
              s0 := fun h0 => φ.s0 (by simpa using h0),
              s1 := fun _ => rfl,
              s2 := fun h0 => φ.s2 (by simpa using h0),
              s3 := fun h0 => φ.s3 (by simpa using h0),
              s4 := fun h0 => φ.s4 (by simpa using h0),
              s5 := fun h0 => φ.s5 (by simpa using h0),
              s6 := fun h0 => φ.s6 (by simpa using h0),
              s7 := fun h0 => φ.s7 (by simpa using h0),
              s8 := fun h0 => φ.s8 (by simpa using h0),
              s9 := fun h0 => φ.s9 (by simpa using h0),
              s10 := fun h0 => φ.s10 (by simpa using h0) }, rfl⟩
          refine hG ?_
          clear hK φ hG
          revert hk
          go_simp
          first | done | exact fun h => h
        case q2 =>
          rintro L vs w' K ⟨u9, u10, u11, u12, u13, u14, u15, u16, u17, u18, u19, wz, rfl, φ, rfl⟩ hL hpre hcl hK G hG
          simp [Region.binds, closedFrom] at hpre hcl
          have e1 := φ.s1 (by simp [hpre])
          subst e1
          have hk := hK [u9, (.bool false), (.bool false), u12, u13, u14, u15, u16, u17, u18, u19] wz ⟨_, _, _, _, _, _, _, _, _, _, _, wz, rfl,
            { b := φ.b,
              s0 := fun h0 => φ.s0 (by simpa using h0),
              s1 := fun h0 => φ.s1 (by simpa using h0),
              s2 := fun _ => rfl,
              s3 := fun h0 => φ.s3 (by simpa using h0),
              s4 := fun h0 => φ.s4 (by simpa using h0),
              s5 := fun h0 => φ.s5 (by simpa using h0),
              s6 := fun h0 => φ.s6 (by simpa using h0),
              s7 := fun h0 => φ.s7 (by simpa using h0),
              s8 := fun h0 => φ.s8 (by simpa using h0),
              s9 := fun h0 => φ.s9 (by simpa using h0),
              s10 := fun h0 => φ.s10 (by simpa using h0) }, rfl⟩
          refine hG ?_
          clear hK φ hG
          revert hk
          go_simp
          first | done | exact fun h => h
        case q3 =>
          rintro L vs w' K ⟨u9, u10, u11, u12, u13, u14, u15, u16, u17, u18, u19, wz, rfl, φ, rfl⟩ hL hpre hcl hK G hG
          simp [Region.binds, closedFrom] at hpre hcl
          have e2 := φ.s2 (by simp [hpre])
          subst e2
          have hk := hK [u9, u10, (.bool false), (undef), u13, u14, u15, u16, u17, u18, u19] wz ⟨_, _, _, _, _, _, _, _, _, _, _, wz, rfl,
            { b := φ.b,
              s0 := fun h0 => φ.s0 (by simpa using h0),
              s1 := fun h0 => φ.s1 (by simpa using h0),
              s2 := fun h0 => φ.s2 (by simpa using h0),
              s3 := fun _ => rfl,
              s4 := fun h0 => φ.s4 (by simpa using h0),
              s5 := fun h0 => φ.s5 (by simpa using h0),
              s6 := fun h0 => φ.s6 (by simpa using h0),
              s7 := fun h0 => φ.s7 (by simpa using h0),
              s8 := fun h0 => φ.s8 (by simpa using h0),
              s9 := fun h0 => φ.s9 (by simpa using h0),
              s10 := fun h0 => φ.s10 (by simpa using h0) }, rfl⟩
          refine hG ?_
          clear hK φ hG
          revert hk
          simp only [yielded, Region.wanted]
          go_simp
          first | done | exact fun h => h
        case q4 =>
          rintro L vs w' K ⟨u9, u10, u11, u12, u13, u14, u15, u16, u17, u18, u19, wz, rfl, φ, rfl⟩ hL hpre hcl hK G hG
          simp [Region.binds, closedFrom] at hpre hcl
          have e2 := φ.s2 (by simp [hpre])
          subst e2
          have hk := hK [u9, u10, (.bool false), u12, (undef), u14, u15, u16, u17, u18, u19] wz ⟨_, _, _, _, _, _, _, _, _, _, _, wz, rfl,
            { b := φ.b,
              s0 := fun h0 => φ.s0 (by simpa using h0),
              s1 := fun h0 => φ.s1 (by simpa using h0),
              s2 := fun h0 => φ.s2 (by simpa using h0),
              s3 := fun h0 => φ.s3 (by simpa using h0),
              s4 := fun _ => rfl,
              s5 := fun h0 => φ.s5 (by simpa using h0),
              s6 := fun h0 => φ.s6 (by simpa using h0),
              s7 := fun h0 => φ.s7 (by simpa using h0),
              s8 := fun h0 => φ.s8 (by simpa using h0),
              s9 := fun h0 => φ.s9 (by simpa using h0),
              s10 := fun h0 => φ.s10 (by simpa using h0) }, rfl⟩
          refine hG ?_
          clear hK φ hG
          revert hk
          simp only [yielded, Region.wanted]
          go_simp
          first | done | exact fun h => h
        case q5 =>
          rintro L vs w' K ⟨u9, u10, u11, u12, u13, u14, u15, u16, u17, u18, u19, wz, rfl, φ, rfl⟩ hL hpre hcl hK G hG
          simp [Region.binds, closedFrom] at hpre hcl
          have e2 := φ.s2 (by simp [hpre])
          subst e2
          have hk := hK [u9, u10, (.bool false), u12, u13, (undef), u15, u16, u17, u18, u19] wz ⟨_, _, _, _, _, _, _, _, _, _, _, wz, rfl,
            { b := φ.b,
              s0 := fun h0 => φ.s0 (by simpa using h0),
              s1 := fun h0 => φ.s1 (by simpa using h0),
              s2 := fun h0 => φ.s2 (by simpa using h0),
              s3 := fun h0 => φ.s3 (by simpa using h0),
              s4 := fun h0 => φ.s4 (by simpa using h0),
              s5 := fun _ => rfl,
              s6 := fun h0 => φ.s6 (by simpa using h0),
              s7 := fun h0 => φ.s7 (by simpa using h0),
              s8 := fun h0 => φ.s8 (by simpa using h0),
              s9 := fun h0 => φ.s9 (by simpa using h0),
              s10 := fun h0 => φ.s10 (by simpa using h0) }, rfl⟩
          refine hG ?_
          clear hK φ hG
          revert hk
          simp only [yielded, Region.wanted]
          go_simp
          first | done | exact fun h => h
        case q6 =>
          rintro L vs w' K ⟨u9, u10, u11, u12, u13, u14, u15, u16, u17, u18, u19, wz, rfl, φ, rfl⟩ hL hpre hcl hK G hG
          simp [Region.binds, closedFrom] at hpre hcl
          have e2 := φ.s2 (by simp [hpre])
          subst e2
          have hk := hK [u9, u10, (.bool false), u12, u13, u14, (undef), u16, u17, u18, u19] wz ⟨_, _, _, _, _, _, _, _, _, _, _, wz, rfl,
            { b := φ.b,
              s0 := fun h0 => φ.s0 (by simpa using h0),
              s1 := fun h0 => φ.s1 (by simpa using h0),
              s2 := fun h0 => φ.s2 (by simpa using h0),
              s3 := fun h0 => φ.s3 (by simpa using h0),
              s4 := fun h0 => φ.s4 (by simpa using h0),
              s5 := fun h0 => φ.s5 (by simpa using h0),
              s6 := fun _ => rfl,
              s7 := fun h0 => φ.s7 (by simpa using h0),
              s8 := fun h0 => φ.s8 (by simpa using h0),
              s9 := fun h0 => φ.s9 (by simpa using h0),
              s10 := fun h0 => φ.s10 (by simpa using h0) }, rfl⟩
          refine hG ?_
          clear hK φ hG
          revert hk
          simp only [yielded, Region.wanted]
          go_simp
          first | done | exact fun h => h
        case q7 =>
          rintro L vs w' K ⟨u9, u10, u11, u12, u13, u14, u15, u16, u17, u18, u19, wz, rfl, φ, rfl⟩ hL hpre hcl hK G hG
          simp [Region.binds, closedFrom] at hpre hcl
          have e2 := φ.s2 (by simp [hpre])
          subst e2
          have hk := hK [u9, u10, (.bool false), u12, u13, u14, u15, (undef), u17, u18, u19] wz ⟨_, _, _, _, _, _, _, _, _, _, _, wz, rfl,
            { b := φ.b,
              s0 := fun h0 => φ.s0 (by simpa using h0),
              s1 := fun h0 => φ.s1 (by simpa using h0),
              s2 := fun h0 => φ.s2 (by simpa using h0),
              s3 := fun h0 => φ.s3 (by simpa using h0),
              s4 := fun h0 => φ.s4 (by simpa using h0),
              s5 := fun h0 => φ.s5 (by simpa using h0),
              s6 := fun h0 => φ.s6 (by simpa using h0),
              s7 := fun _ => rfl,
              s8 := fun h0 => φ.s8 (by simpa using h0),
              s9 := fun h0 => φ.s9 (by simpa using h0),
              s10 := fun h0 => φ.s10 (by simpa using h0) }, rfl⟩
          refine hG ?_
          clear hK φ hG
          revert hk
          simp only [yielded, Region.wanted]
          go_simp
          first | done | exact fun h => h
        case q8 =>
          rintro L vs w' K ⟨u9, u10, u11, u12, u13, u14, u15, u16, u17, u18, u19, wz, rfl, φ, rfl⟩ hL hpre hcl hK G hG
          simp [Region.binds, closedFrom] at hpre hcl
          have e2 := φ.s2 (by simp [hpre])
          subst e2
          have hk := hK [u9, u10, (.bool false), u12, u13, u14, u15, u16, (undef), u18, u19] wz ⟨_, _, _, _, _, _, _, _, _, _, _, wz, rfl,
            { b := φ.b,
              s0 := fun h0 => φ.s0 (by simpa using h0),
              s1 := fun h0 => φ.s1 (by simpa using h0),
              s2 := fun h0 => φ.s2 (by simpa using h0),
              s3 := fun h0 => φ.s3 (by simpa using h0),
              s4 := fun h0 => φ.s4 (by simpa using h0),
              s5 := fun h0 => φ.s5 (by simpa using h0),
              s6 := fun h0 => φ.s6 (by simpa using h0),
              s7 := fun h0 => φ.s7 (by simpa using h0),
              s8 := fun _ => rfl,
              s9 := fun h0 => φ.s9 (by simpa using h0),
              s10 := fun h0 => φ.s10 (by simpa using h0) }, rfl⟩
          refine hG ?_
          clear hK φ hG
          revert hk
          simp only [yielded, Region.wanted]
          go_simp
          first | done | exact fun h => h
        case q9 =>
          rintro L vs w' K ⟨u9, u10, u11, u12, u13, u14, u15, u16, u17, u18, u19, wz, rfl, φ, rfl⟩ hL hpre hcl hK G hG
          simp [Region.binds, closedFrom] at hpre hcl
          have e2 := φ.s2 (by simp [hpre])
          subst e2
          have hk := hK [u9, u10, (.bool false), u12, u13, u14, u15, u16, u17, (undef), u19] wz ⟨_, _, _, _, _, _, _, _, _, _, _, wz, rfl,
            { b := φ.b,
              s0 := fun h0 => φ.s0 (by simpa using h0),
              s1 := fun h0 => φ.s1 (by simpa using h0),
              s2 := fun h0 => φ.s2 (by simpa using h0),
              s3 := fun h0 => φ.s3 (by simpa using h0),
              s4 := fun h0 => φ.s4 (by simpa using h0),
              s5 := fun h0 => φ.s5 (by simpa using h0),
              s6 := fun h0 => φ.s6 (by simpa using h0),
              s7 := fun h0 => φ.s7 (by simpa using h0),
              s8 := fun h0 => φ.s8 (by simpa using h0),
              s9 := fun _ => rfl,
              s10 := fun h0 => φ.s10 (by simpa using h0) }, rfl⟩
          refine hG ?_
          clear hK φ hG
          revert hk
          simp only [yielded, Region.wanted]
          go_simp
          first | done | exact fun h => h
        case q10 =>
          rintro L vs w' K ⟨u9, u10, u11, u12, u13, u14, u15, u16, u17, u18, u19, wz, rfl, φ, rfl⟩ hL hpre hcl hK G hG
          simp [Region.binds, closedFrom] at hpre hcl
          have e2 := φ.s2 (by simp [hpre])
          subst e2
          have hk := hK [u9, u10, (.bool false), u12, u13, u14, u15, u16, u17, u18, (.bool false)] wz ⟨_, _, _, _, _, _, _, _, _, _, _, wz, rfl,
            { b := φ.b,
              s0 := fun h0 => φ.s0 (by simpa using h0),
              s1 := fun h0 => φ.s1 (by simpa using h0),
              s2 := fun h0 => φ.s2 (by simpa using h0),
              s3 := fun h0 => φ.s3 (by simpa using h0),
              s4 := fun h0 => φ.s4 (by simpa using h0),
              s5 := fun h0 => φ.s5 (by simpa using h0),
              s6 := fun h0 => φ.s6 (by simpa using h0),
              s7 := fun h0 => φ.s7 (by simpa using h0),
              s8 := fun h0 => φ.s8 (by simpa using h0),
              s9 := fun h0 => φ.s9 (by simpa using h0),
              s10 := fun _ => rfl }, rfl⟩
          refine hG ?_
          clear hK φ hG
          revert hk
          go_simp
          first | done | exact fun h => h
        case hend =>
          rintro vs w' ⟨u9, u10, u11, u12, u13, u14, u15, u16, u17, u18, u19, wz, rfl, φ, rfl⟩ G hG
          obtain rfl := φ.s10 rfl
          have b9 := φ.b
          clear φ
          refine hG ?_
          clear hG
          replace B1 := B1.trans (b9.mono B1.size)
          have d0 := (b9.cell (p := ⟨DX, 0, none⟩) ltd).trans d0
          have d1 := (b9.cell (p := ⟨DX, 1, none⟩) ltd).trans d1
          have ltd := Nat.lt_of_lt_of_le ltd b9.size
          clear b9
          go_simp
          go_wp2_with (at_builtin; refine wpList_as ?_)
          intro _
          have hbz := b0.trans (B1.mono b0.size)
          refine wpList_append_sl _ rfl _ _ 24 rfl W0.heap.size 30 i0 _ 2 16 Try.underlying24 hi hz0 hz1 hz2 rfl (by decide) _ _ _ rfl (World.ownsRow_made wz #[] 0 B1.size (Nat.zero_le _) (by simp)) Du.enc Du.enc_len Du.enc_one (some ⟨bb, 0, none⟩) 0 c (l.take 0) rfl (by simp) (((HS.out.below B1).below bnew).take 0) (by unfold maxLen; omega) (by omega) (by simp; have := B1.size; omega) ?_
          intro v1 w1 own1 hg1 hat1
          have B2 := below_append (k := 2) (B1.alloc B1.size _) hg1 (by simp; have := B1.size; omega) (World.ownsRow_made wz #[] 0 B1.size (Nat.zero_le _) (by simp)) (Nat.le_refl _)
          rw [Nat.zero_add, List.nil_append] at own1
          have e0 := (B2.cell (p := ⟨DX, 0, none⟩) ltd0).trans d00
          have e1 := (B2.cell (p := ⟨DX, 1, none⟩) ltd0).trans d10
          obtain ⟨A1, c1, rfl⟩ := own_shape own1
          clear hg1 hat1 d0 d1 ltd
          go_wp2_with (at_builtin; refine wpList_as ?_)
          intro _
          refine wpList_append_own_at _ rfl _ _ 24 rfl W0.heap.size 30 i0 _ 2 16 Try.underlying24 hi hz0 hz1 hz2 rfl (by decide) _ _ _ rfl (own1.alloc _) ⟨w1.heap.size, 0, none⟩ 1 1 [.int .i64 d.when_, .int .i64 d.which] rfl rfl (fun j u hj => cell_new_block w1 _ 30 j u hj) (by intro u hu; simp at hu; rcases hu with rfl | rfl <;> rfl) (by unfold maxLen; omega) (by omega) (by simp; have := B2.size; omega) ?_
          intro v2 w2 own2 hg2 hnil2 hat2
          have B3 := below_append (k := 2) (B2.alloc B2.size _) hg2 (by simp; have := B2.size; omega) (own1.alloc _) (Nat.le_refl _)
          obtain ⟨A2, c2, rfl⟩ := own_shape own2
          clear hg2 hat2 hnil2 own1 e0 e1 B2
  
          go_wp2_with (at_builtin; refine wpList_as ?_)
          intro _
          refine wpList_append_sl _ rfl _ _ 24 rfl W0.heap.size 30 i0 _ 2 16 Try.underlying24 hi hz0 hz1 hz2 rfl (by decide) _ _ _ rfl own2 Du.enc Du.enc_len Du.enc_one (some ⟨bb, 0, none⟩) n c (l.drop 0) rfl (by rw [List.drop_zero, HN.out]) (by rw [List.drop_zero]; exact HS.out.below B3) (by unfold maxLen; omega) (by omega) B3.size ?_
          intro v3 w3 own3 hg3 hat3
          have B4 := below_append (k := 2) B3 hg3 B3.size own2 (Nat.le_refl _)
          obtain ⟨A3, c3, rfl⟩ := own_shape own3
          clear hg3 hat3 own2 B3
          go_wp2_with fail
          go_ret
          rw [← HDX.out]
          have hlist : (l.take 0).flatMap Du.enc ++ [.int .i64 d.when_, .int .i64 d.which] ++ (l.drop 0).flatMap Du.enc = (putD l d).flatMap Du.enc := by
            rw [← HPUT.out 0 HA.out HP.out, List.flatMap_append, List.flatMap_append]; simp [Du.enc]
          rw [hlist] at own3
          have hcnt : 0 + 1 + n = n + 1 := by omega
          rw [hcnt] at own3 ⊢
          exact ⟨_, rfl, own_weaken' own3 b0.size, b0.trans (B4.mono b0.size)⟩
      · obtain ⟨k1, hk1⟩ : ∃ k1, a - 1 = k1 := ⟨_, rfl⟩
        have hk1a : k1 + 1 ≤ a := by omega
        have hk1b : a ≤ k1 + 1 := by omega
        obtain ⟨bb', off', e, hq⟩ := (HS.out.below B1).at_ k1 (by rw [HN.out]; omega)
        obtain ⟨rfl, rfl⟩ : bb = bb' ∧ off' = 0 := by simp at e; exact ⟨e.1, e.2.symm⟩
        have p0 : wr.cell? ⟨bb, k1 * 2, none⟩ = some (.int .i64 l[k1]!.when_) := by have := hq 0 _ rfl; rwa [Nat.zero_add, Nat.add_zero] at this
        have p1 : wr.cell? ⟨bb, k1 * 2 + 1, none⟩ = some (.int .i64 l[k1]!.which) := by have := hq 1 _ rfl; rwa [Nat.zero_add] at this
        have hput1 : putAt l d a = if lessD d l[k1]! = true then putAt l d k1 else a := by
          obtain rfl : a = k1 + 1 := by omega
          rfl
        have HPU := Lib.hid hput1
        clear hk1 e hq hput1
        generalize hy : l[k1]! = y at p0 p1 HPU
        have HY := Lib.hid hy
        have cL := fun w1 => ahead_any d y w1
        have h0z : (0 : Int) < (a : Int) := by omega
        have h0b : 0 < a := by omega
        have zk : decide ((0 : Int) < (a : Int)) = true := decide_eq_true h0z
        have zk2 : decide (0 < a) = true := decide_eq_true h0b
        have hw2 : (0 : Int) ≤ (k1 : Int) := by omega
        have hw3 : (k1 : Int) < (n : Int) := by omega
        have hw4 : (a : Int) - 1 = (k1 : Int) := by omega
        have hw5 : IntKind.i64.wrap (k1 : Int) = (k1 : Int) := IntWalk.i64_in _ (by omega)
        clear hy h0
        cases hls : lessD d y with
        | true =>
          have HPK := Lib.hid (show putAt l d k1 = putAt l d n by have := HPU.out; rw [hls, if_pos rfl] at this; rw [← this]; exact HP.out)
          rw [hls] at cL
          clear hls HP HPU
          go_wp2_with fail
          have d0 : wr.drew.cell? ⟨DX, 0, none⟩ = some (.int .i64 d.when_) := d0
          have d1 : wr.drew.cell? ⟨DX, 1, none⟩ = some (.int .i64 d.which) := d1
          have p0 : wr.drew.cell? ⟨bb, k1 * 2, none⟩ = some (.int .i64 y.when_) := p0
          have p1 : wr.drew.cell? ⟨bb, k1 * 2 + 1, none⟩ = some (.int .i64 y.which) := p1
          have ltd : DX < wr.drew.heap.size := ltd
          replace B1 := B1.drew
          refine wp_region_rg (by kernel_rfl) (by kernel_rfl) [9, 10, 11, 12, 13, 14, 15, 16, 17, 18, 19] (PtYesPhi wr.drew DX bb n c a k1 d y) ?h0 ⟨?q0, ?q1, ?q2, ?q3, ?q4, ?q5, ?q6, ?q7, ?q8, ?q9, ?q10, trivial⟩ ?hend
          case h0 => exact ⟨_, _, _, _, _, _, _, _, _, _, _, _, rfl, ⟨Below.refl _ _, (fun h => by cases h), (fun h => by cases h), (fun h => by cases h), (fun h => by cases h), (fun h => by cases h), (fun h => by cases h), (fun h => by cases h), (fun h => by cases h), (fun h => by cases h), (fun h => by cases h), (fun h => by cases h)⟩, rfl⟩
          case q0 =>
            rintro L vs w' K ⟨u9, u10, u11, u12, u13, u14, u15, u16, u17, u18, u19, wz, rfl, φ, rfl⟩ hL hpre hcl hK G hG
            simp [Region.binds, closedFrom] at hpre hcl
            have hk := hK [(.int .i64 (a : Int)), u10, u11, u12, u13, u14, u15, u16, u17, u18, u19] wz ⟨_, _, _, _, _, _, _, _, _, _, _, wz, rfl,
              { b := φ.b,
                s0 := fun _ => rfl,
                s1 := fun h0 => φ.s1 (by simpa using h0),
                s2 := fun h0 => φ.s2 (by simpa using h0),
                s3 := fun h0 => φ.s3 (by simpa using h0),
                s4 := fun h0 => φ.s4 (by simpa using h0),
                s5 := fun h0 => φ.s5 (by simpa using h0),
                s6 := fun h0 => φ.s6 (by simpa using h0),
                s7 := fun h0 => φ.s7 (by simpa using h0),
                s8 := fun h0 => φ.s8 (by simpa using h0),
                s9 := fun h0 => φ.s9 (by simpa using h0),
                s10 := fun h0 => φ.s10 (by simpa using h0) }, rfl⟩
            refine hG ?_
            clear hK φ hG
            revert hk
            go_simp
            first | done | exact fun h => h
          case q1 =>
            rintro L vs w' K ⟨u9, u10, u11, u12, u13, u14, u15, u16, u17, u18, u19, wz, rfl, φ, rfl⟩ hL hpre hcl hK G hG
            simp [Region.binds, closedFrom] at hpre hcl
            have e0 := φ.s0 (by simp [hpre])
            subst e0
            have hk := hK [(.int .i64 (a : Int)), (.bool true), u11, u12, u13, u14, u15, u16, u17, u18, u19] wz ⟨_, _, _, _, _, _, _, _, _, _, _, wz, rfl,
              { b := φ.b,
                s0 := fun h0 => φ.s0 (by simpa using h0),
                s1 := fun _ => rfl,
                s2 := fun h0 => φ.s2 (by simpa using h0),
                s3 := fun h0 => φ.s3 (by simpa using h0),
                s4 := fun h0 => φ.s4 (by simpa using h0),
                s5 := fun h0 => φ.s5 (by simpa using h0),
                s6 := fun h0 => φ.s6 (by simpa using h0),
                s7 := fun h0 => φ.s7 (by simpa using h0),
                s8 := fun h0 => φ.s8 (by simpa using h0),
                s9 := fun h0 => φ.s9 (by simpa using h0),
                s10 := fun h0 => φ.s10 (by simpa using h0) }, rfl⟩
            refine hG ?_
            clear hK φ hG
            revert hk
            go_simp
            first | done | exact fun h => h
          case q2 =>
            rintro L vs w' K ⟨u9, u10, u11, u12, u13, u14, u15, u16, u17, u18, u19, wz, rfl, φ, rfl⟩ hL hpre hcl hK G hG
            simp [Region.binds, closedFrom] at hpre hcl
            have e1 := φ.s1 (by simp [hpre])
            subst e1
            have hk := hK [u9, (.bool true), (.bool true), u12, u13, u14, u15, u16, u17, u18, u19] wz ⟨_, _, _, _, _, _, _, _, _, _, _, wz, rfl,
              { b := φ.b,
                s0 := fun h0 => φ.s0 (by simpa using h0),
                s1 := fun h0 => φ.s1 (by simpa using h0),
                s2 := fun _ => rfl,
                s3 := fun h0 => φ.s3 (by simpa using h0),
                s4 := fun h0 => φ.s4 (by simpa using h0),
                s5 := fun h0 => φ.s5 (by simpa using h0),
                s6 := fun h0 => φ.s6 (by simpa using h0),
                s7 := fun h0 => φ.s7 (by simpa using h0),
                s8 := fun h0 => φ.s8 (by simpa using h0),
                s9 := fun h0 => φ.s9 (by simpa using h0),
                s10 := fun h0 => φ.s10 (by simpa using h0) }, rfl⟩
            refine hG ?_
            clear hK φ hG
            revert hk
            go_simp
            first | done | exact fun h => h
          case q3 =>
            rintro L vs w' K ⟨u9, u10, u11, u12, u13, u14, u15, u16, u17, u18, u19, wz, rfl, φ, rfl⟩ hL hpre hcl hK G hG
            simp [Region.binds, closedFrom] at hpre hcl
            have e2 := φ.s2 (by simp [hpre])
            subst e2
            have ce0 := (φ.b.cell (p := ⟨DX, 0, none⟩) ltd).trans d0
            have ce1 := (φ.b.cell (p := ⟨DX, 1, none⟩) ltd).trans d1
            have hk := hK [u9, u10, (.bool true), (.agg #[.int .i64 d.when_, .int .i64 d.which]), u13, u14, u15, u16, u17, u18, u19] wz ⟨_, _, _, _, _, _, _, _, _, _, _, wz, rfl,
              { b := φ.b,
                s0 := fun h0 => φ.s0 (by simpa using h0),
                s1 := fun h0 => φ.s1 (by simpa using h0),
                s2 := fun h0 => φ.s2 (by simpa using h0),
                s3 := fun _ => rfl,
                s4 := fun h0 => φ.s4 (by simpa using h0),
                s5 := fun h0 => φ.s5 (by simpa using h0),
                s6 := fun h0 => φ.s6 (by simpa using h0),
                s7 := fun h0 => φ.s7 (by simpa using h0),
                s8 := fun h0 => φ.s8 (by simpa using h0),
                s9 := fun h0 => φ.s9 (by simpa using h0),
                s10 := fun h0 => φ.s10 (by simpa using h0) }, rfl⟩
            refine hG ?_
            clear hK φ hG
            revert hk
            simp only [yielded, Region.wanted]
            go_simp
            first | done | exact fun h => h
          case q4 =>
            rintro L vs w' K ⟨u9, u10, u11, u12, u13, u14, u15, u16, u17, u18, u19, wz, rfl, φ, rfl⟩ hL hpre hcl hK G hG
            simp [Region.binds, closedFrom] at hpre hcl
            have e2 := φ.s2 (by simp [hpre])
            subst e2
            have hk := hK [u9, u10, (.bool true), u12, (.slice (some ⟨bb, 0, none⟩) n c), u14, u15, u16, u17, u18, u19] wz ⟨_, _, _, _, _, _, _, _, _, _, _, wz, rfl,
              { b := φ.b,
                s0 := fun h0 => φ.s0 (by simpa using h0),
                s1 := fun h0 => φ.s1 (by simpa using h0),
                s2 := fun h0 => φ.s2 (by simpa using h0),
                s3 := fun h0 => φ.s3 (by simpa using h0),
                s4 := fun _ => rfl,
                s5 := fun h0 => φ.s5 (by simpa using h0),
                s6 := fun h0 => φ.s6 (by simpa using h0),
                s7 := fun h0 => φ.s7 (by simpa using h0),
                s8 := fun h0 => φ.s8 (by simpa using h0),
                s9 := fun h0 => φ.s9 (by simpa using h0),
                s10 := fun h0 => φ.s10 (by simpa using h0) }, rfl⟩
            refine hG ?_
            clear hK φ hG
            revert hk
            simp only [yielded, Region.wanted]
            go_simp
            first | done | exact fun h => h
          case q5 =>
            rintro L vs w' K ⟨u9, u10, u11, u12, u13, u14, u15, u16, u17, u18, u19, wz, rfl, φ, rfl⟩ hL hpre hcl hK G hG
            simp [Region.binds, closedFrom] at hpre hcl
            have e2 := φ.s2 (by simp [hpre])
            subst e2
            have hk := hK [u9, u10, (.bool true), u12, u13, (.int .i64 (a : Int)), u15, u16, u17, u18, u19] wz ⟨_, _, _, _, _, _, _, _, _, _, _, wz, rfl,
              { b := φ.b,
                s0 := fun h0 => φ.s0 (by simpa using h0),
                s1 := fun h0 => φ.s1 (by simpa using h0),
                s2 := fun h0 => φ.s2 (by simpa using h0),
                s3 := fun h0 => φ.s3 (by simpa using h0),
                s4 := fun h0 => φ.s4 (by simpa using h0),
                s5 := fun _ => rfl,
                s6 := fun h0 => φ.s6 (by simpa using h0),
                s7 := fun h0 => φ.s7 (by simpa using h0),
                s8 := fun h0 => φ.s8 (by simpa using h0),
                s9 := fun h0 => φ.s9 (by simpa using h0),
                s10 := fun h0 => φ.s10 (by simpa using h0) }, rfl⟩
            refine hG ?_
            clear hK φ hG
            revert hk
            simp only [yielded, Region.wanted]
            go_simp
            first | done | exact fun h => h
          case q6 =>
            rintro L vs w' K ⟨u9, u10, u11, u12, u13, u14, u15, u16, u17, u18, u19, wz, rfl, φ, rfl⟩ hL hpre hcl hK G hG
            simp [Region.binds, closedFrom] at hpre hcl
            have e2 := φ.s2 (by simp [hpre])
            subst e2
            have e5 := φ.s5 (by simp [hpre])
            subst e5
            have hk := hK [u9, u10, (.bool true), u12, u13, (.int .i64 (a : Int)), (.int .i64 (k1 : Int)), u16, u17, u18, u19] wz ⟨_, _, _, _, _, _, _, _, _, _, _, wz, rfl,
              { b := φ.b,
                s0 := fun h0 => φ.s0 (by simpa using h0),
                s1 := fun h0 => φ.s1 (by simpa using h0),
                s2 := fun h0 => φ.s2 (by simpa using h0),
                s3 := fun h0 => φ.s3 (by simpa using h0),
                s4 := fun h0 => φ.s4 (by simpa using h0),
                s5 := fun h0 => φ.s5 (by simpa using h0),
                s6 := fun _ => rfl,
                s7 := fun h0 => φ.s7 (by simpa using h0),
                s8 := fun h0 => φ.s8 (by simpa using h0),
                s9 := fun h0 => φ.s9 (by simpa using h0),
                s10 := fun h0 => φ.s10 (by simpa using h0) }, rfl⟩
            refine hG ?_
            clear hK φ hG
            revert hk
            simp only [yielded, Region.wanted]
            go_simp
            first | done | exact fun h => h
          case q7 =>
            rintro L vs w' K ⟨u9, u10, u11, u12, u13, u14, u15, u16, u17, u18, u19, wz, rfl, φ, rfl⟩ hL hpre hcl hK G hG
            simp [Region.binds, closedFrom] at hpre hcl
            have e2 := φ.s2 (by simp [hpre])
            subst e2
            have e4 := φ.s4 (by simp [hpre])
            subst e4
            have e6 := φ.s6 (by simp [hpre])
            subst e6
            have hk := hK [u9, u10, (.bool true), u12, (.slice (some ⟨bb, 0, none⟩) n c), u14, (.int .i64 (k1 : Int)), (.pointer (some ⟨bb, k1 * 2, none⟩)), u17, u18, u19] wz ⟨_, _, _, _, _, _, _, _, _, _, _, wz, rfl,
              { b := φ.b,
                s0 := fun h0 => φ.s0 (by simpa using h0),
                s1 := fun h0 => φ.s1 (by simpa using h0),
                s2 := fun h0 => φ.s2 (by simpa using h0),
                s3 := fun h0 => φ.s3 (by simpa using h0),
                s4 := fun h0 => φ.s4 (by simpa using h0),
                s5 := fun h0 => φ.s5 (by simpa using h0),
                s6 := fun h0 => φ.s6 (by simpa using h0),
                s7 := fun _ => rfl,
                s8 := fun h0 => φ.s8 (by simpa using h0),
                s9 := fun h0 => φ.s9 (by simpa using h0),
                s10 := fun h0 => φ.s10 (by simpa using h0) }, rfl⟩
            refine hG ?_
            clear hK φ hG
            revert hk
            simp only [yielded, Region.wanted]
            go_simp
            first | done | exact fun h => h
          case q8 =>
            rintro L vs w' K ⟨u9, u10, u11, u12, u13, u14, u15, u16, u17, u18, u19, wz, rfl, φ, rfl⟩ hL hpre hcl hK G hG
            simp [Region.binds, closedFrom] at hpre hcl
            have e2 := φ.s2 (by simp [hpre])
            subst e2
            have e7 := φ.s7 (by simp [hpre])
            subst e7
            have ce0 := (φ.b.cell (p := ⟨bb, k1 * 2, none⟩) (World.block_lt_of_cell? _ _ p0)).trans p0
            have ce1 := (φ.b.cell (p := ⟨bb, k1 * 2 + 1, none⟩) (World.block_lt_of_cell? _ _ p1)).trans p1
            have hk := hK [u9, u10, (.bool true), u12, u13, u14, u15, (.pointer (some ⟨bb, k1 * 2, none⟩)), (.agg #[.int .i64 y.when_, .int .i64 y.which]), u18, u19] wz ⟨_, _, _, _, _, _, _, _, _, _, _, wz, rfl,
              { b := φ.b,
                s0 := fun h0 => φ.s0 (by simpa using h0),
                s1 := fun h0 => φ.s1 (by simpa using h0),
                s2 := fun h0 => φ.s2 (by simpa using h0),
                s3 := fun h0 => φ.s3 (by simpa using h0),
                s4 := fun h0 => φ.s4 (by simpa using h0),
                s5 := fun h0 => φ.s5 (by simpa using h0),
                s6 := fun h0 => φ.s6 (by simpa using h0),
                s7 := fun h0 => φ.s7 (by simpa using h0),
                s8 := fun _ => rfl,
                s9 := fun h0 => φ.s9 (by simpa using h0),
                s10 := fun h0 => φ.s10 (by simpa using h0) }, rfl⟩
            refine hG ?_
            clear hK φ hG
            revert hk
            simp only [yielded, Region.wanted]
            go_simp
            first | done | exact fun h => h
          case q9 =>
            rintro L vs w' K ⟨u9, u10, u11, u12, u13, u14, u15, u16, u17, u18, u19, wz, rfl, φ, rfl⟩ hL hpre hcl hK G hG
            simp [Region.binds, closedFrom] at hpre hcl
            have e2 := φ.s2 (by simp [hpre])
            subst e2
            have e3 := φ.s3 (by simp [hpre])
            subst e3
            have e8 := φ.s8 (by simp [hpre])
            subst e8
            refine step_callg hG wz (by simp only [yielded, Region.wanted]; go_simp) 34 #[.tmp 12, .tmp 17] #[30, 30] rfl #[.agg #[.int .i64 d.when_, .int .i64 d.which], .agg #[.int .i64 y.when_, .int .i64 y.which]] (by simp [Act.eval, Act.puts, Act.put]) (enters_of Try.func34 (by kernel_rfl) rfl) (cL wz) ?_
            rintro e w9 ⟨rfl, hb9⟩
            refine ⟨_, rfl, ?_⟩
            have hk := hK [u9, u10, (.bool true), (.agg #[.int .i64 d.when_, .int .i64 d.which]), u13, u14, u15, u16, (.agg #[.int .i64 y.when_, .int .i64 y.which]), (.bool true), u19] w9 ⟨_, _, _, _, _, _, _, _, _, _, _, w9, rfl,
              { b := φ.b.trans (hb9.mono φ.b.size),
                s0 := fun h0 => φ.s0 (by simpa using h0),
                s1 := fun h0 => φ.s1 (by simpa using h0),
                s2 := fun h0 => φ.s2 (by simpa using h0),
                s3 := fun h0 => φ.s3 (by simpa using h0),
                s4 := fun h0 => φ.s4 (by simpa using h0),
                s5 := fun h0 => φ.s5 (by simpa using h0),
                s6 := fun h0 => φ.s6 (by simpa using h0),
                s7 := fun h0 => φ.s7 (by simpa using h0),
                s8 := fun h0 => φ.s8 (by simpa using h0),
                s9 := fun _ => rfl,
                s10 := fun h0 => φ.s10 (by simpa using h0) }, rfl⟩
            clear hK φ hG
            revert hk
            go_simp
            first | done | exact fun h => h
          case q10 =>
            rintro L vs w' K ⟨u9, u10, u11, u12, u13, u14, u15, u16, u17, u18, u19, wz, rfl, φ, rfl⟩ hL hpre hcl hK G hG
            simp [Region.binds, closedFrom] at hpre hcl
            have e2 := φ.s2 (by simp [hpre])
            subst e2
            have e9 := φ.s9 (by simp [hpre])
            subst e9
            have hk := hK [u9, u10, (.bool true), u12, u13, u14, u15, u16, u17, (.bool true), (.bool true)] wz ⟨_, _, _, _, _, _, _, _, _, _, _, wz, rfl,
              { b := φ.b,
                s0 := fun h0 => φ.s0 (by simpa using h0),
                s1 := fun h0 => φ.s1 (by simpa using h0),
                s2 := fun h0 => φ.s2 (by simpa using h0),
                s3 := fun h0 => φ.s3 (by simpa using h0),
                s4 := fun h0 => φ.s4 (by simpa using h0),
                s5 := fun h0 => φ.s5 (by simpa using h0),
                s6 := fun h0 => φ.s6 (by simpa using h0),
                s7 := fun h0 => φ.s7 (by simpa using h0),
                s8 := fun h0 => φ.s8 (by simpa using h0),
                s9 := fun h0 => φ.s9 (by simpa using h0),
                s10 := fun _ => rfl }, rfl⟩
            refine hG ?_
            clear hK φ hG
            revert hk
            go_simp
            first | done | exact fun h => h
          case hend =>
            rintro vs w' ⟨u9, u10, u11, u12, u13, u14, u15, u16, u17, u18, u19, wz, rfl, φ, rfl⟩ G hG
            obtain rfl := φ.s10 rfl
            have b9 := φ.b
            clear φ
            refine hG ?_
            clear hG
            replace B1 := B1.trans (b9.mono B1.size)
            have d0 := (b9.cell (p := ⟨DX, 0, none⟩) ltd).trans d0
            have d1 := (b9.cell (p := ⟨DX, 1, none⟩) ltd).trans d1
            have ltd := Nat.lt_of_lt_of_le ltd b9.size
            clear b9
            go_simp
            go_wp2_with fail
            go_roundg k1
            case measure => omega
            case rel => exact ⟨k1, by omega, by omega, by go_num, (show Aside _ from B1), (show Aside _ from HPK.out)⟩
        | false =>
          have HA := Lib.hid (show putAt l d a = a by have := HPU.out; rw [hls, if_neg (by decide)] at this; exact this)
          rw [hls] at cL
          clear hls HPU
          go_wp2_with fail
          have d0 : wr.drew.cell? ⟨DX, 0, none⟩ = some (.int .i64 d.when_) := d0
          have d1 : wr.drew.cell? ⟨DX, 1, none⟩ = some (.int .i64 d.which) := d1
          have p0 : wr.drew.cell? ⟨bb, k1 * 2, none⟩ = some (.int .i64 y.when_) := p0
          have p1 : wr.drew.cell? ⟨bb, k1 * 2 + 1, none⟩ = some (.int .i64 y.which) := p1
          have ltd : DX < wr.drew.heap.size := ltd
          replace B1 := B1.drew
          refine wp_region_rg (by kernel_rfl) (by kernel_rfl) [9, 10, 11, 12, 13, 14, 15, 16, 17, 18, 19] (PtNoPhi wr.drew DX bb n c a k1 d y) ?h0 ⟨?q0, ?q1, ?q2, ?q3, ?q4, ?q5, ?q6, ?q7, ?q8, ?q9, ?q10, trivial⟩ ?hend
          case h0 => exact ⟨_, _, _, _, _, _, _, _, _, _, _, _, rfl, ⟨Below.refl _ _, (fun h => by cases h), (fun h => by cases h), (fun h => by cases h), (fun h => by cases h), (fun h => by cases h), (fun h => by cases h), (fun h => by cases h), (fun h => by cases h), (fun h => by cases h), (fun h => by cases h), (fun h => by cases h)⟩, rfl⟩
          case q0 =>
            rintro L vs w' K ⟨u9, u10, u11, u12, u13, u14, u15, u16, u17, u18, u19, wz, rfl, φ, rfl⟩ hL hpre hcl hK G hG
            simp [Region.binds, closedFrom] at hpre hcl
            have hk := hK [(.int .i64 (a : Int)), u10, u11, u12, u13, u14, u15, u16, u17, u18, u19] wz ⟨_, _, _, _, _, _, _, _, _, _, _, wz, rfl,
              { b := φ.b,
                s0 := fun _ => rfl,
                s1 := fun h0 => φ.s1 (by simpa using h0),
                s2 := fun h0 => φ.s2 (by simpa using h0),
                s3 := fun h0 => φ.s3 (by simpa using h0),
                s4 := fun h0 => φ.s4 (by simpa using h0),
                s5 := fun h0 => φ.s5 (by simpa using h0),
                s6 := fun h0 => φ.s6 (by simpa using h0),
                s7 := fun h0 => φ.s7 (by simpa using h0),
                s8 := fun h0 => φ.s8 (by simpa using h0),
                s9 := fun h0 => φ.s9 (by simpa using h0),
                s10 := fun h0 => φ.s10 (by simpa using h0) }, rfl⟩
            refine hG ?_
            clear hK φ hG
            revert hk
            go_simp
            first | done | exact fun h => h
          case q1 =>
            rintro L vs w' K ⟨u9, u10, u11, u12, u13, u14, u15, u16, u17, u18, u19, wz, rfl, φ, rfl⟩ hL hpre hcl hK G hG
            simp [Region.binds, closedFrom] at hpre hcl
            have e0 := φ.s0 (by simp [hpre])
            subst e0
            have hk := hK [(.int .i64 (a : Int)), (.bool true), u11, u12, u13, u14, u15, u16, u17, u18, u19] wz ⟨_, _, _, _, _, _, _, _, _, _, _, wz, rfl,
              { b := φ.b,
                s0 := fun h0 => φ.s0 (by simpa using h0),
                s1 := fun _ => rfl,
                s2 := fun h0 => φ.s2 (by simpa using h0),
                s3 := fun h0 => φ.s3 (by simpa using h0),
                s4 := fun h0 => φ.s4 (by simpa using h0),
                s5 := fun h0 => φ.s5 (by simpa using h0),
                s6 := fun h0 => φ.s6 (by simpa using h0),
                s7 := fun h0 => φ.s7 (by simpa using h0),
                s8 := fun h0 => φ.s8 (by simpa using h0),
                s9 := fun h0 => φ.s9 (by simpa using h0),
                s10 := fun h0 => φ.s10 (by simpa using h0) }, rfl⟩
            refine hG ?_
            clear hK φ hG
            revert hk
            go_simp
            first | done | exact fun h => h
          case q2 =>
            rintro L vs w' K ⟨u9, u10, u11, u12, u13, u14, u15, u16, u17, u18, u19, wz, rfl, φ, rfl⟩ hL hpre hcl hK G hG
            simp [Region.binds, closedFrom] at hpre hcl
            have e1 := φ.s1 (by simp [hpre])
            subst e1
            have hk := hK [u9, (.bool true), (.bool true), u12, u13, u14, u15, u16, u17, u18, u19] wz ⟨_, _, _, _, _, _, _, _, _, _, _, wz, rfl,
              { b := φ.b,
                s0 := fun h0 => φ.s0 (by simpa using h0),
                s1 := fun h0 => φ.s1 (by simpa using h0),
                s2 := fun _ => rfl,
                s3 := fun h0 => φ.s3 (by simpa using h0),
                s4 := fun h0 => φ.s4 (by simpa using h0),
                s5 := fun h0 => φ.s5 (by simpa using h0),
                s6 := fun h0 => φ.s6 (by simpa using h0),
                s7 := fun h0 => φ.s7 (by simpa using h0),
                s8 := fun h0 => φ.s8 (by simpa using h0),
                s9 := fun h0 => φ.s9 (by simpa using h0),
                s10 := fun h0 => φ.s10 (by simpa using h0) }, rfl⟩
            refine hG ?_
            clear hK φ hG
            revert hk
            go_simp
            first | done | exact fun h => h
          case q3 =>
            rintro L vs w' K ⟨u9, u10, u11, u12, u13, u14, u15, u16, u17, u18, u19, wz, rfl, φ, rfl⟩ hL hpre hcl hK G hG
            simp [Region.binds, closedFrom] at hpre hcl
            have e2 := φ.s2 (by simp [hpre])
            subst e2
            have ce0 := (φ.b.cell (p := ⟨DX, 0, none⟩) ltd).trans d0
            have ce1 := (φ.b.cell (p := ⟨DX, 1, none⟩) ltd).trans d1
            have hk := hK [u9, u10, (.bool true), (.agg #[.int .i64 d.when_, .int .i64 d.which]), u13, u14, u15, u16, u17, u18, u19] wz ⟨_, _, _, _, _, _, _, _, _, _, _, wz, rfl,
              { b := φ.b,
                s0 := fun h0 => φ.s0 (by simpa using h0),
                s1 := fun h0 => φ.s1 (by simpa using h0),
                s2 := fun h0 => φ.s2 (by simpa using h0),
                s3 := fun _ => rfl,
                s4 := fun h0 => φ.s4 (by simpa using h0),
                s5 := fun h0 => φ.s5 (by simpa using h0),
                s6 := fun h0 => φ.s6 (by simpa using h0),
                s7 := fun h0 => φ.s7 (by simpa using h0),
                s8 := fun h0 => φ.s8 (by simpa using h0),
                s9 := fun h0 => φ.s9 (by simpa using h0),
                s10 := fun h0 => φ.s10 (by simpa using h0) }, rfl⟩
            refine hG ?_
            clear hK φ hG
            revert hk
            simp only [yielded, Region.wanted]
            go_simp
            first | done | exact fun h => h
          case q4 =>
            rintro L vs w' K ⟨u9, u10, u11, u12, u13, u14, u15, u16, u17, u18, u19, wz, rfl, φ, rfl⟩ hL hpre hcl hK G hG
            simp [Region.binds, closedFrom] at hpre hcl
            have e2 := φ.s2 (by simp [hpre])
            subst e2
            have hk := hK [u9, u10, (.bool true), u12, (.slice (some ⟨bb, 0, none⟩) n c), u14, u15, u16, u17, u18, u19] wz ⟨_, _, _, _, _, _, _, _, _, _, _, wz, rfl,
              { b := φ.b,
                s0 := fun h0 => φ.s0 (by simpa using h0),
                s1 := fun h0 => φ.s1 (by simpa using h0),
                s2 := fun h0 => φ.s2 (by simpa using h0),
                s3 := fun h0 => φ.s3 (by simpa using h0),
                s4 := fun _ => rfl,
                s5 := fun h0 => φ.s5 (by simpa using h0),
                s6 := fun h0 => φ.s6 (by simpa using h0),
                s7 := fun h0 => φ.s7 (by simpa using h0),
                s8 := fun h0 => φ.s8 (by simpa using h0),
                s9 := fun h0 => φ.s9 (by simpa using h0),
                s10 := fun h0 => φ.s10 (by simpa using h0) }, rfl⟩
            refine hG ?_
            clear hK φ hG
            revert hk
            simp only [yielded, Region.wanted]
            go_simp
            first | done | exact fun h => h
          case q5 =>
            rintro L vs w' K ⟨u9, u10, u11, u12, u13, u14, u15, u16, u17, u18, u19, wz, rfl, φ, rfl⟩ hL hpre hcl hK G hG
            simp [Region.binds, closedFrom] at hpre hcl
            have e2 := φ.s2 (by simp [hpre])
            subst e2
            have hk := hK [u9, u10, (.bool true), u12, u13, (.int .i64 (a : Int)), u15, u16, u17, u18, u19] wz ⟨_, _, _, _, _, _, _, _, _, _, _, wz, rfl,
              { b := φ.b,
                s0 := fun h0 => φ.s0 (by simpa using h0),
                s1 := fun h0 => φ.s1 (by simpa using h0),
                s2 := fun h0 => φ.s2 (by simpa using h0),
                s3 := fun h0 => φ.s3 (by simpa using h0),
                s4 := fun h0 => φ.s4 (by simpa using h0),
                s5 := fun _ => rfl,
                s6 := fun h0 => φ.s6 (by simpa using h0),
                s7 := fun h0 => φ.s7 (by simpa using h0),
                s8 := fun h0 => φ.s8 (by simpa using h0),
                s9 := fun h0 => φ.s9 (by simpa using h0),
                s10 := fun h0 => φ.s10 (by simpa using h0) }, rfl⟩
            refine hG ?_
            clear hK φ hG
            revert hk
            simp only [yielded, Region.wanted]
            go_simp
            first | done | exact fun h => h
          case q6 =>
            rintro L vs w' K ⟨u9, u10, u11, u12, u13, u14, u15, u16, u17, u18, u19, wz, rfl, φ, rfl⟩ hL hpre hcl hK G hG
            simp [Region.binds, closedFrom] at hpre hcl
            have e2 := φ.s2 (by simp [hpre])
            subst e2
            have e5 := φ.s5 (by simp [hpre])
            subst e5
            have hk := hK [u9, u10, (.bool true), u12, u13, (.int .i64 (a : Int)), (.int .i64 (k1 : Int)), u16, u17, u18, u19] wz ⟨_, _, _, _, _, _, _, _, _, _, _, wz, rfl,
              { b := φ.b,
                s0 := fun h0 => φ.s0 (by simpa using h0),
                s1 := fun h0 => φ.s1 (by simpa using h0),
                s2 := fun h0 => φ.s2 (by simpa using h0),
                s3 := fun h0 => φ.s3 (by simpa using h0),
                s4 := fun h0 => φ.s4 (by simpa using h0),
                s5 := fun h0 => φ.s5 (by simpa using h0),
                s6 := fun _ => rfl,
                s7 := fun h0 => φ.s7 (by simpa using h0),
                s8 := fun h0 => φ.s8 (by simpa using h0),
                s9 := fun h0 => φ.s9 (by simpa using h0),
                s10 := fun h0 => φ.s10 (by simpa using h0) }, rfl⟩
            refine hG ?_
            clear hK φ hG
            revert hk
            simp only [yielded, Region.wanted]
            go_simp
            first | done | exact fun h => h
          case q7 =>
            rintro L vs w' K ⟨u9, u10, u11, u12, u13, u14, u15, u16, u17, u18, u19, wz, rfl, φ, rfl⟩ hL hpre hcl hK G hG
            simp [Region.binds, closedFrom] at hpre hcl
            have e2 := φ.s2 (by simp [hpre])
            subst e2
            have e4 := φ.s4 (by simp [hpre])
            subst e4
            have e6 := φ.s6 (by simp [hpre])
            subst e6
            have hk := hK [u9, u10, (.bool true), u12, (.slice (some ⟨bb, 0, none⟩) n c), u14, (.int .i64 (k1 : Int)), (.pointer (some ⟨bb, k1 * 2, none⟩)), u17, u18, u19] wz ⟨_, _, _, _, _, _, _, _, _, _, _, wz, rfl,
              { b := φ.b,
                s0 := fun h0 => φ.s0 (by simpa using h0),
                s1 := fun h0 => φ.s1 (by simpa using h0),
                s2 := fun h0 => φ.s2 (by simpa using h0),
                s3 := fun h0 => φ.s3 (by simpa using h0),
                s4 := fun h0 => φ.s4 (by simpa using h0),
                s5 := fun h0 => φ.s5 (by simpa using h0),
                s6 := fun h0 => φ.s6 (by simpa using h0),
                s7 := fun _ => rfl,
                s8 := fun h0 => φ.s8 (by simpa using h0),
                s9 := fun h0 => φ.s9 (by simpa using h0),
                s10 := fun h0 => φ.s10 (by simpa using h0) }, rfl⟩
            refine hG ?_
            clear hK φ hG
            revert hk
            simp only [yielded, Region.wanted]
            go_simp
            first | done | exact fun h => h
          case q8 =>
            rintro L vs w' K ⟨u9, u10, u11, u12, u13, u14, u15, u16, u17, u18, u19, wz, rfl, φ, rfl⟩ hL hpre hcl hK G hG
            simp [Region.binds, closedFrom] at hpre hcl
            have e2 := φ.s2 (by simp [hpre])
            subst e2
            have e7 := φ.s7 (by simp [hpre])
            subst e7
            have ce0 := (φ.b.cell (p := ⟨bb, k1 * 2, none⟩) (World.block_lt_of_cell? _ _ p0)).trans p0
            have ce1 := (φ.b.cell (p := ⟨bb, k1 * 2 + 1, none⟩) (World.block_lt_of_cell? _ _ p1)).trans p1
            have hk := hK [u9, u10, (.bool true), u12, u13, u14, u15, (.pointer (some ⟨bb, k1 * 2, none⟩)), (.agg #[.int .i64 y.when_, .int .i64 y.which]), u18, u19] wz ⟨_, _, _, _, _, _, _, _, _, _, _, wz, rfl,
              { b := φ.b,
                s0 := fun h0 => φ.s0 (by simpa using h0),
                s1 := fun h0 => φ.s1 (by simpa using h0),
                s2 := fun h0 => φ.s2 (by simpa using h0),
                s3 := fun h0 => φ.s3 (by simpa using h0),
                s4 := fun h0 => φ.s4 (by simpa using h0),
                s5 := fun h0 => φ.s5 (by simpa using h0),
                s6 := fun h0 => φ.s6 (by simpa using h0),
                s7 := fun h0 => φ.s7 (by simpa using h0),
                s8 := fun _ => rfl,
                s9 := fun h0 => φ.s9 (by simpa using h0),
                s10 := fun h0 => φ.s10 (by simpa using h0) }, rfl⟩
            refine hG ?_
            clear hK φ hG
            revert hk
            simp only [yielded, Region.wanted]
            go_simp
            first | done | exact fun h => h
          case q9 =>
            rintro L vs w' K ⟨u9, u10, u11, u12, u13, u14, u15, u16, u17, u18, u19, wz, rfl, φ, rfl⟩ hL hpre hcl hK G hG
            simp [Region.binds, closedFrom] at hpre hcl
            have e2 := φ.s2 (by simp [hpre])
            subst e2
            have e3 := φ.s3 (by simp [hpre])
            subst e3
            have e8 := φ.s8 (by simp [hpre])
            subst e8
            refine step_callg hG wz (by simp only [yielded, Region.wanted]; go_simp) 34 #[.tmp 12, .tmp 17] #[30, 30] rfl #[.agg #[.int .i64 d.when_, .int .i64 d.which], .agg #[.int .i64 y.when_, .int .i64 y.which]] (by simp [Act.eval, Act.puts, Act.put]) (enters_of Try.func34 (by kernel_rfl) rfl) (cL wz) ?_
            rintro e w9 ⟨rfl, hb9⟩
            refine ⟨_, rfl, ?_⟩
            have hk := hK [u9, u10, (.bool true), (.agg #[.int .i64 d.when_, .int .i64 d.which]), u13, u14, u15, u16, (.agg #[.int .i64 y.when_, .int .i64 y.which]), (.bool false), u19] w9 ⟨_, _, _, _, _, _, _, _, _, _, _, w9, rfl,
              { b := φ.b.trans (hb9.mono φ.b.size),
                s0 := fun h0 => φ.s0 (by simpa using h0),
                s1 := fun h0 => φ.s1 (by simpa using h0),
                s2 := fun h0 => φ.s2 (by simpa using h0),
                s3 := fun h0 => φ.s3 (by simpa using h0),
                s4 := fun h0 => φ.s4 (by simpa using h0),
                s5 := fun h0 => φ.s5 (by simpa using h0),
                s6 := fun h0 => φ.s6 (by simpa using h0),
                s7 := fun h0 => φ.s7 (by simpa using h0),
                s8 := fun h0 => φ.s8 (by simpa using h0),
                s9 := fun _ => rfl,
                s10 := fun h0 => φ.s10 (by simpa using h0) }, rfl⟩
            clear hK φ hG
            revert hk
            go_simp
            first | done | exact fun h => h
          case q10 =>
            rintro L vs w' K ⟨u9, u10, u11, u12, u13, u14, u15, u16, u17, u18, u19, wz, rfl, φ, rfl⟩ hL hpre hcl hK G hG
            simp [Region.binds, closedFrom] at hpre hcl
            have e2 := φ.s2 (by simp [hpre])
            subst e2
            have e9 := φ.s9 (by simp [hpre])
            subst e9
            have hk := hK [u9, u10, (.bool true), u12, u13, u14, u15, u16, u17, (.bool false), (.bool false)] wz ⟨_, _, _, _, _, _, _, _, _, _, _, wz, rfl,
              { b := φ.b,
                s0 := fun h0 => φ.s0 (by simpa using h0),
                s1 := fun h0 => φ.s1 (by simpa using h0),
                s2 := fun h0 => φ.s2 (by simpa using h0),
                s3 := fun h0 => φ.s3 (by simpa using h0),
                s4 := fun h0 => φ.s4 (by simpa using h0),
                s5 := fun h0 => φ.s5 (by simpa using h0),
                s6 := fun h0 => φ.s6 (by simpa using h0),
                s7 := fun h0 => φ.s7 (by simpa using h0),
                s8 := fun h0 => φ.s8 (by simpa using h0),
                s9 := fun h0 => φ.s9 (by simpa using h0),
                s10 := fun _ => rfl }, rfl⟩
            refine hG ?_
            clear hK φ hG
            revert hk
            go_simp
            first | done | exact fun h => h
          case hend =>
            rintro vs w' ⟨u9, u10, u11, u12, u13, u14, u15, u16, u17, u18, u19, wz, rfl, φ, rfl⟩ G hG
            obtain rfl := φ.s10 rfl
            have b9 := φ.b
            clear φ
            refine hG ?_
            clear hG
            replace B1 := B1.trans (b9.mono B1.size)
            have d0 := (b9.cell (p := ⟨DX, 0, none⟩) ltd).trans d0
            have d1 := (b9.cell (p := ⟨DX, 1, none⟩) ltd).trans d1
            have ltd := Nat.lt_of_lt_of_le ltd b9.size
            clear b9
            go_simp
            go_wp2_with (at_builtin; refine wpList_as ?_)
            intro _
            have hbz := b0.trans (B1.mono b0.size)
            refine wpList_append_sl _ rfl _ _ 24 rfl W0.heap.size 30 i0 _ 2 16 Try.underlying24 hi hz0 hz1 hz2 rfl (by decide) _ _ _ rfl (World.ownsRow_made wz #[] 0 B1.size (Nat.zero_le _) (by simp)) Du.enc Du.enc_len Du.enc_one (some ⟨bb, 0, none⟩) a c (l.take a) rfl (by rw [List.length_take, HN.out]; omega) (((HS.out.below B1).below bnew).take a) (by unfold maxLen; omega) (by omega) (by simp; have := B1.size; omega) ?_
            intro v1 w1 own1 hg1 hat1
            have B2 := below_append (k := 2) (B1.alloc B1.size _) hg1 (by simp; have := B1.size; omega) (World.ownsRow_made wz #[] 0 B1.size (Nat.zero_le _) (by simp)) (Nat.le_refl _)
            rw [Nat.zero_add, List.nil_append] at own1
            have e0 := (B2.cell (p := ⟨DX, 0, none⟩) ltd0).trans d00
            have e1 := (B2.cell (p := ⟨DX, 1, none⟩) ltd0).trans d10
            obtain ⟨A1, c1, rfl⟩ := own_shape own1
            clear hg1 hat1 d0 d1 ltd
            go_wp2_with (at_builtin; refine wpList_as ?_)
            intro _
            refine wpList_append_own_at _ rfl _ _ 24 rfl W0.heap.size 30 i0 _ 2 16 Try.underlying24 hi hz0 hz1 hz2 rfl (by decide) _ _ _ rfl (own1.alloc _) ⟨w1.heap.size, 0, none⟩ 1 1 [.int .i64 d.when_, .int .i64 d.which] rfl rfl (fun j u hj => cell_new_block w1 _ 30 j u hj) (by intro u hu; simp at hu; rcases hu with rfl | rfl <;> rfl) (by unfold maxLen; omega) (by omega) (by simp; have := B2.size; omega) ?_
            intro v2 w2 own2 hg2 hnil2 hat2
            have B3 := below_append (k := 2) (B2.alloc B2.size _) hg2 (by simp; have := B2.size; omega) (own1.alloc _) (Nat.le_refl _)
            obtain ⟨A2, c2, rfl⟩ := own_shape own2
            clear hg2 hat2 hnil2 own1 e0 e1 B2
            have hcz : 0 ≤ (a : Int) := by omega
            have haz : (a : Int) ≤ (n : Int) := by omega
            obtain ⟨ad, had, hsd⟩ : ∃ ad, (if c = a then some ({ block := bb, off := 0 } : Addr) else some { block := bb, off := a * 2 }) = some ad ∧ Sl 2 Du.enc W0 (some ad) (l.drop a) := by
              by_cases hc : c = a
              · refine ⟨⟨bb, 0, none⟩, by rw [if_pos hc], ?_⟩
                have : l.drop a = [] := List.drop_of_length_le (by rw [HN.out]; omega)
                rw [this]; exact Sl.nil _ _ _ _
              · refine ⟨_, by rw [if_neg hc], ?_⟩
                have := Sl.drop HS.out a
                rwa [Nat.zero_add] at this
            go_wp2_with (at_builtin; refine wpList_as ?_)
            intro _
            refine wpList_append_sl _ rfl _ _ 24 rfl W0.heap.size 30 i0 _ 2 16 Try.underlying24 hi hz0 hz1 hz2 rfl (by decide) _ _ _ rfl own2 Du.enc Du.enc_len Du.enc_one (some ad) (n - a) (c - a) (l.drop a) rfl (by rw [List.length_drop, HN.out]) (hsd.below B3) (by unfold maxLen; omega) (by omega) B3.size ?_
            intro v3 w3 own3 hg3 hat3
            have B4 := below_append (k := 2) B3 hg3 B3.size own2 (Nat.le_refl _)
            obtain ⟨A3, c3, rfl⟩ := own_shape own3
            clear hg3 hat3 own2 B3
            go_wp2_with fail
            go_ret
            rw [← HDX.out]
            have hlist : (l.take a).flatMap Du.enc ++ [.int .i64 d.when_, .int .i64 d.which] ++ (l.drop a).flatMap Du.enc = (putD l d).flatMap Du.enc := by
              rw [← HPUT.out a HA.out HP.out, List.flatMap_append, List.flatMap_append]; simp [Du.enc]
            rw [hlist] at own3
            have hcnt : a + 1 + (n - a) = n + 1 := by omega
            rw [hcnt] at own3 ⊢
            exact ⟨_, rfl, own_weaken' own3 b0.size, b0.trans (B4.mono b0.size)⟩
end Go.Proofs.Ytimhdkgllgdamaa
