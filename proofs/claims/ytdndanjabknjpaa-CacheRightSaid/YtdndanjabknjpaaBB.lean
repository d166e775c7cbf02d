/- The walk of the reference's without. -/
import Derived.Test.YtdndanjabknjpaaBA
namespace Go.Proofs.Ytdndanjabknjpaa
open Go.RowKit Go.Lib

set_option linter.unusedVariables false
attribute [local go_sem] Act.puts
structure WoR (w0 : World) (ab ao n c k m : Nat) (j1 : Int) (ad : Addr) (l : List Ln) (L : Nat → Bool) (u5 u6 u7 u8 u9 u10 u11 u12 u13 u14 u4 : Value) (wz : World) : Prop where
  b : Below w0.heap.size w0 wz
  s0 : L 0 = true → L 4 = false → wz.ownsRow w0.heap.size 32 4 u5 0 []
  s1 : L 1 = true → u6 = .slice (some ⟨ab, ao, none⟩) n c
  s2 : L 2 = true → u7 = .int .i64 (k : Int)
  s3 : L 3 = true → u8 = .slice (some ⟨ab, ao, none⟩) k c
  s4 : L 4 = true → L 9 = false → wz.ownsRow w0.heap.size 32 4 u9 k ((l.take k).flatMap Ln.enc)
  s5 : L 5 = true → u10 = .slice (some ⟨ab, ao, none⟩) n c
  s6 : L 6 = true → u11 = .int .i64 (k : Int)
  s7 : L 7 = true → u12 = .int .i64 j1
  s8 : L 8 = true → u13 = .slice (some ad) m (c - (k + 1))
  s9 : L 9 = true → wz.ownsRow w0.heap.size 32 4 u14 (k + m) ((l.take k).flatMap Ln.enc ++ (l.drop (k + 1)).flatMap Ln.enc)
  s10 : L 10 = true → u4 = u14
def WoRPhi (w0 : World) (ab ao n c k m : Nat) (j1 : Int) (ad : Addr) (l : List Ln) (L : Nat → Bool) (vs : List Value) (w' : World) : Prop :=
  ∃ u5 u6 u7 u8 u9 u10 u11 u12 u13 u14 u4 wz, vs = [u5, u6, u7, u8, u9, u10, u11, u12, u13, u14, u4] ∧ WoR w0 ab ao n c k m j1 ad l L u5 u6 u7 u8 u9 u10 u11 u12 u13 u14 u4 wz ∧ wz = w'

set_option maxHeartbeats 8000000 in
set_option maxRecDepth 100000 in
theorem without_any (A : Option Addr) (n c k : Nat) (l : List Ln) (w : World) (hs : Sl 4 Ln.enc w A l) (hn : l.length = n) (hnc : n ≤ c) (hk : k < n) (hn1 : n ≤ 1000000) :
    Calls Try.prog 35 #[.slice A n c, .int .i64 (k : Int)] w fun e w' => ∃ v, e = .returned v ∧ w'.ownsRow w.heap.size 32 4 v (n - 1) ((l.eraseIdx k).flatMap Ln.enc) ∧ Below w.heap.size w w' := by
  obtain ⟨i0, hi0, hz0, hz1, hz2⟩ := info_parts info32
  obtain ⟨ab, ao, rfl, _⟩ := hs.at_ k (by omega)
  obtain ⟨m, hm⟩ : ∃ m, n = k + m + 1 := ⟨n - k - 1, by omega⟩
  have hm1 : n - 1 = k + m := by omega
  have hlk : (l.take k).length = k := by rw [List.length_take]; omega
  have hlm : (l.drop (k + 1)).length = m := by rw [List.length_drop]; omega
  have hst := Sl.take hs k
  have hsb := Sl.drop hs (k + 1)
  obtain ⟨ad, had, hsb⟩ : ∃ ad, (if c = k + 1 then some ({ block := ab, off := ao } : Addr) else some { block := ab, off := ao + (k + 1) * 4 }) = some ad ∧ Sl 4 Ln.enc w (some ad) (l.drop (k + 1)) := by
    by_cases hc : c = k + 1
    · refine ⟨⟨ab, ao, none⟩, by rw [if_pos hc], ?_⟩
      have : l.drop (k + 1) = [] := List.drop_of_length_le (by omega)
      rw [this]; exact Sl.nil _ _ _ _
    · exact ⟨_, by rw [if_neg hc], hsb⟩
  have hkm : k + m ≤ 1000000 := by omega
  have HKM := Lib.hid hkm
  have hs3 : (n : Int) ≤ (c : Int) := by omega
  have hs4 : (k : Int) ≤ (c : Int) := by omega
  have t2 : n - (k + 1) = m := by omega
  have hkn : (k : Int) + 1 ≤ 1000000 := by omega
  obtain ⟨j1, hj1⟩ : ∃ j1 : Int, (k : Int) + 1 = j1 := ⟨_, rfl⟩
  have hs1 : (0 : Int) ≤ j1 := by omega
  have hs2 : j1 ≤ (n : Int) := by omega
  have t1 : j1.toNat = k + 1 := by omega
  have HWK := Lib.hid (show wrap64 ((k : Int) + 1) = j1 by rw [← hj1]; unfold wrap64; omega)
  have HWK2 := Lib.hid (show IntKind.i64.wrap ((k : Int) + 1) = j1 by rw [← hj1]; exact IntWalk.i64_in _ (by omega))
  clear hj1
  have HE : l.eraseIdx k = l.take k ++ l.drop (k + 1) := List.eraseIdx_eq_take_drop_succ l k
  rw [hm1, HE, List.flatMap_append]
  have HST := Lib.hid (hst.below (Below.refl _ _).drew)
  have HSB := Lib.hid (hsb.below (Below.refl _ _).drew)
  have HLK := Lib.hid hlk
  have HLM := Lib.hid hlm
  clear HE hkn hm hm1 hs hst hsb hlk hlm hn hk hn1 hkm
  have hwk := HWK.out
  have hwk2 := HWK2.out
  go_enter Try.func35, Try.ntmps35
  go_wp2_with fail
  refine wp_region_rg (by kernel_rfl) (by kernel_rfl) [5, 6, 7, 8, 9, 10, 11, 12, 13, 14, 4] (WoRPhi w.drew ab ao n c k m j1 ad l) ?h0 ⟨?q0, ?q1, ?q2, ?q3, ?q4, ?q5, ?q6, ?q7, ?q8, ?q9, ?q10, trivial⟩ ?hend
  case h0 => exact ⟨_, _, _, _, _, _, _, _, _, _, _, _, rfl, ⟨Below.refl _ _, (fun h => by cases h), (fun h => by cases h), (fun h => by cases h), (fun h => by cases h), (fun h => by cases h), (fun h => by cases h), (fun h => by cases h), (fun h => by cases h), (fun h => by cases h), (fun h => by cases h), (fun h => by cases h)⟩, rfl⟩
  case q0 =>
    rintro L vs w' K ⟨u5, u6, u7, u8, u9, u10, u11, u12, u13, u14, u4, wz, rfl, φ, rfl⟩ hL hpre hcl hK G hG
    simp [Region.binds, closedFrom] at hpre hcl
    have L4 : L 4 = false := by
      cases h : L 4 with
      | false => rfl
      | true => simp [h, hL] at hcl
    have L9 : L 9 = false := by
      cases h : L 9 with
      | false => rfl
      | true => simp [h, hL, L4] at hcl
    have hk := hK [(.slice (some ⟨wz.heap.size, 0, none⟩) 0 0), u6, u7, u8, u9, u10, u11, u12, u13, u14, u4] (wz.alloc (.cells #[] 32)) ⟨_, _, _, _, _, _, _, _, _, _, _, (wz.alloc (.cells #[] 32)), rfl,
      { b := φ.b.alloc φ.b.size _,
        s0 := fun _ _ => World.ownsRow_made wz #[] 0 φ.b.size (Nat.zero_le _) (by simp),
        s1 := fun h0 => φ.s1 (by simpa using h0),
        s2 := fun h0 => φ.s2 (by simpa using h0),
        s3 := fun h0 => φ.s3 (by simpa using h0),
        s4 := fun h => by simp [L4] at h,
        s5 := fun h0 => φ.s5 (by simpa using h0),
        s6 := fun h0 => φ.s6 (by simpa using h0),
        s7 := fun h0 => φ.s7 (by simpa using h0),
        s8 := fun h0 => φ.s8 (by simpa using h0),
        s9 := fun h => by simp [L9] at h,
        s10 := fun h0 => φ.s10 (by simpa using h0) }, rfl⟩
    refine hG ?_
    clear hK φ hG
    revert hk
    go_simp
    first | done | exact fun h => h
  case q1 =>
    rintro L vs w' K ⟨u5, u6, u7, u8, u9, u10, u11, u12, u13, u14, u4, wz, rfl, φ, rfl⟩ hL hpre hcl hK G hG
    simp [Region.binds, closedFrom] at hpre hcl
    have hk := hK [u5, (.slice (some ⟨ab, ao, none⟩) n c), u7, u8, u9, u10, u11, u12, u13, u14, u4] wz ⟨_, _, _, _, _, _, _, _, _, _, _, wz, rfl,
      { b := φ.b,
        s0 := fun h0 h1 => φ.s0 (by simpa using h0) (by simpa using h1),
        s1 := fun _ => rfl,
        s2 := fun h0 => φ.s2 (by simpa using h0),
        s3 := fun h0 => φ.s3 (by simpa using h0),
        s4 := fun h0 h1 => φ.s4 (by simpa using h0) (by simpa using h1),
        s5 := fun h0 => φ.s5 (by simpa using h0),
        s6 := fun h0 => φ.s6 (by simpa using h0),
        s7 := fun h0 => φ.s7 (by simpa using h0),
        s8 := fun h0 => φ.s8 (by simpa using h0),
        s9 := fun h0 => φ.s9 (by simpa using h0),
        s10 := fun h0 => φ.s10 (by simpa using h0) }, rfl⟩
    refine hG ?_
    clear hK φ hG
    revert hk
    go_simp
    first | done | exact fun h => h
  case q2 =>
    rintro L vs w' K ⟨u5, u6, u7, u8, u9, u10, u11, u12, u13, u14, u4, wz, rfl, φ, rfl⟩ hL hpre hcl hK G hG
    simp [Region.binds, closedFrom] at hpre hcl
    have hk := hK [u5, u6, (.int .i64 (k : Int)), u8, u9, u10, u11, u12, u13, u14, u4] wz ⟨_, _, _, _, _, _, _, _, _, _, _, wz, rfl,
      { b := φ.b,
        s0 := fun h0 h1 => φ.s0 (by simpa using h0) (by simpa using h1),
        s1 := fun h0 => φ.s1 (by simpa using h0),
        s2 := fun _ => rfl,
        s3 := fun h0 => φ.s3 (by simpa using h0),
        s4 := fun h0 h1 => φ.s4 (by simpa using h0) (by simpa using h1),
        s5 := fun h0 => φ.s5 (by simpa using h0),
        s6 := fun h0 => φ.s6 (by simpa using h0),
        s7 := fun h0 => φ.s7 (by simpa using h0),
        s8 := fun h0 => φ.s8 (by simpa using h0),
        s9 := fun h0 => φ.s9 (by simpa using h0),
        s10 := fun h0 => φ.s10 (by simpa using h0) }, rfl⟩
    refine hG ?_
    clear hK φ hG
    revert hk
    go_simp
    first | done | exact fun h => h
  case q3 =>
    rintro L vs w' K ⟨u5, u6, u7, u8, u9, u10, u11, u12, u13, u14, u4, wz, rfl, φ, rfl⟩ hL hpre hcl hK G hG
    simp [Region.binds, closedFrom] at hpre hcl
    have e1 := φ.s1 (by simp [hpre])
    subst e1
    have e2 := φ.s2 (by simp [hpre])
    subst e2
    have hk := hK [u5, (.slice (some ⟨ab, ao, none⟩) n c), (.int .i64 (k : Int)), (.slice (some ⟨ab, ao, none⟩) k c), u9, u10, u11, u12, u13, u14, u4] wz ⟨_, _, _, _, _, _, _, _, _, _, _, wz, rfl,
      { b := φ.b,
        s0 := fun h0 h1 => φ.s0 (by simpa using h0) (by simpa using h1),
        s1 := fun h0 => φ.s1 (by simpa using h0),
        s2 := fun h0 => φ.s2 (by simpa using h0),
        s3 := fun _ => rfl,
        s4 := fun h0 h1 => φ.s4 (by simpa using h0) (by simpa using h1),
        s5 := fun h0 => φ.s5 (by simpa using h0),
        s6 := fun h0 => φ.s6 (by simpa using h0),
        s7 := fun h0 => φ.s7 (by simpa using h0),
        s8 := fun h0 => φ.s8 (by simpa using h0),
        s9 := fun h0 => φ.s9 (by simpa using h0),
        s10 := fun h0 => φ.s10 (by simpa using h0) }, rfl⟩
    refine hG ?_
    clear hK φ hG
    revert hk
    go_simp
    first | done | exact fun h => h
  case q4 =>
    rintro L vs w' K ⟨u5, u6, u7, u8, u9, u10, u11, u12, u13, u14, u4, wz, rfl, φ, rfl⟩ hL hpre hcl hK G hG
    simp [Region.binds, closedFrom] at hpre hcl
    have e3 := φ.s3 (by simp [hpre])
    subst e3
    have o1 := φ.s0 (by simp [hpre]) hL
    have L9 : L 9 = false := by
      cases h : L 9 with
      | false => rfl
      | true => simp [h, hL] at hcl
    refine hG (step_append_sl wz rfl (.tmp 5) (.tmp 8) 40 rfl w.drew.heap.size 32 i0 _ 4 32 Try.underlying40 hi0 hz0 hz1 hz2 rfl (by decide) u5 0 _ (by simp [Act.eval, Act.puts, Act.put]) o1 Ln.enc Ln.enc_len Ln.enc_one (some ⟨ab, ao, none⟩) k c (l.take k) (by simp [Act.eval, Act.puts, Act.put]) HLK.out (HST.out.below φ.b) (by have := HKM.out; unfold maxLen; omega) (by have := HKM.out; omega) φ.b.size ?_)
    intro v' w9 ownN hgrow hat
    have b9 := below_append φ.b hgrow φ.b.size o1 (Nat.le_refl _)
    rw [Nat.zero_add, List.nil_append] at ownN
    have hk := hK [u5, u6, u7, (.slice (some ⟨ab, ao, none⟩) k c), (v'), u10, u11, u12, u13, u14, u4] w9 ⟨_, _, _, _, _, _, _, _, _, _, _, w9, rfl,
      { b := b9,
        s0 := fun _ h => by simp at h,
        s1 := fun h0 => φ.s1 (by simpa using h0),
        s2 := fun h0 => φ.s2 (by simpa using h0),
        s3 := fun h0 => φ.s3 (by simpa using h0),
        s4 := fun _ _ => ownN,
        s5 := fun h0 => φ.s5 (by simpa using h0),
        s6 := fun h0 => φ.s6 (by simpa using h0),
        s7 := fun h0 => φ.s7 (by simpa using h0),
        s8 := fun h0 => φ.s8 (by simpa using h0),
        s9 := fun h => by simp [L9] at h,
        s10 := fun h0 => φ.s10 (by simpa using h0) }, rfl⟩
    clear hK φ hG
    revert hk
    go_simp
    first | done | exact fun h => h
  case q5 =>
    rintro L vs w' K ⟨u5, u6, u7, u8, u9, u10, u11, u12, u13, u14, u4, wz, rfl, φ, rfl⟩ hL hpre hcl hK G hG
    simp [Region.binds, closedFrom] at hpre hcl
    have hk := hK [u5, u6, u7, u8, u9, (.slice (some ⟨ab, ao, none⟩) n c), u11, u12, u13, u14, u4] wz ⟨_, _, _, _, _, _, _, _, _, _, _, wz, rfl,
      { b := φ.b,
        s0 := fun h0 h1 => φ.s0 (by simpa using h0) (by simpa using h1),
        s1 := fun h0 => φ.s1 (by simpa using h0),
        s2 := fun h0 => φ.s2 (by simpa using h0),
        s3 := fun h0 => φ.s3 (by simpa using h0),
        s4 := fun h0 h1 => φ.s4 (by simpa using h0) (by simpa using h1),
        s5 := fun _ => rfl,
        s6 := fun h0 => φ.s6 (by simpa using h0),
        s7 := fun h0 => φ.s7 (by simpa using h0),
        s8 := fun h0 => φ.s8 (by simpa using h0),
        s9 := fun h0 => φ.s9 (by simpa using h0),
        s10 := fun h0 => φ.s10 (by simpa using h0) }, rfl⟩
    refine hG ?_
    clear hK φ hG
    revert hk
    go_simp
    first | done | exact fun h => h
  case q6 =>
    rintro L vs w' K ⟨u5, u6, u7, u8, u9, u10, u11, u12, u13, u14, u4, wz, rfl, φ, rfl⟩ hL hpre hcl hK G hG
    simp [Region.binds, closedFrom] at hpre hcl
    have hk := hK [u5, u6, u7, u8, u9, u10, (.int .i64 (k : Int)), u12, u13, u14, u4] wz ⟨_, _, _, _, _, _, _, _, _, _, _, wz, rfl,
      { b := φ.b,
        s0 := fun h0 h1 => φ.s0 (by simpa using h0) (by simpa using h1),
        s1 := fun h0 => φ.s1 (by simpa using h0),
        s2 := fun h0 => φ.s2 (by simpa using h0),
        s3 := fun h0 => φ.s3 (by simpa using h0),
        s4 := fun h0 h1 => φ.s4 (by simpa using h0) (by simpa using h1),
        s5 := fun h0 => φ.s5 (by simpa using h0),
        s6 := fun _ => rfl,
        s7 := fun h0 => φ.s7 (by simpa using h0),
        s8 := fun h0 => φ.s8 (by simpa using h0),
        s9 := fun h0 => φ.s9 (by simpa using h0),
        s10 := fun h0 => φ.s10 (by simpa using h0) }, rfl⟩
    refine hG ?_
    clear hK φ hG
    revert hk
    go_simp
    first | done | exact fun h => h
  case q7 =>
    rintro L vs w' K ⟨u5, u6, u7, u8, u9, u10, u11, u12, u13, u14, u4, wz, rfl, φ, rfl⟩ hL hpre hcl hK G hG
    simp [Region.binds, closedFrom] at hpre hcl
    have e6 := φ.s6 (by simp [hpre])
    subst e6
    have hk := hK [u5, u6, u7, u8, u9, u10, (.int .i64 (k : Int)), (.int .i64 j1), u13, u14, u4] wz ⟨_, _, _, _, _, _, _, _, _, _, _, wz, rfl,
      { b := φ.b,
        s0 := fun h0 h1 => φ.s0 (by simpa using h0) (by simpa using h1),
        s1 := fun h0 => φ.s1 (by simpa using h0),
        s2 := fun h0 => φ.s2 (by simpa using h0),
        s3 := fun h0 => φ.s3 (by simpa using h0),
        s4 := fun h0 h1 => φ.s4 (by simpa using h0) (by simpa using h1),
        s5 := fun h0 => φ.s5 (by simpa using h0),
        s6 := fun h0 => φ.s6 (by simpa using h0),
        s7 := fun _ => rfl,
        s8 := fun h0 => φ.s8 (by simpa using h0),
        s9 := fun h0 => φ.s9 (by simpa using h0),
        s10 := fun h0 => φ.s10 (by simpa using h0) }, rfl⟩
    refine hG ?_
    clear hK φ hG
    revert hk
    go_simp
    first | done | exact fun h => h
  case q8 =>
    rintro L vs w' K ⟨u5, u6, u7, u8, u9, u10, u11, u12, u13, u14, u4, wz, rfl, φ, rfl⟩ hL hpre hcl hK G hG
    simp [Region.binds, closedFrom] at hpre hcl
    have e5 := φ.s5 (by simp [hpre])
    subst e5
    have e7 := φ.s7 (by simp [hpre])
    subst e7
    have hk := hK [u5, u6, u7, u8, u9, (.slice (some ⟨ab, ao, none⟩) n c), u11, (.int .i64 j1), (.slice (some ad) m (c - (k + 1))), u14, u4] wz ⟨_, _, _, _, _, _, _, _, _, _, _, wz, rfl,
      { b := φ.b,
        s0 := fun h0 h1 => φ.s0 (by simpa using h0) (by simpa using h1),
        s1 := fun h0 => φ.s1 (by simpa using h0),
        s2 := fun h0 => φ.s2 (by simpa using h0),
        s3 := fun h0 => φ.s3 (by simpa using h0),
        s4 := fun h0 h1 => φ.s4 (by simpa using h0) (by simpa using h1),
        s5 := fun h0 => φ.s5 (by simpa using h0),
        s6 := fun h0 => φ.s6 (by simpa using h0),
        s7 := fun h0 => φ.s7 (by simpa using h0),
        s8 := fun _ => rfl,
        s9 := fun h0 => φ.s9 (by simpa using h0),
        s10 := fun h0 => φ.s10 (by simpa using h0) }, rfl⟩
    refine hG ?_
    clear hK φ hG
    revert hk
    go_simp
    first | done | exact fun h => h
  case q9 =>
    rintro L vs w' K ⟨u5, u6, u7, u8, u9, u10, u11, u12, u13, u14, u4, wz, rfl, φ, rfl⟩ hL hpre hcl hK G hG
    simp [Region.binds, closedFrom] at hpre hcl
    have e8 := φ.s8 (by simp [hpre])
    subst e8
    have o1 := φ.s4 (by simp [hpre]) hL
    have L10 : L 10 = false := by
      cases h : L 10 with
      | false => rfl
      | true => simp [h, hL] at hcl
    refine hG (step_append_sl wz rfl (.tmp 9) (.tmp 13) 40 rfl w.drew.heap.size 32 i0 _ 4 32 Try.underlying40 hi0 hz0 hz1 hz2 rfl (by decide) u9 k _ (by simp [Act.eval, Act.puts, Act.put]) o1 Ln.enc Ln.enc_len Ln.enc_one (some ad) m (c - (k + 1)) (l.drop (k + 1)) (by simp [Act.eval, Act.puts, Act.put]) HLM.out (HSB.out.below φ.b) (by have := HKM.out; unfold maxLen; omega) (by have := HKM.out; omega) φ.b.size ?_)
    intro v' w9 ownN hgrow hat
    have b9 := below_append φ.b hgrow φ.b.size o1 (Nat.le_refl _)
    have hk := hK [u5, u6, u7, u8, u9, u10, u11, u12, (.slice (some ad) m (c - (k + 1))), (v'), u4] w9 ⟨_, _, _, _, _, _, _, _, _, _, _, w9, rfl,
      { b := b9,
        s0 := fun _ h => by simp [hpre] at h,
        s1 := fun h0 => φ.s1 (by simpa using h0),
        s2 := fun h0 => φ.s2 (by simpa using h0),
        s3 := fun h0 => φ.s3 (by simpa using h0),
        s4 := fun _ h => by simp at h,
        s5 := fun h0 => φ.s5 (by simpa using h0),
        s6 := fun h0 => φ.s6 (by simpa using h0),
        s7 := fun h0 => φ.s7 (by simpa using h0),
        s8 := fun h0 => φ.s8 (by simpa using h0),
        s9 := fun _ => ownN,
        s10 := fun h => by simp [L10] at h }, rfl⟩
    clear hK φ hG
    revert hk
    go_simp
    first | done | exact fun h => h
  case q10 =>
    rintro L vs w' K ⟨u5, u6, u7, u8, u9, u10, u11, u12, u13, u14, u4, wz, rfl, φ, rfl⟩ hL hpre hcl hK G hG
    simp [Region.binds, closedFrom] at hpre hcl
    have hk := hK [u5, u6, u7, u8, u9, u10, u11, u12, u13, u14, (u14)] wz ⟨_, _, _, _, _, _, _, _, _, _, _, wz, rfl,
      { b := φ.b,
        s0 := fun h0 h1 => φ.s0 (by simpa using h0) (by simpa using h1),
        s1 := fun h0 => φ.s1 (by simpa using h0),
        s2 := fun h0 => φ.s2 (by simpa using h0),
        s3 := fun h0 => φ.s3 (by simpa using h0),
        s4 := fun h0 h1 => φ.s4 (by simpa using h0) (by simpa using h1),
        s5 := fun h0 => φ.s5 (by simpa using h0),
        s6 := fun h0 => φ.s6 (by simpa using h0),
        s7 := fun h0 => φ.s7 (by simpa using h0),
        s8 := fun h0 => φ.s8 (by simpa using h0),
        s9 := fun h0 => φ.s9 (by simpa using h0),
        s10 := fun _ => rfl }, rfl⟩
    refine hG ?_
    clear hK φ hG
    revert hk
    go_simp
    first | done | exact fun h => h
  case hend =>
    rintro vs w' ⟨u5, u6, u7, u8, u9, u10, u11, u12, u13, u14, u4, wz, rfl, φ, rfl⟩ G hG
    have o9 := φ.s9 rfl
    have b9 := φ.b
    obtain rfl := φ.s10 rfl
    clear φ
    refine hG ?_
    clear hG
    have O9 := Lib.hid o9
    have B9 := Lib.hid ((Below.refl w.heap.size w).drew.trans (b9.mono (Nat.le_refl _)))
    clear o9 b9
    go_simp
    go_wp2_with fail
    go_ret
    exact ⟨_, rfl, O9.out, B9.out⟩
end Go.Proofs.Ytdndanjabknjpaa
