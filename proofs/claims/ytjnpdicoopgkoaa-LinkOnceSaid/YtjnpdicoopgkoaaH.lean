/- Walks of link: Acked. -/
import Derived.Test.YtjnpdicoopgkoaaG
namespace Go.Proofs.Ytjnpdicoopgkoaa
open Go.RowKit Go.Lib
set_option linter.unusedVariables false
attribute [local go_sem] Act.puts

/-- A sender that a call hands back, of memory that the call made; an error. -/
def GaveT (w : World) (s : Snd) (k : Int) (e : Ending) (w' : World) : Prop :=
  ∃ A n c, e = .returned (.tuple #[.agg #[.int .i64 s.next, .slice A n c], .int .i64 k]) ∧ s.out.length = n ∧ Sl 2 Pce.enc w' A s.out ∧ Below w.heap.size w w' ∧ Fresh w A
def ackedS (s : Snd) (t : Int) : Snd × Int :=
  if sRight s = false ∨ t < 0 ∨ s.next < t then (s, 1) else (⟨s.next, s.out.filter fun x => !decide (x.num < t)⟩, 0)
theorem gaveT_ret {w w' : World} {base n c : Nat} {A : Option Addr} {s : Snd} {k : Int} (hn : s.out.length = n) (own : w'.ownsRow base 34 2 (.slice A n c) n (s.out.flatMap Pce.enc)) (hb : w.heap.size + 3 ≤ base) (b : Below w.heap.size w w') :
    GaveT w s k (.returned (.tuple #[.agg #[.int .i64 s.next, .slice A n c], .int .i64 k]))
      ((w'.setCell ⟨w.heap.size + 1 + 1, 0, none⟩ (.int .i64 s.next)).setCell ⟨w.heap.size + 1 + 1, 1, none⟩ (.slice A n c)) := by
  have h1 : w.heap.size + 1 + 1 < base := by omega
  have o2 := ownsRow_setCell_below (a := ⟨w.heap.size + 1 + 1, 1, none⟩) (ownsRow_setCell_below (a := ⟨w.heap.size + 1 + 1, 0, none⟩) own h1 (.int .i64 s.next)) h1 (.slice A n c)
  have b2 := ((b.setCell (p := ⟨w.heap.size + 1 + 1, 0, none⟩) (by show w.heap.size ≤ w.heap.size + 1 + 1; omega) (.int .i64 s.next)).setCell (p := ⟨w.heap.size + 1 + 1, 1, none⟩) (by show w.heap.size ≤ w.heap.size + 1 + 1; omega) (.slice A n c))
  exact ⟨A, n, c, rfl, hn, Sl.of_own Pce.enc_len o2 hn, b2, own_fresh own (by omega)⟩
structure AckR (w0 : World) (H : Nat) (A : Option Addr) (n c : Nat) (s : Snd) (L : Nat → Bool) (u7 u8 u9 u10 u11 u12 u6 : Value) (wz : World) : Prop where
  b : Below w0.heap.size w0 wz
  s0 : L 0 = true → u7 = .pointer (some ⟨H, 0, none⟩)
  s1 : L 1 = true → u8 = .int .i64 s.next
  s2 : L 2 = true → u9 = .pointer (some ⟨H, 1, none⟩)
  s3 : L 3 = true → u10 = .slice A n c
  s4 : L 4 = true → wz.ownsRow w0.heap.size 34 2 u11 n (s.out.flatMap Pce.enc)
  s5 : L 5 = true → u12 = .agg #[.int .i64 s.next, u11]
  x6 : L 6 = true → ∃ X, u6 = .pointer (some ⟨X, 0, none⟩) ∧ w0.heap.size ≤ X ∧ X < wz.heap.size ∧ wz.cell? ⟨X, 0, none⟩ = some (.int .i64 0) ∧ wz.cell? ⟨X, 1, none⟩ = some (.slice none 0 0) ∧ wz.frozen? ⟨X, 0, none⟩ = false ∧ wz.frozen? ⟨X, 1, none⟩ = false
  d6 : L 6 = true → L 4 = true → ∀ X, u6 = .pointer (some ⟨X, 0, none⟩) → u11.ownBlock ≠ some X
def AckRPhi (w0 : World) (H : Nat) (A : Option Addr) (n c : Nat) (s : Snd) (L : Nat → Bool) (vs : List Value) (w' : World) : Prop :=
  ∃ u7 u8 u9 u10 u11 u12 u6 wz, vs = [u7, u8, u9, u10, u11, u12, u6] ∧ AckR w0 H A n c s L u7 u8 u9 u10 u11 u12 u6 wz ∧ w' = if L 7 = true then laidAt u6 (.int .i64 s.next) u11 wz else wz

set_option maxHeartbeats 8000000 in
theorem acked_bad (A : Option Addr) (c n : Nat) (s : Snd) (t : Int) (w : World) (hs : Sl 2 Pce.enc w A s.out) (hn : s.out.length = n) (hn1 : n ≤ 1000000)
    (hr : sRight s = false) :
    Calls Try.prog 8 #[.agg #[.int .i64 s.next, .slice A n c], .int .i64 t] w (GaveT w s 1) := by
  have b0 : Below w.heap.size w (((w.alloc (.cells #[.int .i64 s.next, .slice A n c] 27)).alloc (.cells #[.int .i64 t] 3)).alloc (.cells #[.int .i64 0, .slice none 0 0] 27)).drew := ((((Below.refl _ _).alloc (Nat.le_refl _) _).alloc (by simp) _).alloc (by simp <;> omega) _).drew
  have e0 : (((w.alloc (.cells #[.int .i64 s.next, .slice A n c] 27)).alloc (.cells #[.int .i64 t] 3)).alloc (.cells #[.int .i64 0, .slice none 0 0] 27)).drew.cell? ⟨w.heap.size, 0, none⟩ = some (.int .i64 s.next) := by go_simp
  have e1 : (((w.alloc (.cells #[.int .i64 s.next, .slice A n c] 27)).alloc (.cells #[.int .i64 t] 3)).alloc (.cells #[.int .i64 0, .slice none 0 0] 27)).drew.cell? ⟨w.heap.size, 1, none⟩ = some (.slice A n c) := by go_simp
  have t0 : (((w.alloc (.cells #[.int .i64 s.next, .slice A n c] 27)).alloc (.cells #[.int .i64 t] 3)).alloc (.cells #[.int .i64 0, .slice none 0 0] 27)).drew.cell? ⟨w.heap.size + 1, 0, none⟩ = some (.int .i64 t) := by go_simp
  have r0 : (((w.alloc (.cells #[.int .i64 s.next, .slice A n c] 27)).alloc (.cells #[.int .i64 t] 3)).alloc (.cells #[.int .i64 0, .slice none 0 0] 27)).drew.cell? ⟨w.heap.size + 1 + 1, 0, none⟩ = some (.int .i64 0) := by go_simp
  have r1 : (((w.alloc (.cells #[.int .i64 s.next, .slice A n c] 27)).alloc (.cells #[.int .i64 t] 3)).alloc (.cells #[.int .i64 0, .slice none 0 0] 27)).drew.cell? ⟨w.heap.size + 1 + 1, 1, none⟩ = some (.slice none 0 0) := by go_simp
  have fr0 : (((w.alloc (.cells #[.int .i64 s.next, .slice A n c] 27)).alloc (.cells #[.int .i64 t] 3)).alloc (.cells #[.int .i64 0, .slice none 0 0] 27)).drew.frozen? ⟨w.heap.size + 1 + 1, 0, none⟩ = false := by go_simp
  have fr1 : (((w.alloc (.cells #[.int .i64 s.next, .slice A n c] 27)).alloc (.cells #[.int .i64 t] 3)).alloc (.cells #[.int .i64 0, .slice none 0 0] 27)).drew.frozen? ⟨w.heap.size + 1 + 1, 1, none⟩ = false := by go_simp
  have ltB : w.heap.size < (((w.alloc (.cells #[.int .i64 s.next, .slice A n c] 27)).alloc (.cells #[.int .i64 t] 3)).alloc (.cells #[.int .i64 0, .slice none 0 0] 27)).drew.heap.size := by simp <;> omega
  have ltT : w.heap.size + 1 < (((w.alloc (.cells #[.int .i64 s.next, .slice A n c] 27)).alloc (.cells #[.int .i64 t] 3)).alloc (.cells #[.int .i64 0, .slice none 0 0] 27)).drew.heap.size := by simp <;> omega
  have ltP : w.heap.size + 1 + 1 < (((w.alloc (.cells #[.int .i64 s.next, .slice A n c] 27)).alloc (.cells #[.int .i64 t] 3)).alloc (.cells #[.int .i64 0, .slice none 0 0] 27)).drew.heap.size := by simp <;> omega
  have cC := fun w1 (hb : Below (((w.alloc (.cells #[.int .i64 s.next, .slice A n c] 27)).alloc (.cells #[.int .i64 t] 3)).alloc (.cells #[.int .i64 0, .slice none 0 0] 27)).drew.heap.size (((w.alloc (.cells #[.int .i64 s.next, .slice A n c] 27)).alloc (.cells #[.int .i64 t] 3)).alloc (.cells #[.int .i64 0, .slice none 0 0] 27)).drew w1) => cloneP_any A c n s.out w1 (hs.below (b0.trans (hb.mono b0.size))) hn hn1
  have cR := fun w1 (hb : Below w.heap.size w w1) => sRight_any A c n s w1 (hs.below hb) hn
  rw [hr] at cR
  clear hr
  have HN := Lib.hid hn
  clear hs hn
  go_enter Try.func8, Try.ntmps8
  go_wp2_with fail
  generalize (((w.alloc (.cells #[.int .i64 s.next, .slice A n c] 27)).alloc (.cells #[.int .i64 t] 3)).alloc (.cells #[.int .i64 0, .slice none 0 0] 27)) = W0 at *
  refine wp_region_rg (by kernel_rfl) (by kernel_rfl) [7, 8, 9, 10, 11, 12, 6] (AckRPhi W0.drew w.heap.size A n c s) ?h0 ⟨?q0, ?q1, ?q2, ?q3, ?q4, ?q5, ?q6, ?q7, trivial⟩ ?hend
  case h0 => exact ⟨_, _, _, _, _, _, _, _, rfl, ⟨Below.refl _ _, (fun h => by cases h), (fun h => by cases h), (fun h => by cases h), (fun h => by cases h), (fun h => by cases h), (fun h => by cases h), (fun h => by cases h), (fun h => by cases h)⟩, rfl⟩
  case q0 =>
    rintro L vs w' K ⟨u7, u8, u9, u10, u11, u12, u6, wz, rfl, φ, rfl⟩ hL hpre hcl hK G hG
    simp [Region.binds, closedFrom] at hpre hcl
    have hst : L 7 = false := by
      cases h : L 7 with
      | false => rfl
      | true => simp [h, hL] at hcl
    simp only [hst, Bool.false_eq_true, if_false] at hK hG
    have hk := hK [(.pointer (some ⟨w.heap.size, 0, none⟩)), u8, u9, u10, u11, u12, u6] wz ⟨_, _, _, _, _, _, _, wz, rfl,
      { b := φ.b,
        s0 := fun _ => rfl,
        s1 := fun h0 => φ.s1 (by simpa using h0),
        s2 := fun h0 => φ.s2 (by simpa using h0),
        s3 := fun h0 => φ.s3 (by simpa using h0),
        s4 := fun h0 => φ.s4 (by simpa using h0),
        s5 := fun h0 => φ.s5 (by simpa using h0),
        x6 := fun h0 => φ.x6 (by simpa using h0),
        d6 := fun h0 h1 => φ.d6 (by simpa using h0) (by simpa using h1) }, by simp [hst]⟩
    refine hG ?_
    clear hK φ hG
    revert hk
    go_simp
    first | done | exact fun h => h
  case q1 =>
    rintro L vs w' K ⟨u7, u8, u9, u10, u11, u12, u6, wz, rfl, φ, rfl⟩ hL hpre hcl hK G hG
    simp [Region.binds, closedFrom] at hpre hcl
    have hst : L 7 = false := by
      cases h : L 7 with
      | false => rfl
      | true => simp [h, hL] at hcl
    simp only [hst, Bool.false_eq_true, if_false] at hK hG
    obtain rfl := φ.s0 (by simp [hpre])
    have ce := (φ.b.cell (p := ⟨w.heap.size, 0, none⟩) ltB).trans e0
    have hk := hK [(.pointer (some ⟨w.heap.size, 0, none⟩)), (.int .i64 s.next), u9, u10, u11, u12, u6] wz ⟨_, _, _, _, _, _, _, wz, rfl,
      { b := φ.b,
        s0 := fun h0 => φ.s0 (by simpa using h0),
        s1 := fun _ => rfl,
        s2 := fun h0 => φ.s2 (by simpa using h0),
        s3 := fun h0 => φ.s3 (by simpa using h0),
        s4 := fun h0 => φ.s4 (by simpa using h0),
        s5 := fun h0 => φ.s5 (by simpa using h0),
        x6 := fun h0 => φ.x6 (by simpa using h0),
        d6 := fun h0 h1 => φ.d6 (by simpa using h0) (by simpa using h1) }, by simp [hst]⟩
    refine hG ?_
    clear hK φ hG
    revert hk
    go_simp
    first | done | exact fun h => h
  case q2 =>
    rintro L vs w' K ⟨u7, u8, u9, u10, u11, u12, u6, wz, rfl, φ, rfl⟩ hL hpre hcl hK G hG
    simp [Region.binds, closedFrom] at hpre hcl
    have hst : L 7 = false := by
      cases h : L 7 with
      | false => rfl
      | true => simp [h, hL] at hcl
    simp only [hst, Bool.false_eq_true, if_false] at hK hG
    have hk := hK [u7, u8, (.pointer (some ⟨w.heap.size, 1, none⟩)), u10, u11, u12, u6] wz ⟨_, _, _, _, _, _, _, wz, rfl,
      { b := φ.b,
        s0 := fun h0 => φ.s0 (by simpa using h0),
        s1 := fun h0 => φ.s1 (by simpa using h0),
        s2 := fun _ => rfl,
        s3 := fun h0 => φ.s3 (by simpa using h0),
        s4 := fun h0 => φ.s4 (by simpa using h0),
        s5 := fun h0 => φ.s5 (by simpa using h0),
        x6 := fun h0 => φ.x6 (by simpa using h0),
        d6 := fun h0 h1 => φ.d6 (by simpa using h0) (by simpa using h1) }, by simp [hst]⟩
    refine hG ?_
    clear hK φ hG
    revert hk
    go_simp
    first | done | exact fun h => h
  case q3 =>
    rintro L vs w' K ⟨u7, u8, u9, u10, u11, u12, u6, wz, rfl, φ, rfl⟩ hL hpre hcl hK G hG
    simp [Region.binds, closedFrom] at hpre hcl
    have hst : L 7 = false := by
      cases h : L 7 with
      | false => rfl
      | true => simp [h, hL] at hcl
    simp only [hst, Bool.false_eq_true, if_false] at hK hG
    obtain rfl := φ.s2 (by simp [hpre])
    have ce := (φ.b.cell (p := ⟨w.heap.size, 1, none⟩) ltB).trans e1
    have hk := hK [u7, u8, (.pointer (some ⟨w.heap.size, 1, none⟩)), (.slice A n c), u11, u12, u6] wz ⟨_, _, _, _, _, _, _, wz, rfl,
      { b := φ.b,
        s0 := fun h0 => φ.s0 (by simpa using h0),
        s1 := fun h0 => φ.s1 (by simpa using h0),
        s2 := fun h0 => φ.s2 (by simpa using h0),
        s3 := fun _ => rfl,
        s4 := fun h0 => φ.s4 (by simpa using h0),
        s5 := fun h0 => φ.s5 (by simpa using h0),
        x6 := fun h0 => φ.x6 (by simpa using h0),
        d6 := fun h0 h1 => φ.d6 (by simpa using h0) (by simpa using h1) }, by simp [hst]⟩
    refine hG ?_
    clear hK φ hG
    revert hk
    go_simp
    first | done | exact fun h => h
  case q4 =>
    rintro L vs w' K ⟨u7, u8, u9, u10, u11, u12, u6, wz, rfl, φ, rfl⟩ hL hpre hcl hK G hG
    simp [Region.binds, closedFrom] at hpre hcl
    have hst : L 7 = false := by
      cases h : L 7 with
      | false => rfl
      | true => simp [h, hL] at hcl
    simp only [hst, Bool.false_eq_true, if_false] at hK hG
    obtain rfl := φ.s3 (by simp [hpre])
    have L5 : L 5 = false := by
      cases h : L 5 with
      | false => rfl
      | true => simp [h, hL] at hcl
    refine hG (step_call wz rfl 13 #[.tmp 10] #[25] rfl #[.slice A n c] (by simp [Act.eval, Act.puts, Act.put]) (enters_of Try.func13 (by kernel_rfl) rfl) (cC wz φ.b) ?_)
    rintro e w9 ⟨v', rfl, ownN, hb9⟩
    refine ⟨v', rfl, ?_⟩
    have hk := hK [u7, u8, u9, (.slice A n c), (v'), u12, u6] w9 ⟨_, _, _, _, _, _, _, w9, rfl,
      { b := φ.b.trans (hb9.mono φ.b.size),
        s0 := fun h0 => φ.s0 (by simpa using h0),
        s1 := fun h0 => φ.s1 (by simpa using h0),
        s2 := fun h0 => φ.s2 (by simpa using h0),
        s3 := fun h0 => φ.s3 (by simpa using h0),
        s4 := fun _ => own_weaken' ownN φ.b.size,
        s5 := fun h => by simp [L5] at h,
        x6 := fun h => by
          obtain ⟨X, y1, y2, y3, y4, y5, y6, y7⟩ := φ.x6 (by simpa using h)
          exact ⟨X, y1, y2, Nat.lt_of_lt_of_le y3 hb9.size, (hb9.cell (p := ⟨X, 0, none⟩) y3).trans y4, (hb9.cell (p := ⟨X, 1, none⟩) y3).trans y5, (hb9.frozen (p := ⟨X, 0, none⟩) y3).trans y6, (hb9.frozen (p := ⟨X, 1, none⟩) y3).trans y7⟩,
        d6 := fun h _ X hX hE => by
          obtain ⟨X', y1, y2, y3, _⟩ := φ.x6 (by simpa using h)
          rw [hX] at y1
          obtain rfl : X = X' := by simpa using y1
          have := (ownN.lt _ hE).1
          omega }, by simp [hst]⟩
    clear hK φ hG
    revert hk
    go_simp
    first | done | exact fun h => h
  case q5 =>
    rintro L vs w' K ⟨u7, u8, u9, u10, u11, u12, u6, wz, rfl, φ, rfl⟩ hL hpre hcl hK G hG
    simp [Region.binds, closedFrom] at hpre hcl
    have hst : L 7 = false := by
      cases h : L 7 with
      | false => rfl
      | true => simp [h, hL] at hcl
    simp only [hst, Bool.false_eq_true, if_false] at hK hG
    obtain rfl := φ.s1 (by simp [hpre])
    obtain ⟨A3, c3, rfl⟩ := own_shape (φ.s4 (by simp [hpre]))
    have hk := hK [u7, (.int .i64 s.next), u9, u10, (.slice A3 n c3), (.agg #[.int .i64 s.next, .slice A3 n c3]), u6] wz ⟨_, _, _, _, _, _, _, wz, rfl,
      { b := φ.b,
        s0 := fun h0 => φ.s0 (by simpa using h0),
        s1 := fun h0 => φ.s1 (by simpa using h0),
        s2 := fun h0 => φ.s2 (by simpa using h0),
        s3 := fun h0 => φ.s3 (by simpa using h0),
        s4 := fun h0 => φ.s4 (by simpa using h0),
        s5 := fun _ => rfl,
        x6 := fun h0 => φ.x6 (by simpa using h0),
        d6 := fun h0 h1 => φ.d6 (by simpa using h0) (by simpa using h1) }, by simp [hst]⟩
    refine hG ?_
    clear hK φ hG
    revert hk
    go_simp
    first | done | exact fun h => h
  case q6 =>
    rintro L vs w' K ⟨u7, u8, u9, u10, u11, u12, u6, wz, rfl, φ, rfl⟩ hL hpre hcl hK G hG
    simp [Region.binds, closedFrom] at hpre hcl
    have hst : L 7 = false := by
      cases h : L 7 with
      | false => rfl
      | true => simp [h, hL] at hcl
    simp only [hst, Bool.false_eq_true, if_false] at hK hG
    have hk := hK [u7, u8, u9, u10, u11, u12, (.pointer (some ⟨wz.heap.size, 0, none⟩))] (wz.alloc (.cells #[.int .i64 0, .slice none 0 0] 27)) ⟨_, _, _, _, _, _, _, (wz.alloc (.cells #[.int .i64 0, .slice none 0 0] 27)), rfl,
      { b := φ.b.alloc φ.b.size _,
        s0 := fun h0 => φ.s0 (by simpa using h0),
        s1 := fun h0 => φ.s1 (by simpa using h0),
        s2 := fun h0 => φ.s2 (by simpa using h0),
        s3 := fun h0 => φ.s3 (by simpa using h0),
        s4 := fun h0 => (φ.s4 (by simpa using h0)).alloc _,
        s5 := fun h0 => φ.s5 (by simpa using h0),
        x6 := fun _ => ⟨wz.heap.size, rfl, φ.b.size, by simp, by go_simp, by go_simp, by go_simp, by go_simp⟩,
        d6 := fun _ h0 X hX e => by
          obtain rfl : wz.heap.size = X := by simpa using hX
          exact Nat.lt_irrefl _ ((φ.s4 (by simpa using h0)).lt _ e).2 }, by simp [hst]⟩
    refine hG ?_
    clear hK φ hG
    revert hk
    go_simp
    first | done | exact fun h => h
  case q7 =>
    rintro L vs w' K ⟨u7, u8, u9, u10, u11, u12, u6, wz, rfl, φ, rfl⟩ hL hpre hcl hK G hG
    simp [Region.binds, closedFrom] at hpre hcl
    simp only [hL, Bool.false_eq_true, if_false] at hK hG
    obtain ⟨A3, c3, rfl⟩ := own_shape (φ.s4 (by simp [hpre]))
    obtain rfl := φ.s5 (by simp [hpre])
    obtain ⟨X, rfl, x2, x3, x4, x5, x6, x7⟩ := φ.x6 (by simp [hpre])
    have hk := hK [u7, u8, u9, u10, (.slice A3 n c3), (.agg #[.int .i64 s.next, .slice A3 n c3]), (.pointer (some ⟨X, 0, none⟩))] ((wz.setCell ⟨X, 0, none⟩ (.int .i64 s.next)).setCell ⟨X, 1, none⟩ (.slice A3 n c3)) ⟨_, _, _, _, _, _, _, wz, rfl,
      { b := φ.b,
        s0 := fun h0 => φ.s0 (by simpa using h0),
        s1 := fun h0 => φ.s1 (by simpa using h0),
        s2 := fun h0 => φ.s2 (by simpa using h0),
        s3 := fun h0 => φ.s3 (by simpa using h0),
        s4 := fun h0 => φ.s4 (by simpa using h0),
        s5 := fun h0 => φ.s5 (by simpa using h0),
        x6 := fun h0 => φ.x6 (by simpa using h0),
        d6 := fun h0 h1 => φ.d6 (by simpa using h0) (by simpa using h1) }, by simp [laidAt]⟩
    refine hG ?_
    clear hK φ hG
    revert hk
    go_simp
    first | done | exact fun h => h
  case hend =>
    rintro vs w' ⟨u7, u8, u9, u10, u11, u12, u6, wz, rfl, φ, rfl⟩ G hG
    have o4 := φ.s4 rfl
    have b9 := φ.b
    obtain ⟨A3, c3, rfl⟩ := own_shape o4
    obtain ⟨X7, rfl, x2, x3, x4, x5, x6, x7⟩ := φ.x6 rfl
    have ne7 := φ.d6 rfl rfl X7 rfl
    clear φ
    have hst : decide (7 < 8) = true := rfl
    simp only [List.size_toArray, List.length_cons, List.length_nil, Nat.zero_add, Nat.reduceAdd, hst, if_true, laidAt] at hG
    have CP : Copied W0.drew ((wz.setCell ⟨X7, 0, none⟩ (.int .i64 s.next)).setCell ⟨X7, 1, none⟩ (.slice A3 n c3)) X7 s n A3 c3 :=
      ⟨by go_simp, by go_simp, by go_simp, by go_simp, x2, by simpa using x3, ownsRow_setCell_other (a := ⟨X7, 1, none⟩) (ownsRow_setCell_other (a := ⟨X7, 0, none⟩) o4 ne7 _) ne7 _, ne7, (b9.setCell x2 _).setCell x2 _⟩
    clear hst o4 b9 x2 x3 x4 x5 x6 x7 ne7
    refine hG ?_
    clear hG
    generalize (wz.setCell ⟨X7, 0, none⟩ (.int .i64 s.next)).setCell ⟨X7, 1, none⟩ (.slice A3 n c3) = w2 at *
    obtain ⟨x0, x1, f0, f1, lo, hi, own, ne, b9⟩ := CP
    have qP : w.heap.size + 1 + 1 < X7 := Nat.lt_of_lt_of_le ltP lo
    have loS : w.heap.size + 3 ≤ W0.drew.heap.size := by omega
    replace e0 := (b9.cell (p := ⟨w.heap.size, 0, none⟩) (World.block_lt_of_cell? _ _ e0)).trans e0
    replace e1 := (b9.cell (p := ⟨w.heap.size, 1, none⟩) (World.block_lt_of_cell? _ _ e1)).trans e1
    replace t0 := (b9.cell (p := ⟨w.heap.size + 1, 0, none⟩) (World.block_lt_of_cell? _ _ t0)).trans t0
    replace r0 := (b9.cell (p := ⟨w.heap.size + 1 + 1, 0, none⟩) (World.block_lt_of_cell? _ _ r0)).trans r0
    replace r1 := (b9.cell (p := ⟨w.heap.size + 1 + 1, 1, none⟩) (World.block_lt_of_cell? _ _ r1)).trans r1
    replace fr0 := (b9.frozen (p := ⟨w.heap.size + 1 + 1, 0, none⟩) ltP).trans fr0
    replace fr1 := (b9.frozen (p := ⟨w.heap.size + 1 + 1, 1, none⟩) ltP).trans fr1
    replace ltB := Nat.lt_of_lt_of_le ltB b9.size
    replace ltT := Nat.lt_of_lt_of_le ltT b9.size
    replace ltP := Nat.lt_of_lt_of_le ltP b9.size
    replace b0 := b0.trans (b9.mono b0.size)
    clear b9 cC
    go_wp2_with fail
    refine (cR _ b0).mono ?_
    rintro e w3 ⟨rfl, hb3⟩
    replace e0 := (hb3.cell (p := ⟨w.heap.size, 0, none⟩) (World.block_lt_of_cell? _ _ e0)).trans e0
    replace e1 := (hb3.cell (p := ⟨w.heap.size, 1, none⟩) (World.block_lt_of_cell? _ _ e1)).trans e1
    replace t0 := (hb3.cell (p := ⟨w.heap.size + 1, 0, none⟩) (World.block_lt_of_cell? _ _ t0)).trans t0
    replace r0 := (hb3.cell (p := ⟨w.heap.size + 1 + 1, 0, none⟩) (World.block_lt_of_cell? _ _ r0)).trans r0
    replace r1 := (hb3.cell (p := ⟨w.heap.size + 1 + 1, 1, none⟩) (World.block_lt_of_cell? _ _ r1)).trans r1
    replace x0 := (hb3.cell (p := ⟨X7, 0, none⟩) (World.block_lt_of_cell? _ _ x0)).trans x0
    replace x1 := (hb3.cell (p := ⟨X7, 1, none⟩) (World.block_lt_of_cell? _ _ x1)).trans x1
    replace fr0 := (hb3.frozen (p := ⟨w.heap.size + 1 + 1, 0, none⟩) ltP).trans fr0
    replace fr1 := (hb3.frozen (p := ⟨w.heap.size + 1 + 1, 1, none⟩) ltP).trans fr1
    replace f0 := (hb3.frozen (p := ⟨X7, 0, none⟩) hi).trans f0
    replace f1 := (hb3.frozen (p := ⟨X7, 1, none⟩) hi).trans f1
    replace ltB := Nat.lt_of_lt_of_le ltB hb3.size
    replace ltT := Nat.lt_of_lt_of_le ltT hb3.size
    replace ltP := Nat.lt_of_lt_of_le ltP hb3.size
    replace hi := Nat.lt_of_lt_of_le hi hb3.size
    replace own := own_below own hb3
    replace b0 := b0.trans (hb3.mono b0.size)
    clear hb3
    go_wp2_with fail
    exact bodyPost_ret (v := .tuple #[.agg #[.int .i64 s.next, .slice A3 n c3], .int .i64 1]) (by simp [results, Try.results8, go_sem, r0, r1]) rfl (gaveT_ret HN.out own loS b0)

set_option maxHeartbeats 8000000 in
theorem acked_neg (A : Option Addr) (c n : Nat) (s : Snd) (t : Int) (w : World) (hs : Sl 2 Pce.enc w A s.out) (hn : s.out.length = n) (hn1 : n ≤ 1000000)
    (hr : sRight s = true) (ht : t < 0) :
    Calls Try.prog 8 #[.agg #[.int .i64 s.next, .slice A n c], .int .i64 t] w (GaveT w s 1) := by
  have b0 : Below w.heap.size w (((w.alloc (.cells #[.int .i64 s.next, .slice A n c] 27)).alloc (.cells #[.int .i64 t] 3)).alloc (.cells #[.int .i64 0, .slice none 0 0] 27)).drew := ((((Below.refl _ _).alloc (Nat.le_refl _) _).alloc (by simp) _).alloc (by simp <;> omega) _).drew
  have e0 : (((w.alloc (.cells #[.int .i64 s.next, .slice A n c] 27)).alloc (.cells #[.int .i64 t] 3)).alloc (.cells #[.int .i64 0, .slice none 0 0] 27)).drew.cell? ⟨w.heap.size, 0, none⟩ = some (.int .i64 s.next) := by go_simp
  have e1 : (((w.alloc (.cells #[.int .i64 s.next, .slice A n c] 27)).alloc (.cells #[.int .i64 t] 3)).alloc (.cells #[.int .i64 0, .slice none 0 0] 27)).drew.cell? ⟨w.heap.size, 1, none⟩ = some (.slice A n c) := by go_simp
  have t0 : (((w.alloc (.cells #[.int .i64 s.next, .slice A n c] 27)).alloc (.cells #[.int .i64 t] 3)).alloc (.cells #[.int .i64 0, .slice none 0 0] 27)).drew.cell? ⟨w.heap.size + 1, 0, none⟩ = some (.int .i64 t) := by go_simp
  have r0 : (((w.alloc (.cells #[.int .i64 s.next, .slice A n c] 27)).alloc (.cells #[.int .i64 t] 3)).alloc (.cells #[.int .i64 0, .slice none 0 0] 27)).drew.cell? ⟨w.heap.size + 1 + 1, 0, none⟩ = some (.int .i64 0) := by go_simp
  have r1 : (((w.alloc (.cells #[.int .i64 s.next, .slice A n c] 27)).alloc (.cells #[.int .i64 t] 3)).alloc (.cells #[.int .i64 0, .slice none 0 0] 27)).drew.cell? ⟨w.heap.size + 1 + 1, 1, none⟩ = some (.slice none 0 0) := by go_simp
  have fr0 : (((w.alloc (.cells #[.int .i64 s.next, .slice A n c] 27)).alloc (.cells #[.int .i64 t] 3)).alloc (.cells #[.int .i64 0, .slice none 0 0] 27)).drew.frozen? ⟨w.heap.size + 1 + 1, 0, none⟩ = false := by go_simp
  have fr1 : (((w.alloc (.cells #[.int .i64 s.next, .slice A n c] 27)).alloc (.cells #[.int .i64 t] 3)).alloc (.cells #[.int .i64 0, .slice none 0 0] 27)).drew.frozen? ⟨w.heap.size + 1 + 1, 1, none⟩ = false := by go_simp
  have ltB : w.heap.size < (((w.alloc (.cells #[.int .i64 s.next, .slice A n c] 27)).alloc (.cells #[.int .i64 t] 3)).alloc (.cells #[.int .i64 0, .slice none 0 0] 27)).drew.heap.size := by simp <;> omega
  have ltT : w.heap.size + 1 < (((w.alloc (.cells #[.int .i64 s.next, .slice A n c] 27)).alloc (.cells #[.int .i64 t] 3)).alloc (.cells #[.int .i64 0, .slice none 0 0] 27)).drew.heap.size := by simp <;> omega
  have ltP : w.heap.size + 1 + 1 < (((w.alloc (.cells #[.int .i64 s.next, .slice A n c] 27)).alloc (.cells #[.int .i64 t] 3)).alloc (.cells #[.int .i64 0, .slice none 0 0] 27)).drew.heap.size := by simp <;> omega
  have cC := fun w1 (hb : Below (((w.alloc (.cells #[.int .i64 s.next, .slice A n c] 27)).alloc (.cells #[.int .i64 t] 3)).alloc (.cells #[.int .i64 0, .slice none 0 0] 27)).drew.heap.size (((w.alloc (.cells #[.int .i64 s.next, .slice A n c] 27)).alloc (.cells #[.int .i64 t] 3)).alloc (.cells #[.int .i64 0, .slice none 0 0] 27)).drew w1) => cloneP_any A c n s.out w1 (hs.below (b0.trans (hb.mono b0.size))) hn hn1
  have cR := fun w1 (hb : Below w.heap.size w w1) => sRight_any A c n s w1 (hs.below hb) hn
  rw [hr] at cR
  have zt : decide (t < 0) = true := decide_eq_true ht
  clear hr ht
  have HN := Lib.hid hn
  clear hs hn
  go_enter Try.func8, Try.ntmps8
  go_wp2_with fail
  generalize (((w.alloc (.cells #[.int .i64 s.next, .slice A n c] 27)).alloc (.cells #[.int .i64 t] 3)).alloc (.cells #[.int .i64 0, .slice none 0 0] 27)) = W0 at *
  refine wp_region_rg (by kernel_rfl) (by kernel_rfl) [7, 8, 9, 10, 11, 12, 6] (AckRPhi W0.drew w.heap.size A n c s) ?h0 ⟨?q0, ?q1, ?q2, ?q3, ?q4, ?q5, ?q6, ?q7, trivial⟩ ?hend
  case h0 => exact ⟨_, _, _, _, _, _, _, _, rfl, ⟨Below.refl _ _, (fun h => by cases h), (fun h => by cases h), (fun h => by cases h), (fun h => by cases h), (fun h => by cases h), (fun h => by cases h), (fun h => by cases h), (fun h => by cases h)⟩, rfl⟩
  case q0 =>
    rintro L vs w' K ⟨u7, u8, u9, u10, u11, u12, u6, wz, rfl, φ, rfl⟩ hL hpre hcl hK G hG
    simp [Region.binds, closedFrom] at hpre hcl
    have hst : L 7 = false := by
      cases h : L 7 with
      | false => rfl
      | true => simp [h, hL] at hcl
    simp only [hst, Bool.false_eq_true, if_false] at hK hG
    have hk := hK [(.pointer (some ⟨w.heap.size, 0, none⟩)), u8, u9, u10, u11, u12, u6] wz ⟨_, _, _, _, _, _, _, wz, rfl,
      { b := φ.b,
        s0 := fun _ => rfl,
        s1 := fun h0 => φ.s1 (by simpa using h0),
        s2 := fun h0 => φ.s2 (by simpa using h0),
        s3 := fun h0 => φ.s3 (by simpa using h0),
        s4 := fun h0 => φ.s4 (by simpa using h0),
        s5 := fun h0 => φ.s5 (by simpa using h0),
        x6 := fun h0 => φ.x6 (by simpa using h0),
        d6 := fun h0 h1 => φ.d6 (by simpa using h0) (by simpa using h1) }, by simp [hst]⟩
    refine hG ?_
    clear hK φ hG
    revert hk
    go_simp
    first | done | exact fun h => h
  case q1 =>
    rintro L vs w' K ⟨u7, u8, u9, u10, u11, u12, u6, wz, rfl, φ, rfl⟩ hL hpre hcl hK G hG
    simp [Region.binds, closedFrom] at hpre hcl
    have hst : L 7 = false := by
      cases h : L 7 with
      | false => rfl
      | true => simp [h, hL] at hcl
    simp only [hst, Bool.false_eq_true, if_false] at hK hG
    obtain rfl := φ.s0 (by simp [hpre])
    have ce := (φ.b.cell (p := ⟨w.heap.size, 0, none⟩) ltB).trans e0
    have hk := hK [(.pointer (some ⟨w.heap.size, 0, none⟩)), (.int .i64 s.next), u9, u10, u11, u12, u6] wz ⟨_, _, _, _, _, _, _, wz, rfl,
      { b := φ.b,
        s0 := fun h0 => φ.s0 (by simpa using h0),
        s1 := fun _ => rfl,
        s2 := fun h0 => φ.s2 (by simpa using h0),
        s3 := fun h0 => φ.s3 (by simpa using h0),
        s4 := fun h0 => φ.s4 (by simpa using h0),
        s5 := fun h0 => φ.s5 (by simpa using h0),
        x6 := fun h0 => φ.x6 (by simpa using h0),
        d6 := fun h0 h1 => φ.d6 (by simpa using h0) (by simpa using h1) }, by simp [hst]⟩
    refine hG ?_
    clear hK φ hG
    revert hk
    go_simp
    first | done | exact fun h => h
  case q2 =>
    rintro L vs w' K ⟨u7, u8, u9, u10, u11, u12, u6, wz, rfl, φ, rfl⟩ hL hpre hcl hK G hG
    simp [Region.binds, closedFrom] at hpre hcl
    have hst : L 7 = false := by
      cases h : L 7 with
      | false => rfl
      | true => simp [h, hL] at hcl
    simp only [hst, Bool.false_eq_true, if_false] at hK hG
    have hk := hK [u7, u8, (.pointer (some ⟨w.heap.size, 1, none⟩)), u10, u11, u12, u6] wz ⟨_, _, _, _, _, _, _, wz, rfl,
      { b := φ.b,
        s0 := fun h0 => φ.s0 (by simpa using h0),
        s1 := fun h0 => φ.s1 (by simpa using h0),
        s2 := fun _ => rfl,
        s3 := fun h0 => φ.s3 (by simpa using h0),
        s4 := fun h0 => φ.s4 (by simpa using h0),
        s5 := fun h0 => φ.s5 (by simpa using h0),
        x6 := fun h0 => φ.x6 (by simpa using h0),
        d6 := fun h0 h1 => φ.d6 (by simpa using h0) (by simpa using h1) }, by simp [hst]⟩
    refine hG ?_
    clear hK φ hG
    revert hk
    go_simp
    first | done | exact fun h => h
  case q3 =>
    rintro L vs w' K ⟨u7, u8, u9, u10, u11, u12, u6, wz, rfl, φ, rfl⟩ hL hpre hcl hK G hG
    simp [Region.binds, closedFrom] at hpre hcl
    have hst : L 7 = false := by
      cases h : L 7 with
      | false => rfl
      | true => simp [h, hL] at hcl
    simp only [hst, Bool.false_eq_true, if_false] at hK hG
    obtain rfl := φ.s2 (by simp [hpre])
    have ce := (φ.b.cell (p := ⟨w.heap.size, 1, none⟩) ltB).trans e1
    have hk := hK [u7, u8, (.pointer (some ⟨w.heap.size, 1, none⟩)), (.slice A n c), u11, u12, u6] wz ⟨_, _, _, _, _, _, _, wz, rfl,
      { b := φ.b,
        s0 := fun h0 => φ.s0 (by simpa using h0),
        s1 := fun h0 => φ.s1 (by simpa using h0),
        s2 := fun h0 => φ.s2 (by simpa using h0),
        s3 := fun _ => rfl,
        s4 := fun h0 => φ.s4 (by simpa using h0),
        s5 := fun h0 => φ.s5 (by simpa using h0),
        x6 := fun h0 => φ.x6 (by simpa using h0),
        d6 := fun h0 h1 => φ.d6 (by simpa using h0) (by simpa using h1) }, by simp [hst]⟩
    refine hG ?_
    clear hK φ hG
    revert hk
    go_simp
    first | done | exact fun h => h
  case q4 =>
    rintro L vs w' K ⟨u7, u8, u9, u10, u11, u12, u6, wz, rfl, φ, rfl⟩ hL hpre hcl hK G hG
    simp [Region.binds, closedFrom] at hpre hcl
    have hst : L 7 = false := by
      cases h : L 7 with
      | false => rfl
      | true => simp [h, hL] at hcl
    simp only [hst, Bool.false_eq_true, if_false] at hK hG
    obtain rfl := φ.s3 (by simp [hpre])
    have L5 : L 5 = false := by
      cases h : L 5 with
      | false => rfl
      | true => simp [h, hL] at hcl
    refine hG (step_call wz rfl 13 #[.tmp 10] #[25] rfl #[.slice A n c] (by simp [Act.eval, Act.puts, Act.put]) (enters_of Try.func13 (by kernel_rfl) rfl) (cC wz φ.b) ?_)
    rintro e w9 ⟨v', rfl, ownN, hb9⟩
    refine ⟨v', rfl, ?_⟩
    have hk := hK [u7, u8, u9, (.slice A n c), (v'), u12, u6] w9 ⟨_, _, _, _, _, _, _, w9, rfl,
      { b := φ.b.trans (hb9.mono φ.b.size),
        s0 := fun h0 => φ.s0 (by simpa using h0),
        s1 := fun h0 => φ.s1 (by simpa using h0),
        s2 := fun h0 => φ.s2 (by simpa using h0),
        s3 := fun h0 => φ.s3 (by simpa using h0),
        s4 := fun _ => own_weaken' ownN φ.b.size,
        s5 := fun h => by simp [L5] at h,
        x6 := fun h => by
          obtain ⟨X, y1, y2, y3, y4, y5, y6, y7⟩ := φ.x6 (by simpa using h)
          exact ⟨X, y1, y2, Nat.lt_of_lt_of_le y3 hb9.size, (hb9.cell (p := ⟨X, 0, none⟩) y3).trans y4, (hb9.cell (p := ⟨X, 1, none⟩) y3).trans y5, (hb9.frozen (p := ⟨X, 0, none⟩) y3).trans y6, (hb9.frozen (p := ⟨X, 1, none⟩) y3).trans y7⟩,
        d6 := fun h _ X hX hE => by
          obtain ⟨X', y1, y2, y3, _⟩ := φ.x6 (by simpa using h)
          rw [hX] at y1
          obtain rfl : X = X' := by simpa using y1
          have := (ownN.lt _ hE).1
          omega }, by simp [hst]⟩
    clear hK φ hG
    revert hk
    go_simp
    first | done | exact fun h => h
  case q5 =>
    rintro L vs w' K ⟨u7, u8, u9, u10, u11, u12, u6, wz, rfl, φ, rfl⟩ hL hpre hcl hK G hG
    simp [Region.binds, closedFrom] at hpre hcl
    have hst : L 7 = false := by
      cases h : L 7 with
      | false => rfl
      | true => simp [h, hL] at hcl
    simp only [hst, Bool.false_eq_true, if_false] at hK hG
    obtain rfl := φ.s1 (by simp [hpre])
    obtain ⟨A3, c3, rfl⟩ := own_shape (φ.s4 (by simp [hpre]))
    have hk := hK [u7, (.int .i64 s.next), u9, u10, (.slice A3 n c3), (.agg #[.int .i64 s.next, .slice A3 n c3]), u6] wz ⟨_, _, _, _, _, _, _, wz, rfl,
      { b := φ.b,
        s0 := fun h0 => φ.s0 (by simpa using h0),
        s1 := fun h0 => φ.s1 (by simpa using h0),
        s2 := fun h0 => φ.s2 (by simpa using h0),
        s3 := fun h0 => φ.s3 (by simpa using h0),
        s4 := fun h0 => φ.s4 (by simpa using h0),
        s5 := fun _ => rfl,
        x6 := fun h0 => φ.x6 (by simpa using h0),
        d6 := fun h0 h1 => φ.d6 (by simpa using h0) (by simpa using h1) }, by simp [hst]⟩
    refine hG ?_
    clear hK φ hG
    revert hk
    go_simp
    first | done | exact fun h => h
  case q6 =>
    rintro L vs w' K ⟨u7, u8, u9, u10, u11, u12, u6, wz, rfl, φ, rfl⟩ hL hpre hcl hK G hG
    simp [Region.binds, closedFrom] at hpre hcl
    have hst : L 7 = false := by
      cases h : L 7 with
      | false => rfl
      | true => simp [h, hL] at hcl
    simp only [hst, Bool.false_eq_true, if_false] at hK hG
    have hk := hK [u7, u8, u9, u10, u11, u12, (.pointer (some ⟨wz.heap.size, 0, none⟩))] (wz.alloc (.cells #[.int .i64 0, .slice none 0 0] 27)) ⟨_, _, _, _, _, _, _, (wz.alloc (.cells #[.int .i64 0, .slice none 0 0] 27)), rfl,
      { b := φ.b.alloc φ.b.size _,
        s0 := fun h0 => φ.s0 (by simpa using h0),
        s1 := fun h0 => φ.s1 (by simpa using h0),
        s2 := fun h0 => φ.s2 (by simpa using h0),
        s3 := fun h0 => φ.s3 (by simpa using h0),
        s4 := fun h0 => (φ.s4 (by simpa using h0)).alloc _,
        s5 := fun h0 => φ.s5 (by simpa using h0),
        x6 := fun _ => ⟨wz.heap.size, rfl, φ.b.size, by simp, by go_simp, by go_simp, by go_simp, by go_simp⟩,
        d6 := fun _ h0 X hX e => by
          obtain rfl : wz.heap.size = X := by simpa using hX
          exact Nat.lt_irrefl _ ((φ.s4 (by simpa using h0)).lt _ e).2 }, by simp [hst]⟩
    refine hG ?_
    clear hK φ hG
    revert hk
    go_simp
    first | done | exact fun h => h
  case q7 =>
    rintro L vs w' K ⟨u7, u8, u9, u10, u11, u12, u6, wz, rfl, φ, rfl⟩ hL hpre hcl hK G hG
    simp [Region.binds, closedFrom] at hpre hcl
    simp only [hL, Bool.false_eq_true, if_false] at hK hG
    obtain ⟨A3, c3, rfl⟩ := own_shape (φ.s4 (by simp [hpre]))
    obtain rfl := φ.s5 (by simp [hpre])
    obtain ⟨X, rfl, x2, x3, x4, x5, x6, x7⟩ := φ.x6 (by simp [hpre])
    have hk := hK [u7, u8, u9, u10, (.slice A3 n c3), (.agg #[.int .i64 s.next, .slice A3 n c3]), (.pointer (some ⟨X, 0, none⟩))] ((wz.setCell ⟨X, 0, none⟩ (.int .i64 s.next)).setCell ⟨X, 1, none⟩ (.slice A3 n c3)) ⟨_, _, _, _, _, _, _, wz, rfl,
      { b := φ.b,
        s0 := fun h0 => φ.s0 (by simpa using h0),
        s1 := fun h0 => φ.s1 (by simpa using h0),
        s2 := fun h0 => φ.s2 (by simpa using h0),
        s3 := fun h0 => φ.s3 (by simpa using h0),
        s4 := fun h0 => φ.s4 (by simpa using h0),
        s5 := fun h0 => φ.s5 (by simpa using h0),
        x6 := fun h0 => φ.x6 (by simpa using h0),
        d6 := fun h0 h1 => φ.d6 (by simpa using h0) (by simpa using h1) }, by simp [laidAt]⟩
    refine hG ?_
    clear hK φ hG
    revert hk
    go_simp
    first | done | exact fun h => h
  case hend =>
    rintro vs w' ⟨u7, u8, u9, u10, u11, u12, u6, wz, rfl, φ, rfl⟩ G hG
    have o4 := φ.s4 rfl
    have b9 := φ.b
    obtain ⟨A3, c3, rfl⟩ := own_shape o4
    obtain ⟨X7, rfl, x2, x3, x4, x5, x6, x7⟩ := φ.x6 rfl
    have ne7 := φ.d6 rfl rfl X7 rfl
    clear φ
    have hst : decide (7 < 8) = true := rfl
    simp only [List.size_toArray, List.length_cons, List.length_nil, Nat.zero_add, Nat.reduceAdd, hst, if_true, laidAt] at hG
    have CP : Copied W0.drew ((wz.setCell ⟨X7, 0, none⟩ (.int .i64 s.next)).setCell ⟨X7, 1, none⟩ (.slice A3 n c3)) X7 s n A3 c3 :=
      ⟨by go_simp, by go_simp, by go_simp, by go_simp, x2, by simpa using x3, ownsRow_setCell_other (a := ⟨X7, 1, none⟩) (ownsRow_setCell_other (a := ⟨X7, 0, none⟩) o4 ne7 _) ne7 _, ne7, (b9.setCell x2 _).setCell x2 _⟩
    clear hst o4 b9 x2 x3 x4 x5 x6 x7 ne7
    refine hG ?_
    clear hG
    generalize (wz.setCell ⟨X7, 0, none⟩ (.int .i64 s.next)).setCell ⟨X7, 1, none⟩ (.slice A3 n c3) = w2 at *
    obtain ⟨x0, x1, f0, f1, lo, hi, own, ne, b9⟩ := CP
    have qP : w.heap.size + 1 + 1 < X7 := Nat.lt_of_lt_of_le ltP lo
    have loS : w.heap.size + 3 ≤ W0.drew.heap.size := by omega
    replace e0 := (b9.cell (p := ⟨w.heap.size, 0, none⟩) (World.block_lt_of_cell? _ _ e0)).trans e0
    replace e1 := (b9.cell (p := ⟨w.heap.size, 1, none⟩) (World.block_lt_of_cell? _ _ e1)).trans e1
    replace t0 := (b9.cell (p := ⟨w.heap.size + 1, 0, none⟩) (World.block_lt_of_cell? _ _ t0)).trans t0
    replace r0 := (b9.cell (p := ⟨w.heap.size + 1 + 1, 0, none⟩) (World.block_lt_of_cell? _ _ r0)).trans r0
    replace r1 := (b9.cell (p := ⟨w.heap.size + 1 + 1, 1, none⟩) (World.block_lt_of_cell? _ _ r1)).trans r1
    replace fr0 := (b9.frozen (p := ⟨w.heap.size + 1 + 1, 0, none⟩) ltP).trans fr0
    replace fr1 := (b9.frozen (p := ⟨w.heap.size + 1 + 1, 1, none⟩) ltP).trans fr1
    replace ltB := Nat.lt_of_lt_of_le ltB b9.size
    replace ltT := Nat.lt_of_lt_of_le ltT b9.size
    replace ltP := Nat.lt_of_lt_of_le ltP b9.size
    replace b0 := b0.trans (b9.mono b0.size)
    clear b9 cC
    go_wp2_with fail
    refine (cR _ b0).mono ?_
    rintro e w3 ⟨rfl, hb3⟩
    replace e0 := (hb3.cell (p := ⟨w.heap.size, 0, none⟩) (World.block_lt_of_cell? _ _ e0)).trans e0
    replace e1 := (hb3.cell (p := ⟨w.heap.size, 1, none⟩) (World.block_lt_of_cell? _ _ e1)).trans e1
    replace t0 := (hb3.cell (p := ⟨w.heap.size + 1, 0, none⟩) (World.block_lt_of_cell? _ _ t0)).trans t0
    replace r0 := (hb3.cell (p := ⟨w.heap.size + 1 + 1, 0, none⟩) (World.block_lt_of_cell? _ _ r0)).trans r0
    replace r1 := (hb3.cell (p := ⟨w.heap.size + 1 + 1, 1, none⟩) (World.block_lt_of_cell? _ _ r1)).trans r1
    replace x0 := (hb3.cell (p := ⟨X7, 0, none⟩) (World.block_lt_of_cell? _ _ x0)).trans x0
    replace x1 := (hb3.cell (p := ⟨X7, 1, none⟩) (World.block_lt_of_cell? _ _ x1)).trans x1
    replace fr0 := (hb3.frozen (p := ⟨w.heap.size + 1 + 1, 0, none⟩) ltP).trans fr0
    replace fr1 := (hb3.frozen (p := ⟨w.heap.size + 1 + 1, 1, none⟩) ltP).trans fr1
    replace f0 := (hb3.frozen (p := ⟨X7, 0, none⟩) hi).trans f0
    replace f1 := (hb3.frozen (p := ⟨X7, 1, none⟩) hi).trans f1
    replace ltB := Nat.lt_of_lt_of_le ltB hb3.size
    replace ltT := Nat.lt_of_lt_of_le ltT hb3.size
    replace ltP := Nat.lt_of_lt_of_le ltP hb3.size
    replace hi := Nat.lt_of_lt_of_le hi hb3.size
    replace own := own_below own hb3
    replace b0 := b0.trans (hb3.mono b0.size)
    clear hb3
    go_wp2_with fail
    exact bodyPost_ret (v := .tuple #[.agg #[.int .i64 s.next, .slice A3 n c3], .int .i64 1]) (by simp [results, Try.results8, go_sem, r0, r1]) rfl (gaveT_ret HN.out own loS b0)

set_option maxHeartbeats 8000000 in
theorem acked_over (A : Option Addr) (c n : Nat) (s : Snd) (t : Int) (w : World) (hs : Sl 2 Pce.enc w A s.out) (hn : s.out.length = n) (hn1 : n ≤ 1000000)
    (hr : sRight s = true) (ht : 0 ≤ t) (ht2 : s.next < t) :
    Calls Try.prog 8 #[.agg #[.int .i64 s.next, .slice A n c], .int .i64 t] w (GaveT w s 1) := by
  have b0 : Below w.heap.size w (((w.alloc (.cells #[.int .i64 s.next, .slice A n c] 27)).alloc (.cells #[.int .i64 t] 3)).alloc (.cells #[.int .i64 0, .slice none 0 0] 27)).drew := ((((Below.refl _ _).alloc (Nat.le_refl _) _).alloc (by simp) _).alloc (by simp <;> omega) _).drew
  have e0 : (((w.alloc (.cells #[.int .i64 s.next, .slice A n c] 27)).alloc (.cells #[.int .i64 t] 3)).alloc (.cells #[.int .i64 0, .slice none 0 0] 27)).drew.cell? ⟨w.heap.size, 0, none⟩ = some (.int .i64 s.next) := by go_simp
  have e1 : (((w.alloc (.cells #[.int .i64 s.next, .slice A n c] 27)).alloc (.cells #[.int .i64 t] 3)).alloc (.cells #[.int .i64 0, .slice none 0 0] 27)).drew.cell? ⟨w.heap.size, 1, none⟩ = some (.slice A n c) := by go_simp
  have t0 : (((w.alloc (.cells #[.int .i64 s.next, .slice A n c] 27)).alloc (.cells #[.int .i64 t] 3)).alloc (.cells #[.int .i64 0, .slice none 0 0] 27)).drew.cell? ⟨w.heap.size + 1, 0, none⟩ = some (.int .i64 t) := by go_simp
  have r0 : (((w.alloc (.cells #[.int .i64 s.next, .slice A n c] 27)).alloc (.cells #[.int .i64 t] 3)).alloc (.cells #[.int .i64 0, .slice none 0 0] 27)).drew.cell? ⟨w.heap.size + 1 + 1, 0, none⟩ = some (.int .i64 0) := by go_simp
  have r1 : (((w.alloc (.cells #[.int .i64 s.next, .slice A n c] 27)).alloc (.cells #[.int .i64 t] 3)).alloc (.cells #[.int .i64 0, .slice none 0 0] 27)).drew.cell? ⟨w.heap.size + 1 + 1, 1, none⟩ = some (.slice none 0 0) := by go_simp
  have fr0 : (((w.alloc (.cells #[.int .i64 s.next, .slice A n c] 27)).alloc (.cells #[.int .i64 t] 3)).alloc (.cells #[.int .i64 0, .slice none 0 0] 27)).drew.frozen? ⟨w.heap.size + 1 + 1, 0, none⟩ = false := by go_simp
  have fr1 : (((w.alloc (.cells #[.int .i64 s.next, .slice A n c] 27)).alloc (.cells #[.int .i64 t] 3)).alloc (.cells #[.int .i64 0, .slice none 0 0] 27)).drew.frozen? ⟨w.heap.size + 1 + 1, 1, none⟩ = false := by go_simp
  have ltB : w.heap.size < (((w.alloc (.cells #[.int .i64 s.next, .slice A n c] 27)).alloc (.cells #[.int .i64 t] 3)).alloc (.cells #[.int .i64 0, .slice none 0 0] 27)).drew.heap.size := by simp <;> omega
  have ltT : w.heap.size + 1 < (((w.alloc (.cells #[.int .i64 s.next, .slice A n c] 27)).alloc (.cells #[.int .i64 t] 3)).alloc (.cells #[.int .i64 0, .slice none 0 0] 27)).drew.heap.size := by simp <;> omega
  have ltP : w.heap.size + 1 + 1 < (((w.alloc (.cells #[.int .i64 s.next, .slice A n c] 27)).alloc (.cells #[.int .i64 t] 3)).alloc (.cells #[.int .i64 0, .slice none 0 0] 27)).drew.heap.size := by simp <;> omega
  have cC := fun w1 (hb : Below (((w.alloc (.cells #[.int .i64 s.next, .slice A n c] 27)).alloc (.cells #[.int .i64 t] 3)).alloc (.cells #[.int .i64 0, .slice none 0 0] 27)).drew.heap.size (((w.alloc (.cells #[.int .i64 s.next, .slice A n c] 27)).alloc (.cells #[.int .i64 t] 3)).alloc (.cells #[.int .i64 0, .slice none 0 0] 27)).drew w1) => cloneP_any A c n s.out w1 (hs.below (b0.trans (hb.mono b0.size))) hn hn1
  have cR := fun w1 (hb : Below w.heap.size w w1) => sRight_any A c n s w1 (hs.below hb) hn
  rw [hr] at cR
  have zt : decide (t < 0) = false := decide_eq_false (by omega)
  have zu : decide (s.next < t) = true := decide_eq_true ht2
  clear hr ht ht2
  have HN := Lib.hid hn
  clear hs hn
  go_enter Try.func8, Try.ntmps8
  go_wp2_with fail
  generalize (((w.alloc (.cells #[.int .i64 s.next, .slice A n c] 27)).alloc (.cells #[.int .i64 t] 3)).alloc (.cells #[.int .i64 0, .slice none 0 0] 27)) = W0 at *
  refine wp_region_rg (by kernel_rfl) (by kernel_rfl) [7, 8, 9, 10, 11, 12, 6] (AckRPhi W0.drew w.heap.size A n c s) ?h0 ⟨?q0, ?q1, ?q2, ?q3, ?q4, ?q5, ?q6, ?q7, trivial⟩ ?hend
  case h0 => exact ⟨_, _, _, _, _, _, _, _, rfl, ⟨Below.refl _ _, (fun h => by cases h), (fun h => by cases h), (fun h => by cases h), (fun h => by cases h), (fun h => by cases h), (fun h => by cases h), (fun h => by cases h), (fun h => by cases h)⟩, rfl⟩
  case q0 =>
    rintro L vs w' K ⟨u7, u8, u9, u10, u11, u12, u6, wz, rfl, φ, rfl⟩ hL hpre hcl hK G hG
    simp [Region.binds, closedFrom] at hpre hcl
    have hst : L 7 = false := by
      cases h : L 7 with
      | false => rfl
      | true => simp [h, hL] at hcl
    simp only [hst, Bool.false_eq_true, if_false] at hK hG
    have hk := hK [(.pointer (some ⟨w.heap.size, 0, none⟩)), u8, u9, u10, u11, u12, u6] wz ⟨_, _, _, _, _, _, _, wz, rfl,
      { b := φ.b,
        s0 := fun _ => rfl,
        s1 := fun h0 => φ.s1 (by simpa using h0),
        s2 := fun h0 => φ.s2 (by simpa using h0),
        s3 := fun h0 => φ.s3 (by simpa using h0),
        s4 := fun h0 => φ.s4 (by simpa using h0),
        s5 := fun h0 => φ.s5 (by simpa using h0),
        x6 := fun h0 => φ.x6 (by simpa using h0),
        d6 := fun h0 h1 => φ.d6 (by simpa using h0) (by simpa using h1) }, by simp [hst]⟩
    refine hG ?_
    clear hK φ hG
    revert hk
    go_simp
    first | done | exact fun h => h
  case q1 =>
    rintro L vs w' K ⟨u7, u8, u9, u10, u11, u12, u6, wz, rfl, φ, rfl⟩ hL hpre hcl hK G hG
    simp [Region.binds, closedFrom] at hpre hcl
    have hst : L 7 = false := by
      cases h : L 7 with
      | false => rfl
      | true => simp [h, hL] at hcl
    simp only [hst, Bool.false_eq_true, if_false] at hK hG
    obtain rfl := φ.s0 (by simp [hpre])
    have ce := (φ.b.cell (p := ⟨w.heap.size, 0, none⟩) ltB).trans e0
    have hk := hK [(.pointer (some ⟨w.heap.size, 0, none⟩)), (.int .i64 s.next), u9, u10, u11, u12, u6] wz ⟨_, _, _, _, _, _, _, wz, rfl,
      { b := φ.b,
        s0 := fun h0 => φ.s0 (by simpa using h0),
        s1 := fun _ => rfl,
        s2 := fun h0 => φ.s2 (by simpa using h0),
        s3 := fun h0 => φ.s3 (by simpa using h0),
        s4 := fun h0 => φ.s4 (by simpa using h0),
        s5 := fun h0 => φ.s5 (by simpa using h0),
        x6 := fun h0 => φ.x6 (by simpa using h0),
        d6 := fun h0 h1 => φ.d6 (by simpa using h0) (by simpa using h1) }, by simp [hst]⟩
    refine hG ?_
    clear hK φ hG
    revert hk
    go_simp
    first | done | exact fun h => h
  case q2 =>
    rintro L vs w' K ⟨u7, u8, u9, u10, u11, u12, u6, wz, rfl, φ, rfl⟩ hL hpre hcl hK G hG
    simp [Region.binds, closedFrom] at hpre hcl
    have hst : L 7 = false := by
      cases h : L 7 with
      | false => rfl
      | true => simp [h, hL] at hcl
    simp only [hst, Bool.false_eq_true, if_false] at hK hG
    have hk := hK [u7, u8, (.pointer (some ⟨w.heap.size, 1, none⟩)), u10, u11, u12, u6] wz ⟨_, _, _, _, _, _, _, wz, rfl,
      { b := φ.b,
        s0 := fun h0 => φ.s0 (by simpa using h0),
        s1 := fun h0 => φ.s1 (by simpa using h0),
        s2 := fun _ => rfl,
        s3 := fun h0 => φ.s3 (by simpa using h0),
        s4 := fun h0 => φ.s4 (by simpa using h0),
        s5 := fun h0 => φ.s5 (by simpa using h0),
        x6 := fun h0 => φ.x6 (by simpa using h0),
        d6 := fun h0 h1 => φ.d6 (by simpa using h0) (by simpa using h1) }, by simp [hst]⟩
    refine hG ?_
    clear hK φ hG
    revert hk
    go_simp
    first | done | exact fun h => h
  case q3 =>
    rintro L vs w' K ⟨u7, u8, u9, u10, u11, u12, u6, wz, rfl, φ, rfl⟩ hL hpre hcl hK G hG
    simp [Region.binds, closedFrom] at hpre hcl
    have hst : L 7 = false := by
      cases h : L 7 with
      | false => rfl
      | true => simp [h, hL] at hcl
    simp only [hst, Bool.false_eq_true, if_false] at hK hG
    obtain rfl := φ.s2 (by simp [hpre])
    have ce := (φ.b.cell (p := ⟨w.heap.size, 1, none⟩) ltB).trans e1
    have hk := hK [u7, u8, (.pointer (some ⟨w.heap.size, 1, none⟩)), (.slice A n c), u11, u12, u6] wz ⟨_, _, _, _, _, _, _, wz, rfl,
      { b := φ.b,
        s0 := fun h0 => φ.s0 (by simpa using h0),
        s1 := fun h0 => φ.s1 (by simpa using h0),
        s2 := fun h0 => φ.s2 (by simpa using h0),
        s3 := fun _ => rfl,
        s4 := fun h0 => φ.s4 (by simpa using h0),
        s5 := fun h0 => φ.s5 (by simpa using h0),
        x6 := fun h0 => φ.x6 (by simpa using h0),
        d6 := fun h0 h1 => φ.d6 (by simpa using h0) (by simpa using h1) }, by simp [hst]⟩
    refine hG ?_
    clear hK φ hG
    revert hk
    go_simp
    first | done | exact fun h => h
  case q4 =>
    rintro L vs w' K ⟨u7, u8, u9, u10, u11, u12, u6, wz, rfl, φ, rfl⟩ hL hpre hcl hK G hG
    simp [Region.binds, closedFrom] at hpre hcl
    have hst : L 7 = false := by
      cases h : L 7 with
      | false => rfl
      | true => simp [h, hL] at hcl
    simp only [hst, Bool.false_eq_true, if_false] at hK hG
    obtain rfl := φ.s3 (by simp [hpre])
    have L5 : L 5 = false := by
      cases h : L 5 with
      | false => rfl
      | true => simp [h, hL] at hcl
    refine hG (step_call wz rfl 13 #[.tmp 10] #[25] rfl #[.slice A n c] (by simp [Act.eval, Act.puts, Act.put]) (enters_of Try.func13 (by kernel_rfl) rfl) (cC wz φ.b) ?_)
    rintro e w9 ⟨v', rfl, ownN, hb9⟩
    refine ⟨v', rfl, ?_⟩
    have hk := hK [u7, u8, u9, (.slice A n c), (v'), u12, u6] w9 ⟨_, _, _, _, _, _, _, w9, rfl,
      { b := φ.b.trans (hb9.mono φ.b.size),
        s0 := fun h0 => φ.s0 (by simpa using h0),
        s1 := fun h0 => φ.s1 (by simpa using h0),
        s2 := fun h0 => φ.s2 (by simpa using h0),
        s3 := fun h0 => φ.s3 (by simpa using h0),
        s4 := fun _ => own_weaken' ownN φ.b.size,
        s5 := fun h => by simp [L5] at h,
        x6 := fun h => by
          obtain ⟨X, y1, y2, y3, y4, y5, y6, y7⟩ := φ.x6 (by simpa using h)
          exact ⟨X, y1, y2, Nat.lt_of_lt_of_le y3 hb9.size, (hb9.cell (p := ⟨X, 0, none⟩) y3).trans y4, (hb9.cell (p := ⟨X, 1, none⟩) y3).trans y5, (hb9.frozen (p := ⟨X, 0, none⟩) y3).trans y6, (hb9.frozen (p := ⟨X, 1, none⟩) y3).trans y7⟩,
        d6 := fun h _ X hX hE => by
          obtain ⟨X', y1, y2, y3, _⟩ := φ.x6 (by simpa using h)
          rw [hX] at y1
          obtain rfl : X = X' := by simpa using y1
          have := (ownN.lt _ hE).1
          omega }, by simp [hst]⟩
    clear hK φ hG
    revert hk
    go_simp
    first | done | exact fun h => h
  case q5 =>
    rintro L vs w' K ⟨u7, u8, u9, u10, u11, u12, u6, wz, rfl, φ, rfl⟩ hL hpre hcl hK G hG
    simp [Region.binds, closedFrom] at hpre hcl
    have hst : L 7 = false := by
      cases h : L 7 with
      | false => rfl
      | true => simp [h, hL] at hcl
    simp only [hst, Bool.false_eq_true, if_false] at hK hG
    obtain rfl := φ.s1 (by simp [hpre])
    obtain ⟨A3, c3, rfl⟩ := own_shape (φ.s4 (by simp [hpre]))
    have hk := hK [u7, (.int .i64 s.next), u9, u10, (.slice A3 n c3), (.agg #[.int .i64 s.next, .slice A3 n c3]), u6] wz ⟨_, _, _, _, _, _, _, wz, rfl,
      { b := φ.b,
        s0 := fun h0 => φ.s0 (by simpa using h0),
        s1 := fun h0 => φ.s1 (by simpa using h0),
        s2 := fun h0 => φ.s2 (by simpa using h0),
        s3 := fun h0 => φ.s3 (by simpa using h0),
        s4 := fun h0 => φ.s4 (by simpa using h0),
        s5 := fun _ => rfl,
        x6 := fun h0 => φ.x6 (by simpa using h0),
        d6 := fun h0 h1 => φ.d6 (by simpa using h0) (by simpa using h1) }, by simp [hst]⟩
    refine hG ?_
    clear hK φ hG
    revert hk
    go_simp
    first | done | exact fun h => h
  case q6 =>
    rintro L vs w' K ⟨u7, u8, u9, u10, u11, u12, u6, wz, rfl, φ, rfl⟩ hL hpre hcl hK G hG
    simp [Region.binds, closedFrom] at hpre hcl
    have hst : L 7 = false := by
      cases h : L 7 with
      | false => rfl
      | true => simp [h, hL] at hcl
    simp only [hst, Bool.false_eq_true, if_false] at hK hG
    have hk := hK [u7, u8, u9, u10, u11, u12, (.pointer (some ⟨wz.heap.size, 0, none⟩))] (wz.alloc (.cells #[.int .i64 0, .slice none 0 0] 27)) ⟨_, _, _, _, _, _, _, (wz.alloc (.cells #[.int .i64 0, .slice none 0 0] 27)), rfl,
      { b := φ.b.alloc φ.b.size _,
        s0 := fun h0 => φ.s0 (by simpa using h0),
        s1 := fun h0 => φ.s1 (by simpa using h0),
        s2 := fun h0 => φ.s2 (by simpa using h0),
        s3 := fun h0 => φ.s3 (by simpa using h0),
        s4 := fun h0 => (φ.s4 (by simpa using h0)).alloc _,
        s5 := fun h0 => φ.s5 (by simpa using h0),
        x6 := fun _ => ⟨wz.heap.size, rfl, φ.b.size, by simp, by go_simp, by go_simp, by go_simp, by go_simp⟩,
        d6 := fun _ h0 X hX e => by
          obtain rfl : wz.heap.size = X := by simpa using hX
          exact Nat.lt_irrefl _ ((φ.s4 (by simpa using h0)).lt _ e).2 }, by simp [hst]⟩
    refine hG ?_
    clear hK φ hG
    revert hk
    go_simp
    first | done | exact fun h => h
  case q7 =>
    rintro L vs w' K ⟨u7, u8, u9, u10, u11, u12, u6, wz, rfl, φ, rfl⟩ hL hpre hcl hK G hG
    simp [Region.binds, closedFrom] at hpre hcl
    simp only [hL, Bool.false_eq_true, if_false] at hK hG
    obtain ⟨A3, c3, rfl⟩ := own_shape (φ.s4 (by simp [hpre]))
    obtain rfl := φ.s5 (by simp [hpre])
    obtain ⟨X, rfl, x2, x3, x4, x5, x6, x7⟩ := φ.x6 (by simp [hpre])
    have hk := hK [u7, u8, u9, u10, (.slice A3 n c3), (.agg #[.int .i64 s.next, .slice A3 n c3]), (.pointer (some ⟨X, 0, none⟩))] ((wz.setCell ⟨X, 0, none⟩ (.int .i64 s.next)).setCell ⟨X, 1, none⟩ (.slice A3 n c3)) ⟨_, _, _, _, _, _, _, wz, rfl,
      { b := φ.b,
        s0 := fun h0 => φ.s0 (by simpa using h0),
        s1 := fun h0 => φ.s1 (by simpa using h0),
        s2 := fun h0 => φ.s2 (by simpa using h0),
        s3 := fun h0 => φ.s3 (by simpa using h0),
        s4 := fun h0 => φ.s4 (by simpa using h0),
        s5 := fun h0 => φ.s5 (by simpa using h0),
        x6 := fun h0 => φ.x6 (by simpa using h0),
        d6 := fun h0 h1 => φ.d6 (by simpa using h0) (by simpa using h1) }, by simp [laidAt]⟩
    refine hG ?_
    clear hK φ hG
    revert hk
    go_simp
    first | done | exact fun h => h
  case hend =>
    rintro vs w' ⟨u7, u8, u9, u10, u11, u12, u6, wz, rfl, φ, rfl⟩ G hG
    have o4 := φ.s4 rfl
    have b9 := φ.b
    obtain ⟨A3, c3, rfl⟩ := own_shape o4
    obtain ⟨X7, rfl, x2, x3, x4, x5, x6, x7⟩ := φ.x6 rfl
    have ne7 := φ.d6 rfl rfl X7 rfl
    clear φ
    have hst : decide (7 < 8) = true := rfl
    simp only [List.size_toArray, List.length_cons, List.length_nil, Nat.zero_add, Nat.reduceAdd, hst, if_true, laidAt] at hG
    have CP : Copied W0.drew ((wz.setCell ⟨X7, 0, none⟩ (.int .i64 s.next)).setCell ⟨X7, 1, none⟩ (.slice A3 n c3)) X7 s n A3 c3 :=
      ⟨by go_simp, by go_simp, by go_simp, by go_simp, x2, by simpa using x3, ownsRow_setCell_other (a := ⟨X7, 1, none⟩) (ownsRow_setCell_other (a := ⟨X7, 0, none⟩) o4 ne7 _) ne7 _, ne7, (b9.setCell x2 _).setCell x2 _⟩
    clear hst o4 b9 x2 x3 x4 x5 x6 x7 ne7
    refine hG ?_
    clear hG
    generalize (wz.setCell ⟨X7, 0, none⟩ (.int .i64 s.next)).setCell ⟨X7, 1, none⟩ (.slice A3 n c3) = w2 at *
    obtain ⟨x0, x1, f0, f1, lo, hi, own, ne, b9⟩ := CP
    have qP : w.heap.size + 1 + 1 < X7 := Nat.lt_of_lt_of_le ltP lo
    have loS : w.heap.size + 3 ≤ W0.drew.heap.size := by omega
    replace e0 := (b9.cell (p := ⟨w.heap.size, 0, none⟩) (World.block_lt_of_cell? _ _ e0)).trans e0
    replace e1 := (b9.cell (p := ⟨w.heap.size, 1, none⟩) (World.block_lt_of_cell? _ _ e1)).trans e1
    replace t0 := (b9.cell (p := ⟨w.heap.size + 1, 0, none⟩) (World.block_lt_of_cell? _ _ t0)).trans t0
    replace r0 := (b9.cell (p := ⟨w.heap.size + 1 + 1, 0, none⟩) (World.block_lt_of_cell? _ _ r0)).trans r0
    replace r1 := (b9.cell (p := ⟨w.heap.size + 1 + 1, 1, none⟩) (World.block_lt_of_cell? _ _ r1)).trans r1
    replace fr0 := (b9.frozen (p := ⟨w.heap.size + 1 + 1, 0, none⟩) ltP).trans fr0
    replace fr1 := (b9.frozen (p := ⟨w.heap.size + 1 + 1, 1, none⟩) ltP).trans fr1
    replace ltB := Nat.lt_of_lt_of_le ltB b9.size
    replace ltT := Nat.lt_of_lt_of_le ltT b9.size
    replace ltP := Nat.lt_of_lt_of_le ltP b9.size
    replace b0 := b0.trans (b9.mono b0.size)
    clear b9 cC
    go_wp2_with fail
    refine (cR _ b0).mono ?_
    rintro e w3 ⟨rfl, hb3⟩
    replace e0 := (hb3.cell (p := ⟨w.heap.size, 0, none⟩) (World.block_lt_of_cell? _ _ e0)).trans e0
    replace e1 := (hb3.cell (p := ⟨w.heap.size, 1, none⟩) (World.block_lt_of_cell? _ _ e1)).trans e1
    replace t0 := (hb3.cell (p := ⟨w.heap.size + 1, 0, none⟩) (World.block_lt_of_cell? _ _ t0)).trans t0
    replace r0 := (hb3.cell (p := ⟨w.heap.size + 1 + 1, 0, none⟩) (World.block_lt_of_cell? _ _ r0)).trans r0
    replace r1 := (hb3.cell (p := ⟨w.heap.size + 1 + 1, 1, none⟩) (World.block_lt_of_cell? _ _ r1)).trans r1
    replace x0 := (hb3.cell (p := ⟨X7, 0, none⟩) (World.block_lt_of_cell? _ _ x0)).trans x0
    replace x1 := (hb3.cell (p := ⟨X7, 1, none⟩) (World.block_lt_of_cell? _ _ x1)).trans x1
    replace fr0 := (hb3.frozen (p := ⟨w.heap.size + 1 + 1, 0, none⟩) ltP).trans fr0
    replace fr1 := (hb3.frozen (p := ⟨w.heap.size + 1 + 1, 1, none⟩) ltP).trans fr1
    replace f0 := (hb3.frozen (p := ⟨X7, 0, none⟩) hi).trans f0
    replace f1 := (hb3.frozen (p := ⟨X7, 1, none⟩) hi).trans f1
    replace ltB := Nat.lt_of_lt_of_le ltB hb3.size
    replace ltT := Nat.lt_of_lt_of_le ltT hb3.size
    replace ltP := Nat.lt_of_lt_of_le ltP hb3.size
    replace hi := Nat.lt_of_lt_of_le hi hb3.size
    replace own := own_below own hb3
    replace b0 := b0.trans (hb3.mono b0.size)
    clear hb3
    go_wp2_with fail
    exact bodyPost_ret (v := .tuple #[.agg #[.int .i64 s.next, .slice A3 n c3], .int .i64 1]) (by simp [results, Try.results8, go_sem, r0, r1]) rfl (gaveT_ret HN.out own loS b0)

set_option maxHeartbeats 8000000 in
theorem acked_ok (A : Option Addr) (c n : Nat) (s : Snd) (t : Int) (w : World) (hs : Sl 2 Pce.enc w A s.out) (hn : s.out.length = n) (hn1 : n ≤ 1000000)
    (hr : sRight s = true) (ht : 0 ≤ t) (ht2 : t ≤ s.next) :
    Calls Try.prog 8 #[.agg #[.int .i64 s.next, .slice A n c], .int .i64 t] w (GaveT w ⟨s.next, s.out.filter fun x => !decide (x.num < t)⟩ 0) := by
  have b0 : Below w.heap.size w (((w.alloc (.cells #[.int .i64 s.next, .slice A n c] 27)).alloc (.cells #[.int .i64 t] 3)).alloc (.cells #[.int .i64 0, .slice none 0 0] 27)).drew := ((((Below.refl _ _).alloc (Nat.le_refl _) _).alloc (by simp) _).alloc (by simp <;> omega) _).drew
  have e0 : (((w.alloc (.cells #[.int .i64 s.next, .slice A n c] 27)).alloc (.cells #[.int .i64 t] 3)).alloc (.cells #[.int .i64 0, .slice none 0 0] 27)).drew.cell? ⟨w.heap.size, 0, none⟩ = some (.int .i64 s.next) := by go_simp
  have e1 : (((w.alloc (.cells #[.int .i64 s.next, .slice A n c] 27)).alloc (.cells #[.int .i64 t] 3)).alloc (.cells #[.int .i64 0, .slice none 0 0] 27)).drew.cell? ⟨w.heap.size, 1, none⟩ = some (.slice A n c) := by go_simp
  have t0 : (((w.alloc (.cells #[.int .i64 s.next, .slice A n c] 27)).alloc (.cells #[.int .i64 t] 3)).alloc (.cells #[.int .i64 0, .slice none 0 0] 27)).drew.cell? ⟨w.heap.size + 1, 0, none⟩ = some (.int .i64 t) := by go_simp
  have r0 : (((w.alloc (.cells #[.int .i64 s.next, .slice A n c] 27)).alloc (.cells #[.int .i64 t] 3)).alloc (.cells #[.int .i64 0, .slice none 0 0] 27)).drew.cell? ⟨w.heap.size + 1 + 1, 0, none⟩ = some (.int .i64 0) := by go_simp
  have r1 : (((w.alloc (.cells #[.int .i64 s.next, .slice A n c] 27)).alloc (.cells #[.int .i64 t] 3)).alloc (.cells #[.int .i64 0, .slice none 0 0] 27)).drew.cell? ⟨w.heap.size + 1 + 1, 1, none⟩ = some (.slice none 0 0) := by go_simp
  have fr0 : (((w.alloc (.cells #[.int .i64 s.next, .slice A n c] 27)).alloc (.cells #[.int .i64 t] 3)).alloc (.cells #[.int .i64 0, .slice none 0 0] 27)).drew.frozen? ⟨w.heap.size + 1 + 1, 0, none⟩ = false := by go_simp
  have fr1 : (((w.alloc (.cells #[.int .i64 s.next, .slice A n c] 27)).alloc (.cells #[.int .i64 t] 3)).alloc (.cells #[.int .i64 0, .slice none 0 0] 27)).drew.frozen? ⟨w.heap.size + 1 + 1, 1, none⟩ = false := by go_simp
  have ltB : w.heap.size < (((w.alloc (.cells #[.int .i64 s.next, .slice A n c] 27)).alloc (.cells #[.int .i64 t] 3)).alloc (.cells #[.int .i64 0, .slice none 0 0] 27)).drew.heap.size := by simp <;> omega
  have ltT : w.heap.size + 1 < (((w.alloc (.cells #[.int .i64 s.next, .slice A n c] 27)).alloc (.cells #[.int .i64 t] 3)).alloc (.cells #[.int .i64 0, .slice none 0 0] 27)).drew.heap.size := by simp <;> omega
  have ltP : w.heap.size + 1 + 1 < (((w.alloc (.cells #[.int .i64 s.next, .slice A n c] 27)).alloc (.cells #[.int .i64 t] 3)).alloc (.cells #[.int .i64 0, .slice none 0 0] 27)).drew.heap.size := by simp <;> omega
  have cC := fun w1 (hb : Below (((w.alloc (.cells #[.int .i64 s.next, .slice A n c] 27)).alloc (.cells #[.int .i64 t] 3)).alloc (.cells #[.int .i64 0, .slice none 0 0] 27)).drew.heap.size (((w.alloc (.cells #[.int .i64 s.next, .slice A n c] 27)).alloc (.cells #[.int .i64 t] 3)).alloc (.cells #[.int .i64 0, .slice none 0 0] 27)).drew w1) => cloneP_any A c n s.out w1 (hs.below (b0.trans (hb.mono b0.size))) hn hn1
  have cR := fun w1 (hb : Below w.heap.size w w1) => sRight_any A c n s w1 (hs.below hb) hn
  rw [hr] at cR
  have zt : decide (t < 0) = false := decide_eq_false (by omega)
  have zu : decide (s.next < t) = false := decide_eq_false (by omega)
  clear hr ht ht2
  have HN := Lib.hid hn
  clear hs hn
  go_enter Try.func8, Try.ntmps8
  go_wp2_with fail
  generalize (((w.alloc (.cells #[.int .i64 s.next, .slice A n c] 27)).alloc (.cells #[.int .i64 t] 3)).alloc (.cells #[.int .i64 0, .slice none 0 0] 27)) = W0 at *
  refine wp_region_rg (by kernel_rfl) (by kernel_rfl) [7, 8, 9, 10, 11, 12, 6] (AckRPhi W0.drew w.heap.size A n c s) ?h0 ⟨?q0, ?q1, ?q2, ?q3, ?q4, ?q5, ?q6, ?q7, trivial⟩ ?hend
  case h0 => exact ⟨_, _, _, _, _, _, _, _, rfl, ⟨Below.refl _ _, (fun h => by cases h), (fun h => by cases h), (fun h => by cases h), (fun h => by cases h), (fun h => by cases h), (fun h => by cases h), (fun h => by cases h), (fun h => by cases h)⟩, rfl⟩
  case q0 =>
    rintro L vs w' K ⟨u7, u8, u9, u10, u11, u12, u6, wz, rfl, φ, rfl⟩ hL hpre hcl hK G hG
    simp [Region.binds, closedFrom] at hpre hcl
    have hst : L 7 = false := by
      cases h : L 7 with
      | false => rfl
      | true => simp [h, hL] at hcl
    simp only [hst, Bool.false_eq_true, if_false] at hK hG
    have hk := hK [(.pointer (some ⟨w.heap.size, 0, none⟩)), u8, u9, u10, u11, u12, u6] wz ⟨_, _, _, _, _, _, _, wz, rfl,
      { b := φ.b,
        s0 := fun _ => rfl,
        s1 := fun h0 => φ.s1 (by simpa using h0),
        s2 := fun h0 => φ.s2 (by simpa using h0),
        s3 := fun h0 => φ.s3 (by simpa using h0),
        s4 := fun h0 => φ.s4 (by simpa using h0),
        s5 := fun h0 => φ.s5 (by simpa using h0),
        x6 := fun h0 => φ.x6 (by simpa using h0),
        d6 := fun h0 h1 => φ.d6 (by simpa using h0) (by simpa using h1) }, by simp [hst]⟩
    refine hG ?_
    clear hK φ hG
    revert hk
    go_simp
    first | done | exact fun h => h
  case q1 =>
    rintro L vs w' K ⟨u7, u8, u9, u10, u11, u12, u6, wz, rfl, φ, rfl⟩ hL hpre hcl hK G hG
    simp [Region.binds, closedFrom] at hpre hcl
    have hst : L 7 = false := by
      cases h : L 7 with
      | false => rfl
      | true => simp [h, hL] at hcl
    simp only [hst, Bool.false_eq_true, if_false] at hK hG
    obtain rfl := φ.s0 (by simp [hpre])
    have ce := (φ.b.cell (p := ⟨w.heap.size, 0, none⟩) ltB).trans e0
    have hk := hK [(.pointer (some ⟨w.heap.size, 0, none⟩)), (.int .i64 s.next), u9, u10, u11, u12, u6] wz ⟨_, _, _, _, _, _, _, wz, rfl,
      { b := φ.b,
        s0 := fun h0 => φ.s0 (by simpa using h0),
        s1 := fun _ => rfl,
        s2 := fun h0 => φ.s2 (by simpa using h0),
        s3 := fun h0 => φ.s3 (by simpa using h0),
        s4 := fun h0 => φ.s4 (by simpa using h0),
        s5 := fun h0 => φ.s5 (by simpa using h0),
        x6 := fun h0 => φ.x6 (by simpa using h0),
        d6 := fun h0 h1 => φ.d6 (by simpa using h0) (by simpa using h1) }, by simp [hst]⟩
    refine hG ?_
    clear hK φ hG
    revert hk
    go_simp
    first | done | exact fun h => h
  case q2 =>
    rintro L vs w' K ⟨u7, u8, u9, u10, u11, u12, u6, wz, rfl, φ, rfl⟩ hL hpre hcl hK G hG
    simp [Region.binds, closedFrom] at hpre hcl
    have hst : L 7 = false := by
      cases h : L 7 with
      | false => rfl
      | true => simp [h, hL] at hcl
    simp only [hst, Bool.false_eq_true, if_false] at hK hG
    have hk := hK [u7, u8, (.pointer (some ⟨w.heap.size, 1, none⟩)), u10, u11, u12, u6] wz ⟨_, _, _, _, _, _, _, wz, rfl,
      { b := φ.b,
        s0 := fun h0 => φ.s0 (by simpa using h0),
        s1 := fun h0 => φ.s1 (by simpa using h0),
        s2 := fun _ => rfl,
        s3 := fun h0 => φ.s3 (by simpa using h0),
        s4 := fun h0 => φ.s4 (by simpa using h0),
        s5 := fun h0 => φ.s5 (by simpa using h0),
        x6 := fun h0 => φ.x6 (by simpa using h0),
        d6 := fun h0 h1 => φ.d6 (by simpa using h0) (by simpa using h1) }, by simp [hst]⟩
    refine hG ?_
    clear hK φ hG
    revert hk
    go_simp
    first | done | exact fun h => h
  case q3 =>
    rintro L vs w' K ⟨u7, u8, u9, u10, u11, u12, u6, wz, rfl, φ, rfl⟩ hL hpre hcl hK G hG
    simp [Region.binds, closedFrom] at hpre hcl
    have hst : L 7 = false := by
      cases h : L 7 with
      | false => rfl
      | true => simp [h, hL] at hcl
    simp only [hst, Bool.false_eq_true, if_false] at hK hG
    obtain rfl := φ.s2 (by simp [hpre])
    have ce := (φ.b.cell (p := ⟨w.heap.size, 1, none⟩) ltB).trans e1
    have hk := hK [u7, u8, (.pointer (some ⟨w.heap.size, 1, none⟩)), (.slice A n c), u11, u12, u6] wz ⟨_, _, _, _, _, _, _, wz, rfl,
      { b := φ.b,
        s0 := fun h0 => φ.s0 (by simpa using h0),
        s1 := fun h0 => φ.s1 (by simpa using h0),
        s2 := fun h0 => φ.s2 (by simpa using h0),
        s3 := fun _ => rfl,
        s4 := fun h0 => φ.s4 (by simpa using h0),
        s5 := fun h0 => φ.s5 (by simpa using h0),
        x6 := fun h0 => φ.x6 (by simpa using h0),
        d6 := fun h0 h1 => φ.d6 (by simpa using h0) (by simpa using h1) }, by simp [hst]⟩
    refine hG ?_
    clear hK φ hG
    revert hk
    go_simp
    first | done | exact fun h => h
  case q4 =>
    rintro L vs w' K ⟨u7, u8, u9, u10, u11, u12, u6, wz, rfl, φ, rfl⟩ hL hpre hcl hK G hG
    simp [Region.binds, closedFrom] at hpre hcl
    have hst : L 7 = false := by
      cases h : L 7 with
      | false => rfl
      | true => simp [h, hL] at hcl
    simp only [hst, Bool.false_eq_true, if_false] at hK hG
    obtain rfl := φ.s3 (by simp [hpre])
    have L5 : L 5 = false := by
      cases h : L 5 with
      | false => rfl
      | true => simp [h, hL] at hcl
    refine hG (step_call wz rfl 13 #[.tmp 10] #[25] rfl #[.slice A n c] (by simp [Act.eval, Act.puts, Act.put]) (enters_of Try.func13 (by kernel_rfl) rfl) (cC wz φ.b) ?_)
    rintro e w9 ⟨v', rfl, ownN, hb9⟩
    refine ⟨v', rfl, ?_⟩
    have hk := hK [u7, u8, u9, (.slice A n c), (v'), u12, u6] w9 ⟨_, _, _, _, _, _, _, w9, rfl,
      { b := φ.b.trans (hb9.mono φ.b.size),
        s0 := fun h0 => φ.s0 (by simpa using h0),
        s1 := fun h0 => φ.s1 (by simpa using h0),
        s2 := fun h0 => φ.s2 (by simpa using h0),
        s3 := fun h0 => φ.s3 (by simpa using h0),
        s4 := fun _ => own_weaken' ownN φ.b.size,
        s5 := fun h => by simp [L5] at h,
        x6 := fun h => by
          obtain ⟨X, y1, y2, y3, y4, y5, y6, y7⟩ := φ.x6 (by simpa using h)
          exact ⟨X, y1, y2, Nat.lt_of_lt_of_le y3 hb9.size, (hb9.cell (p := ⟨X, 0, none⟩) y3).trans y4, (hb9.cell (p := ⟨X, 1, none⟩) y3).trans y5, (hb9.frozen (p := ⟨X, 0, none⟩) y3).trans y6, (hb9.frozen (p := ⟨X, 1, none⟩) y3).trans y7⟩,
        d6 := fun h _ X hX hE => by
          obtain ⟨X', y1, y2, y3, _⟩ := φ.x6 (by simpa using h)
          rw [hX] at y1
          obtain rfl : X = X' := by simpa using y1
          have := (ownN.lt _ hE).1
          omega }, by simp [hst]⟩
    clear hK φ hG
    revert hk
    go_simp
    first | done | exact fun h => h
  case q5 =>
    rintro L vs w' K ⟨u7, u8, u9, u10, u11, u12, u6, wz, rfl, φ, rfl⟩ hL hpre hcl hK G hG
    simp [Region.binds, closedFrom] at hpre hcl
    have hst : L 7 = false := by
      cases h : L 7 with
      | false => rfl
      | true => simp [h, hL] at hcl
    simp only [hst, Bool.false_eq_true, if_false] at hK hG
    obtain rfl := φ.s1 (by simp [hpre])
    obtain ⟨A3, c3, rfl⟩ := own_shape (φ.s4 (by simp [hpre]))
    have hk := hK [u7, (.int .i64 s.next), u9, u10, (.slice A3 n c3), (.agg #[.int .i64 s.next, .slice A3 n c3]), u6] wz ⟨_, _, _, _, _, _, _, wz, rfl,
      { b := φ.b,
        s0 := fun h0 => φ.s0 (by simpa using h0),
        s1 := fun h0 => φ.s1 (by simpa using h0),
        s2 := fun h0 => φ.s2 (by simpa using h0),
        s3 := fun h0 => φ.s3 (by simpa using h0),
        s4 := fun h0 => φ.s4 (by simpa using h0),
        s5 := fun _ => rfl,
        x6 := fun h0 => φ.x6 (by simpa using h0),
        d6 := fun h0 h1 => φ.d6 (by simpa using h0) (by simpa using h1) }, by simp [hst]⟩
    refine hG ?_
    clear hK φ hG
    revert hk
    go_simp
    first | done | exact fun h => h
  case q6 =>
    rintro L vs w' K ⟨u7, u8, u9, u10, u11, u12, u6, wz, rfl, φ, rfl⟩ hL hpre hcl hK G hG
    simp [Region.binds, closedFrom] at hpre hcl
    have hst : L 7 = false := by
      cases h : L 7 with
      | false => rfl
      | true => simp [h, hL] at hcl
    simp only [hst, Bool.false_eq_true, if_false] at hK hG
    have hk := hK [u7, u8, u9, u10, u11, u12, (.pointer (some ⟨wz.heap.size, 0, none⟩))] (wz.alloc (.cells #[.int .i64 0, .slice none 0 0] 27)) ⟨_, _, _, _, _, _, _, (wz.alloc (.cells #[.int .i64 0, .slice none 0 0] 27)), rfl,
      { b := φ.b.alloc φ.b.size _,
        s0 := fun h0 => φ.s0 (by simpa using h0),
        s1 := fun h0 => φ.s1 (by simpa using h0),
        s2 := fun h0 => φ.s2 (by simpa using h0),
        s3 := fun h0 => φ.s3 (by simpa using h0),
        s4 := fun h0 => (φ.s4 (by simpa using h0)).alloc _,
        s5 := fun h0 => φ.s5 (by simpa using h0),
        x6 := fun _ => ⟨wz.heap.size, rfl, φ.b.size, by simp, by go_simp, by go_simp, by go_simp, by go_simp⟩,
        d6 := fun _ h0 X hX e => by
          obtain rfl : wz.heap.size = X := by simpa using hX
          exact Nat.lt_irrefl _ ((φ.s4 (by simpa using h0)).lt _ e).2 }, by simp [hst]⟩
    refine hG ?_
    clear hK φ hG
    revert hk
    go_simp
    first | done | exact fun h => h
  case q7 =>
    rintro L vs w' K ⟨u7, u8, u9, u10, u11, u12, u6, wz, rfl, φ, rfl⟩ hL hpre hcl hK G hG
    simp [Region.binds, closedFrom] at hpre hcl
    simp only [hL, Bool.false_eq_true, if_false] at hK hG
    obtain ⟨A3, c3, rfl⟩ := own_shape (φ.s4 (by simp [hpre]))
    obtain rfl := φ.s5 (by simp [hpre])
    obtain ⟨X, rfl, x2, x3, x4, x5, x6, x7⟩ := φ.x6 (by simp [hpre])
    have hk := hK [u7, u8, u9, u10, (.slice A3 n c3), (.agg #[.int .i64 s.next, .slice A3 n c3]), (.pointer (some ⟨X, 0, none⟩))] ((wz.setCell ⟨X, 0, none⟩ (.int .i64 s.next)).setCell ⟨X, 1, none⟩ (.slice A3 n c3)) ⟨_, _, _, _, _, _, _, wz, rfl,
      { b := φ.b,
        s0 := fun h0 => φ.s0 (by simpa using h0),
        s1 := fun h0 => φ.s1 (by simpa using h0),
        s2 := fun h0 => φ.s2 (by simpa using h0),
        s3 := fun h0 => φ.s3 (by simpa using h0),
        s4 := fun h0 => φ.s4 (by simpa using h0),
        s5 := fun h0 => φ.s5 (by simpa using h0),
        x6 := fun h0 => φ.x6 (by simpa using h0),
        d6 := fun h0 h1 => φ.d6 (by simpa using h0) (by simpa using h1) }, by simp [laidAt]⟩
    refine hG ?_
    clear hK φ hG
    revert hk
    go_simp
    first | done | exact fun h => h
  case hend =>
    rintro vs w' ⟨u7, u8, u9, u10, u11, u12, u6, wz, rfl, φ, rfl⟩ G hG
    have o4 := φ.s4 rfl
    have b9 := φ.b
    obtain ⟨A3, c3, rfl⟩ := own_shape o4
    obtain ⟨X7, rfl, x2, x3, x4, x5, x6, x7⟩ := φ.x6 rfl
    have ne7 := φ.d6 rfl rfl X7 rfl
    clear φ
    have hst : decide (7 < 8) = true := rfl
    simp only [List.size_toArray, List.length_cons, List.length_nil, Nat.zero_add, Nat.reduceAdd, hst, if_true, laidAt] at hG
    have CP : Copied W0.drew ((wz.setCell ⟨X7, 0, none⟩ (.int .i64 s.next)).setCell ⟨X7, 1, none⟩ (.slice A3 n c3)) X7 s n A3 c3 :=
      ⟨by go_simp, by go_simp, by go_simp, by go_simp, x2, by simpa using x3, ownsRow_setCell_other (a := ⟨X7, 1, none⟩) (ownsRow_setCell_other (a := ⟨X7, 0, none⟩) o4 ne7 _) ne7 _, ne7, (b9.setCell x2 _).setCell x2 _⟩
    clear hst o4 b9 x2 x3 x4 x5 x6 x7 ne7
    refine hG ?_
    clear hG
    generalize (wz.setCell ⟨X7, 0, none⟩ (.int .i64 s.next)).setCell ⟨X7, 1, none⟩ (.slice A3 n c3) = w2 at *
    obtain ⟨x0, x1, f0, f1, lo, hi, own, ne, b9⟩ := CP
    have qP : w.heap.size + 1 + 1 < X7 := Nat.lt_of_lt_of_le ltP lo
    have loS : w.heap.size + 3 ≤ W0.drew.heap.size := by omega
    replace e0 := (b9.cell (p := ⟨w.heap.size, 0, none⟩) (World.block_lt_of_cell? _ _ e0)).trans e0
    replace e1 := (b9.cell (p := ⟨w.heap.size, 1, none⟩) (World.block_lt_of_cell? _ _ e1)).trans e1
    replace t0 := (b9.cell (p := ⟨w.heap.size + 1, 0, none⟩) (World.block_lt_of_cell? _ _ t0)).trans t0
    replace r0 := (b9.cell (p := ⟨w.heap.size + 1 + 1, 0, none⟩) (World.block_lt_of_cell? _ _ r0)).trans r0
    replace r1 := (b9.cell (p := ⟨w.heap.size + 1 + 1, 1, none⟩) (World.block_lt_of_cell? _ _ r1)).trans r1
    replace fr0 := (b9.frozen (p := ⟨w.heap.size + 1 + 1, 0, none⟩) ltP).trans fr0
    replace fr1 := (b9.frozen (p := ⟨w.heap.size + 1 + 1, 1, none⟩) ltP).trans fr1
    replace ltB := Nat.lt_of_lt_of_le ltB b9.size
    replace ltT := Nat.lt_of_lt_of_le ltT b9.size
    replace ltP := Nat.lt_of_lt_of_le ltP b9.size
    replace b0 := b0.trans (b9.mono b0.size)
    clear b9 cC
    go_wp2_with fail
    refine (cR _ b0).mono ?_
    rintro e w3 ⟨rfl, hb3⟩
    replace e0 := (hb3.cell (p := ⟨w.heap.size, 0, none⟩) (World.block_lt_of_cell? _ _ e0)).trans e0
    replace e1 := (hb3.cell (p := ⟨w.heap.size, 1, none⟩) (World.block_lt_of_cell? _ _ e1)).trans e1
    replace t0 := (hb3.cell (p := ⟨w.heap.size + 1, 0, none⟩) (World.block_lt_of_cell? _ _ t0)).trans t0
    replace r0 := (hb3.cell (p := ⟨w.heap.size + 1 + 1, 0, none⟩) (World.block_lt_of_cell? _ _ r0)).trans r0
    replace r1 := (hb3.cell (p := ⟨w.heap.size + 1 + 1, 1, none⟩) (World.block_lt_of_cell? _ _ r1)).trans r1
    replace x0 := (hb3.cell (p := ⟨X7, 0, none⟩) (World.block_lt_of_cell? _ _ x0)).trans x0
    replace x1 := (hb3.cell (p := ⟨X7, 1, none⟩) (World.block_lt_of_cell? _ _ x1)).trans x1
    replace fr0 := (hb3.frozen (p := ⟨w.heap.size + 1 + 1, 0, none⟩) ltP).trans fr0
    replace fr1 := (hb3.frozen (p := ⟨w.heap.size + 1 + 1, 1, none⟩) ltP).trans fr1
    replace f0 := (hb3.frozen (p := ⟨X7, 0, none⟩) hi).trans f0
    replace f1 := (hb3.frozen (p := ⟨X7, 1, none⟩) hi).trans f1
    replace ltB := Nat.lt_of_lt_of_le ltB hb3.size
    replace ltT := Nat.lt_of_lt_of_le ltT hb3.size
    replace ltP := Nat.lt_of_lt_of_le ltP hb3.size
    replace hi := Nat.lt_of_lt_of_le hi hb3.size
    replace own := own_below own hb3
    replace b0 := b0.trans (hb3.mono b0.size)
    clear hb3
    have hpred : ∀ W, w3.grownBy W (Value.slice A3 n c3).ownBlock → PredBelow Try.prog 19 #[.pointer (some ⟨w.heap.size + 1, 0, none⟩)] (fun x => .agg (Pce.enc x).toArray) (fun x => decide (x.num < t)) W := fun W hg =>
      below_pred t (w.heap.size + 1) W (hg.cell t0 (fun e => by have h1 := (own.lt _ e.symm).1; have h2 : W0.drew.heap.size ≤ w.heap.size + 1 := h1; omega)) (Nat.lt_of_lt_of_le ltT hg.size)
    have cD := deleteFunc_any 19 #[.pointer (some ⟨w.heap.size + 1, 0, none⟩)] (fun x => decide (x.num < t)) (enters_of Try.func19 (by kernel_rfl) rfl) W0.drew.heap.size A3 c3 n s.out w3 own HN.out hn1 hpred
    clear hpred
    have obW := own.lt
    have b0s : w.heap.size ≤ W0.drew.heap.size := by omega
    go_wp2_with fail
    refine cD.mono ?_
    rintro e w5 ⟨n5, rfl, hl5, own5, hgrow⟩
    have HL := Lib.hid hl5
    clear hl5 cD
    have bw5 := hgrow.block
    have hk0 : w5.heap[w.heap.size]? = w3.heap[w.heap.size]? := bw5 (w.heap.size) ltB (Ne.symm (fun e => by have := obW _ e; omega))
    have cc0 : ∀ j, w5.cell? ⟨w.heap.size, j, none⟩ = w3.cell? ⟨w.heap.size, j, none⟩ := fun j => World.cell?_of_block (w := w3) (w' := w5) (a := ⟨w.heap.size, j, none⟩) hk0
    have ff0 : ∀ j, w5.frozen? ⟨w.heap.size, j, none⟩ = w3.frozen? ⟨w.heap.size, j, none⟩ := fun j => World.frozen?_of_block (w := w3) (w' := w5) (a := ⟨w.heap.size, j, none⟩) hk0
    have hk1 : w5.heap[w.heap.size + 1]? = w3.heap[w.heap.size + 1]? := bw5 (w.heap.size + 1) ltT (Ne.symm (fun e => by have := obW _ e; omega))
    have cc1 : ∀ j, w5.cell? ⟨w.heap.size + 1, j, none⟩ = w3.cell? ⟨w.heap.size + 1, j, none⟩ := fun j => World.cell?_of_block (w := w3) (w' := w5) (a := ⟨w.heap.size + 1, j, none⟩) hk1
    have ff1 : ∀ j, w5.frozen? ⟨w.heap.size + 1, j, none⟩ = w3.frozen? ⟨w.heap.size + 1, j, none⟩ := fun j => World.frozen?_of_block (w := w3) (w' := w5) (a := ⟨w.heap.size + 1, j, none⟩) hk1
    have hk2 : w5.heap[w.heap.size + 1 + 1]? = w3.heap[w.heap.size + 1 + 1]? := bw5 (w.heap.size + 1 + 1) ltP (Ne.symm (fun e => by have := obW _ e; omega))
    have cc2 : ∀ j, w5.cell? ⟨w.heap.size + 1 + 1, j, none⟩ = w3.cell? ⟨w.heap.size + 1 + 1, j, none⟩ := fun j => World.cell?_of_block (w := w3) (w' := w5) (a := ⟨w.heap.size + 1 + 1, j, none⟩) hk2
    have ff2 : ∀ j, w5.frozen? ⟨w.heap.size + 1 + 1, j, none⟩ = w3.frozen? ⟨w.heap.size + 1 + 1, j, none⟩ := fun j => World.frozen?_of_block (w := w3) (w' := w5) (a := ⟨w.heap.size + 1 + 1, j, none⟩) hk2
    have hk3 : w5.heap[X7]? = w3.heap[X7]? := bw5 (X7) hi (Ne.symm ne)
    have cc3 : ∀ j, w5.cell? ⟨X7, j, none⟩ = w3.cell? ⟨X7, j, none⟩ := fun j => World.cell?_of_block (w := w3) (w' := w5) (a := ⟨X7, j, none⟩) hk3
    have ff3 : ∀ j, w5.frozen? ⟨X7, j, none⟩ = w3.frozen? ⟨X7, j, none⟩ := fun j => World.frozen?_of_block (w := w3) (w' := w5) (a := ⟨X7, j, none⟩) hk3
    replace e0 := (cc0 0).trans e0
    replace e1 := (cc0 1).trans e1
    replace t0 := (cc1 0).trans t0
    replace r0 := (cc2 0).trans r0
    replace fr0 := (ff2 0).trans fr0
    replace r1 := (cc2 1).trans r1
    replace fr1 := (ff2 1).trans fr1
    replace x0 := (cc3 0).trans x0
    replace x1 := (cc3 1).trans x1
    replace f0 := (ff3 0).trans f0
    replace f1 := (ff3 1).trans f1
    clear cc0 ff0 hk0 cc1 ff1 hk1 cc2 ff2 hk2 cc3 ff3 hk3 bw5
    replace b0 := b0.grown hgrow b0.size (fun k hk => Nat.le_trans b0s (obW k hk).1)
    have ne5 : (Value.slice A3 n5 c3).ownBlock ≠ some X7 := by
      cases A3 with
      | none => simp [Value.ownBlock]
      | some a => exact ne
    have obN := own5.lt
    have hsN := hgrow.size
    replace ltB := Nat.lt_of_lt_of_le ltB hsN
    replace ltT := Nat.lt_of_lt_of_le ltT hsN
    replace ltP := Nat.lt_of_lt_of_le ltP hsN
    replace hi := Nat.lt_of_lt_of_le hi hsN
    clear hgrow own ne obW
    go_wp2_with fail
    have own6 := ownsRow_setCell_other (a := ⟨X7, 1, none⟩) own5 ne5 (.slice A3 n5 c3)
    have b6 := b0.setCell (p := ⟨X7, 1, none⟩) (by show w.heap.size ≤ X7; omega) (.slice A3 n5 c3)
    exact bodyPost_ret (v := .tuple #[.agg #[.int .i64 s.next, .slice A3 n5 c3], .int .i64 0]) (by simp [results, Try.results8, go_sem, r0, r1]) rfl (gaveT_ret (s := ⟨s.next, s.out.filter fun x => !decide (x.num < t)⟩) HL.out own6 loS b6)

theorem send_any (A : Option Addr) (c n : Nat) (s : Snd) (v : Int) (w : World) (hs : Sl 2 Pce.enc w A s.out) (hn : s.out.length = n) (hn1 : n ≤ 1000000) :
    Calls Try.prog 6 #[.agg #[.int .i64 s.next, .slice A n c], .int .u32 v] w (GaveS w (sendS s v).1 (sendS s v).2.1 (sendS s v).2.2) := by
  unfold sendS
  cases hr : sRight s with
  | false => exact send_bad A c n s v w hs hn hn1 hr
  | true =>
    simp only [Bool.true_eq_false, if_false]
    by_cases h16 : n = 16
    · rw [if_pos (.inl (hn.trans h16))]
      exact send_full A c n s v w hs hn hn1 hr h16
    · by_cases hM : s.next = 1099511627776
      · rw [if_pos (.inr hM)]
        exact send_most A c n s v w hs hn hn1 hr h16 hM
      · rw [if_neg (by omega)]
        exact send_ok A c n s v w hs hn hn1 hr h16 hM
theorem acked_any (A : Option Addr) (c n : Nat) (s : Snd) (t : Int) (w : World) (hs : Sl 2 Pce.enc w A s.out) (hn : s.out.length = n) (hn1 : n ≤ 1000000) :
    Calls Try.prog 8 #[.agg #[.int .i64 s.next, .slice A n c], .int .i64 t] w (GaveT w (ackedS s t).1 (ackedS s t).2) := by
  unfold ackedS
  cases hr : sRight s with
  | false => exact acked_bad A c n s t w hs hn hn1 hr
  | true =>
    by_cases h1 : t < 0
    · rw [if_pos (.inr (.inl h1))]
      exact acked_neg A c n s t w hs hn hn1 hr h1
    · by_cases h2 : s.next < t
      · rw [if_pos (.inr (.inr h2))]
        exact acked_over A c n s t w hs hn hn1 hr (by omega) h2
      · rw [if_neg (by simp only [Bool.true_eq_false, false_or]; omega)]
        exact acked_ok A c n s t w hs hn hn1 hr (by omega) (by omega)
end Go.Proofs.Ytjnpdicoopgkoaa
