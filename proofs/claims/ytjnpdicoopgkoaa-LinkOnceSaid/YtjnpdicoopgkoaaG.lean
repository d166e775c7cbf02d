/- Walks of link: Send. -/
import Derived.Test.YtjnpdicoopgkoaaF
namespace Go.Proofs.Ytjnpdicoopgkoaa
open Go.RowKit Go.Lib
set_option linter.unusedVariables false
attribute [local go_sem] Act.puts

def laidAt (p u v : Value) (w : World) : World := match p with | .pointer (some a) => (w.setCell a u).setCell ⟨a.block, 1, none⟩ v | _ => w
/-- What a copy of a sender in a variable of the call's own is. -/
structure Copied (w0 wz : World) (X : Nat) (s : Snd) (n : Nat) (A : Option Addr) (c : Nat) : Prop where
  x0 : wz.cell? ⟨X, 0, none⟩ = some (.int .i64 s.next)
  x1 : wz.cell? ⟨X, 1, none⟩ = some (.slice A n c)
  f0 : wz.frozen? ⟨X, 0, none⟩ = false
  f1 : wz.frozen? ⟨X, 1, none⟩ = false
  lo : w0.heap.size ≤ X
  hi : X < wz.heap.size
  own : wz.ownsRow w0.heap.size 34 2 (.slice A n c) n (s.out.flatMap Pce.enc)
  ne : (Value.slice A n c).ownBlock ≠ some X
  b : Below w0.heap.size w0 wz
structure SendR (w0 : World) (H : Nat) (A : Option Addr) (n c : Nat) (s : Snd) (L : Nat → Bool) (u9 u10 u11 u12 u13 u14 u7 : Value) (wz : World) : Prop where
  b : Below w0.heap.size w0 wz
  s0 : L 0 = true → u9 = .pointer (some ⟨H, 0, none⟩)
  s1 : L 1 = true → u10 = .int .i64 s.next
  s2 : L 2 = true → u11 = .pointer (some ⟨H, 1, none⟩)
  s3 : L 3 = true → u12 = .slice A n c
  s4 : L 4 = true → wz.ownsRow w0.heap.size 34 2 u13 n (s.out.flatMap Pce.enc)
  s5 : L 5 = true → u14 = .agg #[.int .i64 s.next, u13]
  x6 : L 6 = true → ∃ X, u7 = .pointer (some ⟨X, 0, none⟩) ∧ w0.heap.size ≤ X ∧ X < wz.heap.size ∧ wz.cell? ⟨X, 0, none⟩ = some (.int .i64 0) ∧ wz.cell? ⟨X, 1, none⟩ = some (.slice none 0 0) ∧ wz.frozen? ⟨X, 0, none⟩ = false ∧ wz.frozen? ⟨X, 1, none⟩ = false
  d6 : L 6 = true → L 4 = true → ∀ X, u7 = .pointer (some ⟨X, 0, none⟩) → u13.ownBlock ≠ some X
def SendRPhi (w0 : World) (H : Nat) (A : Option Addr) (n c : Nat) (s : Snd) (L : Nat → Bool) (vs : List Value) (w' : World) : Prop :=
  ∃ u9 u10 u11 u12 u13 u14 u7 wz, vs = [u9, u10, u11, u12, u13, u14, u7] ∧ SendR w0 H A n c s L u9 u10 u11 u12 u13 u14 u7 wz ∧ w' = if L 7 = true then laidAt u7 (.int .i64 s.next) u13 wz else wz

def Fresh (w : World) (A : Option Addr) : Prop := ∀ a, A = some a → w.heap.size ≤ a.block
/-- A sender that a call hands back, of memory that the call made; a piece; an error. -/
def GaveS (w : World) (s : Snd) (p : Pce) (k : Int) (e : Ending) (w' : World) : Prop :=
  ∃ A n c, e = .returned (.tuple #[.agg #[.int .i64 s.next, .slice A n c], .agg #[.int .i64 p.num, .int .u32 p.val], .int .i64 k]) ∧ s.out.length = n ∧ Sl 2 Pce.enc w' A s.out ∧ Below w.heap.size w w' ∧ Fresh w A
def sendS (s : Snd) (v : Int) : Snd × Pce × Int :=
  if sRight s = false then (s, ⟨0, 0⟩, 1)
  else if s.out.length = 16 ∨ s.next = 1099511627776 then (s, ⟨0, 0⟩, 6)
  else (⟨s.next + 1, s.out ++ [⟨s.next, v⟩]⟩, ⟨s.next, v⟩, 0)

theorem gave_ret {w w' : World} {base n c : Nat} {A : Option Addr} {s : Snd} {p : Pce} {k : Int} (hn : s.out.length = n) (own : w'.ownsRow base 34 2 (.slice A n c) n (s.out.flatMap Pce.enc)) (hb : w.heap.size + 3 ≤ base) (b : Below w.heap.size w w') :
    GaveS w s p k (.returned (.tuple #[.agg #[.int .i64 s.next, .slice A n c], .agg #[.int .i64 p.num, .int .u32 p.val], .int .i64 k]))
      ((((w'.setCell ⟨w.heap.size + 1, 0, none⟩ (.int .i64 s.next)).setCell ⟨w.heap.size + 1, 1, none⟩ (.slice A n c)).setCell ⟨w.heap.size + 1 + 1, 0, none⟩ (.int .i64 p.num)).setCell ⟨w.heap.size + 1 + 1, 1, none⟩ (.int .u32 p.val)) := by
  have h1 : w.heap.size + 1 < base := by omega
  have h2 : w.heap.size + 1 + 1 < base := by omega
  have o2 := ownsRow_setCell_below (a := ⟨w.heap.size + 1 + 1, 1, none⟩) (ownsRow_setCell_below (a := ⟨w.heap.size + 1 + 1, 0, none⟩) (ownsRow_setCell_below (a := ⟨w.heap.size + 1, 1, none⟩) (ownsRow_setCell_below (a := ⟨w.heap.size + 1, 0, none⟩) own h1 (.int .i64 s.next)) h1 (.slice A n c)) h2 (.int .i64 p.num)) h2 (.int .u32 p.val)
  have b2 := (((b.setCell (p := ⟨w.heap.size + 1, 0, none⟩) (Nat.le_succ _) (.int .i64 s.next)).setCell (p := ⟨w.heap.size + 1, 1, none⟩) (Nat.le_succ _) (.slice A n c)).setCell (p := ⟨w.heap.size + 1 + 1, 0, none⟩) (by show w.heap.size ≤ w.heap.size + 1 + 1; omega) (.int .i64 p.num)).setCell (p := ⟨w.heap.size + 1 + 1, 1, none⟩) (by show w.heap.size ≤ w.heap.size + 1 + 1; omega) (.int .u32 p.val)
  exact ⟨A, n, c, rfl, hn, Sl.of_own Pce.enc_len o2 hn, b2, own_fresh own (by omega)⟩

theorem gave_drew {w w' : World} {s : Snd} {p : Pce} {k : Int} {e : Ending} (h : GaveS w s p k e w') : GaveS w s p k e w'.drew := by
  obtain ⟨A, n, c, h1, h2, h3, h4, h5⟩ := h
  exact ⟨A, n, c, h1, h2, ⟨h3.big, h3.cell⟩, h4.drew, h5⟩
theorem cell_far2 {w : World} {X7 : Nat} {q : Addr} (h : (⟨X7, 1, none⟩ : Addr).block ≠ q.block) (u v : Value) : ((w.setCell ⟨X7, 1, none⟩ u).setCell ⟨X7, 0, none⟩ v).cell? q = w.cell? q := by
  rw [World.cell?_setCell_other _ _ _ _ (fun e => h (congrArg Addr.block e : (⟨X7, 0, none⟩ : Addr).block = _)), World.cell?_setCell_other _ _ _ _ (fun e => h (by rw [e]))]
theorem frozen_far2 (w : World) (X7 : Nat) {q : Addr} (u v : Value) : ((w.setCell ⟨X7, 1, none⟩ u).setCell ⟨X7, 0, none⟩ v).frozen? q = w.frozen? q := by simp
theorem lt_far2 {w : World} {X7 b : Nat} (u v : Value) (h : b < w.heap.size) : b < ((w.setCell ⟨X7, 1, none⟩ u).setCell ⟨X7, 0, none⟩ v).heap.size := by simpa using h

set_option maxHeartbeats 8000000 in
theorem send_bad (A : Option Addr) (c n : Nat) (s : Snd) (v : Int) (w : World) (hs : Sl 2 Pce.enc w A s.out) (hn : s.out.length = n) (hn1 : n ≤ 1000000)
    (hr : sRight s = false) :
    Calls Try.prog 6 #[.agg #[.int .i64 s.next, .slice A n c], .int .u32 v] w (GaveS w s ⟨0, 0⟩ 1) := by
  have b0 : Below w.heap.size w (((w.alloc (.cells #[.int .i64 s.next, .slice A n c] 27)).alloc (.cells #[.int .i64 0, .slice none 0 0] 27)).alloc (.cells #[.int .i64 0, .int .u32 0] 34)).drew := ((((Below.refl _ _).alloc (Nat.le_refl _) _).alloc (by simp) _).alloc (by simp <;> omega) _).drew
  have e0 : (((w.alloc (.cells #[.int .i64 s.next, .slice A n c] 27)).alloc (.cells #[.int .i64 0, .slice none 0 0] 27)).alloc (.cells #[.int .i64 0, .int .u32 0] 34)).drew.cell? ⟨w.heap.size, 0, none⟩ = some (.int .i64 s.next) := by go_simp
  have e1 : (((w.alloc (.cells #[.int .i64 s.next, .slice A n c] 27)).alloc (.cells #[.int .i64 0, .slice none 0 0] 27)).alloc (.cells #[.int .i64 0, .int .u32 0] 34)).drew.cell? ⟨w.heap.size, 1, none⟩ = some (.slice A n c) := by go_simp
  have r0 : (((w.alloc (.cells #[.int .i64 s.next, .slice A n c] 27)).alloc (.cells #[.int .i64 0, .slice none 0 0] 27)).alloc (.cells #[.int .i64 0, .int .u32 0] 34)).drew.cell? ⟨w.heap.size + 1, 0, none⟩ = some (.int .i64 0) := by go_simp
  have r1 : (((w.alloc (.cells #[.int .i64 s.next, .slice A n c] 27)).alloc (.cells #[.int .i64 0, .slice none 0 0] 27)).alloc (.cells #[.int .i64 0, .int .u32 0] 34)).drew.cell? ⟨w.heap.size + 1, 1, none⟩ = some (.slice none 0 0) := by go_simp
  have p0 : (((w.alloc (.cells #[.int .i64 s.next, .slice A n c] 27)).alloc (.cells #[.int .i64 0, .slice none 0 0] 27)).alloc (.cells #[.int .i64 0, .int .u32 0] 34)).drew.cell? ⟨w.heap.size + 1 + 1, 0, none⟩ = some (.int .i64 0) := by go_simp
  have p1 : (((w.alloc (.cells #[.int .i64 s.next, .slice A n c] 27)).alloc (.cells #[.int .i64 0, .slice none 0 0] 27)).alloc (.cells #[.int .i64 0, .int .u32 0] 34)).drew.cell? ⟨w.heap.size + 1 + 1, 1, none⟩ = some (.int .u32 0) := by go_simp
  have fr0 : (((w.alloc (.cells #[.int .i64 s.next, .slice A n c] 27)).alloc (.cells #[.int .i64 0, .slice none 0 0] 27)).alloc (.cells #[.int .i64 0, .int .u32 0] 34)).drew.frozen? ⟨w.heap.size + 1, 0, none⟩ = false := by go_simp
  have fr1 : (((w.alloc (.cells #[.int .i64 s.next, .slice A n c] 27)).alloc (.cells #[.int .i64 0, .slice none 0 0] 27)).alloc (.cells #[.int .i64 0, .int .u32 0] 34)).drew.frozen? ⟨w.heap.size + 1, 1, none⟩ = false := by go_simp
  have fp0 : (((w.alloc (.cells #[.int .i64 s.next, .slice A n c] 27)).alloc (.cells #[.int .i64 0, .slice none 0 0] 27)).alloc (.cells #[.int .i64 0, .int .u32 0] 34)).drew.frozen? ⟨w.heap.size + 1 + 1, 0, none⟩ = false := by go_simp
  have fp1 : (((w.alloc (.cells #[.int .i64 s.next, .slice A n c] 27)).alloc (.cells #[.int .i64 0, .slice none 0 0] 27)).alloc (.cells #[.int .i64 0, .int .u32 0] 34)).drew.frozen? ⟨w.heap.size + 1 + 1, 1, none⟩ = false := by go_simp
  have ltB : w.heap.size < (((w.alloc (.cells #[.int .i64 s.next, .slice A n c] 27)).alloc (.cells #[.int .i64 0, .slice none 0 0] 27)).alloc (.cells #[.int .i64 0, .int .u32 0] 34)).drew.heap.size := by simp <;> omega
  have ltR : w.heap.size + 1 < (((w.alloc (.cells #[.int .i64 s.next, .slice A n c] 27)).alloc (.cells #[.int .i64 0, .slice none 0 0] 27)).alloc (.cells #[.int .i64 0, .int .u32 0] 34)).drew.heap.size := by simp <;> omega
  have ltP : w.heap.size + 1 + 1 < (((w.alloc (.cells #[.int .i64 s.next, .slice A n c] 27)).alloc (.cells #[.int .i64 0, .slice none 0 0] 27)).alloc (.cells #[.int .i64 0, .int .u32 0] 34)).drew.heap.size := by simp <;> omega
  have cC := fun w1 (hb : Below (((w.alloc (.cells #[.int .i64 s.next, .slice A n c] 27)).alloc (.cells #[.int .i64 0, .slice none 0 0] 27)).alloc (.cells #[.int .i64 0, .int .u32 0] 34)).drew.heap.size (((w.alloc (.cells #[.int .i64 s.next, .slice A n c] 27)).alloc (.cells #[.int .i64 0, .slice none 0 0] 27)).alloc (.cells #[.int .i64 0, .int .u32 0] 34)).drew w1) => cloneP_any A c n s.out w1 (hs.below (b0.trans (hb.mono b0.size))) hn hn1
  have cR := fun w1 (hb : Below w.heap.size w w1) => sRight_any A c n s w1 (hs.below hb) hn
  rw [hr] at cR
  clear hr
  have HN := Lib.hid hn
  clear hs hn
  go_enter Try.func6, Try.ntmps6
  go_wp2_with fail
  generalize (((w.alloc (.cells #[.int .i64 s.next, .slice A n c] 27)).alloc (.cells #[.int .i64 0, .slice none 0 0] 27)).alloc (.cells #[.int .i64 0, .int .u32 0] 34)) = W0 at *
  refine wp_region_rg (by kernel_rfl) (by kernel_rfl) [9, 10, 11, 12, 13, 14, 7] (SendRPhi W0.drew w.heap.size A n c s) ?h0 ⟨?q0, ?q1, ?q2, ?q3, ?q4, ?q5, ?q6, ?q7, trivial⟩ ?hend
  case h0 => exact ⟨_, _, _, _, _, _, _, _, rfl, ⟨Below.refl _ _, (fun h => by cases h), (fun h => by cases h), (fun h => by cases h), (fun h => by cases h), (fun h => by cases h), (fun h => by cases h), (fun h => by cases h), (fun h => by cases h)⟩, rfl⟩
  case q0 =>
    rintro L vs w' K ⟨u9, u10, u11, u12, u13, u14, u7, wz, rfl, φ, rfl⟩ hL hpre hcl hK G hG
    simp [Region.binds, closedFrom] at hpre hcl
    have hst : L 7 = false := by
      cases h : L 7 with
      | false => rfl
      | true => simp [h, hL] at hcl
    simp only [hst, Bool.false_eq_true, if_false] at hK hG
    have hk := hK [(.pointer (some ⟨w.heap.size, 0, none⟩)), u10, u11, u12, u13, u14, u7] wz ⟨_, _, _, _, _, _, _, wz, rfl,
      { b := φ.b,
        s0 := fun _ => rfl,
        s1 := fun h0 => φ.s1 (by simpa using h0),
        s2 := fun h0 => φ.s2 (by simpa using h0),
        s3 := fun h0 => φ.s3 (by simpa using h0),
        s4 := fun h0 => φ.s4 (by simpa using h0),
        s5 := fun h0 => φ.s5 (by simpa using h0),
        x6 := fun h0 => φ.x6 (by simpa using h0),
        d6 := fun h0 h1 => φ.d6 (by simpa using h0) (by simpa using h1) }, by simp [hst]⟩
    refine hG ?_
    clear hK φ hG
    revert hk
    go_simp
    first | done | exact fun h => h
  case q1 =>
    rintro L vs w' K ⟨u9, u10, u11, u12, u13, u14, u7, wz, rfl, φ, rfl⟩ hL hpre hcl hK G hG
    simp [Region.binds, closedFrom] at hpre hcl
    have hst : L 7 = false := by
      cases h : L 7 with
      | false => rfl
      | true => simp [h, hL] at hcl
    simp only [hst, Bool.false_eq_true, if_false] at hK hG
    obtain rfl := φ.s0 (by simp [hpre])
    have ce := (φ.b.cell (p := ⟨w.heap.size, 0, none⟩) ltB).trans e0
    have hk := hK [(.pointer (some ⟨w.heap.size, 0, none⟩)), (.int .i64 s.next), u11, u12, u13, u14, u7] wz ⟨_, _, _, _, _, _, _, wz, rfl,
      { b := φ.b,
        s0 := fun h0 => φ.s0 (by simpa using h0),
        s1 := fun _ => rfl,
        s2 := fun h0 => φ.s2 (by simpa using h0),
        s3 := fun h0 => φ.s3 (by simpa using h0),
        s4 := fun h0 => φ.s4 (by simpa using h0),
        s5 := fun h0 => φ.s5 (by simpa using h0),
        x6 := fun h0 => φ.x6 (by simpa using h0),
        d6 := fun h0 h1 => φ.d6 (by simpa using h0) (by simpa using h1) }, by simp [hst]⟩
    refine hG ?_
    clear hK φ hG
    revert hk
    go_simp
    first | done | exact fun h => h
  case q2 =>
    rintro L vs w' K ⟨u9, u10, u11, u12, u13, u14, u7, wz, rfl, φ, rfl⟩ hL hpre hcl hK G hG
    simp [Region.binds, closedFrom] at hpre hcl
    have hst : L 7 = false := by
      cases h : L 7 with
      | false => rfl
      | true => simp [h, hL] at hcl
    simp only [hst, Bool.false_eq_true, if_false] at hK hG
    have hk := hK [u9, u10, (.pointer (some ⟨w.heap.size, 1, none⟩)), u12, u13, u14, u7] wz ⟨_, _, _, _, _, _, _, wz, rfl,
      { b := φ.b,
        s0 := fun h0 => φ.s0 (by simpa using h0),
        s1 := fun h0 => φ.s1 (by simpa using h0),
        s2 := fun _ => rfl,
        s3 := fun h0 => φ.s3 (by simpa using h0),
        s4 := fun h0 => φ.s4 (by simpa using h0),
        s5 := fun h0 => φ.s5 (by simpa using h0),
        x6 := fun h0 => φ.x6 (by simpa using h0),
        d6 := fun h0 h1 => φ.d6 (by simpa using h0) (by simpa using h1) }, by simp [hst]⟩
    refine hG ?_
    clear hK φ hG
    revert hk
    go_simp
    first | done | exact fun h => h
  case q3 =>
    rintro L vs w' K ⟨u9, u10, u11, u12, u13, u14, u7, wz, rfl, φ, rfl⟩ hL hpre hcl hK G hG
    simp [Region.binds, closedFrom] at hpre hcl
    have hst : L 7 = false := by
      cases h : L 7 with
      | false => rfl
      | true => simp [h, hL] at hcl
    simp only [hst, Bool.false_eq_true, if_false] at hK hG
    obtain rfl := φ.s2 (by simp [hpre])
    have ce := (φ.b.cell (p := ⟨w.heap.size, 1, none⟩) ltB).trans e1
    have hk := hK [u9, u10, (.pointer (some ⟨w.heap.size, 1, none⟩)), (.slice A n c), u13, u14, u7] wz ⟨_, _, _, _, _, _, _, wz, rfl,
      { b := φ.b,
        s0 := fun h0 => φ.s0 (by simpa using h0),
        s1 := fun h0 => φ.s1 (by simpa using h0),
        s2 := fun h0 => φ.s2 (by simpa using h0),
        s3 := fun _ => rfl,
        s4 := fun h0 => φ.s4 (by simpa using h0),
        s5 := fun h0 => φ.s5 (by simpa using h0),
        x6 := fun h0 => φ.x6 (by simpa using h0),
        d6 := fun h0 h1 => φ.d6 (by simpa using h0) (by simpa using h1) }, by simp [hst]⟩
    refine hG ?_
    clear hK φ hG
    revert hk
    go_simp
    first | done | exact fun h => h
  case q4 =>
    rintro L vs w' K ⟨u9, u10, u11, u12, u13, u14, u7, wz, rfl, φ, rfl⟩ hL hpre hcl hK G hG
    simp [Region.binds, closedFrom] at hpre hcl
    have hst : L 7 = false := by
      cases h : L 7 with
      | false => rfl
      | true => simp [h, hL] at hcl
    simp only [hst, Bool.false_eq_true, if_false] at hK hG
    obtain rfl := φ.s3 (by simp [hpre])
    have L5 : L 5 = false := by
      cases h : L 5 with
      | false => rfl
      | true => simp [h, hL] at hcl
    refine hG (step_call wz rfl 13 #[.tmp 12] #[25] rfl #[.slice A n c] (by simp [Act.eval, Act.puts, Act.put]) (enters_of Try.func13 (by kernel_rfl) rfl) (cC wz φ.b) ?_)
    rintro e w9 ⟨v', rfl, ownN, hb9⟩
    refine ⟨v', rfl, ?_⟩
    have hk := hK [u9, u10, u11, (.slice A n c), (v'), u14, u7] w9 ⟨_, _, _, _, _, _, _, w9, rfl,
      { b := φ.b.trans (hb9.mono φ.b.size),
        s0 := fun h0 => φ.s0 (by simpa using h0),
        s1 := fun h0 => φ.s1 (by simpa using h0),
        s2 := fun h0 => φ.s2 (by simpa using h0),
        s3 := fun h0 => φ.s3 (by simpa using h0),
        s4 := fun _ => own_weaken' ownN φ.b.size,
        s5 := fun h => by simp [L5] at h,
        x6 := fun h => by
          obtain ⟨X, y1, y2, y3, y4, y5, y6, y7⟩ := φ.x6 (by simpa using h)
          exact ⟨X, y1, y2, Nat.lt_of_lt_of_le y3 hb9.size, (hb9.cell (p := ⟨X, 0, none⟩) y3).trans y4, (hb9.cell (p := ⟨X, 1, none⟩) y3).trans y5, (hb9.frozen (p := ⟨X, 0, none⟩) y3).trans y6, (hb9.frozen (p := ⟨X, 1, none⟩) y3).trans y7⟩,
        d6 := fun h _ X hX hE => by
          obtain ⟨X', y1, y2, y3, _⟩ := φ.x6 (by simpa using h)
          rw [hX] at y1
          obtain rfl : X = X' := by simpa using y1
          have := (ownN.lt _ hE).1
          omega }, by simp [hst]⟩
    clear hK φ hG
    revert hk
    go_simp
    first | done | exact fun h => h
  case q5 =>
    rintro L vs w' K ⟨u9, u10, u11, u12, u13, u14, u7, wz, rfl, φ, rfl⟩ hL hpre hcl hK G hG
    simp [Region.binds, closedFrom] at hpre hcl
    have hst : L 7 = false := by
      cases h : L 7 with
      | false => rfl
      | true => simp [h, hL] at hcl
    simp only [hst, Bool.false_eq_true, if_false] at hK hG
    obtain rfl := φ.s1 (by simp [hpre])
    obtain ⟨A3, c3, rfl⟩ := own_shape (φ.s4 (by simp [hpre]))
    have hk := hK [u9, (.int .i64 s.next), u11, u12, (.slice A3 n c3), (.agg #[.int .i64 s.next, .slice A3 n c3]), u7] wz ⟨_, _, _, _, _, _, _, wz, rfl,
      { b := φ.b,
        s0 := fun h0 => φ.s0 (by simpa using h0),
        s1 := fun h0 => φ.s1 (by simpa using h0),
        s2 := fun h0 => φ.s2 (by simpa using h0),
        s3 := fun h0 => φ.s3 (by simpa using h0),
        s4 := fun h0 => φ.s4 (by simpa using h0),
        s5 := fun _ => rfl,
        x6 := fun h0 => φ.x6 (by simpa using h0),
        d6 := fun h0 h1 => φ.d6 (by simpa using h0) (by simpa using h1) }, by simp [hst]⟩
    refine hG ?_
    clear hK φ hG
    revert hk
    go_simp
    first | done | exact fun h => h
  case q6 =>
    rintro L vs w' K ⟨u9, u10, u11, u12, u13, u14, u7, wz, rfl, φ, rfl⟩ hL hpre hcl hK G hG
    simp [Region.binds, closedFrom] at hpre hcl
    have hst : L 7 = false := by
      cases h : L 7 with
      | false => rfl
      | true => simp [h, hL] at hcl
    simp only [hst, Bool.false_eq_true, if_false] at hK hG
    have hk := hK [u9, u10, u11, u12, u13, u14, (.pointer (some ⟨wz.heap.size, 0, none⟩))] (wz.alloc (.cells #[.int .i64 0, .slice none 0 0] 27)) ⟨_, _, _, _, _, _, _, (wz.alloc (.cells #[.int .i64 0, .slice none 0 0] 27)), rfl,
      { b := φ.b.alloc φ.b.size _,
        s0 := fun h0 => φ.s0 (by simpa using h0),
        s1 := fun h0 => φ.s1 (by simpa using h0),
        s2 := fun h0 => φ.s2 (by simpa using h0),
        s3 := fun h0 => φ.s3 (by simpa using h0),
        s4 := fun h0 => (φ.s4 (by simpa using h0)).alloc _,
        s5 := fun h0 => φ.s5 (by simpa using h0),
        x6 := fun _ => ⟨wz.heap.size, rfl, φ.b.size, by simp, by go_simp, by go_simp, by go_simp, by go_simp⟩,
        d6 := fun _ h0 X hX e => by
          obtain rfl : wz.heap.size = X := by simpa using hX
          exact Nat.lt_irrefl _ ((φ.s4 (by simpa using h0)).lt _ e).2 }, by simp [hst]⟩
    refine hG ?_
    clear hK φ hG
    revert hk
    go_simp
    first | done | exact fun h => h
  case q7 =>
    rintro L vs w' K ⟨u9, u10, u11, u12, u13, u14, u7, wz, rfl, φ, rfl⟩ hL hpre hcl hK G hG
    simp [Region.binds, closedFrom] at hpre hcl
    simp only [hL, Bool.false_eq_true, if_false] at hK hG
    obtain ⟨A3, c3, rfl⟩ := own_shape (φ.s4 (by simp [hpre]))
    obtain rfl := φ.s5 (by simp [hpre])
    obtain ⟨X, rfl, x2, x3, x4, x5, x6, x7⟩ := φ.x6 (by simp [hpre])
    have hk := hK [u9, u10, u11, u12, (.slice A3 n c3), (.agg #[.int .i64 s.next, .slice A3 n c3]), (.pointer (some ⟨X, 0, none⟩))] ((wz.setCell ⟨X, 0, none⟩ (.int .i64 s.next)).setCell ⟨X, 1, none⟩ (.slice A3 n c3)) ⟨_, _, _, _, _, _, _, wz, rfl,
      { b := φ.b,
        s0 := fun h0 => φ.s0 (by simpa using h0),
        s1 := fun h0 => φ.s1 (by simpa using h0),
        s2 := fun h0 => φ.s2 (by simpa using h0),
        s3 := fun h0 => φ.s3 (by simpa using h0),
        s4 := fun h0 => φ.s4 (by simpa using h0),
        s5 := fun h0 => φ.s5 (by simpa using h0),
        x6 := fun h0 => φ.x6 (by simpa using h0),
        d6 := fun h0 h1 => φ.d6 (by simpa using h0) (by simpa using h1) }, by simp [laidAt]⟩
    refine hG ?_
    clear hK φ hG
    revert hk
    go_simp
    first | done | exact fun h => h
  case hend =>
    rintro vs w' ⟨u9, u10, u11, u12, u13, u14, u7, wz, rfl, φ, rfl⟩ G hG
    have o4 := φ.s4 rfl
    have b9 := φ.b
    obtain ⟨A3, c3, rfl⟩ := own_shape o4
    obtain ⟨X7, rfl, x2, x3, x4, x5, x6, x7⟩ := φ.x6 rfl
    have ne7 := φ.d6 rfl rfl X7 rfl
    clear φ
    have hst : decide (7 < 8) = true := rfl
    simp only [List.size_toArray, List.length_cons, List.length_nil, Nat.zero_add, Nat.reduceAdd, hst, if_true, laidAt] at hG
    have CP : Copied W0.drew ((wz.setCell ⟨X7, 0, none⟩ (.int .i64 s.next)).setCell ⟨X7, 1, none⟩ (.slice A3 n c3)) X7 s n A3 c3 :=
      ⟨by go_simp, by go_simp, by go_simp, by go_simp, x2, by simpa using x3, ownsRow_setCell_other (a := ⟨X7, 1, none⟩) (ownsRow_setCell_other (a := ⟨X7, 0, none⟩) o4 ne7 _) ne7 _, ne7, (b9.setCell x2 _).setCell x2 _⟩
    clear hst o4 b9 x2 x3 x4 x5 x6 x7 ne7
    refine hG ?_
    clear hG
    generalize (wz.setCell ⟨X7, 0, none⟩ (.int .i64 s.next)).setCell ⟨X7, 1, none⟩ (.slice A3 n c3) = w2 at *
    obtain ⟨x0, x1, f0, f1, lo, hi, own, ne, b9⟩ := CP
    have qP : w.heap.size + 1 + 1 < X7 := Nat.lt_of_lt_of_le ltP lo
    have loS : w.heap.size + 3 ≤ W0.drew.heap.size := by omega
    replace e0 := (b9.cell (p := ⟨w.heap.size, 0, none⟩) (World.block_lt_of_cell? _ _ e0)).trans e0
    replace e1 := (b9.cell (p := ⟨w.heap.size, 1, none⟩) (World.block_lt_of_cell? _ _ e1)).trans e1
    replace r0 := (b9.cell (p := ⟨w.heap.size + 1, 0, none⟩) (World.block_lt_of_cell? _ _ r0)).trans r0
    replace r1 := (b9.cell (p := ⟨w.heap.size + 1, 1, none⟩) (World.block_lt_of_cell? _ _ r1)).trans r1
    replace p0 := (b9.cell (p := ⟨w.heap.size + 1 + 1, 0, none⟩) (World.block_lt_of_cell? _ _ p0)).trans p0
    replace p1 := (b9.cell (p := ⟨w.heap.size + 1 + 1, 1, none⟩) (World.block_lt_of_cell? _ _ p1)).trans p1
    replace fr0 := (b9.frozen (p := ⟨w.heap.size + 1, 0, none⟩) ltR).trans fr0
    replace fr1 := (b9.frozen (p := ⟨w.heap.size + 1, 1, none⟩) ltR).trans fr1
    replace fp0 := (b9.frozen (p := ⟨w.heap.size + 1 + 1, 0, none⟩) ltP).trans fp0
    replace fp1 := (b9.frozen (p := ⟨w.heap.size + 1 + 1, 1, none⟩) ltP).trans fp1
    replace ltB := Nat.lt_of_lt_of_le ltB b9.size
    replace ltR := Nat.lt_of_lt_of_le ltR b9.size
    replace ltP := Nat.lt_of_lt_of_le ltP b9.size
    replace b0 := b0.trans (b9.mono b0.size)
    clear b9 cC
    go_wp2_with fail
    refine (cR _ b0).mono ?_
    rintro e w3 ⟨rfl, hb3⟩
    replace e0 := (hb3.cell (p := ⟨w.heap.size, 0, none⟩) (World.block_lt_of_cell? _ _ e0)).trans e0
    replace e1 := (hb3.cell (p := ⟨w.heap.size, 1, none⟩) (World.block_lt_of_cell? _ _ e1)).trans e1
    replace r0 := (hb3.cell (p := ⟨w.heap.size + 1, 0, none⟩) (World.block_lt_of_cell? _ _ r0)).trans r0
    replace r1 := (hb3.cell (p := ⟨w.heap.size + 1, 1, none⟩) (World.block_lt_of_cell? _ _ r1)).trans r1
    replace p0 := (hb3.cell (p := ⟨w.heap.size + 1 + 1, 0, none⟩) (World.block_lt_of_cell? _ _ p0)).trans p0
    replace p1 := (hb3.cell (p := ⟨w.heap.size + 1 + 1, 1, none⟩) (World.block_lt_of_cell? _ _ p1)).trans p1
    replace x0 := (hb3.cell (p := ⟨X7, 0, none⟩) (World.block_lt_of_cell? _ _ x0)).trans x0
    replace x1 := (hb3.cell (p := ⟨X7, 1, none⟩) (World.block_lt_of_cell? _ _ x1)).trans x1
    replace fr0 := (hb3.frozen (p := ⟨w.heap.size + 1, 0, none⟩) ltR).trans fr0
    replace fr1 := (hb3.frozen (p := ⟨w.heap.size + 1, 1, none⟩) ltR).trans fr1
    replace fp0 := (hb3.frozen (p := ⟨w.heap.size + 1 + 1, 0, none⟩) ltP).trans fp0
    replace fp1 := (hb3.frozen (p := ⟨w.heap.size + 1 + 1, 1, none⟩) ltP).trans fp1
    replace f0 := (hb3.frozen (p := ⟨X7, 0, none⟩) hi).trans f0
    replace f1 := (hb3.frozen (p := ⟨X7, 1, none⟩) hi).trans f1
    replace ltB := Nat.lt_of_lt_of_le ltB hb3.size
    replace ltR := Nat.lt_of_lt_of_le ltR hb3.size
    replace ltP := Nat.lt_of_lt_of_le ltP hb3.size
    replace hi := Nat.lt_of_lt_of_le hi hb3.size
    replace own := own_below own hb3
    replace b0 := b0.trans (hb3.mono b0.size)
    clear hb3
    go_wp2_with fail
    exact bodyPost_ret (v := .tuple #[.agg #[.int .i64 s.next, .slice A3 n c3], .agg #[.int .i64 0, .int .u32 0], .int .i64 1]) (by simp [results, Try.results6, go_sem, r0, r1, p0, p1]) rfl (gave_ret (p := ⟨0, 0⟩) HN.out own loS b0)

set_option maxHeartbeats 8000000 in
theorem send_full (A : Option Addr) (c n : Nat) (s : Snd) (v : Int) (w : World) (hs : Sl 2 Pce.enc w A s.out) (hn : s.out.length = n) (hn1 : n ≤ 1000000)
    (hr : sRight s = true) (h16 : n = 16) :
    Calls Try.prog 6 #[.agg #[.int .i64 s.next, .slice A n c], .int .u32 v] w (GaveS w s ⟨0, 0⟩ 6) := by
  have b0 : Below w.heap.size w (((w.alloc (.cells #[.int .i64 s.next, .slice A n c] 27)).alloc (.cells #[.int .i64 0, .slice none 0 0] 27)).alloc (.cells #[.int .i64 0, .int .u32 0] 34)).drew := ((((Below.refl _ _).alloc (Nat.le_refl _) _).alloc (by simp) _).alloc (by simp <;> omega) _).drew
  have e0 : (((w.alloc (.cells #[.int .i64 s.next, .slice A n c] 27)).alloc (.cells #[.int .i64 0, .slice none 0 0] 27)).alloc (.cells #[.int .i64 0, .int .u32 0] 34)).drew.cell? ⟨w.heap.size, 0, none⟩ = some (.int .i64 s.next) := by go_simp
  have e1 : (((w.alloc (.cells #[.int .i64 s.next, .slice A n c] 27)).alloc (.cells #[.int .i64 0, .slice none 0 0] 27)).alloc (.cells #[.int .i64 0, .int .u32 0] 34)).drew.cell? ⟨w.heap.size, 1, none⟩ = some (.slice A n c) := by go_simp
  have r0 : (((w.alloc (.cells #[.int .i64 s.next, .slice A n c] 27)).alloc (.cells #[.int .i64 0, .slice none 0 0] 27)).alloc (.cells #[.int .i64 0, .int .u32 0] 34)).drew.cell? ⟨w.heap.size + 1, 0, none⟩ = some (.int .i64 0) := by go_simp
  have r1 : (((w.alloc (.cells #[.int .i64 s.next, .slice A n c] 27)).alloc (.cells #[.int .i64 0, .slice none 0 0] 27)).alloc (.cells #[.int .i64 0, .int .u32 0] 34)).drew.cell? ⟨w.heap.size + 1, 1, none⟩ = some (.slice none 0 0) := by go_simp
  have p0 : (((w.alloc (.cells #[.int .i64 s.next, .slice A n c] 27)).alloc (.cells #[.int .i64 0, .slice none 0 0] 27)).alloc (.cells #[.int .i64 0, .int .u32 0] 34)).drew.cell? ⟨w.heap.size + 1 + 1, 0, none⟩ = some (.int .i64 0) := by go_simp
  have p1 : (((w.alloc (.cells #[.int .i64 s.next, .slice A n c] 27)).alloc (.cells #[.int .i64 0, .slice none 0 0] 27)).alloc (.cells #[.int .i64 0, .int .u32 0] 34)).drew.cell? ⟨w.heap.size + 1 + 1, 1, none⟩ = some (.int .u32 0) := by go_simp
  have fr0 : (((w.alloc (.cells #[.int .i64 s.next, .slice A n c] 27)).alloc (.cells #[.int .i64 0, .slice none 0 0] 27)).alloc (.cells #[.int .i64 0, .int .u32 0] 34)).drew.frozen? ⟨w.heap.size + 1, 0, none⟩ = false := by go_simp
  have fr1 : (((w.alloc (.cells #[.int .i64 s.next, .slice A n c] 27)).alloc (.cells #[.int .i64 0, .slice none 0 0] 27)).alloc (.cells #[.int .i64 0, .int .u32 0] 34)).drew.frozen? ⟨w.heap.size + 1, 1, none⟩ = false := by go_simp
  have fp0 : (((w.alloc (.cells #[.int .i64 s.next, .slice A n c] 27)).alloc (.cells #[.int .i64 0, .slice none 0 0] 27)).alloc (.cells #[.int .i64 0, .int .u32 0] 34)).drew.frozen? ⟨w.heap.size + 1 + 1, 0, none⟩ = false := by go_simp
  have fp1 : (((w.alloc (.cells #[.int .i64 s.next, .slice A n c] 27)).alloc (.cells #[.int .i64 0, .slice none 0 0] 27)).alloc (.cells #[.int .i64 0, .int .u32 0] 34)).drew.frozen? ⟨w.heap.size + 1 + 1, 1, none⟩ = false := by go_simp
  have ltB : w.heap.size < (((w.alloc (.cells #[.int .i64 s.next, .slice A n c] 27)).alloc (.cells #[.int .i64 0, .slice none 0 0] 27)).alloc (.cells #[.int .i64 0, .int .u32 0] 34)).drew.heap.size := by simp <;> omega
  have ltR : w.heap.size + 1 < (((w.alloc (.cells #[.int .i64 s.next, .slice A n c] 27)).alloc (.cells #[.int .i64 0, .slice none 0 0] 27)).alloc (.cells #[.int .i64 0, .int .u32 0] 34)).drew.heap.size := by simp <;> omega
  have ltP : w.heap.size + 1 + 1 < (((w.alloc (.cells #[.int .i64 s.next, .slice A n c] 27)).alloc (.cells #[.int .i64 0, .slice none 0 0] 27)).alloc (.cells #[.int .i64 0, .int .u32 0] 34)).drew.heap.size := by simp <;> omega
  have cC := fun w1 (hb : Below (((w.alloc (.cells #[.int .i64 s.next, .slice A n c] 27)).alloc (.cells #[.int .i64 0, .slice none 0 0] 27)).alloc (.cells #[.int .i64 0, .int .u32 0] 34)).drew.heap.size (((w.alloc (.cells #[.int .i64 s.next, .slice A n c] 27)).alloc (.cells #[.int .i64 0, .slice none 0 0] 27)).alloc (.cells #[.int .i64 0, .int .u32 0] 34)).drew w1) => cloneP_any A c n s.out w1 (hs.below (b0.trans (hb.mono b0.size))) hn hn1
  have cR := fun w1 (hb : Below w.heap.size w w1) => sRight_any A c n s w1 (hs.below hb) hn
  rw [hr] at cR
  have z16 : ((n : Int) == 16) = true := by rw [beq_iff_eq]; omega
  clear hr h16
  have HN := Lib.hid hn
  clear hs hn
  go_enter Try.func6, Try.ntmps6
  go_wp2_with fail
  generalize (((w.alloc (.cells #[.int .i64 s.next, .slice A n c] 27)).alloc (.cells #[.int .i64 0, .slice none 0 0] 27)).alloc (.cells #[.int .i64 0, .int .u32 0] 34)) = W0 at *
  refine wp_region_rg (by kernel_rfl) (by kernel_rfl) [9, 10, 11, 12, 13, 14, 7] (SendRPhi W0.drew w.heap.size A n c s) ?h0 ⟨?q0, ?q1, ?q2, ?q3, ?q4, ?q5, ?q6, ?q7, trivial⟩ ?hend
  case h0 => exact ⟨_, _, _, _, _, _, _, _, rfl, ⟨Below.refl _ _, (fun h => by cases h), (fun h => by cases h), (fun h => by cases h), (fun h => by cases h), (fun h => by cases h), (fun h => by cases h), (fun h => by cases h), (fun h => by cases h)⟩, rfl⟩
  case q0 =>
    rintro L vs w' K ⟨u9, u10, u11, u12, u13, u14, u7, wz, rfl, φ, rfl⟩ hL hpre hcl hK G hG
    simp [Region.binds, closedFrom] at hpre hcl
    have hst : L 7 = false := by
      cases h : L 7 with
      | false => rfl
      | true => simp [h, hL] at hcl
    simp only [hst, Bool.false_eq_true, if_false] at hK hG
    have hk := hK [(.pointer (some ⟨w.heap.size, 0, none⟩)), u10, u11, u12, u13, u14, u7] wz ⟨_, _, _, _, _, _, _, wz, rfl,
      { b := φ.b,
        s0 := fun _ => rfl,
        s1 := fun h0 => φ.s1 (by simpa using h0),
        s2 := fun h0 => φ.s2 (by simpa using h0),
        s3 := fun h0 => φ.s3 (by simpa using h0),
        s4 := fun h0 => φ.s4 (by simpa using h0),
        s5 := fun h0 => φ.s5 (by simpa using h0),
        x6 := fun h0 => φ.x6 (by simpa using h0),
        d6 := fun h0 h1 => φ.d6 (by simpa using h0) (by simpa using h1) }, by simp [hst]⟩
    refine hG ?_
    clear hK φ hG
    revert hk
    go_simp
    first | done | exact fun h => h
  case q1 =>
    rintro L vs w' K ⟨u9, u10, u11, u12, u13, u14, u7, wz, rfl, φ, rfl⟩ hL hpre hcl hK G hG
    simp [Region.binds, closedFrom] at hpre hcl
    have hst : L 7 = false := by
      cases h : L 7 with
      | false => rfl
      | true => simp [h, hL] at hcl
    simp only [hst, Bool.false_eq_true, if_false] at hK hG
    obtain rfl := φ.s0 (by simp [hpre])
    have ce := (φ.b.cell (p := ⟨w.heap.size, 0, none⟩) ltB).trans e0
    have hk := hK [(.pointer (some ⟨w.heap.size, 0, none⟩)), (.int .i64 s.next), u11, u12, u13, u14, u7] wz ⟨_, _, _, _, _, _, _, wz, rfl,
      { b := φ.b,
        s0 := fun h0 => φ.s0 (by simpa using h0),
        s1 := fun _ => rfl,
        s2 := fun h0 => φ.s2 (by simpa using h0),
        s3 := fun h0 => φ.s3 (by simpa using h0),
        s4 := fun h0 => φ.s4 (by simpa using h0),
        s5 := fun h0 => φ.s5 (by simpa using h0),
        x6 := fun h0 => φ.x6 (by simpa using h0),
        d6 := fun h0 h1 => φ.d6 (by simpa using h0) (by simpa using h1) }, by simp [hst]⟩
    refine hG ?_
    clear hK φ hG
    revert hk
    go_simp
    first | done | exact fun h => h
  case q2 =>
    rintro L vs w' K ⟨u9, u10, u11, u12, u13, u14, u7, wz, rfl, φ, rfl⟩ hL hpre hcl hK G hG
    simp [Region.binds, closedFrom] at hpre hcl
    have hst : L 7 = false := by
      cases h : L 7 with
      | false => rfl
      | true => simp [h, hL] at hcl
    simp only [hst, Bool.false_eq_true, if_false] at hK hG
    have hk := hK [u9, u10, (.pointer (some ⟨w.heap.size, 1, none⟩)), u12, u13, u14, u7] wz ⟨_, _, _, _, _, _, _, wz, rfl,
      { b := φ.b,
        s0 := fun h0 => φ.s0 (by simpa using h0),
        s1 := fun h0 => φ.s1 (by simpa using h0),
        s2 := fun _ => rfl,
        s3 := fun h0 => φ.s3 (by simpa using h0),
        s4 := fun h0 => φ.s4 (by simpa using h0),
        s5 := fun h0 => φ.s5 (by simpa using h0),
        x6 := fun h0 => φ.x6 (by simpa using h0),
        d6 := fun h0 h1 => φ.d6 (by simpa using h0) (by simpa using h1) }, by simp [hst]⟩
    refine hG ?_
    clear hK φ hG
    revert hk
    go_simp
    first | done | exact fun h => h
  case q3 =>
    rintro L vs w' K ⟨u9, u10, u11, u12, u13, u14, u7, wz, rfl, φ, rfl⟩ hL hpre hcl hK G hG
    simp [Region.binds, closedFrom] at hpre hcl
    have hst : L 7 = false := by
      cases h : L 7 with
      | false => rfl
      | true => simp [h, hL] at hcl
    simp only [hst, Bool.false_eq_true, if_false] at hK hG
    obtain rfl := φ.s2 (by simp [hpre])
    have ce := (φ.b.cell (p := ⟨w.heap.size, 1, none⟩) ltB).trans e1
    have hk := hK [u9, u10, (.pointer (some ⟨w.heap.size, 1, none⟩)), (.slice A n c), u13, u14, u7] wz ⟨_, _, _, _, _, _, _, wz, rfl,
      { b := φ.b,
        s0 := fun h0 => φ.s0 (by simpa using h0),
        s1 := fun h0 => φ.s1 (by simpa using h0),
        s2 := fun h0 => φ.s2 (by simpa using h0),
        s3 := fun _ => rfl,
        s4 := fun h0 => φ.s4 (by simpa using h0),
        s5 := fun h0 => φ.s5 (by simpa using h0),
        x6 := fun h0 => φ.x6 (by simpa using h0),
        d6 := fun h0 h1 => φ.d6 (by simpa using h0) (by simpa using h1) }, by simp [hst]⟩
    refine hG ?_
    clear hK φ hG
    revert hk
    go_simp
    first | done | exact fun h => h
  case q4 =>
    rintro L vs w' K ⟨u9, u10, u11, u12, u13, u14, u7, wz, rfl, φ, rfl⟩ hL hpre hcl hK G hG
    simp [Region.binds, closedFrom] at hpre hcl
    have hst : L 7 = false := by
      cases h : L 7 with
      | false => rfl
      | true => simp [h, hL] at hcl
    simp only [hst, Bool.false_eq_true, if_false] at hK hG
    obtain rfl := φ.s3 (by simp [hpre])
    have L5 : L 5 = false := by
      cases h : L 5 with
      | false => rfl
      | true => simp [h, hL] at hcl
    refine hG (step_call wz rfl 13 #[.tmp 12] #[25] rfl #[.slice A n c] (by simp [Act.eval, Act.puts, Act.put]) (enters_of Try.func13 (by kernel_rfl) rfl) (cC wz φ.b) ?_)
    rintro e w9 ⟨v', rfl, ownN, hb9⟩
    refine ⟨v', rfl, ?_⟩
    have hk := hK [u9, u10, u11, (.slice A n c), (v'), u14, u7] w9 ⟨_, _, _, _, _, _, _, w9, rfl,
      { b := φ.b.trans (hb9.mono φ.b.size),
        s0 := fun h0 => φ.s0 (by simpa using h0),
        s1 := fun h0 => φ.s1 (by simpa using h0),
        s2 := fun h0 => φ.s2 (by simpa using h0),
        s3 := fun h0 => φ.s3 (by simpa using h0),
        s4 := fun _ => own_weaken' ownN φ.b.size,
        s5 := fun h => by simp [L5] at h,
        x6 := fun h => by
          obtain ⟨X, y1, y2, y3, y4, y5, y6, y7⟩ := φ.x6 (by simpa using h)
          exact ⟨X, y1, y2, Nat.lt_of_lt_of_le y3 hb9.size, (hb9.cell (p := ⟨X, 0, none⟩) y3).trans y4, (hb9.cell (p := ⟨X, 1, none⟩) y3).trans y5, (hb9.frozen (p := ⟨X, 0, none⟩) y3).trans y6, (hb9.frozen (p := ⟨X, 1, none⟩) y3).trans y7⟩,
        d6 := fun h _ X hX hE => by
          obtain ⟨X', y1, y2, y3, _⟩ := φ.x6 (by simpa using h)
          rw [hX] at y1
          obtain rfl : X = X' := by simpa using y1
          have := (ownN.lt _ hE).1
          omega }, by simp [hst]⟩
    clear hK φ hG
    revert hk
    go_simp
    first | done | exact fun h => h
  case q5 =>
    rintro L vs w' K ⟨u9, u10, u11, u12, u13, u14, u7, wz, rfl, φ, rfl⟩ hL hpre hcl hK G hG
    simp [Region.binds, closedFrom] at hpre hcl
    have hst : L 7 = false := by
      cases h : L 7 with
      | false => rfl
      | true => simp [h, hL] at hcl
    simp only [hst, Bool.false_eq_true, if_false] at hK hG
    obtain rfl := φ.s1 (by simp [hpre])
    obtain ⟨A3, c3, rfl⟩ := own_shape (φ.s4 (by simp [hpre]))
    have hk := hK [u9, (.int .i64 s.next), u11, u12, (.slice A3 n c3), (.agg #[.int .i64 s.next, .slice A3 n c3]), u7] wz ⟨_, _, _, _, _, _, _, wz, rfl,
      { b := φ.b,
        s0 := fun h0 => φ.s0 (by simpa using h0),
        s1 := fun h0 => φ.s1 (by simpa using h0),
        s2 := fun h0 => φ.s2 (by simpa using h0),
        s3 := fun h0 => φ.s3 (by simpa using h0),
        s4 := fun h0 => φ.s4 (by simpa using h0),
        s5 := fun _ => rfl,
        x6 := fun h0 => φ.x6 (by simpa using h0),
        d6 := fun h0 h1 => φ.d6 (by simpa using h0) (by simpa using h1) }, by simp [hst]⟩
    refine hG ?_
    clear hK φ hG
    revert hk
    go_simp
    first | done | exact fun h => h
  case q6 =>
    rintro L vs w' K ⟨u9, u10, u11, u12, u13, u14, u7, wz, rfl, φ, rfl⟩ hL hpre hcl hK G hG
    simp [Region.binds, closedFrom] at hpre hcl
    have hst : L 7 = false := by
      cases h : L 7 with
      | false => rfl
      | true => simp [h, hL] at hcl
    simp only [hst, Bool.false_eq_true, if_false] at hK hG
    have hk := hK [u9, u10, u11, u12, u13, u14, (.pointer (some ⟨wz.heap.size, 0, none⟩))] (wz.alloc (.cells #[.int .i64 0, .slice none 0 0] 27)) ⟨_, _, _, _, _, _, _, (wz.alloc (.cells #[.int .i64 0, .slice none 0 0] 27)), rfl,
      { b := φ.b.alloc φ.b.size _,
        s0 := fun h0 => φ.s0 (by simpa using h0),
        s1 := fun h0 => φ.s1 (by simpa using h0),
        s2 := fun h0 => φ.s2 (by simpa using h0),
        s3 := fun h0 => φ.s3 (by simpa using h0),
        s4 := fun h0 => (φ.s4 (by simpa using h0)).alloc _,
        s5 := fun h0 => φ.s5 (by simpa using h0),
        x6 := fun _ => ⟨wz.heap.size, rfl, φ.b.size, by simp, by go_simp, by go_simp, by go_simp, by go_simp⟩,
        d6 := fun _ h0 X hX e => by
          obtain rfl : wz.heap.size = X := by simpa using hX
          exact Nat.lt_irrefl _ ((φ.s4 (by simpa using h0)).lt _ e).2 }, by simp [hst]⟩
    refine hG ?_
    clear hK φ hG
    revert hk
    go_simp
    first | done | exact fun h => h
  case q7 =>
    rintro L vs w' K ⟨u9, u10, u11, u12, u13, u14, u7, wz, rfl, φ, rfl⟩ hL hpre hcl hK G hG
    simp [Region.binds, closedFrom] at hpre hcl
    simp only [hL, Bool.false_eq_true, if_false] at hK hG
    obtain ⟨A3, c3, rfl⟩ := own_shape (φ.s4 (by simp [hpre]))
    obtain rfl := φ.s5 (by simp [hpre])
    obtain ⟨X, rfl, x2, x3, x4, x5, x6, x7⟩ := φ.x6 (by simp [hpre])
    have hk := hK [u9, u10, u11, u12, (.slice A3 n c3), (.agg #[.int .i64 s.next, .slice A3 n c3]), (.pointer (some ⟨X, 0, none⟩))] ((wz.setCell ⟨X, 0, none⟩ (.int .i64 s.next)).setCell ⟨X, 1, none⟩ (.slice A3 n c3)) ⟨_, _, _, _, _, _, _, wz, rfl,
      { b := φ.b,
        s0 := fun h0 => φ.s0 (by simpa using h0),
        s1 := fun h0 => φ.s1 (by simpa using h0),
        s2 := fun h0 => φ.s2 (by simpa using h0),
        s3 := fun h0 => φ.s3 (by simpa using h0),
        s4 := fun h0 => φ.s4 (by simpa using h0),
        s5 := fun h0 => φ.s5 (by simpa using h0),
        x6 := fun h0 => φ.x6 (by simpa using h0),
        d6 := fun h0 h1 => φ.d6 (by simpa using h0) (by simpa using h1) }, by simp [laidAt]⟩
    refine hG ?_
    clear hK φ hG
    revert hk
    go_simp
    first | done | exact fun h => h
  case hend =>
    rintro vs w' ⟨u9, u10, u11, u12, u13, u14, u7, wz, rfl, φ, rfl⟩ G hG
    have o4 := φ.s4 rfl
    have b9 := φ.b
    obtain ⟨A3, c3, rfl⟩ := own_shape o4
    obtain ⟨X7, rfl, x2, x3, x4, x5, x6, x7⟩ := φ.x6 rfl
    have ne7 := φ.d6 rfl rfl X7 rfl
    clear φ
    have hst : decide (7 < 8) = true := rfl
    simp only [List.size_toArray, List.length_cons, List.length_nil, Nat.zero_add, Nat.reduceAdd, hst, if_true, laidAt] at hG
    have CP : Copied W0.drew ((wz.setCell ⟨X7, 0, none⟩ (.int .i64 s.next)).setCell ⟨X7, 1, none⟩ (.slice A3 n c3)) X7 s n A3 c3 :=
      ⟨by go_simp, by go_simp, by go_simp, by go_simp, x2, by simpa using x3, ownsRow_setCell_other (a := ⟨X7, 1, none⟩) (ownsRow_setCell_other (a := ⟨X7, 0, none⟩) o4 ne7 _) ne7 _, ne7, (b9.setCell x2 _).setCell x2 _⟩
    clear hst o4 b9 x2 x3 x4 x5 x6 x7 ne7
    refine hG ?_
    clear hG
    generalize (wz.setCell ⟨X7, 0, none⟩ (.int .i64 s.next)).setCell ⟨X7, 1, none⟩ (.slice A3 n c3) = w2 at *
    obtain ⟨x0, x1, f0, f1, lo, hi, own, ne, b9⟩ := CP
    have qP : w.heap.size + 1 + 1 < X7 := Nat.lt_of_lt_of_le ltP lo
    have loS : w.heap.size + 3 ≤ W0.drew.heap.size := by omega
    replace e0 := (b9.cell (p := ⟨w.heap.size, 0, none⟩) (World.block_lt_of_cell? _ _ e0)).trans e0
    replace e1 := (b9.cell (p := ⟨w.heap.size, 1, none⟩) (World.block_lt_of_cell? _ _ e1)).trans e1
    replace r0 := (b9.cell (p := ⟨w.heap.size + 1, 0, none⟩) (World.block_lt_of_cell? _ _ r0)).trans r0
    replace r1 := (b9.cell (p := ⟨w.heap.size + 1, 1, none⟩) (World.block_lt_of_cell? _ _ r1)).trans r1
    replace p0 := (b9.cell (p := ⟨w.heap.size + 1 + 1, 0, none⟩) (World.block_lt_of_cell? _ _ p0)).trans p0
    replace p1 := (b9.cell (p := ⟨w.heap.size + 1 + 1, 1, none⟩) (World.block_lt_of_cell? _ _ p1)).trans p1
    replace fr0 := (b9.frozen (p := ⟨w.heap.size + 1, 0, none⟩) ltR).trans fr0
    replace fr1 := (b9.frozen (p := ⟨w.heap.size + 1, 1, none⟩) ltR).trans fr1
    replace fp0 := (b9.frozen (p := ⟨w.heap.size + 1 + 1, 0, none⟩) ltP).trans fp0
    replace fp1 := (b9.frozen (p := ⟨w.heap.size + 1 + 1, 1, none⟩) ltP).trans fp1
    replace ltB := Nat.lt_of_lt_of_le ltB b9.size
    replace ltR := Nat.lt_of_lt_of_le ltR b9.size
    replace ltP := Nat.lt_of_lt_of_le ltP b9.size
    replace b0 := b0.trans (b9.mono b0.size)
    clear b9 cC
    go_wp2_with fail
    refine (cR _ b0).mono ?_
    rintro e w3 ⟨rfl, hb3⟩
    replace e0 := (hb3.cell (p := ⟨w.heap.size, 0, none⟩) (World.block_lt_of_cell? _ _ e0)).trans e0
    replace e1 := (hb3.cell (p := ⟨w.heap.size, 1, none⟩) (World.block_lt_of_cell? _ _ e1)).trans e1
    replace r0 := (hb3.cell (p := ⟨w.heap.size + 1, 0, none⟩) (World.block_lt_of_cell? _ _ r0)).trans r0
    replace r1 := (hb3.cell (p := ⟨w.heap.size + 1, 1, none⟩) (World.block_lt_of_cell? _ _ r1)).trans r1
    replace p0 := (hb3.cell (p := ⟨w.heap.size + 1 + 1, 0, none⟩) (World.block_lt_of_cell? _ _ p0)).trans p0
    replace p1 := (hb3.cell (p := ⟨w.heap.size + 1 + 1, 1, none⟩) (World.block_lt_of_cell? _ _ p1)).trans p1
    replace x0 := (hb3.cell (p := ⟨X7, 0, none⟩) (World.block_lt_of_cell? _ _ x0)).trans x0
    replace x1 := (hb3.cell (p := ⟨X7, 1, none⟩) (World.block_lt_of_cell? _ _ x1)).trans x1
    replace fr0 := (hb3.frozen (p := ⟨w.heap.size + 1, 0, none⟩) ltR).trans fr0
    replace fr1 := (hb3.frozen (p := ⟨w.heap.size + 1, 1, none⟩) ltR).trans fr1
    replace fp0 := (hb3.frozen (p := ⟨w.heap.size + 1 + 1, 0, none⟩) ltP).trans fp0
    replace fp1 := (hb3.frozen (p := ⟨w.heap.size + 1 + 1, 1, none⟩) ltP).trans fp1
    replace f0 := (hb3.frozen (p := ⟨X7, 0, none⟩) hi).trans f0
    replace f1 := (hb3.frozen (p := ⟨X7, 1, none⟩) hi).trans f1
    replace ltB := Nat.lt_of_lt_of_le ltB hb3.size
    replace ltR := Nat.lt_of_lt_of_le ltR hb3.size
    replace ltP := Nat.lt_of_lt_of_le ltP hb3.size
    replace hi := Nat.lt_of_lt_of_le hi hb3.size
    replace own := own_below own hb3
    replace b0 := b0.trans (hb3.mono b0.size)
    clear hb3
    go_wp2_with fail
    exact bodyPost_ret (v := .tuple #[.agg #[.int .i64 s.next, .slice A3 n c3], .agg #[.int .i64 0, .int .u32 0], .int .i64 6]) (by simp [results, Try.results6, go_sem, r0, r1, p0, p1]) rfl (gave_ret (p := ⟨0, 0⟩) HN.out own loS b0)

set_option maxHeartbeats 8000000 in
theorem send_most (A : Option Addr) (c n : Nat) (s : Snd) (v : Int) (w : World) (hs : Sl 2 Pce.enc w A s.out) (hn : s.out.length = n) (hn1 : n ≤ 1000000)
    (hr : sRight s = true) (h16 : n ≠ 16) (hM : s.next = 1099511627776) :
    Calls Try.prog 6 #[.agg #[.int .i64 s.next, .slice A n c], .int .u32 v] w (GaveS w s ⟨0, 0⟩ 6) := by
  have b0 : Below w.heap.size w (((w.alloc (.cells #[.int .i64 s.next, .slice A n c] 27)).alloc (.cells #[.int .i64 0, .slice none 0 0] 27)).alloc (.cells #[.int .i64 0, .int .u32 0] 34)).drew := ((((Below.refl _ _).alloc (Nat.le_refl _) _).alloc (by simp) _).alloc (by simp <;> omega) _).drew
  have e0 : (((w.alloc (.cells #[.int .i64 s.next, .slice A n c] 27)).alloc (.cells #[.int .i64 0, .slice none 0 0] 27)).alloc (.cells #[.int .i64 0, .int .u32 0] 34)).drew.cell? ⟨w.heap.size, 0, none⟩ = some (.int .i64 s.next) := by go_simp
  have e1 : (((w.alloc (.cells #[.int .i64 s.next, .slice A n c] 27)).alloc (.cells #[.int .i64 0, .slice none 0 0] 27)).alloc (.cells #[.int .i64 0, .int .u32 0] 34)).drew.cell? ⟨w.heap.size, 1, none⟩ = some (.slice A n c) := by go_simp
  have r0 : (((w.alloc (.cells #[.int .i64 s.next, .slice A n c] 27)).alloc (.cells #[.int .i64 0, .slice none 0 0] 27)).alloc (.cells #[.int .i64 0, .int .u32 0] 34)).drew.cell? ⟨w.heap.size + 1, 0, none⟩ = some (.int .i64 0) := by go_simp
  have r1 : (((w.alloc (.cells #[.int .i64 s.next, .slice A n c] 27)).alloc (.cells #[.int .i64 0, .slice none 0 0] 27)).alloc (.cells #[.int .i64 0, .int .u32 0] 34)).drew.cell? ⟨w.heap.size + 1, 1, none⟩ = some (.slice none 0 0) := by go_simp
  have p0 : (((w.alloc (.cells #[.int .i64 s.next, .slice A n c] 27)).alloc (.cells #[.int .i64 0, .slice none 0 0] 27)).alloc (.cells #[.int .i64 0, .int .u32 0] 34)).drew.cell? ⟨w.heap.size + 1 + 1, 0, none⟩ = some (.int .i64 0) := by go_simp
  have p1 : (((w.alloc (.cells #[.int .i64 s.next, .slice A n c] 27)).alloc (.cells #[.int .i64 0, .slice none 0 0] 27)).alloc (.cells #[.int .i64 0, .int .u32 0] 34)).drew.cell? ⟨w.heap.size + 1 + 1, 1, none⟩ = some (.int .u32 0) := by go_simp
  have fr0 : (((w.alloc (.cells #[.int .i64 s.next, .slice A n c] 27)).alloc (.cells #[.int .i64 0, .slice none 0 0] 27)).alloc (.cells #[.int .i64 0, .int .u32 0] 34)).drew.frozen? ⟨w.heap.size + 1, 0, none⟩ = false := by go_simp
  have fr1 : (((w.alloc (.cells #[.int .i64 s.next, .slice A n c] 27)).alloc (.cells #[.int .i64 0, .slice none 0 0] 27)).alloc (.cells #[.int .i64 0, .int .u32 0] 34)).drew.frozen? ⟨w.heap.size + 1, 1, none⟩ = false := by go_simp
  have fp0 : (((w.alloc (.cells #[.int .i64 s.next, .slice A n c] 27)).alloc (.cells #[.int .i64 0, .slice none 0 0] 27)).alloc (.cells #[.int .i64 0, .int .u32 0] 34)).drew.frozen? ⟨w.heap.size + 1 + 1, 0, none⟩ = false := by go_simp
  have fp1 : (((w.alloc (.cells #[.int .i64 s.next, .slice A n c] 27)).alloc (.cells #[.int .i64 0, .slice none 0 0] 27)).alloc (.cells #[.int .i64 0, .int .u32 0] 34)).drew.frozen? ⟨w.heap.size + 1 + 1, 1, none⟩ = false := by go_simp
  have ltB : w.heap.size < (((w.alloc (.cells #[.int .i64 s.next, .slice A n c] 27)).alloc (.cells #[.int .i64 0, .slice none 0 0] 27)).alloc (.cells #[.int .i64 0, .int .u32 0] 34)).drew.heap.size := by simp <;> omega
  have ltR : w.heap.size + 1 < (((w.alloc (.cells #[.int .i64 s.next, .slice A n c] 27)).alloc (.cells #[.int .i64 0, .slice none 0 0] 27)).alloc (.cells #[.int .i64 0, .int .u32 0] 34)).drew.heap.size := by simp <;> omega
  have ltP : w.heap.size + 1 + 1 < (((w.alloc (.cells #[.int .i64 s.next, .slice A n c] 27)).alloc (.cells #[.int .i64 0, .slice none 0 0] 27)).alloc (.cells #[.int .i64 0, .int .u32 0] 34)).drew.heap.size := by simp <;> omega
  have cC := fun w1 (hb : Below (((w.alloc (.cells #[.int .i64 s.next, .slice A n c] 27)).alloc (.cells #[.int .i64 0, .slice none 0 0] 27)).alloc (.cells #[.int .i64 0, .int .u32 0] 34)).drew.heap.size (((w.alloc (.cells #[.int .i64 s.next, .slice A n c] 27)).alloc (.cells #[.int .i64 0, .slice none 0 0] 27)).alloc (.cells #[.int .i64 0, .int .u32 0] 34)).drew w1) => cloneP_any A c n s.out w1 (hs.below (b0.trans (hb.mono b0.size))) hn hn1
  have cR := fun w1 (hb : Below w.heap.size w w1) => sRight_any A c n s w1 (hs.below hb) hn
  rw [hr] at cR
  have z16 : ((n : Int) == 16) = false := by rw [beq_eq_false_iff_ne]; omega
  have zM : (s.next == 1099511627776) = true := by rw [beq_iff_eq]; exact hM
  clear hr h16 hM
  have HN := Lib.hid hn
  clear hs hn
  go_enter Try.func6, Try.ntmps6
  go_wp2_with fail
  generalize (((w.alloc (.cells #[.int .i64 s.next, .slice A n c] 27)).alloc (.cells #[.int .i64 0, .slice none 0 0] 27)).alloc (.cells #[.int .i64 0, .int .u32 0] 34)) = W0 at *
  refine wp_region_rg (by kernel_rfl) (by kernel_rfl) [9, 10, 11, 12, 13, 14, 7] (SendRPhi W0.drew w.heap.size A n c s) ?h0 ⟨?q0, ?q1, ?q2, ?q3, ?q4, ?q5, ?q6, ?q7, trivial⟩ ?hend
  case h0 => exact ⟨_, _, _, _, _, _, _, _, rfl, ⟨Below.refl _ _, (fun h => by cases h), (fun h => by cases h), (fun h => by cases h), (fun h => by cases h), (fun h => by cases h), (fun h => by cases h), (fun h => by cases h), (fun h => by cases h)⟩, rfl⟩
  case q0 =>
    rintro L vs w' K ⟨u9, u10, u11, u12, u13, u14, u7, wz, rfl, φ, rfl⟩ hL hpre hcl hK G hG
    simp [Region.binds, closedFrom] at hpre hcl
    have hst : L 7 = false := by
      cases h : L 7 with
      | false => rfl
      | true => simp [h, hL] at hcl
    simp only [hst, Bool.false_eq_true, if_false] at hK hG
    have hk := hK [(.pointer (some ⟨w.heap.size, 0, none⟩)), u10, u11, u12, u13, u14, u7] wz ⟨_, _, _, _, _, _, _, wz, rfl,
      { b := φ.b,
        s0 := fun _ => rfl,
        s1 := fun h0 => φ.s1 (by simpa using h0),
        s2 := fun h0 => φ.s2 (by simpa using h0),
        s3 := fun h0 => φ.s3 (by simpa using h0),
        s4 := fun h0 => φ.s4 (by simpa using h0),
        s5 := fun h0 => φ.s5 (by simpa using h0),
        x6 := fun h0 => φ.x6 (by simpa using h0),
        d6 := fun h0 h1 => φ.d6 (by simpa using h0) (by simpa using h1) }, by simp [hst]⟩
    refine hG ?_
    clear hK φ hG
    revert hk
    go_simp
    first | done | exact fun h => h
  case q1 =>
    rintro L vs w' K ⟨u9, u10, u11, u12, u13, u14, u7, wz, rfl, φ, rfl⟩ hL hpre hcl hK G hG
    simp [Region.binds, closedFrom] at hpre hcl
    have hst : L 7 = false := by
      cases h : L 7 with
      | false => rfl
      | true => simp [h, hL] at hcl
    simp only [hst, Bool.false_eq_true, if_false] at hK hG
    obtain rfl := φ.s0 (by simp [hpre])
    have ce := (φ.b.cell (p := ⟨w.heap.size, 0, none⟩) ltB).trans e0
    have hk := hK [(.pointer (some ⟨w.heap.size, 0, none⟩)), (.int .i64 s.next), u11, u12, u13, u14, u7] wz ⟨_, _, _, _, _, _, _, wz, rfl,
      { b := φ.b,
        s0 := fun h0 => φ.s0 (by simpa using h0),
        s1 := fun _ => rfl,
        s2 := fun h0 => φ.s2 (by simpa using h0),
        s3 := fun h0 => φ.s3 (by simpa using h0),
        s4 := fun h0 => φ.s4 (by simpa using h0),
        s5 := fun h0 => φ.s5 (by simpa using h0),
        x6 := fun h0 => φ.x6 (by simpa using h0),
        d6 := fun h0 h1 => φ.d6 (by simpa using h0) (by simpa using h1) }, by simp [hst]⟩
    refine hG ?_
    clear hK φ hG
    revert hk
    go_simp
    first | done | exact fun h => h
  case q2 =>
    rintro L vs w' K ⟨u9, u10, u11, u12, u13, u14, u7, wz, rfl, φ, rfl⟩ hL hpre hcl hK G hG
    simp [Region.binds, closedFrom] at hpre hcl
    have hst : L 7 = false := by
      cases h : L 7 with
      | false => rfl
      | true => simp [h, hL] at hcl
    simp only [hst, Bool.false_eq_true, if_false] at hK hG
    have hk := hK [u9, u10, (.pointer (some ⟨w.heap.size, 1, none⟩)), u12, u13, u14, u7] wz ⟨_, _, _, _, _, _, _, wz, rfl,
      { b := φ.b,
        s0 := fun h0 => φ.s0 (by simpa using h0),
        s1 := fun h0 => φ.s1 (by simpa using h0),
        s2 := fun _ => rfl,
        s3 := fun h0 => φ.s3 (by simpa using h0),
        s4 := fun h0 => φ.s4 (by simpa using h0),
        s5 := fun h0 => φ.s5 (by simpa using h0),
        x6 := fun h0 => φ.x6 (by simpa using h0),
        d6 := fun h0 h1 => φ.d6 (by simpa using h0) (by simpa using h1) }, by simp [hst]⟩
    refine hG ?_
    clear hK φ hG
    revert hk
    go_simp
    first | done | exact fun h => h
  case q3 =>
    rintro L vs w' K ⟨u9, u10, u11, u12, u13, u14, u7, wz, rfl, φ, rfl⟩ hL hpre hcl hK G hG
    simp [Region.binds, closedFrom] at hpre hcl
    have hst : L 7 = false := by
      cases h : L 7 with
      | false => rfl
      | true => simp [h, hL] at hcl
    simp only [hst, Bool.false_eq_true, if_false] at hK hG
    obtain rfl := φ.s2 (by simp [hpre])
    have ce := (φ.b.cell (p := ⟨w.heap.size, 1, none⟩) ltB).trans e1
    have hk := hK [u9, u10, (.pointer (some ⟨w.heap.size, 1, none⟩)), (.slice A n c), u13, u14, u7] wz ⟨_, _, _, _, _, _, _, wz, rfl,
      { b := φ.b,
        s0 := fun h0 => φ.s0 (by simpa using h0),
        s1 := fun h0 => φ.s1 (by simpa using h0),
        s2 := fun h0 => φ.s2 (by simpa using h0),
        s3 := fun _ => rfl,
        s4 := fun h0 => φ.s4 (by simpa using h0),
        s5 := fun h0 => φ.s5 (by simpa using h0),
        x6 := fun h0 => φ.x6 (by simpa using h0),
        d6 := fun h0 h1 => φ.d6 (by simpa using h0) (by simpa using h1) }, by simp [hst]⟩
    refine hG ?_
    clear hK φ hG
    revert hk
    go_simp
    first | done | exact fun h => h
  case q4 =>
    rintro L vs w' K ⟨u9, u10, u11, u12, u13, u14, u7, wz, rfl, φ, rfl⟩ hL hpre hcl hK G hG
    simp [Region.binds, closedFrom] at hpre hcl
    have hst : L 7 = false := by
      cases h : L 7 with
      | false => rfl
      | true => simp [h, hL] at hcl
    simp only [hst, Bool.false_eq_true, if_false] at hK hG
    obtain rfl := φ.s3 (by simp [hpre])
    have L5 : L 5 = false := by
      cases h : L 5 with
      | false => rfl
      | true => simp [h, hL] at hcl
    refine hG (step_call wz rfl 13 #[.tmp 12] #[25] rfl #[.slice A n c] (by simp [Act.eval, Act.puts, Act.put]) (enters_of Try.func13 (by kernel_rfl) rfl) (cC wz φ.b) ?_)
    rintro e w9 ⟨v', rfl, ownN, hb9⟩
    refine ⟨v', rfl, ?_⟩
    have hk := hK [u9, u10, u11, (.slice A n c), (v'), u14, u7] w9 ⟨_, _, _, _, _, _, _, w9, rfl,
      { b := φ.b.trans (hb9.mono φ.b.size),
        s0 := fun h0 => φ.s0 (by simpa using h0),
        s1 := fun h0 => φ.s1 (by simpa using h0),
        s2 := fun h0 => φ.s2 (by simpa using h0),
        s3 := fun h0 => φ.s3 (by simpa using h0),
        s4 := fun _ => own_weaken' ownN φ.b.size,
        s5 := fun h => by simp [L5] at h,
        x6 := fun h => by
          obtain ⟨X, y1, y2, y3, y4, y5, y6, y7⟩ := φ.x6 (by simpa using h)
          exact ⟨X, y1, y2, Nat.lt_of_lt_of_le y3 hb9.size, (hb9.cell (p := ⟨X, 0, none⟩) y3).trans y4, (hb9.cell (p := ⟨X, 1, none⟩) y3).trans y5, (hb9.frozen (p := ⟨X, 0, none⟩) y3).trans y6, (hb9.frozen (p := ⟨X, 1, none⟩) y3).trans y7⟩,
        d6 := fun h _ X hX hE => by
          obtain ⟨X', y1, y2, y3, _⟩ := φ.x6 (by simpa using h)
          rw [hX] at y1
          obtain rfl : X = X' := by simpa using y1
          have := (ownN.lt _ hE).1
          omega }, by simp [hst]⟩
    clear hK φ hG
    revert hk
    go_simp
    first | done | exact fun h => h
  case q5 =>
    rintro L vs w' K ⟨u9, u10, u11, u12, u13, u14, u7, wz, rfl, φ, rfl⟩ hL hpre hcl hK G hG
    simp [Region.binds, closedFrom] at hpre hcl
    have hst : L 7 = false := by
      cases h : L 7 with
      | false => rfl
      | true => simp [h, hL] at hcl
    simp only [hst, Bool.false_eq_true, if_false] at hK hG
    obtain rfl := φ.s1 (by simp [hpre])
    obtain ⟨A3, c3, rfl⟩ := own_shape (φ.s4 (by simp [hpre]))
    have hk := hK [u9, (.int .i64 s.next), u11, u12, (.slice A3 n c3), (.agg #[.int .i64 s.next, .slice A3 n c3]), u7] wz ⟨_, _, _, _, _, _, _, wz, rfl,
      { b := φ.b,
        s0 := fun h0 => φ.s0 (by simpa using h0),
        s1 := fun h0 => φ.s1 (by simpa using h0),
        s2 := fun h0 => φ.s2 (by simpa using h0),
        s3 := fun h0 => φ.s3 (by simpa using h0),
        s4 := fun h0 => φ.s4 (by simpa using h0),
        s5 := fun _ => rfl,
        x6 := fun h0 => φ.x6 (by simpa using h0),
        d6 := fun h0 h1 => φ.d6 (by simpa using h0) (by simpa using h1) }, by simp [hst]⟩
    refine hG ?_
    clear hK φ hG
    revert hk
    go_simp
    first | done | exact fun h => h
  case q6 =>
    rintro L vs w' K ⟨u9, u10, u11, u12, u13, u14, u7, wz, rfl, φ, rfl⟩ hL hpre hcl hK G hG
    simp [Region.binds, closedFrom] at hpre hcl
    have hst : L 7 = false := by
      cases h : L 7 with
      | false => rfl
      | true => simp [h, hL] at hcl
    simp only [hst, Bool.false_eq_true, if_false] at hK hG
    have hk := hK [u9, u10, u11, u12, u13, u14, (.pointer (some ⟨wz.heap.size, 0, none⟩))] (wz.alloc (.cells #[.int .i64 0, .slice none 0 0] 27)) ⟨_, _, _, _, _, _, _, (wz.alloc (.cells #[.int .i64 0, .slice none 0 0] 27)), rfl,
      { b := φ.b.alloc φ.b.size _,
        s0 := fun h0 => φ.s0 (by simpa using h0),
        s1 := fun h0 => φ.s1 (by simpa using h0),
        s2 := fun h0 => φ.s2 (by simpa using h0),
        s3 := fun h0 => φ.s3 (by simpa using h0),
        s4 := fun h0 => (φ.s4 (by simpa using h0)).alloc _,
        s5 := fun h0 => φ.s5 (by simpa using h0),
        x6 := fun _ => ⟨wz.heap.size, rfl, φ.b.size, by simp, by go_simp, by go_simp, by go_simp, by go_simp⟩,
        d6 := fun _ h0 X hX e => by
          obtain rfl : wz.heap.size = X := by simpa using hX
          exact Nat.lt_irrefl _ ((φ.s4 (by simpa using h0)).lt _ e).2 }, by simp [hst]⟩
    refine hG ?_
    clear hK φ hG
    revert hk
    go_simp
    first | done | exact fun h => h
  case q7 =>
    rintro L vs w' K ⟨u9, u10, u11, u12, u13, u14, u7, wz, rfl, φ, rfl⟩ hL hpre hcl hK G hG
    simp [Region.binds, closedFrom] at hpre hcl
    simp only [hL, Bool.false_eq_true, if_false] at hK hG
    obtain ⟨A3, c3, rfl⟩ := own_shape (φ.s4 (by simp [hpre]))
    obtain rfl := φ.s5 (by simp [hpre])
    obtain ⟨X, rfl, x2, x3, x4, x5, x6, x7⟩ := φ.x6 (by simp [hpre])
    have hk := hK [u9, u10, u11, u12, (.slice A3 n c3), (.agg #[.int .i64 s.next, .slice A3 n c3]), (.pointer (some ⟨X, 0, none⟩))] ((wz.setCell ⟨X, 0, none⟩ (.int .i64 s.next)).setCell ⟨X, 1, none⟩ (.slice A3 n c3)) ⟨_, _, _, _, _, _, _, wz, rfl,
      { b := φ.b,
        s0 := fun h0 => φ.s0 (by simpa using h0),
        s1 := fun h0 => φ.s1 (by simpa using h0),
        s2 := fun h0 => φ.s2 (by simpa using h0),
        s3 := fun h0 => φ.s3 (by simpa using h0),
        s4 := fun h0 => φ.s4 (by simpa using h0),
        s5 := fun h0 => φ.s5 (by simpa using h0),
        x6 := fun h0 => φ.x6 (by simpa using h0),
        d6 := fun h0 h1 => φ.d6 (by simpa using h0) (by simpa using h1) }, by simp [laidAt]⟩
    refine hG ?_
    clear hK φ hG
    revert hk
    go_simp
    first | done | exact fun h => h
  case hend =>
    rintro vs w' ⟨u9, u10, u11, u12, u13, u14, u7, wz, rfl, φ, rfl⟩ G hG
    have o4 := φ.s4 rfl
    have b9 := φ.b
    obtain ⟨A3, c3, rfl⟩ := own_shape o4
    obtain ⟨X7, rfl, x2, x3, x4, x5, x6, x7⟩ := φ.x6 rfl
    have ne7 := φ.d6 rfl rfl X7 rfl
    clear φ
    have hst : decide (7 < 8) = true := rfl
    simp only [List.size_toArray, List.length_cons, List.length_nil, Nat.zero_add, Nat.reduceAdd, hst, if_true, laidAt] at hG
    have CP : Copied W0.drew ((wz.setCell ⟨X7, 0, none⟩ (.int .i64 s.next)).setCell ⟨X7, 1, none⟩ (.slice A3 n c3)) X7 s n A3 c3 :=
      ⟨by go_simp, by go_simp, by go_simp, by go_simp, x2, by simpa using x3, ownsRow_setCell_other (a := ⟨X7, 1, none⟩) (ownsRow_setCell_other (a := ⟨X7, 0, none⟩) o4 ne7 _) ne7 _, ne7, (b9.setCell x2 _).setCell x2 _⟩
    clear hst o4 b9 x2 x3 x4 x5 x6 x7 ne7
    refine hG ?_
    clear hG
    generalize (wz.setCell ⟨X7, 0, none⟩ (.int .i64 s.next)).setCell ⟨X7, 1, none⟩ (.slice A3 n c3) = w2 at *
    obtain ⟨x0, x1, f0, f1, lo, hi, own, ne, b9⟩ := CP
    have qP : w.heap.size + 1 + 1 < X7 := Nat.lt_of_lt_of_le ltP lo
    have loS : w.heap.size + 3 ≤ W0.drew.heap.size := by omega
    replace e0 := (b9.cell (p := ⟨w.heap.size, 0, none⟩) (World.block_lt_of_cell? _ _ e0)).trans e0
    replace e1 := (b9.cell (p := ⟨w.heap.size, 1, none⟩) (World.block_lt_of_cell? _ _ e1)).trans e1
    replace r0 := (b9.cell (p := ⟨w.heap.size + 1, 0, none⟩) (World.block_lt_of_cell? _ _ r0)).trans r0
    replace r1 := (b9.cell (p := ⟨w.heap.size + 1, 1, none⟩) (World.block_lt_of_cell? _ _ r1)).trans r1
    replace p0 := (b9.cell (p := ⟨w.heap.size + 1 + 1, 0, none⟩) (World.block_lt_of_cell? _ _ p0)).trans p0
    replace p1 := (b9.cell (p := ⟨w.heap.size + 1 + 1, 1, none⟩) (World.block_lt_of_cell? _ _ p1)).trans p1
    replace fr0 := (b9.frozen (p := ⟨w.heap.size + 1, 0, none⟩) ltR).trans fr0
    replace fr1 := (b9.frozen (p := ⟨w.heap.size + 1, 1, none⟩) ltR).trans fr1
    replace fp0 := (b9.frozen (p := ⟨w.heap.size + 1 + 1, 0, none⟩) ltP).trans fp0
    replace fp1 := (b9.frozen (p := ⟨w.heap.size + 1 + 1, 1, none⟩) ltP).trans fp1
    replace ltB := Nat.lt_of_lt_of_le ltB b9.size
    replace ltR := Nat.lt_of_lt_of_le ltR b9.size
    replace ltP := Nat.lt_of_lt_of_le ltP b9.size
    replace b0 := b0.trans (b9.mono b0.size)
    clear b9 cC
    go_wp2_with fail
    refine (cR _ b0).mono ?_
    rintro e w3 ⟨rfl, hb3⟩
    replace e0 := (hb3.cell (p := ⟨w.heap.size, 0, none⟩) (World.block_lt_of_cell? _ _ e0)).trans e0
    replace e1 := (hb3.cell (p := ⟨w.heap.size, 1, none⟩) (World.block_lt_of_cell? _ _ e1)).trans e1
    replace r0 := (hb3.cell (p := ⟨w.heap.size + 1, 0, none⟩) (World.block_lt_of_cell? _ _ r0)).trans r0
    replace r1 := (hb3.cell (p := ⟨w.heap.size + 1, 1, none⟩) (World.block_lt_of_cell? _ _ r1)).trans r1
    replace p0 := (hb3.cell (p := ⟨w.heap.size + 1 + 1, 0, none⟩) (World.block_lt_of_cell? _ _ p0)).trans p0
    replace p1 := (hb3.cell (p := ⟨w.heap.size + 1 + 1, 1, none⟩) (World.block_lt_of_cell? _ _ p1)).trans p1
    replace x0 := (hb3.cell (p := ⟨X7, 0, none⟩) (World.block_lt_of_cell? _ _ x0)).trans x0
    replace x1 := (hb3.cell (p := ⟨X7, 1, none⟩) (World.block_lt_of_cell? _ _ x1)).trans x1
    replace fr0 := (hb3.frozen (p := ⟨w.heap.size + 1, 0, none⟩) ltR).trans fr0
    replace fr1 := (hb3.frozen (p := ⟨w.heap.size + 1, 1, none⟩) ltR).trans fr1
    replace fp0 := (hb3.frozen (p := ⟨w.heap.size + 1 + 1, 0, none⟩) ltP).trans fp0
    replace fp1 := (hb3.frozen (p := ⟨w.heap.size + 1 + 1, 1, none⟩) ltP).trans fp1
    replace f0 := (hb3.frozen (p := ⟨X7, 0, none⟩) hi).trans f0
    replace f1 := (hb3.frozen (p := ⟨X7, 1, none⟩) hi).trans f1
    replace ltB := Nat.lt_of_lt_of_le ltB hb3.size
    replace ltR := Nat.lt_of_lt_of_le ltR hb3.size
    replace ltP := Nat.lt_of_lt_of_le ltP hb3.size
    replace hi := Nat.lt_of_lt_of_le hi hb3.size
    replace own := own_below own hb3
    replace b0 := b0.trans (hb3.mono b0.size)
    clear hb3
    go_wp2_with fail
    exact bodyPost_ret (v := .tuple #[.agg #[.int .i64 s.next, .slice A3 n c3], .agg #[.int .i64 0, .int .u32 0], .int .i64 6]) (by simp [results, Try.results6, go_sem, r0, r1, p0, p1]) rfl (gave_ret (p := ⟨0, 0⟩) HN.out own loS b0)

set_option maxHeartbeats 8000000 in
theorem send_ok (A : Option Addr) (c n : Nat) (s : Snd) (v : Int) (w : World) (hs : Sl 2 Pce.enc w A s.out) (hn : s.out.length = n) (hn1 : n ≤ 1000000)
    (hr : sRight s = true) (h16 : n ≠ 16) (hM : s.next ≠ 1099511627776) :
    Calls Try.prog 6 #[.agg #[.int .i64 s.next, .slice A n c], .int .u32 v] w (GaveS w ⟨s.next + 1, s.out ++ [⟨s.next, v⟩]⟩ ⟨s.next, v⟩ 0) := by
  have b0 : Below w.heap.size w (((w.alloc (.cells #[.int .i64 s.next, .slice A n c] 27)).alloc (.cells #[.int .i64 0, .slice none 0 0] 27)).alloc (.cells #[.int .i64 0, .int .u32 0] 34)).drew := ((((Below.refl _ _).alloc (Nat.le_refl _) _).alloc (by simp) _).alloc (by simp <;> omega) _).drew
  have e0 : (((w.alloc (.cells #[.int .i64 s.next, .slice A n c] 27)).alloc (.cells #[.int .i64 0, .slice none 0 0] 27)).alloc (.cells #[.int .i64 0, .int .u32 0] 34)).drew.cell? ⟨w.heap.size, 0, none⟩ = some (.int .i64 s.next) := by go_simp
  have e1 : (((w.alloc (.cells #[.int .i64 s.next, .slice A n c] 27)).alloc (.cells #[.int .i64 0, .slice none 0 0] 27)).alloc (.cells #[.int .i64 0, .int .u32 0] 34)).drew.cell? ⟨w.heap.size, 1, none⟩ = some (.slice A n c) := by go_simp
  have r0 : (((w.alloc (.cells #[.int .i64 s.next, .slice A n c] 27)).alloc (.cells #[.int .i64 0, .slice none 0 0] 27)).alloc (.cells #[.int .i64 0, .int .u32 0] 34)).drew.cell? ⟨w.heap.size + 1, 0, none⟩ = some (.int .i64 0) := by go_simp
  have r1 : (((w.alloc (.cells #[.int .i64 s.next, .slice A n c] 27)).alloc (.cells #[.int .i64 0, .slice none 0 0] 27)).alloc (.cells #[.int .i64 0, .int .u32 0] 34)).drew.cell? ⟨w.heap.size + 1, 1, none⟩ = some (.slice none 0 0) := by go_simp
  have p0 : (((w.alloc (.cells #[.int .i64 s.next, .slice A n c] 27)).alloc (.cells #[.int .i64 0, .slice none 0 0] 27)).alloc (.cells #[.int .i64 0, .int .u32 0] 34)).drew.cell? ⟨w.heap.size + 1 + 1, 0, none⟩ = some (.int .i64 0) := by go_simp
  have p1 : (((w.alloc (.cells #[.int .i64 s.next, .slice A n c] 27)).alloc (.cells #[.int .i64 0, .slice none 0 0] 27)).alloc (.cells #[.int .i64 0, .int .u32 0] 34)).drew.cell? ⟨w.heap.size + 1 + 1, 1, none⟩ = some (.int .u32 0) := by go_simp
  have fr0 : (((w.alloc (.cells #[.int .i64 s.next, .slice A n c] 27)).alloc (.cells #[.int .i64 0, .slice none 0 0] 27)).alloc (.cells #[.int .i64 0, .int .u32 0] 34)).drew.frozen? ⟨w.heap.size + 1, 0, none⟩ = false := by go_simp
  have fr1 : (((w.alloc (.cells #[.int .i64 s.next, .slice A n c] 27)).alloc (.cells #[.int .i64 0, .slice none 0 0] 27)).alloc (.cells #[.int .i64 0, .int .u32 0] 34)).drew.frozen? ⟨w.heap.size + 1, 1, none⟩ = false := by go_simp
  have fp0 : (((w.alloc (.cells #[.int .i64 s.next, .slice A n c] 27)).alloc (.cells #[.int .i64 0, .slice none 0 0] 27)).alloc (.cells #[.int .i64 0, .int .u32 0] 34)).drew.frozen? ⟨w.heap.size + 1 + 1, 0, none⟩ = false := by go_simp
  have fp1 : (((w.alloc (.cells #[.int .i64 s.next, .slice A n c] 27)).alloc (.cells #[.int .i64 0, .slice none 0 0] 27)).alloc (.cells #[.int .i64 0, .int .u32 0] 34)).drew.frozen? ⟨w.heap.size + 1 + 1, 1, none⟩ = false := by go_simp
  have ltB : w.heap.size < (((w.alloc (.cells #[.int .i64 s.next, .slice A n c] 27)).alloc (.cells #[.int .i64 0, .slice none 0 0] 27)).alloc (.cells #[.int .i64 0, .int .u32 0] 34)).drew.heap.size := by simp <;> omega
  have ltR : w.heap.size + 1 < (((w.alloc (.cells #[.int .i64 s.next, .slice A n c] 27)).alloc (.cells #[.int .i64 0, .slice none 0 0] 27)).alloc (.cells #[.int .i64 0, .int .u32 0] 34)).drew.heap.size := by simp <;> omega
  have ltP : w.heap.size + 1 + 1 < (((w.alloc (.cells #[.int .i64 s.next, .slice A n c] 27)).alloc (.cells #[.int .i64 0, .slice none 0 0] 27)).alloc (.cells #[.int .i64 0, .int .u32 0] 34)).drew.heap.size := by simp <;> omega
  have cC := fun w1 (hb : Below (((w.alloc (.cells #[.int .i64 s.next, .slice A n c] 27)).alloc (.cells #[.int .i64 0, .slice none 0 0] 27)).alloc (.cells #[.int .i64 0, .int .u32 0] 34)).drew.heap.size (((w.alloc (.cells #[.int .i64 s.next, .slice A n c] 27)).alloc (.cells #[.int .i64 0, .slice none 0 0] 27)).alloc (.cells #[.int .i64 0, .int .u32 0] 34)).drew w1) => cloneP_any A c n s.out w1 (hs.below (b0.trans (hb.mono b0.size))) hn hn1
  have cR := fun w1 (hb : Below w.heap.size w w1) => sRight_any A c n s w1 (hs.below hb) hn
  rw [hr] at cR
  have z16 : ((n : Int) == 16) = false := by rw [beq_eq_false_iff_ne]; omega
  have zM : (s.next == 1099511627776) = false := by rw [beq_eq_false_iff_ne]; exact hM
  have hrr : 0 ≤ s.next ∧ s.next ≤ 1099511627776 ∧ n ≤ 16 := by
    simp only [sRight, decide_eq_true_eq, hn] at hr
    exact ⟨hr.1, hr.2.1, hr.2.2.1⟩
  obtain ⟨hr1, hr2, hr3⟩ := hrr
  clear hr h16 hM
  have HN := Lib.hid hn
  clear hs hn
  go_enter Try.func6, Try.ntmps6
  go_wp2_with fail
  generalize (((w.alloc (.cells #[.int .i64 s.next, .slice A n c] 27)).alloc (.cells #[.int .i64 0, .slice none 0 0] 27)).alloc (.cells #[.int .i64 0, .int .u32 0] 34)) = W0 at *
  refine wp_region_rg (by kernel_rfl) (by kernel_rfl) [9, 10, 11, 12, 13, 14, 7] (SendRPhi W0.drew w.heap.size A n c s) ?h0 ⟨?q0, ?q1, ?q2, ?q3, ?q4, ?q5, ?q6, ?q7, trivial⟩ ?hend
  case h0 => exact ⟨_, _, _, _, _, _, _, _, rfl, ⟨Below.refl _ _, (fun h => by cases h), (fun h => by cases h), (fun h => by cases h), (fun h => by cases h), (fun h => by cases h), (fun h => by cases h), (fun h => by cases h), (fun h => by cases h)⟩, rfl⟩
  case q0 =>
    rintro L vs w' K ⟨u9, u10, u11, u12, u13, u14, u7, wz, rfl, φ, rfl⟩ hL hpre hcl hK G hG
    simp [Region.binds, closedFrom] at hpre hcl
    have hst : L 7 = false := by
      cases h : L 7 with
      | false => rfl
      | true => simp [h, hL] at hcl
    simp only [hst, Bool.false_eq_true, if_false] at hK hG
    have hk := hK [(.pointer (some ⟨w.heap.size, 0, none⟩)), u10, u11, u12, u13, u14, u7] wz ⟨_, _, _, _, _, _, _, wz, rfl,
      { b := φ.b,
        s0 := fun _ => rfl,
        s1 := fun h0 => φ.s1 (by simpa using h0),
        s2 := fun h0 => φ.s2 (by simpa using h0),
        s3 := fun h0 => φ.s3 (by simpa using h0),
        s4 := fun h0 => φ.s4 (by simpa using h0),
        s5 := fun h0 => φ.s5 (by simpa using h0),
        x6 := fun h0 => φ.x6 (by simpa using h0),
        d6 := fun h0 h1 => φ.d6 (by simpa using h0) (by simpa using h1) }, by simp [hst]⟩
    refine hG ?_
    clear hK φ hG
    revert hk
    go_simp
    first | done | exact fun h => h
  case q1 =>
    rintro L vs w' K ⟨u9, u10, u11, u12, u13, u14, u7, wz, rfl, φ, rfl⟩ hL hpre hcl hK G hG
    simp [Region.binds, closedFrom] at hpre hcl
    have hst : L 7 = false := by
      cases h : L 7 with
      | false => rfl
      | true => simp [h, hL] at hcl
    simp only [hst, Bool.false_eq_true, if_false] at hK hG
    obtain rfl := φ.s0 (by simp [hpre])
    have ce := (φ.b.cell (p := ⟨w.heap.size, 0, none⟩) ltB).trans e0
    have hk := hK [(.pointer (some ⟨w.heap.size, 0, none⟩)), (.int .i64 s.next), u11, u12, u13, u14, u7] wz ⟨_, _, _, _, _, _, _, wz, rfl,
      { b := φ.b,
        s0 := fun h0 => φ.s0 (by simpa using h0),
        s1 := fun _ => rfl,
        s2 := fun h0 => φ.s2 (by simpa using h0),
        s3 := fun h0 => φ.s3 (by simpa using h0),
        s4 := fun h0 => φ.s4 (by simpa using h0),
        s5 := fun h0 => φ.s5 (by simpa using h0),
        x6 := fun h0 => φ.x6 (by simpa using h0),
        d6 := fun h0 h1 => φ.d6 (by simpa using h0) (by simpa using h1) }, by simp [hst]⟩
    refine hG ?_
    clear hK φ hG
    revert hk
    go_simp
    first | done | exact fun h => h
  case q2 =>
    rintro L vs w' K ⟨u9, u10, u11, u12, u13, u14, u7, wz, rfl, φ, rfl⟩ hL hpre hcl hK G hG
    simp [Region.binds, closedFrom] at hpre hcl
    have hst : L 7 = false := by
      cases h : L 7 with
      | false => rfl
      | true => simp [h, hL] at hcl
    simp only [hst, Bool.false_eq_true, if_false] at hK hG
    have hk := hK [u9, u10, (.pointer (some ⟨w.heap.size, 1, none⟩)), u12, u13, u14, u7] wz ⟨_, _, _, _, _, _, _, wz, rfl,
      { b := φ.b,
        s0 := fun h0 => φ.s0 (by simpa using h0),
        s1 := fun h0 => φ.s1 (by simpa using h0),
        s2 := fun _ => rfl,
        s3 := fun h0 => φ.s3 (by simpa using h0),
        s4 := fun h0 => φ.s4 (by simpa using h0),
        s5 := fun h0 => φ.s5 (by simpa using h0),
        x6 := fun h0 => φ.x6 (by simpa using h0),
        d6 := fun h0 h1 => φ.d6 (by simpa using h0) (by simpa using h1) }, by simp [hst]⟩
    refine hG ?_
    clear hK φ hG
    revert hk
    go_simp
    first | done | exact fun h => h
  case q3 =>
    rintro L vs w' K ⟨u9, u10, u11, u12, u13, u14, u7, wz, rfl, φ, rfl⟩ hL hpre hcl hK G hG
    simp [Region.binds, closedFrom] at hpre hcl
    have hst : L 7 = false := by
      cases h : L 7 with
      | false => rfl
      | true => simp [h, hL] at hcl
    simp only [hst, Bool.false_eq_true, if_false] at hK hG
    obtain rfl := φ.s2 (by simp [hpre])
    have ce := (φ.b.cell (p := ⟨w.heap.size, 1, none⟩) ltB).trans e1
    have hk := hK [u9, u10, (.pointer (some ⟨w.heap.size, 1, none⟩)), (.slice A n c), u13, u14, u7] wz ⟨_, _, _, _, _, _, _, wz, rfl,
      { b := φ.b,
        s0 := fun h0 => φ.s0 (by simpa using h0),
        s1 := fun h0 => φ.s1 (by simpa using h0),
        s2 := fun h0 => φ.s2 (by simpa using h0),
        s3 := fun _ => rfl,
        s4 := fun h0 => φ.s4 (by simpa using h0),
        s5 := fun h0 => φ.s5 (by simpa using h0),
        x6 := fun h0 => φ.x6 (by simpa using h0),
        d6 := fun h0 h1 => φ.d6 (by simpa using h0) (by simpa using h1) }, by simp [hst]⟩
    refine hG ?_
    clear hK φ hG
    revert hk
    go_simp
    first | done | exact fun h => h
  case q4 =>
    rintro L vs w' K ⟨u9, u10, u11, u12, u13, u14, u7, wz, rfl, φ, rfl⟩ hL hpre hcl hK G hG
    simp [Region.binds, closedFrom] at hpre hcl
    have hst : L 7 = false := by
      cases h : L 7 with
      | false => rfl
      | true => simp [h, hL] at hcl
    simp only [hst, Bool.false_eq_true, if_false] at hK hG
    obtain rfl := φ.s3 (by simp [hpre])
    have L5 : L 5 = false := by
      cases h : L 5 with
      | false => rfl
      | true => simp [h, hL] at hcl
    refine hG (step_call wz rfl 13 #[.tmp 12] #[25] rfl #[.slice A n c] (by simp [Act.eval, Act.puts, Act.put]) (enters_of Try.func13 (by kernel_rfl) rfl) (cC wz φ.b) ?_)
    rintro e w9 ⟨v', rfl, ownN, hb9⟩
    refine ⟨v', rfl, ?_⟩
    have hk := hK [u9, u10, u11, (.slice A n c), (v'), u14, u7] w9 ⟨_, _, _, _, _, _, _, w9, rfl,
      { b := φ.b.trans (hb9.mono φ.b.size),
        s0 := fun h0 => φ.s0 (by simpa using h0),
        s1 := fun h0 => φ.s1 (by simpa using h0),
        s2 := fun h0 => φ.s2 (by simpa using h0),
        s3 := fun h0 => φ.s3 (by simpa using h0),
        s4 := fun _ => own_weaken' ownN φ.b.size,
        s5 := fun h => by simp [L5] at h,
        x6 := fun h => by
          obtain ⟨X, y1, y2, y3, y4, y5, y6, y7⟩ := φ.x6 (by simpa using h)
          exact ⟨X, y1, y2, Nat.lt_of_lt_of_le y3 hb9.size, (hb9.cell (p := ⟨X, 0, none⟩) y3).trans y4, (hb9.cell (p := ⟨X, 1, none⟩) y3).trans y5, (hb9.frozen (p := ⟨X, 0, none⟩) y3).trans y6, (hb9.frozen (p := ⟨X, 1, none⟩) y3).trans y7⟩,
        d6 := fun h _ X hX hE => by
          obtain ⟨X', y1, y2, y3, _⟩ := φ.x6 (by simpa using h)
          rw [hX] at y1
          obtain rfl : X = X' := by simpa using y1
          have := (ownN.lt _ hE).1
          omega }, by simp [hst]⟩
    clear hK φ hG
    revert hk
    go_simp
    first | done | exact fun h => h
  case q5 =>
    rintro L vs w' K ⟨u9, u10, u11, u12, u13, u14, u7, wz, rfl, φ, rfl⟩ hL hpre hcl hK G hG
    simp [Region.binds, closedFrom] at hpre hcl
    have hst : L 7 = false := by
      cases h : L 7 with
      | false => rfl
      | true => simp [h, hL] at hcl
    simp only [hst, Bool.false_eq_true, if_false] at hK hG
    obtain rfl := φ.s1 (by simp [hpre])
    obtain ⟨A3, c3, rfl⟩ := own_shape (φ.s4 (by simp [hpre]))
    have hk := hK [u9, (.int .i64 s.next), u11, u12, (.slice A3 n c3), (.agg #[.int .i64 s.next, .slice A3 n c3]), u7] wz ⟨_, _, _, _, _, _, _, wz, rfl,
      { b := φ.b,
        s0 := fun h0 => φ.s0 (by simpa using h0),
        s1 := fun h0 => φ.s1 (by simpa using h0),
        s2 := fun h0 => φ.s2 (by simpa using h0),
        s3 := fun h0 => φ.s3 (by simpa using h0),
        s4 := fun h0 => φ.s4 (by simpa using h0),
        s5 := fun _ => rfl,
        x6 := fun h0 => φ.x6 (by simpa using h0),
        d6 := fun h0 h1 => φ.d6 (by simpa using h0) (by simpa using h1) }, by simp [hst]⟩
    refine hG ?_
    clear hK φ hG
    revert hk
    go_simp
    first | done | exact fun h => h
  case q6 =>
    rintro L vs w' K ⟨u9, u10, u11, u12, u13, u14, u7, wz, rfl, φ, rfl⟩ hL hpre hcl hK G hG
    simp [Region.binds, closedFrom] at hpre hcl
    have hst : L 7 = false := by
      cases h : L 7 with
      | false => rfl
      | true => simp [h, hL] at hcl
    simp only [hst, Bool.false_eq_true, if_false] at hK hG
    have hk := hK [u9, u10, u11, u12, u13, u14, (.pointer (some ⟨wz.heap.size, 0, none⟩))] (wz.alloc (.cells #[.int .i64 0, .slice none 0 0] 27)) ⟨_, _, _, _, _, _, _, (wz.alloc (.cells #[.int .i64 0, .slice none 0 0] 27)), rfl,
      { b := φ.b.alloc φ.b.size _,
        s0 := fun h0 => φ.s0 (by simpa using h0),
        s1 := fun h0 => φ.s1 (by simpa using h0),
        s2 := fun h0 => φ.s2 (by simpa using h0),
        s3 := fun h0 => φ.s3 (by simpa using h0),
        s4 := fun h0 => (φ.s4 (by simpa using h0)).alloc _,
        s5 := fun h0 => φ.s5 (by simpa using h0),
        x6 := fun _ => ⟨wz.heap.size, rfl, φ.b.size, by simp, by go_simp, by go_simp, by go_simp, by go_simp⟩,
        d6 := fun _ h0 X hX e => by
          obtain rfl : wz.heap.size = X := by simpa using hX
          exact Nat.lt_irrefl _ ((φ.s4 (by simpa using h0)).lt _ e).2 }, by simp [hst]⟩
    refine hG ?_
    clear hK φ hG
    revert hk
    go_simp
    first | done | exact fun h => h
  case q7 =>
    rintro L vs w' K ⟨u9, u10, u11, u12, u13, u14, u7, wz, rfl, φ, rfl⟩ hL hpre hcl hK G hG
    simp [Region.binds, closedFrom] at hpre hcl
    simp only [hL, Bool.false_eq_true, if_false] at hK hG
    obtain ⟨A3, c3, rfl⟩ := own_shape (φ.s4 (by simp [hpre]))
    obtain rfl := φ.s5 (by simp [hpre])
    obtain ⟨X, rfl, x2, x3, x4, x5, x6, x7⟩ := φ.x6 (by simp [hpre])
    have hk := hK [u9, u10, u11, u12, (.slice A3 n c3), (.agg #[.int .i64 s.next, .slice A3 n c3]), (.pointer (some ⟨X, 0, none⟩))] ((wz.setCell ⟨X, 0, none⟩ (.int .i64 s.next)).setCell ⟨X, 1, none⟩ (.slice A3 n c3)) ⟨_, _, _, _, _, _, _, wz, rfl,
      { b := φ.b,
        s0 := fun h0 => φ.s0 (by simpa using h0),
        s1 := fun h0 => φ.s1 (by simpa using h0),
        s2 := fun h0 => φ.s2 (by simpa using h0),
        s3 := fun h0 => φ.s3 (by simpa using h0),
        s4 := fun h0 => φ.s4 (by simpa using h0),
        s5 := fun h0 => φ.s5 (by simpa using h0),
        x6 := fun h0 => φ.x6 (by simpa using h0),
        d6 := fun h0 h1 => φ.d6 (by simpa using h0) (by simpa using h1) }, by simp [laidAt]⟩
    refine hG ?_
    clear hK φ hG
    revert hk
    go_simp
    first | done | exact fun h => h
  case hend =>
    rintro vs w' ⟨u9, u10, u11, u12, u13, u14, u7, wz, rfl, φ, rfl⟩ G hG
    have o4 := φ.s4 rfl
    have b9 := φ.b
    obtain ⟨A3, c3, rfl⟩ := own_shape o4
    obtain ⟨X7, rfl, x2, x3, x4, x5, x6, x7⟩ := φ.x6 rfl
    have ne7 := φ.d6 rfl rfl X7 rfl
    clear φ
    have hst : decide (7 < 8) = true := rfl
    simp only [List.size_toArray, List.length_cons, List.length_nil, Nat.zero_add, Nat.reduceAdd, hst, if_true, laidAt] at hG
    have CP : Copied W0.drew ((wz.setCell ⟨X7, 0, none⟩ (.int .i64 s.next)).setCell ⟨X7, 1, none⟩ (.slice A3 n c3)) X7 s n A3 c3 :=
      ⟨by go_simp, by go_simp, by go_simp, by go_simp, x2, by simpa using x3, ownsRow_setCell_other (a := ⟨X7, 1, none⟩) (ownsRow_setCell_other (a := ⟨X7, 0, none⟩) o4 ne7 _) ne7 _, ne7, (b9.setCell x2 _).setCell x2 _⟩
    clear hst o4 b9 x2 x3 x4 x5 x6 x7 ne7
    refine hG ?_
    clear hG
    generalize (wz.setCell ⟨X7, 0, none⟩ (.int .i64 s.next)).setCell ⟨X7, 1, none⟩ (.slice A3 n c3) = w2 at *
    obtain ⟨x0, x1, f0, f1, lo, hi, own, ne, b9⟩ := CP
    have qP : w.heap.size + 1 + 1 < X7 := Nat.lt_of_lt_of_le ltP lo
    have loS : w.heap.size + 3 ≤ W0.drew.heap.size := by omega
    replace e0 := (b9.cell (p := ⟨w.heap.size, 0, none⟩) (World.block_lt_of_cell? _ _ e0)).trans e0
    replace e1 := (b9.cell (p := ⟨w.heap.size, 1, none⟩) (World.block_lt_of_cell? _ _ e1)).trans e1
    replace r0 := (b9.cell (p := ⟨w.heap.size + 1, 0, none⟩) (World.block_lt_of_cell? _ _ r0)).trans r0
    replace r1 := (b9.cell (p := ⟨w.heap.size + 1, 1, none⟩) (World.block_lt_of_cell? _ _ r1)).trans r1
    replace p0 := (b9.cell (p := ⟨w.heap.size + 1 + 1, 0, none⟩) (World.block_lt_of_cell? _ _ p0)).trans p0
    replace p1 := (b9.cell (p := ⟨w.heap.size + 1 + 1, 1, none⟩) (World.block_lt_of_cell? _ _ p1)).trans p1
    replace fr0 := (b9.frozen (p := ⟨w.heap.size + 1, 0, none⟩) ltR).trans fr0
    replace fr1 := (b9.frozen (p := ⟨w.heap.size + 1, 1, none⟩) ltR).trans fr1
    replace fp0 := (b9.frozen (p := ⟨w.heap.size + 1 + 1, 0, none⟩) ltP).trans fp0
    replace fp1 := (b9.frozen (p := ⟨w.heap.size + 1 + 1, 1, none⟩) ltP).trans fp1
    replace ltB := Nat.lt_of_lt_of_le ltB b9.size
    replace ltR := Nat.lt_of_lt_of_le ltR b9.size
    replace ltP := Nat.lt_of_lt_of_le ltP b9.size
    replace b0 := b0.trans (b9.mono b0.size)
    clear b9 cC
    go_wp2_with fail
    refine (cR _ b0).mono ?_
    rintro e w3 ⟨rfl, hb3⟩
    replace e0 := (hb3.cell (p := ⟨w.heap.size, 0, none⟩) (World.block_lt_of_cell? _ _ e0)).trans e0
    replace e1 := (hb3.cell (p := ⟨w.heap.size, 1, none⟩) (World.block_lt_of_cell? _ _ e1)).trans e1
    replace r0 := (hb3.cell (p := ⟨w.heap.size + 1, 0, none⟩) (World.block_lt_of_cell? _ _ r0)).trans r0
    replace r1 := (hb3.cell (p := ⟨w.heap.size + 1, 1, none⟩) (World.block_lt_of_cell? _ _ r1)).trans r1
    replace p0 := (hb3.cell (p := ⟨w.heap.size + 1 + 1, 0, none⟩) (World.block_lt_of_cell? _ _ p0)).trans p0
    replace p1 := (hb3.cell (p := ⟨w.heap.size + 1 + 1, 1, none⟩) (World.block_lt_of_cell? _ _ p1)).trans p1
    replace x0 := (hb3.cell (p := ⟨X7, 0, none⟩) (World.block_lt_of_cell? _ _ x0)).trans x0
    replace x1 := (hb3.cell (p := ⟨X7, 1, none⟩) (World.block_lt_of_cell? _ _ x1)).trans x1
    replace fr0 := (hb3.frozen (p := ⟨w.heap.size + 1, 0, none⟩) ltR).trans fr0
    replace fr1 := (hb3.frozen (p := ⟨w.heap.size + 1, 1, none⟩) ltR).trans fr1
    replace fp0 := (hb3.frozen (p := ⟨w.heap.size + 1 + 1, 0, none⟩) ltP).trans fp0
    replace fp1 := (hb3.frozen (p := ⟨w.heap.size + 1 + 1, 1, none⟩) ltP).trans fp1
    replace f0 := (hb3.frozen (p := ⟨X7, 0, none⟩) hi).trans f0
    replace f1 := (hb3.frozen (p := ⟨X7, 1, none⟩) hi).trans f1
    replace ltB := Nat.lt_of_lt_of_le ltB hb3.size
    replace ltR := Nat.lt_of_lt_of_le ltR hb3.size
    replace ltP := Nat.lt_of_lt_of_le ltP hb3.size
    replace hi := Nat.lt_of_lt_of_le hi hb3.size
    replace own := own_below own hb3
    replace b0 := b0.trans (hb3.mono b0.size)
    clear hb3
    obtain ⟨i0, hi0, hz0, hz1, hz2⟩ := info_parts info34
    go_wp2_with (at_builtin; refine wpList_as ?_)
    intro _
    have hs4 : (w3.alloc (.cells #[.int .i64 s.next, .int .u32 v] 34)).heap.size = w3.heap.size + 1 := by simp
    rw [← hs4]
    have qX := hi
    have obW := own.lt
    clear hs4
    replace e0 : (w3.alloc (.cells #[.int .i64 s.next, .int .u32 v] 34)).cell? ⟨w.heap.size, 0, none⟩ = some (.int .i64 s.next) := (World.cell?_alloc_lt w3 _ ⟨w.heap.size, 0, none⟩ (World.block_lt_of_cell? _ _ e0)).trans e0
    replace e1 : (w3.alloc (.cells #[.int .i64 s.next, .int .u32 v] 34)).cell? ⟨w.heap.size, 1, none⟩ = some (.slice A n c) := (World.cell?_alloc_lt w3 _ ⟨w.heap.size, 1, none⟩ (World.block_lt_of_cell? _ _ e1)).trans e1
    replace r0 : (w3.alloc (.cells #[.int .i64 s.next, .int .u32 v] 34)).cell? ⟨w.heap.size + 1, 0, none⟩ = some (.int .i64 0) := (World.cell?_alloc_lt w3 _ ⟨w.heap.size + 1, 0, none⟩ (World.block_lt_of_cell? _ _ r0)).trans r0
    replace r1 : (w3.alloc (.cells #[.int .i64 s.next, .int .u32 v] 34)).cell? ⟨w.heap.size + 1, 1, none⟩ = some (.slice none 0 0) := (World.cell?_alloc_lt w3 _ ⟨w.heap.size + 1, 1, none⟩ (World.block_lt_of_cell? _ _ r1)).trans r1
    replace p0 : (w3.alloc (.cells #[.int .i64 s.next, .int .u32 v] 34)).cell? ⟨w.heap.size + 1 + 1, 0, none⟩ = some (.int .i64 0) := (World.cell?_alloc_lt w3 _ ⟨w.heap.size + 1 + 1, 0, none⟩ (World.block_lt_of_cell? _ _ p0)).trans p0
    replace p1 : (w3.alloc (.cells #[.int .i64 s.next, .int .u32 v] 34)).cell? ⟨w.heap.size + 1 + 1, 1, none⟩ = some (.int .u32 0) := (World.cell?_alloc_lt w3 _ ⟨w.heap.size + 1 + 1, 1, none⟩ (World.block_lt_of_cell? _ _ p1)).trans p1
    replace x0 : (w3.alloc (.cells #[.int .i64 s.next, .int .u32 v] 34)).cell? ⟨X7, 0, none⟩ = some (.int .i64 s.next) := (World.cell?_alloc_lt w3 _ ⟨X7, 0, none⟩ (World.block_lt_of_cell? _ _ x0)).trans x0
    replace x1 : (w3.alloc (.cells #[.int .i64 s.next, .int .u32 v] 34)).cell? ⟨X7, 1, none⟩ = some (.slice A3 n c3) := (World.cell?_alloc_lt w3 _ ⟨X7, 1, none⟩ (World.block_lt_of_cell? _ _ x1)).trans x1
    replace fr0 : (w3.alloc (.cells #[.int .i64 s.next, .int .u32 v] 34)).frozen? ⟨w.heap.size + 1, 0, none⟩ = false := (((Below.refl w3.heap.size w3).alloc (Nat.le_refl _) _).frozen (p := ⟨w.heap.size + 1, 0, none⟩) ltR).trans fr0
    replace fr1 : (w3.alloc (.cells #[.int .i64 s.next, .int .u32 v] 34)).frozen? ⟨w.heap.size + 1, 1, none⟩ = false := (((Below.refl w3.heap.size w3).alloc (Nat.le_refl _) _).frozen (p := ⟨w.heap.size + 1, 1, none⟩) ltR).trans fr1
    replace fp0 : (w3.alloc (.cells #[.int .i64 s.next, .int .u32 v] 34)).frozen? ⟨w.heap.size + 1 + 1, 0, none⟩ = false := (((Below.refl w3.heap.size w3).alloc (Nat.le_refl _) _).frozen (p := ⟨w.heap.size + 1 + 1, 0, none⟩) ltP).trans fp0
    replace fp1 : (w3.alloc (.cells #[.int .i64 s.next, .int .u32 v] 34)).frozen? ⟨w.heap.size + 1 + 1, 1, none⟩ = false := (((Below.refl w3.heap.size w3).alloc (Nat.le_refl _) _).frozen (p := ⟨w.heap.size + 1 + 1, 1, none⟩) ltP).trans fp1
    replace f0 : (w3.alloc (.cells #[.int .i64 s.next, .int .u32 v] 34)).frozen? ⟨X7, 0, none⟩ = false := (((Below.refl w3.heap.size w3).alloc (Nat.le_refl _) _).frozen (p := ⟨X7, 0, none⟩) hi).trans f0
    replace f1 : (w3.alloc (.cells #[.int .i64 s.next, .int .u32 v] 34)).frozen? ⟨X7, 1, none⟩ = false := (((Below.refl w3.heap.size w3).alloc (Nat.le_refl _) _).frozen (p := ⟨X7, 1, none⟩) hi).trans f1
    have y0 : (w3.alloc (.cells #[.int .i64 s.next, .int .u32 v] 34)).cell? ⟨w3.heap.size, 0, none⟩ = some (.int .i64 s.next) := World.cell?_alloc_new (w := w3) _ _ _
    have y1 : (w3.alloc (.cells #[.int .i64 s.next, .int .u32 v] 34)).cell? ⟨w3.heap.size, 1, none⟩ = some (.int .u32 v) := World.cell?_alloc_new (w := w3) _ _ _
    have fy0 : (w3.alloc (.cells #[.int .i64 s.next, .int .u32 v] 34)).frozen? ⟨w3.heap.size, 0, none⟩ = false := by go_simp
    have fy1 : (w3.alloc (.cells #[.int .i64 s.next, .int .u32 v] 34)).frozen? ⟨w3.heap.size, 1, none⟩ = false := by go_simp
    replace ltB : _ < (w3.alloc (.cells #[.int .i64 s.next, .int .u32 v] 34)).heap.size := Nat.lt_of_lt_of_le ltB (by simp)
    replace ltR : _ < (w3.alloc (.cells #[.int .i64 s.next, .int .u32 v] 34)).heap.size := Nat.lt_of_lt_of_le ltR (by simp)
    replace ltP : _ < (w3.alloc (.cells #[.int .i64 s.next, .int .u32 v] 34)).heap.size := Nat.lt_of_lt_of_le ltP (by simp)
    replace hi : _ < (w3.alloc (.cells #[.int .i64 s.next, .int .u32 v] 34)).heap.size := Nat.lt_of_lt_of_le hi (by simp)
    replace own := own.alloc (.cells #[.int .i64 s.next, .int .u32 v] 34)
    replace b0 := b0.alloc b0.size (.cells #[.int .i64 s.next, .int .u32 v] 34)
    have ltY : w3.heap.size < (w3.alloc (.cells #[.int .i64 s.next, .int .u32 v] 34)).heap.size := by simp
    generalize hw_w4 : w3.alloc (.cells #[.int .i64 s.next, .int .u32 v] 34) = w4 at *
    clear hw_w4
    generalize w3.heap.size = PB at *
    refine wpList_append_own_at _ rfl _ _ 25 rfl W0.drew.heap.size 34 i0 _ 2 16 Try.underlying25 hi0 hz0 hz1 hz2 rfl (by decide) _ _ _ rfl (own.alloc _) ⟨w4.heap.size, 0, none⟩ 1 1 [.int .i64 s.next, .int .u32 v] rfl rfl (fun j u hj => cell_new_block w4 _ 34 j u hj) (by intro u hu; simp at hu; rcases hu with rfl | rfl <;> rfl) (by unfold maxLen; omega) (by omega) (Nat.le_trans lo (Nat.le_of_lt (Nat.lt_of_lt_of_le hi (by simp)))) ?_
    intro v' w5 own' hgrow hnil hat
    obtain ⟨A4, c4, rfl⟩ := own_shape own'
    obtain ⟨cc0, ff0⟩ := far_append hgrow (w.heap.size) ltB (fun e => by have := obW _ e; omega)
    obtain ⟨cc1, ff1⟩ := far_append hgrow (w.heap.size + 1) ltR (fun e => by have := obW _ e; omega)
    obtain ⟨cc2, ff2⟩ := far_append hgrow (w.heap.size + 1 + 1) ltP (fun e => by have := obW _ e; omega)
    obtain ⟨cc3, ff3⟩ := far_append hgrow (X7) hi ne
    obtain ⟨cc4, ff4⟩ := far_append hgrow (PB) ltY (fun e => by have := obW _ e; omega)
    replace e0 := (cc0 0).trans e0
    replace e1 := (cc0 1).trans e1
    replace r0 := (cc1 0).trans r0
    replace fr0 := (ff1 0).trans fr0
    replace r1 := (cc1 1).trans r1
    replace fr1 := (ff1 1).trans fr1
    replace p0 := (cc2 0).trans p0
    replace fp0 := (ff2 0).trans fp0
    replace p1 := (cc2 1).trans p1
    replace fp1 := (ff2 1).trans fp1
    replace x0 := (cc3 0).trans x0
    replace x1 := (cc3 1).trans x1
    replace y0 := (cc4 0).trans y0
    replace fy0 := (ff4 0).trans fy0
    replace y1 := (cc4 1).trans y1
    replace fy1 := (ff4 1).trans fy1
    replace f0 := (ff3 0).trans f0
    replace f1 := (ff3 1).trans f1
    clear cc0 ff0 cc1 ff1 cc2 ff2 cc3 ff3 cc4 ff4
    replace b0 := below_append (b0.alloc b0.size (.cells #[.int .i64 s.next, .int .u32 v] 34)) hgrow (by simp; have := b0.size; omega) (own.alloc _) (by omega)
    have hsN : w4.heap.size ≤ w5.heap.size := by have := hgrow.size; simp at this; omega
    have ne4 : (Value.slice A4 (n + 1) c4).ownBlock ≠ some X7 := by
      rcases hat with e | e <;> rw [e]
      · exact ne
      · simp; omega
    have obN := own'.lt
    replace ltB := Nat.lt_of_lt_of_le ltB hsN
    replace ltR := Nat.lt_of_lt_of_le ltR hsN
    replace ltP := Nat.lt_of_lt_of_le ltP hsN
    replace hi := Nat.lt_of_lt_of_le hi hsN
    replace ltY := Nat.lt_of_lt_of_le ltY hsN
    clear hgrow hnil hat own
    go_wp2_with fail
    have loN : w.heap.size + 3 ≤ X7 := by omega
    have nR : (⟨X7, 1, none⟩ : Addr).block ≠ w.heap.size + 1 := by show X7 ≠ _; omega
    have nP : (⟨X7, 1, none⟩ : Addr).block ≠ w.heap.size + 1 + 1 := by show X7 ≠ _; omega
    have nY : (⟨X7, 1, none⟩ : Addr).block ≠ PB := by show X7 ≠ _; omega
    have own6 := ownsRow_setCell_other (a := ⟨X7, 0, none⟩) (ownsRow_setCell_other (a := ⟨X7, 1, none⟩) own' ne4 (.slice A4 (n + 1) c4)) ne4 (.int .i64 (s.next + 1))
    replace b0 := (b0.setCell (p := ⟨X7, 1, none⟩) (by show w.heap.size ≤ X7; omega) (.slice A4 (n + 1) c4)).setCell (p := ⟨X7, 0, none⟩) (by show w.heap.size ≤ X7; omega) (.int .i64 (s.next + 1))
    have k0 : ((w5.setCell ⟨X7, 1, none⟩ (.slice A4 (n + 1) c4)).setCell ⟨X7, 0, none⟩ (.int .i64 (s.next + 1))).cell? ⟨X7, 0, none⟩ = some (.int .i64 (s.next + 1)) := by go_simp
    have k1 : ((w5.setCell ⟨X7, 1, none⟩ (.slice A4 (n + 1) c4)).setCell ⟨X7, 0, none⟩ (.int .i64 (s.next + 1))).cell? ⟨X7, 1, none⟩ = some (.slice A4 (n + 1) c4) := by go_simp
    clear x0 x1 f0 f1 e0 e1 ne4 own' obN obW
    replace r0 := (cell_far2 nR (.slice A4 (n + 1) c4) (.int .i64 (s.next + 1)) (q := ⟨w.heap.size + 1, 0, none⟩)).trans r0
    replace fr0 := (frozen_far2 w5 X7 (.slice A4 (n + 1) c4) (.int .i64 (s.next + 1)) (q := ⟨w.heap.size + 1, 0, none⟩)).trans fr0
    replace r1 := (cell_far2 nR (.slice A4 (n + 1) c4) (.int .i64 (s.next + 1)) (q := ⟨w.heap.size + 1, 1, none⟩)).trans r1
    replace fr1 := (frozen_far2 w5 X7 (.slice A4 (n + 1) c4) (.int .i64 (s.next + 1)) (q := ⟨w.heap.size + 1, 1, none⟩)).trans fr1
    replace p0 := (cell_far2 nP (.slice A4 (n + 1) c4) (.int .i64 (s.next + 1)) (q := ⟨w.heap.size + 1 + 1, 0, none⟩)).trans p0
    replace fp0 := (frozen_far2 w5 X7 (.slice A4 (n + 1) c4) (.int .i64 (s.next + 1)) (q := ⟨w.heap.size + 1 + 1, 0, none⟩)).trans fp0
    replace p1 := (cell_far2 nP (.slice A4 (n + 1) c4) (.int .i64 (s.next + 1)) (q := ⟨w.heap.size + 1 + 1, 1, none⟩)).trans p1
    replace fp1 := (frozen_far2 w5 X7 (.slice A4 (n + 1) c4) (.int .i64 (s.next + 1)) (q := ⟨w.heap.size + 1 + 1, 1, none⟩)).trans fp1
    replace y0 := (cell_far2 nY (.slice A4 (n + 1) c4) (.int .i64 (s.next + 1)) (q := ⟨PB, 0, none⟩)).trans y0
    replace fy0 := (frozen_far2 w5 X7 (.slice A4 (n + 1) c4) (.int .i64 (s.next + 1)) (q := ⟨PB, 0, none⟩)).trans fy0
    replace y1 := (cell_far2 nY (.slice A4 (n + 1) c4) (.int .i64 (s.next + 1)) (q := ⟨PB, 1, none⟩)).trans y1
    replace fy1 := (frozen_far2 w5 X7 (.slice A4 (n + 1) c4) (.int .i64 (s.next + 1)) (q := ⟨PB, 1, none⟩)).trans fy1
    replace ltR := lt_far2 (X7 := X7) (.slice A4 (n + 1) c4) (.int .i64 (s.next + 1)) ltR
    replace ltP := lt_far2 (X7 := X7) (.slice A4 (n + 1) c4) (.int .i64 (s.next + 1)) ltP
    replace ltY := lt_far2 (X7 := X7) (.slice A4 (n + 1) c4) (.int .i64 (s.next + 1)) ltY
    generalize (w5.setCell ⟨X7, 1, none⟩ (.slice A4 (n + 1) c4)).setCell ⟨X7, 0, none⟩ (.int .i64 (s.next + 1)) = w6 at *
    go_region
    go_wp2_with fail
    exact bodyPost_ret (v := .tuple #[.agg #[.int .i64 (s.next + 1), .slice A4 (n + 1) c4], .agg #[.int .i64 s.next, .int .u32 v], .int .i64 0]) (by simp [results, Try.results6, go_sem, r0, r1, p0, p1]) rfl (gave_drew (gave_ret (s := ⟨s.next + 1, s.out ++ [⟨s.next, v⟩]⟩) (p := ⟨s.next, v⟩) (by simp [HN.out]) (by simpa [List.flatMap_append, Pce.enc] using own6) loS b0))
end Go.Proofs.Ytjnpdicoopgkoaa
