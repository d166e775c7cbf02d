/- Walks of commit's laws: CommitRight. -/
import Derived.Test.YtkkbpcnoamagcaaN
import Derived.Test.YtkkbpcnoamagcaaOq
import Derived.Deep.AppendLies
namespace Go.Proofs.Ytkkbpcnoamagcaa
open Go.RowKit Go.Lib
set_option linter.unusedVariables false
attribute [local go_sem] Act.puts

def laidAt (p u v : Value) (w : World) : World := match p with | .pointer (some a) => (w.setCell a u).setCell ⟨a.block, 1, none⟩ v | _ => w
structure MineR (w0 : World) (H : Nat) (A B : Option Addr) (n c m d : Nat) (h : List Hld) (t : List Tld) (L : Nat → Bool) (u24 u25 u26 u27 u28 u29 u30 u31 u32 u7 : Value) (wz : World) : Prop where
  b : Below w0.heap.size w0 wz
  s0 : L 0 = true → L 3 = false → wz.ownsRow w0.heap.size 51 3 u24 0 []
  s1 : L 1 = true → u25 = .pointer (some ⟨H, 0, none⟩)
  s2 : L 2 = true → u26 = .slice A n c
  s3 : L 3 = true → wz.ownsRow w0.heap.size 51 3 u27 n (h.flatMap Hld.enc)
  s4 : L 4 = true → L 7 = false → wz.ownsRow w0.heap.size 28 2 u28 0 []
  s5 : L 5 = true → u29 = .pointer (some ⟨H, 1, none⟩)
  s6 : L 6 = true → u30 = .slice B m d
  s7 : L 7 = true → wz.ownsRow w0.heap.size 28 2 u31 m (t.flatMap Tld.enc)
  s8 : L 8 = true → u32 = .agg #[u27, u31]
  x9 : L 9 = true → ∃ X, u7 = .pointer (some ⟨X, 0, none⟩) ∧ w0.heap.size ≤ X ∧ X < wz.heap.size ∧ wz.cell? ⟨X, 0, none⟩ = some (.slice none 0 0) ∧ wz.cell? ⟨X, 1, none⟩ = some (.slice none 0 0) ∧ wz.frozen? ⟨X, 0, none⟩ = false ∧ wz.frozen? ⟨X, 1, none⟩ = false
  d0 : L 9 = true → L 0 = true → L 3 = false → ∀ X, u7 = .pointer (some ⟨X, 0, none⟩) → u24.ownBlock ≠ some X
  d3 : L 9 = true → L 3 = true → ∀ X, u7 = .pointer (some ⟨X, 0, none⟩) → u27.ownBlock ≠ some X
  d4 : L 9 = true → L 4 = true → L 7 = false → ∀ X, u7 = .pointer (some ⟨X, 0, none⟩) → u28.ownBlock ≠ some X
  d7 : L 9 = true → L 7 = true → ∀ X, u7 = .pointer (some ⟨X, 0, none⟩) → u31.ownBlock ≠ some X
def MineRPhi (w0 : World) (H : Nat) (A B : Option Addr) (n c m d : Nat) (h : List Hld) (t : List Tld) (L : Nat → Bool) (vs : List Value) (w' : World) : Prop :=
  ∃ u24 u25 u26 u27 u28 u29 u30 u31 u32 u7 wz, vs = [u24, u25, u26, u27, u28, u29, u30, u31, u32, u7] ∧ MineR w0 H A B n c m d h t L u24 u25 u26 u27 u28 u29 u30 u31 u32 u7 wz ∧ w' = if L 10 = true then laidAt u7 u27 u31 wz else wz

theorem mine_region (A B : Option Addr) (c d n m : Nat) (g : Gt) (w0 : World) (H : Nat) (hg : GateIn w0.drew A B g.held g.out) (hn : g.held.length = n) (hm : g.out.length = m) (hn1 : n ≤ 1000000) (hm1 : m ≤ 1000000)
    (e0 : w0.drew.cell? ⟨H, 0, none⟩ = some (.slice A n c)) (e1 : w0.drew.cell? ⟨H, 1, none⟩ = some (.slice B m d)) (ltH : H < w0.drew.heap.size) : True := trivial

set_option maxHeartbeats 20000000 in
theorem right_walk_n (A B : Option Addr) (c d n m : Nat) (g : Gt) (k : Int) (t : Tld) (w : World) (hg : GateIn w A B g.held g.out) (hn : g.held.length = n) (hm : g.out.length = m) (hn1 : n ≤ 80) (hm1 : m ≤ 100)
    (x y z : Gt) (k1 k2 k3 : Int) (h1 : tellG g k t = (x, k1)) (h2 : sureG g k = (y, k2)) (h3 : backG g k = (z, k3)) (r : Bool) (hr : rightB g.held = r) :
    Calls Try.prog 3 #[.agg #[.slice A n c, .slice B m d], .int .i64 k, .agg #[.int .i64 t.core, .int .u32 t.val]] w fun e w' => e = .returned (.bool true) ∧ Below w.heap.size w w' := by
  have hn1z : ¬ 80 < (n : Int) := by omega
  have hm1z : ¬ 100 < (m : Int) := by omega
  obtain ⟨n1, hxn⟩ : ∃ n1, x.held.length = n1 := ⟨_, rfl⟩
  obtain ⟨m1, hxm⟩ : ∃ m1, x.out.length = m1 := ⟨_, rfl⟩
  obtain ⟨n2, hyn⟩ : ∃ n1, y.held.length = n1 := ⟨_, rfl⟩
  obtain ⟨m2, hym⟩ : ∃ m1, y.out.length = m1 := ⟨_, rfl⟩
  obtain ⟨n3, hzn⟩ : ∃ n1, z.held.length = n1 := ⟨_, rfl⟩
  obtain ⟨m3, hzm⟩ : ∃ m1, z.out.length = m1 := ⟨_, rfl⟩
  have cT := fun A' B' c' d' w1 hgg => call_num (Tell_any A' B' c' d' n m k g t w1 hgg hn hm (by omega) (by omega)) h1 hxn hxm
  have cT2 := fun A' B' c' d' w1 hgg => call_num (rTell_any A' B' c' d' n m k g t w1 hgg hn hm (by omega) (by omega)) h1 hxn hxm
  have cS := fun A' B' c' d' w1 hgg => call_num (Sure_any A' B' c' d' n m k g w1 hgg hn hm (by omega) (by omega)) h2 hyn hym
  have cS2 := fun A' B' c' d' w1 hgg => call_num (rSure_any A' B' c' d' n m k g w1 hgg hn hm (by omega) (by omega)) h2 hyn hym
  have cB := fun A' B' c' d' w1 hgg => call_num (Back_any A' B' c' d' n m k g w1 hgg hn hm (by omega) (by omega)) h3 hzn hzm
  have cB2 := fun A' B' c' d' w1 hgg => call_num (rBack_any A' B' c' d' n m k g w1 hgg hn hm (by omega) (by omega)) h3 hzn hzm
  have cR := fun A' B' c' d' w1 hgg => Right_any A' B' c' d' n m g.held g.out w1 hgg hn
  have cR2 := fun A' B' c' d' w1 hgg => rRight_any A' B' c' d' n m g.held g.out w1 hgg hn
  have cA := fun A' B' c' d' w1 hgg => All_any A' B' c' d' n m g w1 hgg hn hm (by omega) (by omega)
  have cA2 := fun A' B' c' d' w1 hgg => rAll_any A' B' c' d' n m g w1 hgg hn hm (by omega) (by omega)
  have cO := fun A' B' c' d' w1 (h1 : Sl 2 Tld.enc w1 A' (allG g)) (h2 : Sl 2 Tld.enc w1 B' (allG g)) => outs_any A' B' c' d' (m + n) (m + n) (allG g) (allG g) w1 h1 h2 (by simp [allG, hn, hm]) (by simp [allG, hn, hm])
  have cE : ∀ (q : Gt) (nn mm : Nat), q.held.length = nn → q.out.length = mm → ∀ A' B' C' D' a' b' c' d' w1, GateIn w1 A' B' q.held q.out → GateIn w1 C' D' q.held q.out → Calls Try.prog 9 #[.agg #[.slice A' nn a', .slice B' mm b'], .agg #[.slice C' nn c', .slice D' mm d']] w1 fun e w' => e = .returned (.bool true) ∧ Below w1.heap.size w1 w' := by
    intro q nn mm hq1 hq2 A' B' C' D' a' b' c' d' w1 g1 g2
    have := same_any A' C' a' c' nn nn q.held q.held B' D' b' d' mm mm q.out q.out w1 g1.held g2.held hq1 hq1 g1.out g2.out hq2 hq2
    simpa using this
  rw [hr] at cR cR2
  rw [show decide (allG g = allG g) = true by simp] at cO
  have cEx := cE x n1 m1 hxn hxm
  have cEy := cE y n2 m2 hyn hym
  have cEz := cE z n3 m3 hzn hzm
  have cEg := cE g n m hn hm
  have HN := Lib.hid hn
  have HM := Lib.hid hm
  have b : Below w.heap.size w ((w.alloc (.cells #[.slice A n c, .slice B m d] 25)).alloc (.cells #[.int .i64 t.core, .int .u32 t.val] 28)) := ((Below.refl _ _).alloc (Nat.le_refl _) _).alloc (by simp) _
  have e0 : ((w.alloc (.cells #[.slice A n c, .slice B m d] 25)).alloc (.cells #[.int .i64 t.core, .int .u32 t.val] 28)).cell? ⟨w.heap.size, 0, none⟩ = some (.slice A n c) := by go_simp
  have e1 : ((w.alloc (.cells #[.slice A n c, .slice B m d] 25)).alloc (.cells #[.int .i64 t.core, .int .u32 t.val] 28)).cell? ⟨w.heap.size, 1, none⟩ = some (.slice B m d) := by go_simp
  have t0 : ((w.alloc (.cells #[.slice A n c, .slice B m d] 25)).alloc (.cells #[.int .i64 t.core, .int .u32 t.val] 28)).cell? ⟨w.heap.size + 1, 0, none⟩ = some (.int .i64 t.core) := by go_simp
  have t1 : ((w.alloc (.cells #[.slice A n c, .slice B m d] 25)).alloc (.cells #[.int .i64 t.core, .int .u32 t.val] 28)).cell? ⟨w.heap.size + 1, 1, none⟩ = some (.int .u32 t.val) := by go_simp
  have ltB : w.heap.size < ((w.alloc (.cells #[.slice A n c, .slice B m d] 25)).alloc (.cells #[.int .i64 t.core, .int .u32 t.val] 28)).heap.size := by simp <;> omega
  have ltT : w.heap.size + 1 < ((w.alloc (.cells #[.slice A n c, .slice B m d] 25)).alloc (.cells #[.int .i64 t.core, .int .u32 t.val] 28)).heap.size := by simp
  replace hg := hg.below b
  clear cE hn hm h1 h2 h3 hxn hxm hyn hym hzn hzm hr
  go_enter Try.func3, Try.ntmps3
  go_wp2_with fail
  generalize (w.alloc (.cells #[.slice A n c, .slice B m d] 25)).alloc (.cells #[.int .i64 t.core, .int .u32 t.val] 28) = W0 at *
  refine (awake_any _).mono ?_
  rintro e w1 ⟨rfl, hb1⟩
  replace e0 := (hb1.cell (p := ⟨w.heap.size, 0, none⟩) (World.block_lt_of_cell? _ _ e0)).trans e0
  replace e1 := (hb1.cell (p := ⟨w.heap.size, 1, none⟩) (World.block_lt_of_cell? _ _ e1)).trans e1
  replace t0 := (hb1.cell (p := ⟨w.heap.size + 1, 0, none⟩) (World.block_lt_of_cell? _ _ t0)).trans t0
  replace t1 := (hb1.cell (p := ⟨w.heap.size + 1, 1, none⟩) (World.block_lt_of_cell? _ _ t1)).trans t1
  replace ltB := Nat.lt_of_lt_of_le ltB hb1.size
  replace ltT := Nat.lt_of_lt_of_le ltT hb1.size
  replace hg := hg.below hb1
  replace b := b.trans (hb1.mono b.size)
  clear hb1
  go_wp2_with fail
  replace hg := hg.below (Below.refl _ _).drew
  replace b := b.drew
  replace e0 : w1.drew.cell? _ = _ := e0
  replace e1 : w1.drew.cell? _ = _ := e1
  replace t0 : w1.drew.cell? _ = _ := t0
  replace t1 : w1.drew.cell? _ = _ := t1
  replace ltB : _ < w1.drew.heap.size := ltB
  replace ltT : _ < w1.drew.heap.size := ltT
  obtain ⟨i1, hi, hz0, hz1, hz2⟩ := info_parts info51
  obtain ⟨i2, ki, kz0, kz1, kz2⟩ := info_parts info28
  refine wp_region_rg (by kernel_rfl) (by kernel_rfl) [24, 25, 26, 27, 28, 29, 30, 31, 32, 7] (MineRPhi w1.drew w.heap.size A B n c m d g.held g.out) ?h0 ⟨?q0, ?q1, ?q2, ?q3, ?q4, ?q5, ?q6, ?q7, ?q8, ?q9, ?q10, trivial⟩ ?hend
  case h0 => exact ⟨_, _, _, _, _, _, _, _, _, _, _, rfl, ⟨Below.refl _ _, (fun h => by cases h), (fun h => by cases h), (fun h => by cases h), (fun h => by cases h), (fun h => by cases h), (fun h => by cases h), (fun h => by cases h), (fun h => by cases h), (fun h => by cases h), (fun h => by cases h), (fun h => by cases h), (fun h => by cases h), (fun h => by cases h), (fun h => by cases h)⟩, rfl⟩
  case q0 =>
    rintro L vs w' K ⟨u24, u25, u26, u27, u28, u29, u30, u31, u32, u7, wz, rfl, φ, rfl⟩ hL hpre hcl hK G hG
    simp [Region.binds, closedFrom] at hpre hcl
    have hst : L 10 = false := by
      cases h : L 10 with
      | false => rfl
      | true => simp [h, hL] at hcl
    simp only [hst, Bool.false_eq_true, if_false] at hK hG
    have hk := hK [(.slice (some ⟨wz.heap.size, 0, none⟩) 0 0), u25, u26, u27, u28, u29, u30, u31, u32, u7] (wz.alloc (.cells #[] 51)) ⟨_, _, _, _, _, _, _, _, _, _, (wz.alloc (.cells #[] 51)), rfl,
      { b := φ.b.alloc φ.b.size _,
        s0 := fun _ _ => World.ownsRow_made wz #[] 0 φ.b.size (Nat.zero_le _) (by simp),
        s1 := fun h0 => φ.s1 (by simpa using h0),
        s2 := fun h0 => φ.s2 (by simpa using h0),
        s3 := fun h0 => (φ.s3 (by simpa using h0)).alloc _,
        s4 := fun h0 h1 => (φ.s4 (by simpa using h0) (by simpa using h1)).alloc _,
        s5 := fun h0 => φ.s5 (by simpa using h0),
        s6 := fun h0 => φ.s6 (by simpa using h0),
        s7 := fun h0 => (φ.s7 (by simpa using h0)).alloc _,
        s8 := fun h0 => φ.s8 (by simpa using h0),
        x9 := fun h => by
          obtain ⟨X, e1, e2, e3, e4, e5, e6, e7⟩ := φ.x9 (by simpa using h)
          have fr := fun j => ((Below.refl wz.heap.size wz).alloc (Nat.le_refl _) (.cells #[] 51)).frozen (p := ⟨X, j, none⟩) e3
          exact ⟨X, e1, e2, by simp; omega, (World.cell?_alloc_lt wz _ ⟨X, 0, none⟩ e3).trans e4, (World.cell?_alloc_lt wz _ ⟨X, 1, none⟩ e3).trans e5, (fr 0).trans e6, (fr 1).trans e7⟩,
        d0 := fun h _ _ X hX => by
          obtain ⟨X', e1, e2, e3, _⟩ := φ.x9 (by simpa using h)
          rw [hX] at e1
          obtain rfl : X = X' := by simpa using e1
          simp [Value.ownBlock]; omega,
        d3 := fun h0 h1 => φ.d3 (by simpa using h0) (by simpa using h1),
        d4 := fun h0 h1 h2 => φ.d4 (by simpa using h0) (by simpa using h1) (by simpa using h2),
        d7 := fun h0 h1 => φ.d7 (by simpa using h0) (by simpa using h1) }, by simp [hst]⟩
    refine hG ?_
    clear hK φ hG
    revert hk
    go_simp
    first | done | exact fun h => h
  case q1 =>
    rintro L vs w' K ⟨u24, u25, u26, u27, u28, u29, u30, u31, u32, u7, wz, rfl, φ, rfl⟩ hL hpre hcl hK G hG
    simp [Region.binds, closedFrom] at hpre hcl
    have hst : L 10 = false := by
      cases h : L 10 with
      | false => rfl
      | true => simp [h, hL] at hcl
    simp only [hst, Bool.false_eq_true, if_false] at hK hG
    have hk := hK [u24, (.pointer (some ⟨w.heap.size, 0, none⟩)), u26, u27, u28, u29, u30, u31, u32, u7] wz ⟨_, _, _, _, _, _, _, _, _, _, wz, rfl,
      { b := φ.b,
        s0 := fun h0 h1 => φ.s0 (by simpa using h0) (by simpa using h1),
        s1 := fun _ => rfl,
        s2 := fun h0 => φ.s2 (by simpa using h0),
        s3 := fun h0 => φ.s3 (by simpa using h0),
        s4 := fun h0 h1 => φ.s4 (by simpa using h0) (by simpa using h1),
        s5 := fun h0 => φ.s5 (by simpa using h0),
        s6 := fun h0 => φ.s6 (by simpa using h0),
        s7 := fun h0 => φ.s7 (by simpa using h0),
        s8 := fun h0 => φ.s8 (by simpa using h0),
        x9 := fun h0 => φ.x9 (by simpa using h0),
        d0 := fun h0 h1 h2 => φ.d0 (by simpa using h0) (by simpa using h1) (by simpa using h2),
        d3 := fun h0 h1 => φ.d3 (by simpa using h0) (by simpa using h1),
        d4 := fun h0 h1 h2 => φ.d4 (by simpa using h0) (by simpa using h1) (by simpa using h2),
        d7 := fun h0 h1 => φ.d7 (by simpa using h0) (by simpa using h1) }, by simp [hst]⟩
    refine hG ?_
    clear hK φ hG
    revert hk
    go_simp
    first | done | exact fun h => h
  case q2 =>
    rintro L vs w' K ⟨u24, u25, u26, u27, u28, u29, u30, u31, u32, u7, wz, rfl, φ, rfl⟩ hL hpre hcl hK G hG
    simp [Region.binds, closedFrom] at hpre hcl
    have hst : L 10 = false := by
      cases h : L 10 with
      | false => rfl
      | true => simp [h, hL] at hcl
    simp only [hst, Bool.false_eq_true, if_false] at hK hG
    obtain rfl := φ.s1 (by simp [hpre])
    have ce := (φ.b.cell (p := ⟨w.heap.size, 0, none⟩) ltB).trans e0
    have hk := hK [u24, (.pointer (some ⟨w.heap.size, 0, none⟩)), (.slice A n c), u27, u28, u29, u30, u31, u32, u7] wz ⟨_, _, _, _, _, _, _, _, _, _, wz, rfl,
      { b := φ.b,
        s0 := fun h0 h1 => φ.s0 (by simpa using h0) (by simpa using h1),
        s1 := fun h0 => φ.s1 (by simpa using h0),
        s2 := fun _ => rfl,
        s3 := fun h0 => φ.s3 (by simpa using h0),
        s4 := fun h0 h1 => φ.s4 (by simpa using h0) (by simpa using h1),
        s5 := fun h0 => φ.s5 (by simpa using h0),
        s6 := fun h0 => φ.s6 (by simpa using h0),
        s7 := fun h0 => φ.s7 (by simpa using h0),
        s8 := fun h0 => φ.s8 (by simpa using h0),
        x9 := fun h0 => φ.x9 (by simpa using h0),
        d0 := fun h0 h1 h2 => φ.d0 (by simpa using h0) (by simpa using h1) (by simpa using h2),
        d3 := fun h0 h1 => φ.d3 (by simpa using h0) (by simpa using h1),
        d4 := fun h0 h1 h2 => φ.d4 (by simpa using h0) (by simpa using h1) (by simpa using h2),
        d7 := fun h0 h1 => φ.d7 (by simpa using h0) (by simpa using h1) }, by simp [hst]⟩
    refine hG ?_
    clear hK φ hG
    revert hk
    go_simp
    first | done | exact fun h => h
  case q3 =>
    rintro L vs w' K ⟨u24, u25, u26, u27, u28, u29, u30, u31, u32, u7, wz, rfl, φ, rfl⟩ hL hpre hcl hK G hG
    simp [Region.binds, closedFrom] at hpre hcl
    have hst : L 10 = false := by
      cases h : L 10 with
      | false => rfl
      | true => simp [h, hL] at hcl
    simp only [hst, Bool.false_eq_true, if_false] at hK hG
    obtain rfl := φ.s2 (by simp [hpre])
    have o1 := φ.s0 (by simp [hpre]) hL
    have L8 : L 8 = false := by
      cases h : L 8 with
      | false => rfl
      | true => simp [h, hL] at hcl
    refine hG (step_append_sl wz rfl (.tmp 24) (.tmp 26) 22 rfl w1.drew.heap.size 51 i1 _ 3 24 Try.underlying22 hi hz0 hz1 hz2 rfl (by decide) u24 0 [] (by simp [Act.eval, Act.puts, Act.put]) o1 Hld.enc Hld.enc_len Hld.enc_one A n c g.held (by simp [Act.eval, Act.puts, Act.put]) HN.out (hg.held.below φ.b) (by unfold maxLen; omega) (by omega) φ.b.size ?_)
    intro v' w9 ownN hgrow hat
    have b9 := below_append φ.b hgrow φ.b.size o1 (Nat.le_refl _)
    rw [Nat.zero_add, List.nil_append] at ownN
    have hs9 := hgrow.size
    have hk := hK [u24, u25, (.slice A n c), (v'), u28, u29, u30, u31, u32, u7] w9 ⟨_, _, _, _, _, _, _, _, _, _, w9, rfl,
      { b := b9,
        s0 := fun _ h => by simp at h,
        s1 := fun h0 => φ.s1 (by simpa using h0),
        s2 := fun h0 => φ.s2 (by simpa using h0),
        s3 := fun _ => ownN,
        s4 := fun h0 h1 => by
          have o4 := φ.s4 (by simpa using h0) (by simpa using h1)
          exact o4.kept hgrow (own_two o4 o1 (by decide)),
        s5 := fun h0 => φ.s5 (by simpa using h0),
        s6 := fun h0 => φ.s6 (by simpa using h0),
        s7 := fun h0 => by
          have o4 := φ.s7 (by simpa using h0)
          exact o4.kept hgrow (own_two o4 o1 (by decide)),
        s8 := fun h => by simp [L8] at h,
        x9 := fun h => by
          obtain ⟨X, e1, e2, e3, e4, e5, e6, e7⟩ := φ.x9 (by simpa using h)
          have ne := φ.d0 (by simpa using h) (by simp [hpre]) hL X e1
          exact ⟨X, e1, e2, Nat.lt_of_lt_of_le e3 hs9, (hgrow.cell_far _ e3 (Ne.symm ne)).trans e4, (hgrow.cell_far _ e3 (Ne.symm ne)).trans e5, (hgrow.frozen_far _ e3 (Ne.symm ne)).trans e6, (hgrow.frozen_far _ e3 (Ne.symm ne)).trans e7⟩,
        d0 := fun _ _ h => by simp at h,
        d3 := fun h _ X hX => by
          obtain ⟨X', e1, e2, e3, _⟩ := φ.x9 (by simpa using h)
          have ne := φ.d0 (by simpa using h) (by simp [hpre]) hL X hX
          rw [hX] at e1
          obtain rfl : X = X' := by simpa using e1
          rcases hat with e | e <;> rw [e]
          · exact ne
          · simp; omega,
        d4 := fun h0 h1 h2 => φ.d4 (by simpa using h0) (by simpa using h1) (by simpa using h2),
        d7 := fun h0 h1 => φ.d7 (by simpa using h0) (by simpa using h1) }, by simp [hst]⟩
    clear hK φ hG
    revert hk
    go_simp
    first | done | exact fun h => h
  case q4 =>
    rintro L vs w' K ⟨u24, u25, u26, u27, u28, u29, u30, u31, u32, u7, wz, rfl, φ, rfl⟩ hL hpre hcl hK G hG
    simp [Region.binds, closedFrom] at hpre hcl
    have hst : L 10 = false := by
      cases h : L 10 with
      | false => rfl
      | true => simp [h, hL] at hcl
    simp only [hst, Bool.false_eq_true, if_false] at hK hG
    have hk := hK [u24, u25, u26, u27, (.slice (some ⟨wz.heap.size, 0, none⟩) 0 0), u29, u30, u31, u32, u7] (wz.alloc (.cells #[] 28)) ⟨_, _, _, _, _, _, _, _, _, _, (wz.alloc (.cells #[] 28)), rfl,
      { b := φ.b.alloc φ.b.size _,
        s0 := fun h0 h1 => (φ.s0 (by simpa using h0) (by simpa using h1)).alloc _,
        s1 := fun h0 => φ.s1 (by simpa using h0),
        s2 := fun h0 => φ.s2 (by simpa using h0),
        s3 := fun h0 => (φ.s3 (by simpa using h0)).alloc _,
        s4 := fun _ _ => World.ownsRow_made wz #[] 0 φ.b.size (Nat.zero_le _) (by simp),
        s5 := fun h0 => φ.s5 (by simpa using h0),
        s6 := fun h0 => φ.s6 (by simpa using h0),
        s7 := fun h0 => (φ.s7 (by simpa using h0)).alloc _,
        s8 := fun h0 => φ.s8 (by simpa using h0),
        x9 := fun h => by
          obtain ⟨X, e1, e2, e3, e4, e5, e6, e7⟩ := φ.x9 (by simpa using h)
          have fr := fun j => ((Below.refl wz.heap.size wz).alloc (Nat.le_refl _) (.cells #[] 28)).frozen (p := ⟨X, j, none⟩) e3
          exact ⟨X, e1, e2, by simp; omega, (World.cell?_alloc_lt wz _ ⟨X, 0, none⟩ e3).trans e4, (World.cell?_alloc_lt wz _ ⟨X, 1, none⟩ e3).trans e5, (fr 0).trans e6, (fr 1).trans e7⟩,
        d0 := fun h0 h1 h2 => φ.d0 (by simpa using h0) (by simpa using h1) (by simpa using h2),
        d3 := fun h0 h1 => φ.d3 (by simpa using h0) (by simpa using h1),
        d4 := fun h _ _ X hX => by
          obtain ⟨X', e1, e2, e3, _⟩ := φ.x9 (by simpa using h)
          rw [hX] at e1
          obtain rfl : X = X' := by simpa using e1
          simp [Value.ownBlock]; omega,
        d7 := fun h0 h1 => φ.d7 (by simpa using h0) (by simpa using h1) }, by simp [hst]⟩
    refine hG ?_
    clear hK φ hG
    revert hk
    go_simp
    first | done | exact fun h => h
  case q5 =>
    rintro L vs w' K ⟨u24, u25, u26, u27, u28, u29, u30, u31, u32, u7, wz, rfl, φ, rfl⟩ hL hpre hcl hK G hG
    simp [Region.binds, closedFrom] at hpre hcl
    have hst : L 10 = false := by
      cases h : L 10 with
      | false => rfl
      | true => simp [h, hL] at hcl
    simp only [hst, Bool.false_eq_true, if_false] at hK hG
    have hk := hK [u24, u25, u26, u27, u28, (.pointer (some ⟨w.heap.size, 1, none⟩)), u30, u31, u32, u7] wz ⟨_, _, _, _, _, _, _, _, _, _, wz, rfl,
      { b := φ.b,
        s0 := fun h0 h1 => φ.s0 (by simpa using h0) (by simpa using h1),
        s1 := fun h0 => φ.s1 (by simpa using h0),
        s2 := fun h0 => φ.s2 (by simpa using h0),
        s3 := fun h0 => φ.s3 (by simpa using h0),
        s4 := fun h0 h1 => φ.s4 (by simpa using h0) (by simpa using h1),
        s5 := fun _ => rfl,
        s6 := fun h0 => φ.s6 (by simpa using h0),
        s7 := fun h0 => φ.s7 (by simpa using h0),
        s8 := fun h0 => φ.s8 (by simpa using h0),
        x9 := fun h0 => φ.x9 (by simpa using h0),
        d0 := fun h0 h1 h2 => φ.d0 (by simpa using h0) (by simpa using h1) (by simpa using h2),
        d3 := fun h0 h1 => φ.d3 (by simpa using h0) (by simpa using h1),
        d4 := fun h0 h1 h2 => φ.d4 (by simpa using h0) (by simpa using h1) (by simpa using h2),
        d7 := fun h0 h1 => φ.d7 (by simpa using h0) (by simpa using h1) }, by simp [hst]⟩
    refine hG ?_
    clear hK φ hG
    revert hk
    go_simp
    first | done | exact fun h => h
  case q6 =>
    rintro L vs w' K ⟨u24, u25, u26, u27, u28, u29, u30, u31, u32, u7, wz, rfl, φ, rfl⟩ hL hpre hcl hK G hG
    simp [Region.binds, closedFrom] at hpre hcl
    have hst : L 10 = false := by
      cases h : L 10 with
      | false => rfl
      | true => simp [h, hL] at hcl
    simp only [hst, Bool.false_eq_true, if_false] at hK hG
    obtain rfl := φ.s5 (by simp [hpre])
    have ce := (φ.b.cell (p := ⟨w.heap.size, 1, none⟩) ltB).trans e1
    have hk := hK [u24, u25, u26, u27, u28, (.pointer (some ⟨w.heap.size, 1, none⟩)), (.slice B m d), u31, u32, u7] wz ⟨_, _, _, _, _, _, _, _, _, _, wz, rfl,
      { b := φ.b,
        s0 := fun h0 h1 => φ.s0 (by simpa using h0) (by simpa using h1),
        s1 := fun h0 => φ.s1 (by simpa using h0),
        s2 := fun h0 => φ.s2 (by simpa using h0),
        s3 := fun h0 => φ.s3 (by simpa using h0),
        s4 := fun h0 h1 => φ.s4 (by simpa using h0) (by simpa using h1),
        s5 := fun h0 => φ.s5 (by simpa using h0),
        s6 := fun _ => rfl,
        s7 := fun h0 => φ.s7 (by simpa using h0),
        s8 := fun h0 => φ.s8 (by simpa using h0),
        x9 := fun h0 => φ.x9 (by simpa using h0),
        d0 := fun h0 h1 h2 => φ.d0 (by simpa using h0) (by simpa using h1) (by simpa using h2),
        d3 := fun h0 h1 => φ.d3 (by simpa using h0) (by simpa using h1),
        d4 := fun h0 h1 h2 => φ.d4 (by simpa using h0) (by simpa using h1) (by simpa using h2),
        d7 := fun h0 h1 => φ.d7 (by simpa using h0) (by simpa using h1) }, by simp [hst]⟩
    refine hG ?_
    clear hK φ hG
    revert hk
    go_simp
    first | done | exact fun h => h
  case q7 =>
    rintro L vs w' K ⟨u24, u25, u26, u27, u28, u29, u30, u31, u32, u7, wz, rfl, φ, rfl⟩ hL hpre hcl hK G hG
    simp [Region.binds, closedFrom] at hpre hcl
    have hst : L 10 = false := by
      cases h : L 10 with
      | false => rfl
      | true => simp [h, hL] at hcl
    simp only [hst, Bool.false_eq_true, if_false] at hK hG
    obtain rfl := φ.s6 (by simp [hpre])
    have o1 := φ.s4 (by simp [hpre]) hL
    have L8 : L 8 = false := by
      cases h : L 8 with
      | false => rfl
      | true => simp [h, hL] at hcl
    refine hG (step_append_sl wz rfl (.tmp 28) (.tmp 30) 23 rfl w1.drew.heap.size 28 i2 _ 2 16 Try.underlying23 ki kz0 kz1 kz2 rfl (by decide) u28 0 [] (by simp [Act.eval, Act.puts, Act.put]) o1 Tld.enc Tld.enc_len Tld.enc_one B m d g.out (by simp [Act.eval, Act.puts, Act.put]) HM.out (hg.out.below φ.b) (by unfold maxLen; omega) (by omega) φ.b.size ?_)
    intro v' w9 ownN hgrow hat
    have b9 := below_append φ.b hgrow φ.b.size o1 (Nat.le_refl _)
    rw [Nat.zero_add, List.nil_append] at ownN
    have hs9 := hgrow.size
    have hk := hK [u24, u25, u26, u27, u28, u29, (.slice B m d), (v'), u32, u7] w9 ⟨_, _, _, _, _, _, _, _, _, _, w9, rfl,
      { b := b9,
        s0 := fun h0 h1 => by
          have o4 := φ.s0 (by simpa using h0) (by simpa using h1)
          exact o4.kept hgrow (own_two o4 o1 (by decide)),
        s1 := fun h0 => φ.s1 (by simpa using h0),
        s2 := fun h0 => φ.s2 (by simpa using h0),
        s3 := fun h0 => by
          have o4 := φ.s3 (by simpa using h0)
          exact o4.kept hgrow (own_two o4 o1 (by decide)),
        s4 := fun _ h => by simp at h,
        s5 := fun h0 => φ.s5 (by simpa using h0),
        s6 := fun h0 => φ.s6 (by simpa using h0),
        s7 := fun _ => ownN,
        s8 := fun h => by simp [L8] at h,
        x9 := fun h => by
          obtain ⟨X, e1, e2, e3, e4, e5, e6, e7⟩ := φ.x9 (by simpa using h)
          have ne := φ.d4 (by simpa using h) (by simp [hpre]) hL X e1
          exact ⟨X, e1, e2, Nat.lt_of_lt_of_le e3 hs9, (hgrow.cell_far _ e3 (Ne.symm ne)).trans e4, (hgrow.cell_far _ e3 (Ne.symm ne)).trans e5, (hgrow.frozen_far _ e3 (Ne.symm ne)).trans e6, (hgrow.frozen_far _ e3 (Ne.symm ne)).trans e7⟩,
        d0 := fun h0 h1 h2 => φ.d0 (by simpa using h0) (by simpa using h1) (by simpa using h2),
        d3 := fun h0 h1 => φ.d3 (by simpa using h0) (by simpa using h1),
        d4 := fun _ _ h => by simp at h,
        d7 := fun h _ X hX => by
          obtain ⟨X', e1, e2, e3, _⟩ := φ.x9 (by simpa using h)
          have ne := φ.d4 (by simpa using h) (by simp [hpre]) hL X hX
          rw [hX] at e1
          obtain rfl : X = X' := by simpa using e1
          rcases hat with e | e <;> rw [e]
          · exact ne
          · simp; omega }, by simp [hst]⟩
    clear hK φ hG
    revert hk
    go_simp
    first | done | exact fun h => h
  case q8 =>
    rintro L vs w' K ⟨u24, u25, u26, u27, u28, u29, u30, u31, u32, u7, wz, rfl, φ, rfl⟩ hL hpre hcl hK G hG
    simp [Region.binds, closedFrom] at hpre hcl
    have hst : L 10 = false := by
      cases h : L 10 with
      | false => rfl
      | true => simp [h, hL] at hcl
    simp only [hst, Bool.false_eq_true, if_false] at hK hG
    obtain ⟨A3, c3, rfl⟩ := own_shape (φ.s3 (by simp [hpre]))
    obtain ⟨B3, d3, rfl⟩ := own_shape (φ.s7 (by simp [hpre]))
    have hk := hK [u24, u25, u26, (.slice A3 n c3), u28, u29, u30, (.slice B3 m d3), (.agg #[.slice A3 n c3, .slice B3 m d3]), u7] wz ⟨_, _, _, _, _, _, _, _, _, _, wz, rfl,
      { b := φ.b,
        s0 := fun h0 h1 => φ.s0 (by simpa using h0) (by simpa using h1),
        s1 := fun h0 => φ.s1 (by simpa using h0),
        s2 := fun h0 => φ.s2 (by simpa using h0),
        s3 := fun h0 => φ.s3 (by simpa using h0),
        s4 := fun h0 h1 => φ.s4 (by simpa using h0) (by simpa using h1),
        s5 := fun h0 => φ.s5 (by simpa using h0),
        s6 := fun h0 => φ.s6 (by simpa using h0),
        s7 := fun h0 => φ.s7 (by simpa using h0),
        s8 := fun _ => rfl,
        x9 := fun h0 => φ.x9 (by simpa using h0),
        d0 := fun h0 h1 h2 => φ.d0 (by simpa using h0) (by simpa using h1) (by simpa using h2),
        d3 := fun h0 h1 => φ.d3 (by simpa using h0) (by simpa using h1),
        d4 := fun h0 h1 h2 => φ.d4 (by simpa using h0) (by simpa using h1) (by simpa using h2),
        d7 := fun h0 h1 => φ.d7 (by simpa using h0) (by simpa using h1) }, by simp [hst]⟩
    refine hG ?_
    clear hK φ hG
    revert hk
    go_simp
    first | done | exact fun h => h
  case q9 =>
    rintro L vs w' K ⟨u24, u25, u26, u27, u28, u29, u30, u31, u32, u7, wz, rfl, φ, rfl⟩ hL hpre hcl hK G hG
    simp [Region.binds, closedFrom] at hpre hcl
    have hst : L 10 = false := by
      cases h : L 10 with
      | false => rfl
      | true => simp [h, hL] at hcl
    simp only [hst, Bool.false_eq_true, if_false] at hK hG
    have hk := hK [u24, u25, u26, u27, u28, u29, u30, u31, u32, (.pointer (some ⟨wz.heap.size, 0, none⟩))] (wz.alloc (.cells #[.slice none 0 0, .slice none 0 0] 25)) ⟨_, _, _, _, _, _, _, _, _, _, (wz.alloc (.cells #[.slice none 0 0, .slice none 0 0] 25)), rfl,
      { b := φ.b.alloc φ.b.size _,
        s0 := fun h0 h1 => (φ.s0 (by simpa using h0) (by simpa using h1)).alloc _,
        s1 := fun h0 => φ.s1 (by simpa using h0),
        s2 := fun h0 => φ.s2 (by simpa using h0),
        s3 := fun h0 => (φ.s3 (by simpa using h0)).alloc _,
        s4 := fun h0 h1 => (φ.s4 (by simpa using h0) (by simpa using h1)).alloc _,
        s5 := fun h0 => φ.s5 (by simpa using h0),
        s6 := fun h0 => φ.s6 (by simpa using h0),
        s7 := fun h0 => (φ.s7 (by simpa using h0)).alloc _,
        s8 := fun h0 => φ.s8 (by simpa using h0),
        x9 := fun _ => ⟨wz.heap.size, rfl, φ.b.size, by simp, by go_simp, by go_simp, by go_simp, by go_simp⟩,
        d0 := fun _ h0 h1 X hX e => by
          obtain rfl : wz.heap.size = X := by simpa using hX
          exact Nat.lt_irrefl _ ((φ.s0 (by simpa using h0) (by simpa using h1)).lt _ e).2,
        d3 := fun _ h0 X hX e => by
          obtain rfl : wz.heap.size = X := by simpa using hX
          exact Nat.lt_irrefl _ ((φ.s3 (by simpa using h0)).lt _ e).2,
        d4 := fun _ h0 h1 X hX e => by
          obtain rfl : wz.heap.size = X := by simpa using hX
          exact Nat.lt_irrefl _ ((φ.s4 (by simpa using h0) (by simpa using h1)).lt _ e).2,
        d7 := fun _ h0 X hX e => by
          obtain rfl : wz.heap.size = X := by simpa using hX
          exact Nat.lt_irrefl _ ((φ.s7 (by simpa using h0)).lt _ e).2 }, by simp [hst]⟩
    refine hG ?_
    clear hK φ hG
    revert hk
    go_simp
    first | done | exact fun h => h
  case q10 =>
    rintro L vs w' K ⟨u24, u25, u26, u27, u28, u29, u30, u31, u32, u7, wz, rfl, φ, rfl⟩ hL hpre hcl hK G hG
    simp [Region.binds, closedFrom] at hpre hcl
    simp only [hL, Bool.false_eq_true, if_false] at hK hG
    obtain ⟨A3, c3, rfl⟩ := own_shape (φ.s3 (by simp [hpre]))
    obtain ⟨B3, d3, rfl⟩ := own_shape (φ.s7 (by simp [hpre]))
    obtain rfl := φ.s8 (by simp [hpre])
    obtain ⟨X, rfl, x2, x3, x4, x5, x6, x7⟩ := φ.x9 (by simp [hpre])
    have hk := hK [u24, u25, u26, (.slice A3 n c3), u28, u29, u30, (.slice B3 m d3), (.agg #[.slice A3 n c3, .slice B3 m d3]), (.pointer (some ⟨X, 0, none⟩))] ((wz.setCell ⟨X, 0, none⟩ (.slice A3 n c3)).setCell ⟨X, 1, none⟩ (.slice B3 m d3)) ⟨_, _, _, _, _, _, _, _, _, _, wz, rfl,
      { b := φ.b,
        s0 := fun h0 h1 => φ.s0 (by simpa using h0) (by simpa using h1),
        s1 := fun h0 => φ.s1 (by simpa using h0),
        s2 := fun h0 => φ.s2 (by simpa using h0),
        s3 := fun h0 => φ.s3 (by simpa using h0),
        s4 := fun h0 h1 => φ.s4 (by simpa using h0) (by simpa using h1),
        s5 := fun h0 => φ.s5 (by simpa using h0),
        s6 := fun h0 => φ.s6 (by simpa using h0),
        s7 := fun h0 => φ.s7 (by simpa using h0),
        s8 := fun h0 => φ.s8 (by simpa using h0),
        x9 := fun h0 => φ.x9 (by simpa using h0),
        d0 := fun h0 h1 h2 => φ.d0 (by simpa using h0) (by simpa using h1) (by simpa using h2),
        d3 := fun h0 h1 => φ.d3 (by simpa using h0) (by simpa using h1),
        d4 := fun h0 h1 h2 => φ.d4 (by simpa using h0) (by simpa using h1) (by simpa using h2),
        d7 := fun h0 h1 => φ.d7 (by simpa using h0) (by simpa using h1) }, by simp [laidAt]⟩
    refine hG ?_
    clear hK φ hG
    revert hk
    go_simp
    first | done | exact fun h => h
  case hend =>
    rintro vs w' ⟨u24, u25, u26, u27, u28, u29, u30, u31, u32, u7, wz, rfl, φ, rfl⟩ G hG
    have o3 := φ.s3 rfl
    have o7 := φ.s7 rfl
    have b9 := φ.b
    obtain ⟨A3, c3, rfl⟩ := own_shape o3
    obtain ⟨B3, d3, rfl⟩ := own_shape o7
    obtain ⟨X7, rfl, x2, x3, x4, x5, x6, x7⟩ := φ.x9 rfl
    have q1 : w.heap.size + 1 < X7 := Nat.lt_of_lt_of_le ltT x2
    have n3' := φ.d3 rfl rfl X7 rfl
    have n7' := φ.d7 rfl rfl X7 rfl
    clear φ
    have hst : decide (10 < 11) = true := rfl
    simp only [List.size_toArray, List.length_cons, List.length_nil, Nat.zero_add, Nat.reduceAdd, hst, if_true, laidAt] at hG
    replace e0 := (b9.cell (p := ⟨w.heap.size, 0, none⟩) (World.block_lt_of_cell? _ _ e0)).trans e0
    replace e1 := (b9.cell (p := ⟨w.heap.size, 1, none⟩) (World.block_lt_of_cell? _ _ e1)).trans e1
    replace t0 := (b9.cell (p := ⟨w.heap.size + 1, 0, none⟩) (World.block_lt_of_cell? _ _ t0)).trans t0
    replace t1 := (b9.cell (p := ⟨w.heap.size + 1, 1, none⟩) (World.block_lt_of_cell? _ _ t1)).trans t1
    replace ltB := Nat.lt_of_lt_of_le ltB b9.size
    replace ltT := Nat.lt_of_lt_of_le ltT b9.size
    replace hg := hg.below b9
    replace b := b.trans (b9.mono b.size)
    have hm' : GateIn ((wz.setCell ⟨X7, 0, none⟩ (.slice A3 n c3)).setCell ⟨X7, 1, none⟩ (.slice B3 m d3)) A3 B3 g.held g.out :=
      ⟨Sl.of_own Hld.enc_len (ownsRow_setCell_other (a := ⟨X7, 1, none⟩) (ownsRow_setCell_other (a := ⟨X7, 0, none⟩) o3 n3' _) n3' _) HN.out,
       Sl.of_own Tld.enc_len (ownsRow_setCell_other (a := ⟨X7, 1, none⟩) (ownsRow_setCell_other (a := ⟨X7, 0, none⟩) o7 n7' _) n7' _) HM.out⟩
    obtain ⟨g0, g1, k0, k1, gs, bs, szs, oth⟩ := gate_set (A' := A3) (B' := B3) (n' := n) (m' := m) (c' := c3) (d' := d3) _ rfl x4 x5 x6 x7
    replace hg := gs _ _ _ _ hg
    replace b := bs _ _ (by omega) b
    replace e0 := (oth _ _ (by omega)).1.trans e0
    replace e1 := (oth _ _ (by omega)).1.trans e1
    replace t0 := (oth _ _ (by omega)).1.trans t0
    replace t1 := (oth _ _ (by omega)).1.trans t1
    replace ltB := Nat.lt_of_lt_of_le ltB (Nat.le_of_eq szs.symm)
    replace ltT := Nat.lt_of_lt_of_le ltT (Nat.le_of_eq szs.symm)
    replace x3 := Nat.lt_of_lt_of_le x3 (Nat.le_of_eq szs.symm)
    clear o3 o7 n3' n7' x4 x5 x6 x7 gs bs szs oth x2 hst b9
    have hmm := hm'
    clear hm'
    refine hG ?_
    clear hG
    generalize (wz.setCell ⟨X7, 0, none⟩ (.slice A3 n c3)).setCell ⟨X7, 1, none⟩ (.slice B3 m d3) = w2 at *
    clear k0 k1
    have mA := g0
    have mB := g1
    clear g0 g1
    go_wp2_with fail
    refine (cT A3 B3 c3 d3 _ hmm).mono ?_
    rintro e w3 ⟨A4, c4, B4, d4, rfl, hx, hb3⟩
    replace e0 := (hb3.cell (p := ⟨w.heap.size, 0, none⟩) (World.block_lt_of_cell? _ _ e0)).trans e0
    replace e1 := (hb3.cell (p := ⟨w.heap.size, 1, none⟩) (World.block_lt_of_cell? _ _ e1)).trans e1
    replace t0 := (hb3.cell (p := ⟨w.heap.size + 1, 0, none⟩) (World.block_lt_of_cell? _ _ t0)).trans t0
    replace t1 := (hb3.cell (p := ⟨w.heap.size + 1, 1, none⟩) (World.block_lt_of_cell? _ _ t1)).trans t1
    replace mA := (hb3.cell (p := ⟨X7, 0, none⟩) (World.block_lt_of_cell? _ _ mA)).trans mA
    replace mB := (hb3.cell (p := ⟨X7, 1, none⟩) (World.block_lt_of_cell? _ _ mB)).trans mB
    replace ltB := Nat.lt_of_lt_of_le ltB hb3.size
    replace ltT := Nat.lt_of_lt_of_le ltT hb3.size
    replace x3 := Nat.lt_of_lt_of_le x3 hb3.size
    replace hg := hg.below hb3
    replace hmm := hmm.below hb3
    replace b := b.trans (hb3.mono b.size)
    clear hb3
    go_wp2_with fail
    have q2 := x3
    replace e0 : (w3.alloc (.cells #[.slice A4 n1 c4, .slice B4 m1 d4] 25)).cell? ⟨w.heap.size, 0, none⟩ = some (.slice A n c) := (World.cell?_alloc_lt w3 _ ⟨w.heap.size, 0, none⟩ (World.block_lt_of_cell? _ _ e0)).trans e0
    replace e1 : (w3.alloc (.cells #[.slice A4 n1 c4, .slice B4 m1 d4] 25)).cell? ⟨w.heap.size, 1, none⟩ = some (.slice B m d) := (World.cell?_alloc_lt w3 _ ⟨w.heap.size, 1, none⟩ (World.block_lt_of_cell? _ _ e1)).trans e1
    replace t0 : (w3.alloc (.cells #[.slice A4 n1 c4, .slice B4 m1 d4] 25)).cell? ⟨w.heap.size + 1, 0, none⟩ = some (.int .i64 t.core) := (World.cell?_alloc_lt w3 _ ⟨w.heap.size + 1, 0, none⟩ (World.block_lt_of_cell? _ _ t0)).trans t0
    replace t1 : (w3.alloc (.cells #[.slice A4 n1 c4, .slice B4 m1 d4] 25)).cell? ⟨w.heap.size + 1, 1, none⟩ = some (.int .u32 t.val) := (World.cell?_alloc_lt w3 _ ⟨w.heap.size + 1, 1, none⟩ (World.block_lt_of_cell? _ _ t1)).trans t1
    replace mA : (w3.alloc (.cells #[.slice A4 n1 c4, .slice B4 m1 d4] 25)).cell? ⟨X7, 0, none⟩ = some (.slice A3 n c3) := (World.cell?_alloc_lt w3 _ ⟨X7, 0, none⟩ (World.block_lt_of_cell? _ _ mA)).trans mA
    replace mB : (w3.alloc (.cells #[.slice A4 n1 c4, .slice B4 m1 d4] 25)).cell? ⟨X7, 1, none⟩ = some (.slice B3 m d3) := (World.cell?_alloc_lt w3 _ ⟨X7, 1, none⟩ (World.block_lt_of_cell? _ _ mB)).trans mB
    have x0 : (w3.alloc (.cells #[.slice A4 n1 c4, .slice B4 m1 d4] 25)).cell? ⟨w3.heap.size, 0, none⟩ = some (.slice A4 n1 c4) := World.cell?_alloc_new (w := w3) _ _ _
    have y0 : (w3.alloc (.cells #[.slice A4 n1 c4, .slice B4 m1 d4] 25)).cell? ⟨w3.heap.size, 1, none⟩ = some (.slice B4 m1 d4) := World.cell?_alloc_new (w := w3) _ _ _
    have fx0 : (w3.alloc (.cells #[.slice A4 n1 c4, .slice B4 m1 d4] 25)).frozen? ⟨w3.heap.size, 0, none⟩ = false := by go_simp
    have fy0 : (w3.alloc (.cells #[.slice A4 n1 c4, .slice B4 m1 d4] 25)).frozen? ⟨w3.heap.size, 1, none⟩ = false := by go_simp
    replace ltB : _ < (w3.alloc (.cells #[.slice A4 n1 c4, .slice B4 m1 d4] 25)).heap.size := Nat.lt_of_lt_of_le ltB (by simp)
    replace ltT : _ < (w3.alloc (.cells #[.slice A4 n1 c4, .slice B4 m1 d4] 25)).heap.size := Nat.lt_of_lt_of_le ltT (by simp)
    replace x3 : _ < (w3.alloc (.cells #[.slice A4 n1 c4, .slice B4 m1 d4] 25)).heap.size := Nat.lt_of_lt_of_le x3 (by simp)
    replace hg := hg.below ((Below.refl w3.heap.size w3).alloc (Nat.le_refl _) (.cells #[.slice A4 n1 c4, .slice B4 m1 d4] 25))
    replace hmm := hmm.below ((Below.refl w3.heap.size w3).alloc (Nat.le_refl _) (.cells #[.slice A4 n1 c4, .slice B4 m1 d4] 25))
    replace hx := hx.below ((Below.refl w3.heap.size w3).alloc (Nat.le_refl _) (.cells #[.slice A4 n1 c4, .slice B4 m1 d4] 25))
    replace b := b.alloc b.size (.cells #[.slice A4 n1 c4, .slice B4 m1 d4] 25)
    have ltX : w3.heap.size < (w3.alloc (.cells #[.slice A4 n1 c4, .slice B4 m1 d4] 25)).heap.size := by simp
    generalize hw_w4 : w3.alloc (.cells #[.slice A4 n1 c4, .slice B4 m1 d4] 25) = w4 at *
    clear hw_w4
    generalize w3.heap.size = X8 at *
    refine (cT2 A B c d _ hg).mono ?_
    rintro e w5 ⟨A5, c5, B5, d5, rfl, hy, hb5⟩
    replace e0 := (hb5.cell (p := ⟨w.heap.size, 0, none⟩) (World.block_lt_of_cell? _ _ e0)).trans e0
    replace e1 := (hb5.cell (p := ⟨w.heap.size, 1, none⟩) (World.block_lt_of_cell? _ _ e1)).trans e1
    replace t0 := (hb5.cell (p := ⟨w.heap.size + 1, 0, none⟩) (World.block_lt_of_cell? _ _ t0)).trans t0
    replace t1 := (hb5.cell (p := ⟨w.heap.size + 1, 1, none⟩) (World.block_lt_of_cell? _ _ t1)).trans t1
    replace mA := (hb5.cell (p := ⟨X7, 0, none⟩) (World.block_lt_of_cell? _ _ mA)).trans mA
    replace mB := (hb5.cell (p := ⟨X7, 1, none⟩) (World.block_lt_of_cell? _ _ mB)).trans mB
    replace x0 := (hb5.cell (p := ⟨X8, 0, none⟩) (World.block_lt_of_cell? _ _ x0)).trans x0
    replace y0 := (hb5.cell (p := ⟨X8, 1, none⟩) (World.block_lt_of_cell? _ _ y0)).trans y0
    replace fx0 := (hb5.frozen (p := ⟨X8, 0, none⟩) ltX).trans fx0
    replace fy0 := (hb5.frozen (p := ⟨X8, 1, none⟩) ltX).trans fy0
    replace ltB := Nat.lt_of_lt_of_le ltB hb5.size
    replace ltT := Nat.lt_of_lt_of_le ltT hb5.size
    replace x3 := Nat.lt_of_lt_of_le x3 hb5.size
    replace ltX := Nat.lt_of_lt_of_le ltX hb5.size
    replace hg := hg.below hb5
    replace hmm := hmm.below hb5
    replace hx := hx.below hb5
    replace b := b.trans (hb5.mono b.size)
    clear hb5
    go_wp2_with fail
    have q3 := ltX
    replace e0 : (w5.alloc (.cells #[.slice A5 n1 c5, .slice B5 m1 d5] 25)).cell? ⟨w.heap.size, 0, none⟩ = some (.slice A n c) := (World.cell?_alloc_lt w5 _ ⟨w.heap.size, 0, none⟩ (World.block_lt_of_cell? _ _ e0)).trans e0
    replace e1 : (w5.alloc (.cells #[.slice A5 n1 c5, .slice B5 m1 d5] 25)).cell? ⟨w.heap.size, 1, none⟩ = some (.slice B m d) := (World.cell?_alloc_lt w5 _ ⟨w.heap.size, 1, none⟩ (World.block_lt_of_cell? _ _ e1)).trans e1
    replace t0 : (w5.alloc (.cells #[.slice A5 n1 c5, .slice B5 m1 d5] 25)).cell? ⟨w.heap.size + 1, 0, none⟩ = some (.int .i64 t.core) := (World.cell?_alloc_lt w5 _ ⟨w.heap.size + 1, 0, none⟩ (World.block_lt_of_cell? _ _ t0)).trans t0
    replace t1 : (w5.alloc (.cells #[.slice A5 n1 c5, .slice B5 m1 d5] 25)).cell? ⟨w.heap.size + 1, 1, none⟩ = some (.int .u32 t.val) := (World.cell?_alloc_lt w5 _ ⟨w.heap.size + 1, 1, none⟩ (World.block_lt_of_cell? _ _ t1)).trans t1
    replace mA : (w5.alloc (.cells #[.slice A5 n1 c5, .slice B5 m1 d5] 25)).cell? ⟨X7, 0, none⟩ = some (.slice A3 n c3) := (World.cell?_alloc_lt w5 _ ⟨X7, 0, none⟩ (World.block_lt_of_cell? _ _ mA)).trans mA
    replace mB : (w5.alloc (.cells #[.slice A5 n1 c5, .slice B5 m1 d5] 25)).cell? ⟨X7, 1, none⟩ = some (.slice B3 m d3) := (World.cell?_alloc_lt w5 _ ⟨X7, 1, none⟩ (World.block_lt_of_cell? _ _ mB)).trans mB
    replace x0 : (w5.alloc (.cells #[.slice A5 n1 c5, .slice B5 m1 d5] 25)).cell? ⟨X8, 0, none⟩ = some (.slice A4 n1 c4) := (World.cell?_alloc_lt w5 _ ⟨X8, 0, none⟩ (World.block_lt_of_cell? _ _ x0)).trans x0
    replace y0 : (w5.alloc (.cells #[.slice A5 n1 c5, .slice B5 m1 d5] 25)).cell? ⟨X8, 1, none⟩ = some (.slice B4 m1 d4) := (World.cell?_alloc_lt w5 _ ⟨X8, 1, none⟩ (World.block_lt_of_cell? _ _ y0)).trans y0
    replace fx0 : (w5.alloc (.cells #[.slice A5 n1 c5, .slice B5 m1 d5] 25)).frozen? ⟨X8, 0, none⟩ = false := (((Below.refl w5.heap.size w5).alloc (Nat.le_refl _) _).frozen (p := ⟨X8, 0, none⟩) ltX).trans fx0
    replace fy0 : (w5.alloc (.cells #[.slice A5 n1 c5, .slice B5 m1 d5] 25)).frozen? ⟨X8, 1, none⟩ = false := (((Below.refl w5.heap.size w5).alloc (Nat.le_refl _) _).frozen (p := ⟨X8, 1, none⟩) ltX).trans fy0
    have x1 : (w5.alloc (.cells #[.slice A5 n1 c5, .slice B5 m1 d5] 25)).cell? ⟨w5.heap.size, 0, none⟩ = some (.slice A5 n1 c5) := World.cell?_alloc_new (w := w5) _ _ _
    have y1 : (w5.alloc (.cells #[.slice A5 n1 c5, .slice B5 m1 d5] 25)).cell? ⟨w5.heap.size, 1, none⟩ = some (.slice B5 m1 d5) := World.cell?_alloc_new (w := w5) _ _ _
    have fx1 : (w5.alloc (.cells #[.slice A5 n1 c5, .slice B5 m1 d5] 25)).frozen? ⟨w5.heap.size, 0, none⟩ = false := by go_simp
    have fy1 : (w5.alloc (.cells #[.slice A5 n1 c5, .slice B5 m1 d5] 25)).frozen? ⟨w5.heap.size, 1, none⟩ = false := by go_simp
    replace ltB : _ < (w5.alloc (.cells #[.slice A5 n1 c5, .slice B5 m1 d5] 25)).heap.size := Nat.lt_of_lt_of_le ltB (by simp)
    replace ltT : _ < (w5.alloc (.cells #[.slice A5 n1 c5, .slice B5 m1 d5] 25)).heap.size := Nat.lt_of_lt_of_le ltT (by simp)
    replace x3 : _ < (w5.alloc (.cells #[.slice A5 n1 c5, .slice B5 m1 d5] 25)).heap.size := Nat.lt_of_lt_of_le x3 (by simp)
    replace ltX : _ < (w5.alloc (.cells #[.slice A5 n1 c5, .slice B5 m1 d5] 25)).heap.size := Nat.lt_of_lt_of_le ltX (by simp)
    replace hg := hg.below ((Below.refl w5.heap.size w5).alloc (Nat.le_refl _) (.cells #[.slice A5 n1 c5, .slice B5 m1 d5] 25))
    replace hmm := hmm.below ((Below.refl w5.heap.size w5).alloc (Nat.le_refl _) (.cells #[.slice A5 n1 c5, .slice B5 m1 d5] 25))
    replace hx := hx.below ((Below.refl w5.heap.size w5).alloc (Nat.le_refl _) (.cells #[.slice A5 n1 c5, .slice B5 m1 d5] 25))
    replace hy := hy.below ((Below.refl w5.heap.size w5).alloc (Nat.le_refl _) (.cells #[.slice A5 n1 c5, .slice B5 m1 d5] 25))
    replace b := b.alloc b.size (.cells #[.slice A5 n1 c5, .slice B5 m1 d5] 25)
    have ltY : w5.heap.size < (w5.alloc (.cells #[.slice A5 n1 c5, .slice B5 m1 d5] 25)).heap.size := by simp
    generalize hw_w6 : w5.alloc (.cells #[.slice A5 n1 c5, .slice B5 m1 d5] 25) = w6 at *
    clear hw_w6
    generalize w5.heap.size = X10 at *
    refine (cEx A4 B4 A5 B5 c4 d4 c5 d5 _ hx hy).mono ?_
    rintro e w7 ⟨rfl, hb7⟩
    replace e0 := (hb7.cell (p := ⟨w.heap.size, 0, none⟩) (World.block_lt_of_cell? _ _ e0)).trans e0
    replace e1 := (hb7.cell (p := ⟨w.heap.size, 1, none⟩) (World.block_lt_of_cell? _ _ e1)).trans e1
    replace t0 := (hb7.cell (p := ⟨w.heap.size + 1, 0, none⟩) (World.block_lt_of_cell? _ _ t0)).trans t0
    replace t1 := (hb7.cell (p := ⟨w.heap.size + 1, 1, none⟩) (World.block_lt_of_cell? _ _ t1)).trans t1
    replace mA := (hb7.cell (p := ⟨X7, 0, none⟩) (World.block_lt_of_cell? _ _ mA)).trans mA
    replace mB := (hb7.cell (p := ⟨X7, 1, none⟩) (World.block_lt_of_cell? _ _ mB)).trans mB
    replace x0 := (hb7.cell (p := ⟨X8, 0, none⟩) (World.block_lt_of_cell? _ _ x0)).trans x0
    replace y0 := (hb7.cell (p := ⟨X8, 1, none⟩) (World.block_lt_of_cell? _ _ y0)).trans y0
    replace x1 := (hb7.cell (p := ⟨X10, 0, none⟩) (World.block_lt_of_cell? _ _ x1)).trans x1
    replace y1 := (hb7.cell (p := ⟨X10, 1, none⟩) (World.block_lt_of_cell? _ _ y1)).trans y1
    replace fx0 := (hb7.frozen (p := ⟨X8, 0, none⟩) ltX).trans fx0
    replace fy0 := (hb7.frozen (p := ⟨X8, 1, none⟩) ltX).trans fy0
    replace fx1 := (hb7.frozen (p := ⟨X10, 0, none⟩) ltY).trans fx1
    replace fy1 := (hb7.frozen (p := ⟨X10, 1, none⟩) ltY).trans fy1
    replace ltB := Nat.lt_of_lt_of_le ltB hb7.size
    replace ltT := Nat.lt_of_lt_of_le ltT hb7.size
    replace x3 := Nat.lt_of_lt_of_le x3 hb7.size
    replace ltX := Nat.lt_of_lt_of_le ltX hb7.size
    replace ltY := Nat.lt_of_lt_of_le ltY hb7.size
    replace hg := hg.below hb7
    replace hmm := hmm.below hb7
    replace hx := hx.below hb7
    replace hy := hy.below hb7
    replace b := b.trans (hb7.mono b.size)
    clear hb7
    clear hx hy
    go_wp2_with fail
    refine (cS A3 B3 c3 d3 _ hmm).mono ?_
    rintro e w8 ⟨A6, c6, B6, d6, rfl, hx, hb8⟩
    replace e0 := (hb8.cell (p := ⟨w.heap.size, 0, none⟩) (World.block_lt_of_cell? _ _ e0)).trans e0
    replace e1 := (hb8.cell (p := ⟨w.heap.size, 1, none⟩) (World.block_lt_of_cell? _ _ e1)).trans e1
    replace t0 := (hb8.cell (p := ⟨w.heap.size + 1, 0, none⟩) (World.block_lt_of_cell? _ _ t0)).trans t0
    replace t1 := (hb8.cell (p := ⟨w.heap.size + 1, 1, none⟩) (World.block_lt_of_cell? _ _ t1)).trans t1
    replace mA := (hb8.cell (p := ⟨X7, 0, none⟩) (World.block_lt_of_cell? _ _ mA)).trans mA
    replace mB := (hb8.cell (p := ⟨X7, 1, none⟩) (World.block_lt_of_cell? _ _ mB)).trans mB
    replace x0 := (hb8.cell (p := ⟨X8, 0, none⟩) (World.block_lt_of_cell? _ _ x0)).trans x0
    replace y0 := (hb8.cell (p := ⟨X8, 1, none⟩) (World.block_lt_of_cell? _ _ y0)).trans y0
    replace x1 := (hb8.cell (p := ⟨X10, 0, none⟩) (World.block_lt_of_cell? _ _ x1)).trans x1
    replace y1 := (hb8.cell (p := ⟨X10, 1, none⟩) (World.block_lt_of_cell? _ _ y1)).trans y1
    replace fx0 := (hb8.frozen (p := ⟨X8, 0, none⟩) ltX).trans fx0
    replace fy0 := (hb8.frozen (p := ⟨X8, 1, none⟩) ltX).trans fy0
    replace fx1 := (hb8.frozen (p := ⟨X10, 0, none⟩) ltY).trans fx1
    replace fy1 := (hb8.frozen (p := ⟨X10, 1, none⟩) ltY).trans fy1
    replace ltB := Nat.lt_of_lt_of_le ltB hb8.size
    replace ltT := Nat.lt_of_lt_of_le ltT hb8.size
    replace x3 := Nat.lt_of_lt_of_le x3 hb8.size
    replace ltX := Nat.lt_of_lt_of_le ltX hb8.size
    replace ltY := Nat.lt_of_lt_of_le ltY hb8.size
    replace hg := hg.below hb8
    replace hmm := hmm.below hb8
    replace b := b.trans (hb8.mono b.size)
    clear hb8
    go_wp2_with fail
    obtain ⟨g0, g1, k0, k1, gs, bs, szs, oth⟩ := gate_set ((w8.setCell ⟨X8, 0, none⟩ (.slice A6 n2 c6)).setCell ⟨X8, 1, none⟩ (.slice B6 m2 d6)) rfl x0 y0 fx0 fy0
    replace b := bs _ _ (by omega) b
    replace hg := gs _ _ _ _ hg
    replace hmm := gs _ _ _ _ hmm
    replace hx := gs _ _ _ _ hx
    replace ltB := Nat.lt_of_lt_of_le ltB (Nat.le_of_eq szs.symm)
    replace ltT := Nat.lt_of_lt_of_le ltT (Nat.le_of_eq szs.symm)
    replace x3 := Nat.lt_of_lt_of_le x3 (Nat.le_of_eq szs.symm)
    replace ltX := Nat.lt_of_lt_of_le ltX (Nat.le_of_eq szs.symm)
    replace ltY := Nat.lt_of_lt_of_le ltY (Nat.le_of_eq szs.symm)
    replace e0 := (oth _ _ (by omega)).1.trans e0
    replace e1 := (oth _ _ (by omega)).1.trans e1
    replace t0 := (oth _ _ (by omega)).1.trans t0
    replace t1 := (oth _ _ (by omega)).1.trans t1
    replace mA := (oth _ _ (by omega)).1.trans mA
    replace mB := (oth _ _ (by omega)).1.trans mB
    replace x1 := (oth _ _ (by omega)).1.trans x1
    replace fx1 := (oth _ _ (by omega)).2.trans fx1
    replace y1 := (oth _ _ (by omega)).1.trans y1
    replace fy1 := (oth _ _ (by omega)).2.trans fy1
    clear x0 y0 fx0 fy0 gs bs szs oth
    have x0 := g0
    have y0 := g1
    have fx0 := k0
    have fy0 := k1
    clear g0 g1 k0 k1
    generalize ((w8.setCell ⟨X8, 0, none⟩ (.slice A6 n2 c6)).setCell ⟨X8, 1, none⟩ (.slice B6 m2 d6)) = w9 at *
    refine (cS2 A B c d _ hg).mono ?_
    rintro e w10 ⟨A7, c7, B7, d7, rfl, hy, hb10⟩
    replace e0 := (hb10.cell (p := ⟨w.heap.size, 0, none⟩) (World.block_lt_of_cell? _ _ e0)).trans e0
    replace e1 := (hb10.cell (p := ⟨w.heap.size, 1, none⟩) (World.block_lt_of_cell? _ _ e1)).trans e1
    replace t0 := (hb10.cell (p := ⟨w.heap.size + 1, 0, none⟩) (World.block_lt_of_cell? _ _ t0)).trans t0
    replace t1 := (hb10.cell (p := ⟨w.heap.size + 1, 1, none⟩) (World.block_lt_of_cell? _ _ t1)).trans t1
    replace mA := (hb10.cell (p := ⟨X7, 0, none⟩) (World.block_lt_of_cell? _ _ mA)).trans mA
    replace mB := (hb10.cell (p := ⟨X7, 1, none⟩) (World.block_lt_of_cell? _ _ mB)).trans mB
    replace x0 := (hb10.cell (p := ⟨X8, 0, none⟩) (World.block_lt_of_cell? _ _ x0)).trans x0
    replace y0 := (hb10.cell (p := ⟨X8, 1, none⟩) (World.block_lt_of_cell? _ _ y0)).trans y0
    replace x1 := (hb10.cell (p := ⟨X10, 0, none⟩) (World.block_lt_of_cell? _ _ x1)).trans x1
    replace y1 := (hb10.cell (p := ⟨X10, 1, none⟩) (World.block_lt_of_cell? _ _ y1)).trans y1
    replace fx0 := (hb10.frozen (p := ⟨X8, 0, none⟩) ltX).trans fx0
    replace fy0 := (hb10.frozen (p := ⟨X8, 1, none⟩) ltX).trans fy0
    replace fx1 := (hb10.frozen (p := ⟨X10, 0, none⟩) ltY).trans fx1
    replace fy1 := (hb10.frozen (p := ⟨X10, 1, none⟩) ltY).trans fy1
    replace ltB := Nat.lt_of_lt_of_le ltB hb10.size
    replace ltT := Nat.lt_of_lt_of_le ltT hb10.size
    replace x3 := Nat.lt_of_lt_of_le x3 hb10.size
    replace ltX := Nat.lt_of_lt_of_le ltX hb10.size
    replace ltY := Nat.lt_of_lt_of_le ltY hb10.size
    replace hg := hg.below hb10
    replace hmm := hmm.below hb10
    replace hx := hx.below hb10
    replace b := b.trans (hb10.mono b.size)
    clear hb10
    go_wp2_with fail
    obtain ⟨g0, g1, k0, k1, gs, bs, szs, oth⟩ := gate_set ((w10.setCell ⟨X10, 0, none⟩ (.slice A7 n2 c7)).setCell ⟨X10, 1, none⟩ (.slice B7 m2 d7)) rfl x1 y1 fx1 fy1
    replace b := bs _ _ (by omega) b
    replace hg := gs _ _ _ _ hg
    replace hmm := gs _ _ _ _ hmm
    replace hx := gs _ _ _ _ hx
    replace hy := gs _ _ _ _ hy
    replace ltB := Nat.lt_of_lt_of_le ltB (Nat.le_of_eq szs.symm)
    replace ltT := Nat.lt_of_lt_of_le ltT (Nat.le_of_eq szs.symm)
    replace x3 := Nat.lt_of_lt_of_le x3 (Nat.le_of_eq szs.symm)
    replace ltX := Nat.lt_of_lt_of_le ltX (Nat.le_of_eq szs.symm)
    replace ltY := Nat.lt_of_lt_of_le ltY (Nat.le_of_eq szs.symm)
    replace e0 := (oth _ _ (by omega)).1.trans e0
    replace e1 := (oth _ _ (by omega)).1.trans e1
    replace t0 := (oth _ _ (by omega)).1.trans t0
    replace t1 := (oth _ _ (by omega)).1.trans t1
    replace mA := (oth _ _ (by omega)).1.trans mA
    replace mB := (oth _ _ (by omega)).1.trans mB
    replace x0 := (oth _ _ (by omega)).1.trans x0
    replace fx0 := (oth _ _ (by omega)).2.trans fx0
    replace y0 := (oth _ _ (by omega)).1.trans y0
    replace fy0 := (oth _ _ (by omega)).2.trans fy0
    clear x1 y1 fx1 fy1 gs bs szs oth
    have x1 := g0
    have y1 := g1
    have fx1 := k0
    have fy1 := k1
    clear g0 g1 k0 k1
    generalize ((w10.setCell ⟨X10, 0, none⟩ (.slice A7 n2 c7)).setCell ⟨X10, 1, none⟩ (.slice B7 m2 d7)) = w11 at *
    refine (cEy A6 B6 A7 B7 c6 d6 c7 d7 _ hx hy).mono ?_
    rintro e w12 ⟨rfl, hb12⟩
    replace e0 := (hb12.cell (p := ⟨w.heap.size, 0, none⟩) (World.block_lt_of_cell? _ _ e0)).trans e0
    replace e1 := (hb12.cell (p := ⟨w.heap.size, 1, none⟩) (World.block_lt_of_cell? _ _ e1)).trans e1
    replace t0 := (hb12.cell (p := ⟨w.heap.size + 1, 0, none⟩) (World.block_lt_of_cell? _ _ t0)).trans t0
    replace t1 := (hb12.cell (p := ⟨w.heap.size + 1, 1, none⟩) (World.block_lt_of_cell? _ _ t1)).trans t1
    replace mA := (hb12.cell (p := ⟨X7, 0, none⟩) (World.block_lt_of_cell? _ _ mA)).trans mA
    replace mB := (hb12.cell (p := ⟨X7, 1, none⟩) (World.block_lt_of_cell? _ _ mB)).trans mB
    replace x0 := (hb12.cell (p := ⟨X8, 0, none⟩) (World.block_lt_of_cell? _ _ x0)).trans x0
    replace y0 := (hb12.cell (p := ⟨X8, 1, none⟩) (World.block_lt_of_cell? _ _ y0)).trans y0
    replace x1 := (hb12.cell (p := ⟨X10, 0, none⟩) (World.block_lt_of_cell? _ _ x1)).trans x1
    replace y1 := (hb12.cell (p := ⟨X10, 1, none⟩) (World.block_lt_of_cell? _ _ y1)).trans y1
    replace fx0 := (hb12.frozen (p := ⟨X8, 0, none⟩) ltX).trans fx0
    replace fy0 := (hb12.frozen (p := ⟨X8, 1, none⟩) ltX).trans fy0
    replace fx1 := (hb12.frozen (p := ⟨X10, 0, none⟩) ltY).trans fx1
    replace fy1 := (hb12.frozen (p := ⟨X10, 1, none⟩) ltY).trans fy1
    replace ltB := Nat.lt_of_lt_of_le ltB hb12.size
    replace ltT := Nat.lt_of_lt_of_le ltT hb12.size
    replace x3 := Nat.lt_of_lt_of_le x3 hb12.size
    replace ltX := Nat.lt_of_lt_of_le ltX hb12.size
    replace ltY := Nat.lt_of_lt_of_le ltY hb12.size
    replace hg := hg.below hb12
    replace hmm := hmm.below hb12
    replace hx := hx.below hb12
    replace hy := hy.below hb12
    replace b := b.trans (hb12.mono b.size)
    clear hb12
    clear hx hy
    go_wp2_with fail
    refine (cB A3 B3 c3 d3 _ hmm).mono ?_
    rintro e w13 ⟨A8, c8, B8, d8, rfl, hx, hb13⟩
    replace e0 := (hb13.cell (p := ⟨w.heap.size, 0, none⟩) (World.block_lt_of_cell? _ _ e0)).trans e0
    replace e1 := (hb13.cell (p := ⟨w.heap.size, 1, none⟩) (World.block_lt_of_cell? _ _ e1)).trans e1
    replace t0 := (hb13.cell (p := ⟨w.heap.size + 1, 0, none⟩) (World.block_lt_of_cell? _ _ t0)).trans t0
    replace t1 := (hb13.cell (p := ⟨w.heap.size + 1, 1, none⟩) (World.block_lt_of_cell? _ _ t1)).trans t1
    replace mA := (hb13.cell (p := ⟨X7, 0, none⟩) (World.block_lt_of_cell? _ _ mA)).trans mA
    replace mB := (hb13.cell (p := ⟨X7, 1, none⟩) (World.block_lt_of_cell? _ _ mB)).trans mB
    replace x0 := (hb13.cell (p := ⟨X8, 0, none⟩) (World.block_lt_of_cell? _ _ x0)).trans x0
    replace y0 := (hb13.cell (p := ⟨X8, 1, none⟩) (World.block_lt_of_cell? _ _ y0)).trans y0
    replace x1 := (hb13.cell (p := ⟨X10, 0, none⟩) (World.block_lt_of_cell? _ _ x1)).trans x1
    replace y1 := (hb13.cell (p := ⟨X10, 1, none⟩) (World.block_lt_of_cell? _ _ y1)).trans y1
    replace fx0 := (hb13.frozen (p := ⟨X8, 0, none⟩) ltX).trans fx0
    replace fy0 := (hb13.frozen (p := ⟨X8, 1, none⟩) ltX).trans fy0
    replace fx1 := (hb13.frozen (p := ⟨X10, 0, none⟩) ltY).trans fx1
    replace fy1 := (hb13.frozen (p := ⟨X10, 1, none⟩) ltY).trans fy1
    replace ltB := Nat.lt_of_lt_of_le ltB hb13.size
    replace ltT := Nat.lt_of_lt_of_le ltT hb13.size
    replace x3 := Nat.lt_of_lt_of_le x3 hb13.size
    replace ltX := Nat.lt_of_lt_of_le ltX hb13.size
    replace ltY := Nat.lt_of_lt_of_le ltY hb13.size
    replace hg := hg.below hb13
    replace hmm := hmm.below hb13
    replace b := b.trans (hb13.mono b.size)
    clear hb13
    go_wp2_with fail
    obtain ⟨g0, g1, k0, k1, gs, bs, szs, oth⟩ := gate_set ((w13.setCell ⟨X8, 0, none⟩ (.slice A8 n3 c8)).setCell ⟨X8, 1, none⟩ (.slice B8 m3 d8)) rfl x0 y0 fx0 fy0
    replace b := bs _ _ (by omega) b
    replace hg := gs _ _ _ _ hg
    replace hmm := gs _ _ _ _ hmm
    replace hx := gs _ _ _ _ hx
    replace ltB := Nat.lt_of_lt_of_le ltB (Nat.le_of_eq szs.symm)
    replace ltT := Nat.lt_of_lt_of_le ltT (Nat.le_of_eq szs.symm)
    replace x3 := Nat.lt_of_lt_of_le x3 (Nat.le_of_eq szs.symm)
    replace ltX := Nat.lt_of_lt_of_le ltX (Nat.le_of_eq szs.symm)
    replace ltY := Nat.lt_of_lt_of_le ltY (Nat.le_of_eq szs.symm)
    replace e0 := (oth _ _ (by omega)).1.trans e0
    replace e1 := (oth _ _ (by omega)).1.trans e1
    replace t0 := (oth _ _ (by omega)).1.trans t0
    replace t1 := (oth _ _ (by omega)).1.trans t1
    replace mA := (oth _ _ (by omega)).1.trans mA
    replace mB := (oth _ _ (by omega)).1.trans mB
    replace x1 := (oth _ _ (by omega)).1.trans x1
    replace fx1 := (oth _ _ (by omega)).2.trans fx1
    replace y1 := (oth _ _ (by omega)).1.trans y1
    replace fy1 := (oth _ _ (by omega)).2.trans fy1
    clear x0 y0 fx0 fy0 gs bs szs oth
    have x0 := g0
    have y0 := g1
    have fx0 := k0
    have fy0 := k1
    clear g0 g1 k0 k1
    generalize ((w13.setCell ⟨X8, 0, none⟩ (.slice A8 n3 c8)).setCell ⟨X8, 1, none⟩ (.slice B8 m3 d8)) = w14 at *
    refine (cB2 A B c d _ hg).mono ?_
    rintro e w15 ⟨A9, c9, B9, d9, rfl, hy, hb15⟩
    replace e0 := (hb15.cell (p := ⟨w.heap.size, 0, none⟩) (World.block_lt_of_cell? _ _ e0)).trans e0
    replace e1 := (hb15.cell (p := ⟨w.heap.size, 1, none⟩) (World.block_lt_of_cell? _ _ e1)).trans e1
    replace t0 := (hb15.cell (p := ⟨w.heap.size + 1, 0, none⟩) (World.block_lt_of_cell? _ _ t0)).trans t0
    replace t1 := (hb15.cell (p := ⟨w.heap.size + 1, 1, none⟩) (World.block_lt_of_cell? _ _ t1)).trans t1
    replace mA := (hb15.cell (p := ⟨X7, 0, none⟩) (World.block_lt_of_cell? _ _ mA)).trans mA
    replace mB := (hb15.cell (p := ⟨X7, 1, none⟩) (World.block_lt_of_cell? _ _ mB)).trans mB
    replace x0 := (hb15.cell (p := ⟨X8, 0, none⟩) (World.block_lt_of_cell? _ _ x0)).trans x0
    replace y0 := (hb15.cell (p := ⟨X8, 1, none⟩) (World.block_lt_of_cell? _ _ y0)).trans y0
    replace x1 := (hb15.cell (p := ⟨X10, 0, none⟩) (World.block_lt_of_cell? _ _ x1)).trans x1
    replace y1 := (hb15.cell (p := ⟨X10, 1, none⟩) (World.block_lt_of_cell? _ _ y1)).trans y1
    replace fx0 := (hb15.frozen (p := ⟨X8, 0, none⟩) ltX).trans fx0
    replace fy0 := (hb15.frozen (p := ⟨X8, 1, none⟩) ltX).trans fy0
    replace fx1 := (hb15.frozen (p := ⟨X10, 0, none⟩) ltY).trans fx1
    replace fy1 := (hb15.frozen (p := ⟨X10, 1, none⟩) ltY).trans fy1
    replace ltB := Nat.lt_of_lt_of_le ltB hb15.size
    replace ltT := Nat.lt_of_lt_of_le ltT hb15.size
    replace x3 := Nat.lt_of_lt_of_le x3 hb15.size
    replace ltX := Nat.lt_of_lt_of_le ltX hb15.size
    replace ltY := Nat.lt_of_lt_of_le ltY hb15.size
    replace hg := hg.below hb15
    replace hmm := hmm.below hb15
    replace hx := hx.below hb15
    replace b := b.trans (hb15.mono b.size)
    clear hb15
    go_wp2_with fail
    obtain ⟨g0, g1, k0, k1, gs, bs, szs, oth⟩ := gate_set ((w15.setCell ⟨X10, 0, none⟩ (.slice A9 n3 c9)).setCell ⟨X10, 1, none⟩ (.slice B9 m3 d9)) rfl x1 y1 fx1 fy1
    replace b := bs _ _ (by omega) b
    replace hg := gs _ _ _ _ hg
    replace hmm := gs _ _ _ _ hmm
    replace hx := gs _ _ _ _ hx
    replace hy := gs _ _ _ _ hy
    replace ltB := Nat.lt_of_lt_of_le ltB (Nat.le_of_eq szs.symm)
    replace ltT := Nat.lt_of_lt_of_le ltT (Nat.le_of_eq szs.symm)
    replace x3 := Nat.lt_of_lt_of_le x3 (Nat.le_of_eq szs.symm)
    replace ltX := Nat.lt_of_lt_of_le ltX (Nat.le_of_eq szs.symm)
    replace ltY := Nat.lt_of_lt_of_le ltY (Nat.le_of_eq szs.symm)
    replace e0 := (oth _ _ (by omega)).1.trans e0
    replace e1 := (oth _ _ (by omega)).1.trans e1
    replace t0 := (oth _ _ (by omega)).1.trans t0
    replace t1 := (oth _ _ (by omega)).1.trans t1
    replace mA := (oth _ _ (by omega)).1.trans mA
    replace mB := (oth _ _ (by omega)).1.trans mB
    replace x0 := (oth _ _ (by omega)).1.trans x0
    replace fx0 := (oth _ _ (by omega)).2.trans fx0
    replace y0 := (oth _ _ (by omega)).1.trans y0
    replace fy0 := (oth _ _ (by omega)).2.trans fy0
    clear x1 y1 fx1 fy1 gs bs szs oth
    have x1 := g0
    have y1 := g1
    have fx1 := k0
    have fy1 := k1
    clear g0 g1 k0 k1
    generalize ((w15.setCell ⟨X10, 0, none⟩ (.slice A9 n3 c9)).setCell ⟨X10, 1, none⟩ (.slice B9 m3 d9)) = w16 at *
    go_wp2_with fail
    have bf : Below w.heap.size w w16.drew := b.drew
    replace e0 : w16.drew.cell? ⟨w.heap.size, 0, none⟩ = some (.slice A n c) := e0
    replace e1 : w16.drew.cell? ⟨w.heap.size, 1, none⟩ = some (.slice B m d) := e1
    replace mA : w16.drew.cell? ⟨X7, 0, none⟩ = some (.slice A3 n c3) := mA
    replace mB : w16.drew.cell? ⟨X7, 1, none⟩ = some (.slice B3 m d3) := mB
    replace x0 : w16.drew.cell? ⟨X8, 0, none⟩ = some (.slice A8 n3 c8) := x0
    replace y0 : w16.drew.cell? ⟨X8, 1, none⟩ = some (.slice B8 m3 d8) := y0
    replace x1 : w16.drew.cell? ⟨X10, 0, none⟩ = some (.slice A9 n3 c9) := x1
    replace y1 : w16.drew.cell? ⟨X10, 1, none⟩ = some (.slice B9 m3 d9) := y1
    replace ltB : _ < w16.drew.heap.size := ltB
    replace ltT : _ < w16.drew.heap.size := ltT
    replace x3 : _ < w16.drew.heap.size := x3
    replace ltX : _ < w16.drew.heap.size := ltX
    replace ltY : _ < w16.drew.heap.size := ltY
    replace hg := hg.below (Below.refl _ _).drew
    replace hmm := hmm.below (Below.refl _ _).drew
    replace hx := hx.below (Below.refl _ _).drew
    replace hy := hy.below (Below.refl _ _).drew
    clear b t0 t1 fx0 fy0 fx1 fy1
    go_region_held3 (fun w' => w'.cell? ⟨w.heap.size, 0, none⟩ = some (.slice A n c) ∧ w'.cell? ⟨w.heap.size, 1, none⟩ = some (.slice B m d) ∧ w'.cell? ⟨X7, 0, none⟩ = some (.slice A3 n c3) ∧ w'.cell? ⟨X7, 1, none⟩ = some (.slice B3 m d3) ∧ w'.cell? ⟨X8, 0, none⟩ = some (.slice A8 n3 c8) ∧ w'.cell? ⟨X8, 1, none⟩ = some (.slice B8 m3 d8) ∧ w'.cell? ⟨X10, 0, none⟩ = some (.slice A9 n3 c9) ∧ w'.cell? ⟨X10, 1, none⟩ = some (.slice B9 m3 d9))
      (exact ⟨e0, e1, mA, mB, x0, y0, x1, y1⟩)
      (first
      | (go_at_call 9; ((with_reducible refine (cEz A8 B8 A9 B9 c8 d8 c9 d9 _ hx hy).mono ?_); rintro e w17 ⟨rfl, hb17⟩; replace e0 := (hb17.cell (p := ⟨w.heap.size, 0, none⟩) (World.block_lt_of_cell? _ _ e0)).trans e0; replace e1 := (hb17.cell (p := ⟨w.heap.size, 1, none⟩) (World.block_lt_of_cell? _ _ e1)).trans e1; replace mA := (hb17.cell (p := ⟨X7, 0, none⟩) (World.block_lt_of_cell? _ _ mA)).trans mA; replace mB := (hb17.cell (p := ⟨X7, 1, none⟩) (World.block_lt_of_cell? _ _ mB)).trans mB; replace x0 := (hb17.cell (p := ⟨X8, 0, none⟩) (World.block_lt_of_cell? _ _ x0)).trans x0; replace y0 := (hb17.cell (p := ⟨X8, 1, none⟩) (World.block_lt_of_cell? _ _ y0)).trans y0; replace x1 := (hb17.cell (p := ⟨X10, 0, none⟩) (World.block_lt_of_cell? _ _ x1)).trans x1; replace y1 := (hb17.cell (p := ⟨X10, 1, none⟩) (World.block_lt_of_cell? _ _ y1)).trans y1; replace ltB := Nat.lt_of_lt_of_le ltB hb17.size; replace ltT := Nat.lt_of_lt_of_le ltT hb17.size; replace x3 := Nat.lt_of_lt_of_le x3 hb17.size; replace ltX := Nat.lt_of_lt_of_le ltX hb17.size; replace ltY := Nat.lt_of_lt_of_le ltY hb17.size; replace hg := hg.below hb17; replace hmm := hmm.below hb17; replace bf := bf.trans (hb17.mono bf.size); clear hb17; clear hx hy))
      | (go_at_call 14; ((with_reducible refine (cR A3 B3 c3 d3 _ hmm).mono ?_); rintro e w18 ⟨rfl, hb18⟩; replace e0 := (hb18.cell (p := ⟨w.heap.size, 0, none⟩) (World.block_lt_of_cell? _ _ e0)).trans e0; replace e1 := (hb18.cell (p := ⟨w.heap.size, 1, none⟩) (World.block_lt_of_cell? _ _ e1)).trans e1; replace mA := (hb18.cell (p := ⟨X7, 0, none⟩) (World.block_lt_of_cell? _ _ mA)).trans mA; replace mB := (hb18.cell (p := ⟨X7, 1, none⟩) (World.block_lt_of_cell? _ _ mB)).trans mB; replace x0 := (hb18.cell (p := ⟨X8, 0, none⟩) (World.block_lt_of_cell? _ _ x0)).trans x0; replace y0 := (hb18.cell (p := ⟨X8, 1, none⟩) (World.block_lt_of_cell? _ _ y0)).trans y0; replace x1 := (hb18.cell (p := ⟨X10, 0, none⟩) (World.block_lt_of_cell? _ _ x1)).trans x1; replace y1 := (hb18.cell (p := ⟨X10, 1, none⟩) (World.block_lt_of_cell? _ _ y1)).trans y1; replace ltB := Nat.lt_of_lt_of_le ltB hb18.size; replace ltT := Nat.lt_of_lt_of_le ltT hb18.size; replace x3 := Nat.lt_of_lt_of_le x3 hb18.size; replace ltX := Nat.lt_of_lt_of_le ltX hb18.size; replace ltY := Nat.lt_of_lt_of_le ltY hb18.size; replace hg := hg.below hb18; replace hmm := hmm.below hb18; replace bf := bf.trans (hb18.mono bf.size); clear hb18))
      | (go_at_call 15; ((with_reducible refine (cR2 A B c d _ hg).mono ?_); rintro e w19 ⟨rfl, hb19⟩; replace e0 := (hb19.cell (p := ⟨w.heap.size, 0, none⟩) (World.block_lt_of_cell? _ _ e0)).trans e0; replace e1 := (hb19.cell (p := ⟨w.heap.size, 1, none⟩) (World.block_lt_of_cell? _ _ e1)).trans e1; replace mA := (hb19.cell (p := ⟨X7, 0, none⟩) (World.block_lt_of_cell? _ _ mA)).trans mA; replace mB := (hb19.cell (p := ⟨X7, 1, none⟩) (World.block_lt_of_cell? _ _ mB)).trans mB; replace x0 := (hb19.cell (p := ⟨X8, 0, none⟩) (World.block_lt_of_cell? _ _ x0)).trans x0; replace y0 := (hb19.cell (p := ⟨X8, 1, none⟩) (World.block_lt_of_cell? _ _ y0)).trans y0; replace x1 := (hb19.cell (p := ⟨X10, 0, none⟩) (World.block_lt_of_cell? _ _ x1)).trans x1; replace y1 := (hb19.cell (p := ⟨X10, 1, none⟩) (World.block_lt_of_cell? _ _ y1)).trans y1; replace ltB := Nat.lt_of_lt_of_le ltB hb19.size; replace ltT := Nat.lt_of_lt_of_le ltT hb19.size; replace x3 := Nat.lt_of_lt_of_le x3 hb19.size; replace ltX := Nat.lt_of_lt_of_le ltX hb19.size; replace ltY := Nat.lt_of_lt_of_le ltY hb19.size; replace hg := hg.below hb19; replace hmm := hmm.below hb19; replace bf := bf.trans (hb19.mono bf.size); clear hb19))
      | (go_at_call 17; ((with_reducible refine (cA A3 B3 c3 d3 _ hmm).mono ?_); rintro e w20 ⟨A10, c10, rfl, ha1, hb20⟩; replace e0 := (hb20.cell (p := ⟨w.heap.size, 0, none⟩) (World.block_lt_of_cell? _ _ e0)).trans e0; replace e1 := (hb20.cell (p := ⟨w.heap.size, 1, none⟩) (World.block_lt_of_cell? _ _ e1)).trans e1; replace mA := (hb20.cell (p := ⟨X7, 0, none⟩) (World.block_lt_of_cell? _ _ mA)).trans mA; replace mB := (hb20.cell (p := ⟨X7, 1, none⟩) (World.block_lt_of_cell? _ _ mB)).trans mB; replace x0 := (hb20.cell (p := ⟨X8, 0, none⟩) (World.block_lt_of_cell? _ _ x0)).trans x0; replace y0 := (hb20.cell (p := ⟨X8, 1, none⟩) (World.block_lt_of_cell? _ _ y0)).trans y0; replace x1 := (hb20.cell (p := ⟨X10, 0, none⟩) (World.block_lt_of_cell? _ _ x1)).trans x1; replace y1 := (hb20.cell (p := ⟨X10, 1, none⟩) (World.block_lt_of_cell? _ _ y1)).trans y1; replace ltB := Nat.lt_of_lt_of_le ltB hb20.size; replace ltT := Nat.lt_of_lt_of_le ltT hb20.size; replace x3 := Nat.lt_of_lt_of_le x3 hb20.size; replace ltX := Nat.lt_of_lt_of_le ltX hb20.size; replace ltY := Nat.lt_of_lt_of_le ltY hb20.size; replace hg := hg.below hb20; replace hmm := hmm.below hb20; replace bf := bf.trans (hb20.mono bf.size); clear hb20))
      | (go_at_call 18; ((with_reducible refine (cA2 A B c d _ hg).mono ?_); rintro e w21 ⟨A11, c11, rfl, ha2, hb21⟩; replace e0 := (hb21.cell (p := ⟨w.heap.size, 0, none⟩) (World.block_lt_of_cell? _ _ e0)).trans e0; replace e1 := (hb21.cell (p := ⟨w.heap.size, 1, none⟩) (World.block_lt_of_cell? _ _ e1)).trans e1; replace mA := (hb21.cell (p := ⟨X7, 0, none⟩) (World.block_lt_of_cell? _ _ mA)).trans mA; replace mB := (hb21.cell (p := ⟨X7, 1, none⟩) (World.block_lt_of_cell? _ _ mB)).trans mB; replace x0 := (hb21.cell (p := ⟨X8, 0, none⟩) (World.block_lt_of_cell? _ _ x0)).trans x0; replace y0 := (hb21.cell (p := ⟨X8, 1, none⟩) (World.block_lt_of_cell? _ _ y0)).trans y0; replace x1 := (hb21.cell (p := ⟨X10, 0, none⟩) (World.block_lt_of_cell? _ _ x1)).trans x1; replace y1 := (hb21.cell (p := ⟨X10, 1, none⟩) (World.block_lt_of_cell? _ _ y1)).trans y1; replace ltB := Nat.lt_of_lt_of_le ltB hb21.size; replace ltT := Nat.lt_of_lt_of_le ltT hb21.size; replace x3 := Nat.lt_of_lt_of_le x3 hb21.size; replace ltX := Nat.lt_of_lt_of_le ltX hb21.size; replace ltY := Nat.lt_of_lt_of_le ltY hb21.size; replace hg := hg.below hb21; replace hmm := hmm.below hb21; replace ha1 := ha1.below hb21; replace bf := bf.trans (hb21.mono bf.size); clear hb21))
      | (go_at_call 16; ((with_reducible refine (cO A10 A11 c10 c11 _ ha1 ha2).mono ?_); rintro e w22 ⟨rfl, hb22⟩; replace e0 := (hb22.cell (p := ⟨w.heap.size, 0, none⟩) (World.block_lt_of_cell? _ _ e0)).trans e0; replace e1 := (hb22.cell (p := ⟨w.heap.size, 1, none⟩) (World.block_lt_of_cell? _ _ e1)).trans e1; replace mA := (hb22.cell (p := ⟨X7, 0, none⟩) (World.block_lt_of_cell? _ _ mA)).trans mA; replace mB := (hb22.cell (p := ⟨X7, 1, none⟩) (World.block_lt_of_cell? _ _ mB)).trans mB; replace x0 := (hb22.cell (p := ⟨X8, 0, none⟩) (World.block_lt_of_cell? _ _ x0)).trans x0; replace y0 := (hb22.cell (p := ⟨X8, 1, none⟩) (World.block_lt_of_cell? _ _ y0)).trans y0; replace x1 := (hb22.cell (p := ⟨X10, 0, none⟩) (World.block_lt_of_cell? _ _ x1)).trans x1; replace y1 := (hb22.cell (p := ⟨X10, 1, none⟩) (World.block_lt_of_cell? _ _ y1)).trans y1; replace ltB := Nat.lt_of_lt_of_le ltB hb22.size; replace ltT := Nat.lt_of_lt_of_le ltT hb22.size; replace x3 := Nat.lt_of_lt_of_le x3 hb22.size; replace ltX := Nat.lt_of_lt_of_le ltX hb22.size; replace ltY := Nat.lt_of_lt_of_le ltY hb22.size; replace hg := hg.below hb22; replace hmm := hmm.below hb22; replace bf := bf.trans (hb22.mono bf.size); clear hb22; clear ha1 ha2))
      | (go_at_call 9; ((with_reducible refine (cEg A3 B3 A B c3 d3 c d _ hmm hg).mono ?_); rintro e w23 ⟨rfl, hb23⟩; replace e0 := (hb23.cell (p := ⟨w.heap.size, 0, none⟩) (World.block_lt_of_cell? _ _ e0)).trans e0; replace e1 := (hb23.cell (p := ⟨w.heap.size, 1, none⟩) (World.block_lt_of_cell? _ _ e1)).trans e1; replace mA := (hb23.cell (p := ⟨X7, 0, none⟩) (World.block_lt_of_cell? _ _ mA)).trans mA; replace mB := (hb23.cell (p := ⟨X7, 1, none⟩) (World.block_lt_of_cell? _ _ mB)).trans mB; replace x0 := (hb23.cell (p := ⟨X8, 0, none⟩) (World.block_lt_of_cell? _ _ x0)).trans x0; replace y0 := (hb23.cell (p := ⟨X8, 1, none⟩) (World.block_lt_of_cell? _ _ y0)).trans y0; replace x1 := (hb23.cell (p := ⟨X10, 0, none⟩) (World.block_lt_of_cell? _ _ x1)).trans x1; replace y1 := (hb23.cell (p := ⟨X10, 1, none⟩) (World.block_lt_of_cell? _ _ y1)).trans y1; replace ltB := Nat.lt_of_lt_of_le ltB hb23.size; replace ltT := Nat.lt_of_lt_of_le ltT hb23.size; replace x3 := Nat.lt_of_lt_of_le x3 hb23.size; replace ltX := Nat.lt_of_lt_of_le ltX hb23.size; replace ltY := Nat.lt_of_lt_of_le ltY hb23.size; replace hg := hg.below hb23; replace hmm := hmm.below hb23; replace bf := bf.trans (hb23.mono bf.size); clear hb23))
      )
    all_goals (
      go_wp2_with fail
      go_ret
      exact ⟨rfl, bf⟩)

theorem right_walk (A : Option Addr) (c : Nat) (B : Option Addr) (d : Nat) (h : List Hld) (l : List Tld) (k : Int) (t : Tld) (w : World) (hs1 : Sl 3 Hld.enc w A h) (hs2 : Sl 2 Tld.enc w B l) :
    Calls Try.prog 3 #[.agg #[.slice A h.length c, .slice B l.length d], .int .i64 k, .agg #[.int .i64 t.core, .int .u32 t.val]] w fun e w' => e = .returned (.bool true) ∧ Below w.heap.size w w' := by
  have hg : GateIn w A B h l := ⟨hs1, hs2⟩
  obtain ⟨n, hn⟩ : ∃ n, h.length = n := ⟨_, rfl⟩
  obtain ⟨m, hm⟩ : ∃ m, l.length = m := ⟨_, rfl⟩
  rw [hn, hm]
  by_cases h80 : n ≤ 80
  · by_cases h100 : m ≤ 100
    · obtain ⟨g, rfl, rfl⟩ : ∃ g : Gt, g.held = h ∧ g.out = l := ⟨⟨h, l⟩, rfl, rfl⟩
      exact right_walk_n A B c d n m g k t w hg hn hm h80 h100 _ _ _ _ _ _ rfl rfl rfl _ rfl
    · have hn1z : ¬ 80 < (n : Int) := by omega
      have hm1z : 100 < (m : Int) := by omega
      have b : Below w.heap.size w ((w.alloc (.cells #[.slice A n c, .slice B m d] 25)).alloc (.cells #[.int .i64 t.core, .int .u32 t.val] 28)) := ((Below.refl _ _).alloc (Nat.le_refl _) _).alloc (by simp) _
      clear hg hs1 hs2 hn hm
      go_enter Try.func3, Try.ntmps3
      go_wp2_with (go_at_call 6; refine (awake_any _).mono ?_; rintro e w1 ⟨rfl, hb1⟩; have e0 : w1.cell? ⟨w.heap.size, 0, none⟩ = some (.slice A n c) := (hb1.cell (p := ⟨w.heap.size, 0, none⟩) (by simp; omega)).trans (by go_simp); have e1 : w1.cell? ⟨w.heap.size, 1, none⟩ = some (.slice B m d) := (hb1.cell (p := ⟨w.heap.size, 1, none⟩) (by simp; omega)).trans (by go_simp))
      go_ret
      exact ⟨rfl, b.trans (hb1.mono b.size)⟩
  · have hn1z : 80 < (n : Int) := by omega
    have b : Below w.heap.size w ((w.alloc (.cells #[.slice A n c, .slice B m d] 25)).alloc (.cells #[.int .i64 t.core, .int .u32 t.val] 28)) := ((Below.refl _ _).alloc (Nat.le_refl _) _).alloc (by simp) _
    clear hg hs1 hs2 hn hm
    go_enter Try.func3, Try.ntmps3
    go_wp2_with (go_at_call 6; refine (awake_any _).mono ?_; rintro e w1 ⟨rfl, hb1⟩; have e0 : w1.cell? ⟨w.heap.size, 0, none⟩ = some (.slice A n c) := (hb1.cell (p := ⟨w.heap.size, 0, none⟩) (by simp; omega)).trans (by go_simp); have e1 : w1.cell? ⟨w.heap.size, 1, none⟩ = some (.slice B m d) := (hb1.cell (p := ⟨w.heap.size, 1, none⟩) (by simp; omega)).trans (by go_simp))
    go_ret
    exact ⟨rfl, b.trans (hb1.mono b.size)⟩
end Go.Proofs.Ytkkbpcnoamagcaa
