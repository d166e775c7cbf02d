/- The plain law of the line that is pushed out. -/
import Derived.Test.YtdndanjabknjpaaL
namespace Go.Proofs.Ytdndanjabknjpaa
open Go.RowKit Go.Lib
set_option linter.unusedVariables false
attribute [local go_sem] Act.puts

theorem ite_wanted {c : Bool} {A B : Prop} (h : c = true) (hA : A) : if c = true then A else B := by rw [if_pos h]; exact hA
theorem ite_unwanted {c : Bool} {A B : Prop} (h : c = false) (hB : B) : if c = true then A else B := by rw [if_neg (by rw [h]; decide)]; exact hB
/-- A call of a Go function, by its contract, as one step of a guarded region. -/
theorem step_callg {P : Program} {ops : Array Oper} {Q : Exit → Act → World → Prop} {o : Oper} {a : Act} {K : Act → World → Prop} {E G : Prop} {w : World} (hG : (if Region.wanted o (yielded ops a.tmps) = true then Oper.wp P o a w K Q else E) → G) (_ : World) (hw : Region.wanted o (yielded ops a.tmps) = true) (f : Nat) (xs : Array Operand) (ts : Array TypeId)
    (ho : o.op = .call { callee := .value (.func f), args := xs, argTypes := ts }) (args : Array Value) (ha : xs.map a.eval = args) (eg : ∀ args w, (callFunc f args).run P w = .ok (.enter f args) w)
    {Post : Ending → World → Prop} (hc : Calls P f args w Post) (h : ∀ e w', Post e w' → ∃ v, e = .returned v ∧ K (a.put o.dst v) w') :
    G := by
  refine hG ?_
  rw [if_pos hw]
  have hr : (execOp a.eval o).run P w = .ok (.enter f args) w := by
    unfold execOp
    simp [ho, resolve, ha, Act.eval, Deferred.ofValue, invoke, eg]
  unfold Oper.wp
  rw [hr]
  refine hc.mono fun e w' hp => ?_
  obtain ⟨v, rfl, hk⟩ := h e w' hp
  exact hk

/-- A call of a function value, by its contract, as one step of a guarded region. -/
theorem step_callv {P : Program} {ops : Array Oper} {Q : Exit → Act → World → Prop} {o : Oper} {a : Act} {K : Act → World → Prop} {E G : Prop} {w : World} (hG : (if Region.wanted o (yielded ops a.tmps) = true then Oper.wp P o a w K Q else E) → G) (_ : World) (hw : Region.wanted o (yielded ops a.tmps) = true) (c : Operand) (f : Nat) (xs : Array Operand) (ts : Array TypeId)
    (ho : o.op = .call { callee := .value c, args := xs, argTypes := ts }) (args : Array Value) (hv : a.eval c = .func (.func f) #[] #[]) (ha : xs.map a.eval = args) (eg : ∀ args w, (callFunc f args).run P w = .ok (.enter f args) w)
    {Post : Ending → World → Prop} (hc : Calls P f args w Post) (h : ∀ e w', Post e w' → ∃ v, e = .returned v ∧ K (a.put o.dst v) w') :
    G := by
  refine hG ?_
  rw [if_pos hw]
  have hr : (execOp a.eval o).run P w = .ok (.enter f args) w := by
    unfold execOp
    simp [ho, resolve, ha, hv, Deferred.ofValue, invoke, eg]
  unfold Oper.wp
  rw [hr]
  refine hc.mono fun e w' hp => ?_
  obtain ⟨v, rfl, hk⟩ := h e w' hp
  exact hk
structure MinR (w0 : World) (MX bb off n c i : Nat) (y m : Ln) (L : Nat → Bool) (u20 u21 u22 u23 u24 u25 u26 u27 : Value) (wz : World) : Prop where
  b : Below w0.heap.size w0 wz
  s0 : L 0 = true → u20 = .func (.func 43) #[] #[]
  s1 : L 1 = true → u21 = .slice (some ⟨bb, off, none⟩) n c
  s2 : L 2 = true → u22 = .int .i64 (i : Int)
  s3 : L 3 = true → u23 = .pointer (some ⟨bb, off + i * 4, none⟩)
  s4 : L 4 = true → u24 = .agg #[.int .i64 y.addr, .int .i64 y.state, .int .u32 y.val_, .int .i64 y.used]
  s5 : L 5 = true → u25 = .agg #[.int .i64 m.addr, .int .i64 m.state, .int .u32 m.val_, .int .i64 m.used]
  s6 : L 6 = true → u26 = .int .i64 (Lib.compareInt y.used m.used)
  s7 : L 7 = true → u27 = .bool (decide (Lib.compareInt y.used m.used < 0))
def MinRPhi (w0 : World) (MX bb off n c i : Nat) (y m : Ln) (L : Nat → Bool) (vs : List Value) (w' : World) : Prop :=
  ∃ u20 u21 u22 u23 u24 u25 u26 u27 wz, vs = [u20, u21, u22, u23, u24, u25, u26, u27] ∧ MinR w0 MX bb off n c i y m L u20 u21 u22 u23 u24 u25 u26 u27 wz ∧ wz = w'

def minStep (m y : Ln) : Ln := if y.used < m.used then y else m
def minD (l : List Ln) : Ln := (l.drop 1).foldl minStep l[0]!
theorem minD_next {l : List Ln} {i : Nat} (hi : i < l.length) (h0 : 0 < i) : ((l.take (i + 1)).drop 1).foldl minStep l[0]! = minStep (((l.take i).drop 1).foldl minStep l[0]!) l[i]! := by
  rw [lineAt l hi, List.drop_append_of_le_length (by rw [List.length_take]; omega), List.foldl_append]; rfl
theorem cmp_neg (a b : Int) : decide (Lib.compareInt a b < 0) = decide (a < b) := by
  unfold Lib.compareInt
  by_cases h : a < b
  · simp [h]
  · rw [if_neg h]
    by_cases h2 : a > b
    · rw [if_pos h2]; simp [h]
    · rw [if_neg h2]; simp [h]
set_option maxHeartbeats 16000000 in
set_option maxRecDepth 100000 in
theorem minFunc_any (A : Option Addr) (c n : Nat) (l : List Ln) (w : World) (hs : Sl 4 Ln.enc w A l) (hn : l.length = n) (h0 : 0 < n) (hn1 : n ≤ 1000000) :
    Calls Try.prog 42 #[.slice A n c, .func (.func 43) #[] #[]] w fun e w' => e = .returned (.agg #[.int .i64 (minD l).addr, .int .i64 (minD l).state, .int .u32 (minD l).val_, .int .i64 (minD l).used]) ∧ Below w.heap.size w w' := by
  have HS := Lib.hid hs
  have HN := Lib.hid hn
  obtain ⟨bb, off, rfl, hq⟩ := hs.at_ 0 (by omega)
  have a0 := hq 0 _ rfl
  have a1 := hq 1 _ rfl
  have a2 := hq 2 _ rfl
  have a3 := hq 3 _ rfl
  simp only [Nat.zero_mul, Nat.add_zero] at a0 a1 a2 a3
  have h0z : (0 : Int) < (n : Int) := by omega
  have h1z : ¬ (n : Int) < 1 := by omega
  have yb : Below w.heap.size w (w.alloc (.cells #[.int .i64 0, .int .i64 0, .int .u32 0, .int .i64 0] 32)) := (Below.refl _ _).alloc (Nat.le_refl _) _
  replace a0 := (yb.cell (World.block_lt_of_cell? _ _ a0)).trans a0
  replace a1 := (yb.cell (World.block_lt_of_cell? _ _ a1)).trans a1
  replace a2 := (yb.cell (World.block_lt_of_cell? _ _ a2)).trans a2
  replace a3 := (yb.cell (World.block_lt_of_cell? _ _ a3)).trans a3
  have Z := (Bx.new w [.int .i64 0, .int .i64 0, .int .u32 0, .int .i64 0] 32).alloc (.cells #[.int .i64 l[0]!.addr, .int .i64 l[0]!.state, .int .u32 l[0]!.val_, .int .i64 l[0]!.used] 32)
  have M0 : Bx ((w.alloc (.cells #[.int .i64 0, .int .i64 0, .int .u32 0, .int .i64 0] 32)).alloc (.cells #[.int .i64 l[0]!.addr, .int .i64 l[0]!.state, .int .u32 l[0]!.val_, .int .i64 l[0]!.used] 32)) ((w.alloc (.cells #[.int .i64 0, .int .i64 0, .int .u32 0, .int .i64 0] 32)).heap.size) (Ln.enc l[0]!) := Bx.new (w.alloc (.cells #[.int .i64 0, .int .i64 0, .int .u32 0, .int .i64 0] 32)) (Ln.enc l[0]!) 32
  rw [show (w.alloc (.cells #[.int .i64 0, .int .i64 0, .int .u32 0, .int .i64 0] 32)).heap.size = w.heap.size + 1 by simp] at M0
  have b0 : Below w.heap.size w ((w.alloc (.cells #[.int .i64 0, .int .i64 0, .int .u32 0, .int .i64 0] 32)).alloc (.cells #[.int .i64 l[0]!.addr, .int .i64 l[0]!.state, .int .u32 l[0]!.val_, .int .i64 l[0]!.used] 32)) := yb.alloc yb.size _
  have hmd : minD l = (l.drop 1).foldl minStep l[0]! := rfl
  have hnx := fun i (h1 : i < l.length) (h2 : 0 < i) => minD_next h1 h2
  rw [hmd]
  clear hs hn hq yb hmd
  generalize l[0]! = z at *
  have HNX := Lib.hid hnx
  clear hnx
  obtain ⟨res, hres⟩ : ∃ r, r = (l.drop 1).foldl minStep z := ⟨_, rfl⟩
  rw [← hres]
  have HRES := Lib.hid hres
  clear hres
  go_enter Try.func42, Try.ntmps42
  go_wp2_with fail
  generalize (w.alloc (.cells #[.int .i64 0, .int .i64 0, .int .u32 0, .int .i64 0] 32)).alloc (.cells #[.int .i64 z.addr, .int .i64 z.state, .int .u32 z.val_, .int .i64 z.used] 32) = W1 at *
  clear a0 a1 a2 a3
  obtain ⟨MX, hMX⟩ : ∃ MX, MX = w.heap.size + 1 := ⟨_, rfl⟩
  have hMX1 : MX ≤ w.heap.size + 1 := by omega
  have hMX2 : w.heap.size + 1 ≤ MX := by omega
  rw [← hMX] at M0 ⊢
  clear hMX
  go_loopg [6] n (fun gg s6 wr => ∃ i : Nat, 1 ≤ i ∧ i ≤ n ∧ n - i ≤ gg ∧ s6 = .int .i64 (i : Int) ∧ Aside (Bx wr MX (Ln.enc (((l.take i).drop 1).foldl minStep z))) ∧ Aside (Bx wr w.heap.size [.int .i64 0, .int .i64 0, .int .u32 0, .int .i64 0]) ∧ Aside (Below w.heap.size w wr))
  case atStart =>
    refine ⟨1, Nat.le_refl _, by omega, by omega, rfl, (show Aside _ from ?_), Z, b0⟩
    have : (l.take 1).drop 1 = [] := List.drop_of_length_le (by rw [List.length_take]; omega)
    rw [this]; exact M0
  case round =>
    clear Z M0 b0
    obtain ⟨i, hi1, hin, hg, rfl, HM, HZ, HB⟩ := hrel
    have B := HB.out
    by_cases hlt : i < n
    · have hltz : (i : Int) < (n : Int) := by omega
      have hil : i < l.length := by rw [HN.out]; exact hlt
      obtain ⟨b', o', e', hq⟩ := (HS.out.below B).at_ i hil
      obtain ⟨rfl, rfl⟩ : bb = b' ∧ off = o' := by injection e' with e'; injection e' with e1 e2; exact ⟨e1, e2⟩
      have y0 : wr.drew.cell? ⟨bb, off + i * 4, none⟩ = some (.int .i64 l[i]!.addr) := hq 0 _ rfl
      have y1 : wr.drew.cell? ⟨bb, off + i * 4 + 1, none⟩ = some (.int .i64 l[i]!.state) := hq 1 _ rfl
      have y2 : wr.drew.cell? ⟨bb, off + i * 4 + 2, none⟩ = some (.int .u32 l[i]!.val_) := hq 2 _ rfl
      have y3 : wr.drew.cell? ⟨bb, off + i * 4 + 3, none⟩ = some (.int .i64 l[i]!.used) := hq 3 _ rfl
      have NX := Lib.hid (HNX.out i hil hi1)
      have MB := HM.out.below (Below.refl _ _).drew
      have ZB := HZ.out.below (Below.refl _ _).drew
      have bbl : bb < w.heap.size := by
        obtain ⟨b'', o'', e'', hq''⟩ := HS.out.at_ i hil
        obtain ⟨rfl, rfl⟩ : bb = b'' ∧ off = o'' := by injection e'' with e''; injection e'' with e1 e2; exact ⟨e1, e2⟩
        exact World.block_lt_of_cell? _ _ (hq'' 0 _ rfl)
      have B1 := B.drew
      clear hq e' hil HM HZ HB B
      generalize ((l.take i).drop 1).foldl minStep z = m at *
      generalize l[i]! = y at *
      have m0 := MB.cell 0 _ rfl
      have m1 := MB.cell 1 _ rfl
      have m2 := MB.cell 2 _ rfl
      have m3 := MB.cell 3 _ rfl
      have hc := cmp_neg y.used m.used
      go_wp2_with fail
      refine wp_region_rg (by kernel_rfl) (by kernel_rfl) [20, 21, 22, 23, 24, 25, 26, 27] (MinRPhi wr.drew MX bb off n c i y m) ?h0 ⟨?q0, ?q1, ?q2, ?q3, ?q4, ?q5, ?q6, ?q7, trivial⟩ ?hend
      case h0 => exact ⟨_, _, _, _, _, _, _, _, _, rfl, ⟨Below.refl _ _, (fun h => by cases h), (fun h => by cases h), (fun h => by cases h), (fun h => by cases h), (fun h => by cases h), (fun h => by cases h), (fun h => by cases h), (fun h => by cases h)⟩, rfl⟩
      case q0 =>
        rintro L vs w' K ⟨u20, u21, u22, u23, u24, u25, u26, u27, wz, rfl, φ, rfl⟩ hL hpre hcl hK G hG
        simp [Region.binds, closedFrom] at hpre hcl
        have hk := hK [(.func (.func 43) #[] #[]), u21, u22, u23, u24, u25, u26, u27] wz ⟨_, _, _, _, _, _, _, _, wz, rfl,
          { b := φ.b,
            s0 := fun _ => rfl,
            s1 := fun h0 => φ.s1 (by simpa using h0),
            s2 := fun h0 => φ.s2 (by simpa using h0),
            s3 := fun h0 => φ.s3 (by simpa using h0),
            s4 := fun h0 => φ.s4 (by simpa using h0),
            s5 := fun h0 => φ.s5 (by simpa using h0),
            s6 := fun h0 => φ.s6 (by simpa using h0),
            s7 := fun h0 => φ.s7 (by simpa using h0) }, rfl⟩
        refine hG ?_
        clear hK φ hG
        revert hk
        go_simp
        first | done | exact fun h => h
      case q1 =>
        rintro L vs w' K ⟨u20, u21, u22, u23, u24, u25, u26, u27, wz, rfl, φ, rfl⟩ hL hpre hcl hK G hG
        simp [Region.binds, closedFrom] at hpre hcl
        have hk := hK [u20, (.slice (some ⟨bb, off, none⟩) n c), u22, u23, u24, u25, u26, u27] wz ⟨_, _, _, _, _, _, _, _, wz, rfl,
          { b := φ.b,
            s0 := fun h0 => φ.s0 (by simpa using h0),
            s1 := fun _ => rfl,
            s2 := fun h0 => φ.s2 (by simpa using h0),
            s3 := fun h0 => φ.s3 (by simpa using h0),
            s4 := fun h0 => φ.s4 (by simpa using h0),
            s5 := fun h0 => φ.s5 (by simpa using h0),
            s6 := fun h0 => φ.s6 (by simpa using h0),
            s7 := fun h0 => φ.s7 (by simpa using h0) }, rfl⟩
        refine hG ?_
        clear hK φ hG
        revert hk
        go_simp
        first | done | exact fun h => h
      case q2 =>
        rintro L vs w' K ⟨u20, u21, u22, u23, u24, u25, u26, u27, wz, rfl, φ, rfl⟩ hL hpre hcl hK G hG
        simp [Region.binds, closedFrom] at hpre hcl
        have hk := hK [u20, u21, (.int .i64 (i : Int)), u23, u24, u25, u26, u27] wz ⟨_, _, _, _, _, _, _, _, wz, rfl,
          { b := φ.b,
            s0 := fun h0 => φ.s0 (by simpa using h0),
            s1 := fun h0 => φ.s1 (by simpa using h0),
            s2 := fun _ => rfl,
            s3 := fun h0 => φ.s3 (by simpa using h0),
            s4 := fun h0 => φ.s4 (by simpa using h0),
            s5 := fun h0 => φ.s5 (by simpa using h0),
            s6 := fun h0 => φ.s6 (by simpa using h0),
            s7 := fun h0 => φ.s7 (by simpa using h0) }, rfl⟩
        refine hG ?_
        clear hK φ hG
        revert hk
        go_simp
        first | done | exact fun h => h
      case q3 =>
        rintro L vs w' K ⟨u20, u21, u22, u23, u24, u25, u26, u27, wz, rfl, φ, rfl⟩ hL hpre hcl hK G hG
        simp [Region.binds, closedFrom] at hpre hcl
        have e1 := φ.s1 (by simp [hpre])
        subst e1
        have e2 := φ.s2 (by simp [hpre])
        subst e2
        have hk := hK [u20, (.slice (some ⟨bb, off, none⟩) n c), (.int .i64 (i : Int)), (.pointer (some ⟨bb, off + i * 4, none⟩)), u24, u25, u26, u27] wz ⟨_, _, _, _, _, _, _, _, wz, rfl,
          { b := φ.b,
            s0 := fun h0 => φ.s0 (by simpa using h0),
            s1 := fun h0 => φ.s1 (by simpa using h0),
            s2 := fun h0 => φ.s2 (by simpa using h0),
            s3 := fun _ => rfl,
            s4 := fun h0 => φ.s4 (by simpa using h0),
            s5 := fun h0 => φ.s5 (by simpa using h0),
            s6 := fun h0 => φ.s6 (by simpa using h0),
            s7 := fun h0 => φ.s7 (by simpa using h0) }, rfl⟩
        refine hG ?_
        clear hK φ hG
        revert hk
        go_simp
        first | done | exact fun h => h
      case q4 =>
        rintro L vs w' K ⟨u20, u21, u22, u23, u24, u25, u26, u27, wz, rfl, φ, rfl⟩ hL hpre hcl hK G hG
        simp [Region.binds, closedFrom] at hpre hcl
        have e3 := φ.s3 (by simp [hpre])
        subst e3
        have ce0 := (φ.b.cell (p := ⟨bb, off + i * 4, none⟩) (World.block_lt_of_cell? _ _ y0)).trans y0
        have ce1 := (φ.b.cell (p := ⟨bb, off + i * 4 + 1, none⟩) (World.block_lt_of_cell? _ _ y1)).trans y1
        have ce2 := (φ.b.cell (p := ⟨bb, off + i * 4 + 2, none⟩) (World.block_lt_of_cell? _ _ y2)).trans y2
        have ce3 := (φ.b.cell (p := ⟨bb, off + i * 4 + 3, none⟩) (World.block_lt_of_cell? _ _ y3)).trans y3
        have hk := hK [u20, u21, u22, (.pointer (some ⟨bb, off + i * 4, none⟩)), (.agg #[.int .i64 y.addr, .int .i64 y.state, .int .u32 y.val_, .int .i64 y.used]), u25, u26, u27] wz ⟨_, _, _, _, _, _, _, _, wz, rfl,
          { b := φ.b,
            s0 := fun h0 => φ.s0 (by simpa using h0),
            s1 := fun h0 => φ.s1 (by simpa using h0),
            s2 := fun h0 => φ.s2 (by simpa using h0),
            s3 := fun h0 => φ.s3 (by simpa using h0),
            s4 := fun _ => rfl,
            s5 := fun h0 => φ.s5 (by simpa using h0),
            s6 := fun h0 => φ.s6 (by simpa using h0),
            s7 := fun h0 => φ.s7 (by simpa using h0) }, rfl⟩
        refine hG ?_
        clear hK φ hG
        revert hk
        go_simp
        first | done | exact fun h => h
      case q5 =>
        rintro L vs w' K ⟨u20, u21, u22, u23, u24, u25, u26, u27, wz, rfl, φ, rfl⟩ hL hpre hcl hK G hG
        simp [Region.binds, closedFrom] at hpre hcl
        have ce0 := (φ.b.cell (p := ⟨MX, 0, none⟩) (World.block_lt_of_cell? _ _ m0)).trans m0
        have ce1 := (φ.b.cell (p := ⟨MX, 1, none⟩) (World.block_lt_of_cell? _ _ m1)).trans m1
        have ce2 := (φ.b.cell (p := ⟨MX, 2, none⟩) (World.block_lt_of_cell? _ _ m2)).trans m2
        have ce3 := (φ.b.cell (p := ⟨MX, 3, none⟩) (World.block_lt_of_cell? _ _ m3)).trans m3
        have hk := hK [u20, u21, u22, u23, u24, (.agg #[.int .i64 m.addr, .int .i64 m.state, .int .u32 m.val_, .int .i64 m.used]), u26, u27] wz ⟨_, _, _, _, _, _, _, _, wz, rfl,
          { b := φ.b,
            s0 := fun h0 => φ.s0 (by simpa using h0),
            s1 := fun h0 => φ.s1 (by simpa using h0),
            s2 := fun h0 => φ.s2 (by simpa using h0),
            s3 := fun h0 => φ.s3 (by simpa using h0),
            s4 := fun h0 => φ.s4 (by simpa using h0),
            s5 := fun _ => rfl,
            s6 := fun h0 => φ.s6 (by simpa using h0),
            s7 := fun h0 => φ.s7 (by simpa using h0) }, rfl⟩
        refine hG ?_
        clear hK φ hG
        revert hk
        go_simp
        first | done | exact fun h => h
      case q6 =>
        rintro L vs w' K ⟨u20, u21, u22, u23, u24, u25, u26, u27, wz, rfl, φ, rfl⟩ hL hpre hcl hK G hG
        simp [Region.binds, closedFrom] at hpre hcl
        have e0 := φ.s0 (by simp [hpre])
        subst e0
        have e4 := φ.s4 (by simp [hpre])
        subst e4
        have e5 := φ.s5 (by simp [hpre])
        subst e5
        refine step_callv hG wz (by rfl) (.tmp 20) 43 #[.tmp 24, .tmp 25] #[32, 32] rfl #[.agg #[.int .i64 y.addr, .int .i64 y.state, .int .u32 y.val_, .int .i64 y.used], .agg #[.int .i64 m.addr, .int .i64 m.state, .int .u32 m.val_, .int .i64 m.used]] (by simp [Act.eval, Act.puts, Act.put]) (by simp [Act.eval, Act.puts, Act.put]) (enters_of Try.func43 (by kernel_rfl) rfl) (cmp_any y m wz) ?_
        rintro e w9 ⟨rfl, hb9⟩
        refine ⟨_, rfl, ?_⟩
        have hk := hK [(.func (.func 43) #[] #[]), u21, u22, u23, (.agg #[.int .i64 y.addr, .int .i64 y.state, .int .u32 y.val_, .int .i64 y.used]), (.agg #[.int .i64 m.addr, .int .i64 m.state, .int .u32 m.val_, .int .i64 m.used]), (.int .i64 (Lib.compareInt y.used m.used)), u27] w9 ⟨_, _, _, _, _, _, _, _, w9, rfl,
          { b := φ.b.trans (hb9.mono φ.b.size),
            s0 := fun h0 => φ.s0 (by simpa using h0),
            s1 := fun h0 => φ.s1 (by simpa using h0),
            s2 := fun h0 => φ.s2 (by simpa using h0),
            s3 := fun h0 => φ.s3 (by simpa using h0),
            s4 := fun h0 => φ.s4 (by simpa using h0),
            s5 := fun h0 => φ.s5 (by simpa using h0),
            s6 := fun _ => rfl,
            s7 := fun h0 => φ.s7 (by simpa using h0) }, rfl⟩
        clear hK φ hG
        revert hk
        go_simp
        first | done | exact fun h => h
      case q7 =>
        rintro L vs w' K ⟨u20, u21, u22, u23, u24, u25, u26, u27, wz, rfl, φ, rfl⟩ hL hpre hcl hK G hG
        simp [Region.binds, closedFrom] at hpre hcl
        have e6 := φ.s6 (by simp [hpre])
        subst e6
        have hk := hK [u20, u21, u22, u23, u24, u25, (.int .i64 (Lib.compareInt y.used m.used)), (.bool (decide (Lib.compareInt y.used m.used < 0)))] wz ⟨_, _, _, _, _, _, _, _, wz, rfl,
          { b := φ.b,
            s0 := fun h0 => φ.s0 (by simpa using h0),
            s1 := fun h0 => φ.s1 (by simpa using h0),
            s2 := fun h0 => φ.s2 (by simpa using h0),
            s3 := fun h0 => φ.s3 (by simpa using h0),
            s4 := fun h0 => φ.s4 (by simpa using h0),
            s5 := fun h0 => φ.s5 (by simpa using h0),
            s6 := fun h0 => φ.s6 (by simpa using h0),
            s7 := fun _ => rfl }, rfl⟩
        refine hG ?_
        clear hK φ hG
        revert hk
        go_simp
        first | done | exact fun h => h
      case hend =>
        rintro vs w' ⟨u20, u21, u22, u23, u24, u25, u26, u27, wz, rfl, φ, rfl⟩ G hG
        obtain rfl := φ.s7 rfl
        have b9 := φ.b
        clear φ
        refine hG ?_
        clear hG
        go_simp
        have B2 := B1.trans (b9.mono B1.size)
        replace MB := MB.below b9
        replace ZB := ZB.below b9
        replace y0 := (b9.cell (World.block_lt_of_cell? _ _ y0)).trans y0
        replace y1 := (b9.cell (World.block_lt_of_cell? _ _ y1)).trans y1
        replace y2 := (b9.cell (World.block_lt_of_cell? _ _ y2)).trans y2
        replace y3 := (b9.cell (World.block_lt_of_cell? _ _ y3)).trans y3
        clear b9 B1 m0 m1 m2 m3
        by_cases hyu : y.used < m.used
        · have zz : decide (y.used < m.used) = true := decide_eq_true hyu
          have hst : minStep m y = y := by unfold minStep; rw [if_pos hyu]
          rw [hst] at NX
          rw [zz]
          have m0 := MB.cell 0 _ rfl
          have m1 := MB.cell 1 _ rfl
          have m2 := MB.cell 2 _ rfl
          have m3 := MB.cell 3 _ rfl
          have f0 := MB.froz 0
          have f1 := MB.froz 1
          have f2 := MB.froz 2
          have f3 := MB.froz 3
          have MF := Lib.hid ((((MB.set 0 (.int .i64 y.addr) (by simp [Ln.enc])).set 1 (.int .i64 y.state) (by simp [Ln.enc])).set 2 (.int .u32 y.val_) (by simp [Ln.enc])).set 3 (.int .i64 y.used) (by simp [Ln.enc]))
          have ZF := Lib.hid ((((ZB.far (Y := MX) (by omega) 0 (.int .i64 y.addr)).far (Y := MX) (by omega) 1 (.int .i64 y.state)).far (Y := MX) (by omega) 2 (.int .u32 y.val_)).far (Y := MX) (by omega) 3 (.int .i64 y.used))
          have BF := Lib.hid ((((B2.setCell (p := ⟨MX, 0, none⟩) (by show w.heap.size ≤ MX; omega) (.int .i64 y.addr)).setCell (p := ⟨MX, 1, none⟩) (by show w.heap.size ≤ MX; omega) (.int .i64 y.state)).setCell (p := ⟨MX, 2, none⟩) (by show w.heap.size ≤ MX; omega) (.int .u32 y.val_)).setCell (p := ⟨MX, 3, none⟩) (by show w.heap.size ≤ MX; omega) (.int .i64 y.used))
          clear hyu zz hst hc MB ZB B2
          go_wp2_with fail
          go_roundg (n - (i + 1))
          case measure => omega
          case rel => exact ⟨i + 1, by omega, by omega, by omega, by go_num, (show Aside _ from by rw [NX.out]; exact MF.out), (show Aside _ from ZF.out), (show Aside _ from BF.out)⟩
        · have zz : decide (y.used < m.used) = false := decide_eq_false hyu
          have hst : minStep m y = m := by unfold minStep; rw [if_neg hyu]
          rw [hst] at NX
          rw [zz]
          clear hyu zz hst hc
          go_wp2_with fail
          go_roundg (n - (i + 1))
          case measure => omega
          case rel => exact ⟨i + 1, by omega, by omega, by omega, by go_num, (show Aside _ from by rw [NX.out]; exact MB), (show Aside _ from ZB), (show Aside _ from B2)⟩
    · obtain rfl : i = n := by omega
      have hltz : ¬ (i : Int) < (i : Int) := by omega
      have hall : l.take i = l := List.take_of_length_le (by rw [HN.out]; exact Nat.le_refl _)
      rw [hall, ← HRES.out] at HM
      have MB := HM.out
      have ZB := HZ.out
      clear HM HZ hall
      have m0 := MB.cell 0 _ rfl
      have m1 := MB.cell 1 _ rfl
      have m2 := MB.cell 2 _ rfl
      have m3 := MB.cell 3 _ rfl
      have z0 := ZB.cell 0 _ rfl
      have z1 := ZB.cell 1 _ rfl
      have z2 := ZB.cell 2 _ rfl
      have z3 := ZB.cell 3 _ rfl
      have f0 := ZB.froz 0
      have f1 := ZB.froz 1
      have f2 := ZB.froz 2
      have f3 := ZB.froz 3
      have BF := Lib.hid ((((B.setCell (p := ⟨w.heap.size, 0, none⟩) (Nat.le_refl _) (.int .i64 res.addr)).setCell (p := ⟨w.heap.size, 1, none⟩) (Nat.le_refl _) (.int .i64 res.state)).setCell (p := ⟨w.heap.size, 2, none⟩) (Nat.le_refl _) (.int .u32 res.val_)).setCell (p := ⟨w.heap.size, 3, none⟩) (Nat.le_refl _) (.int .i64 res.used))
      go_wp2_with fail
      exact bodyPost_ret (v := .agg #[.int .i64 res.addr, .int .i64 res.state, .int .u32 res.val_, .int .i64 res.used]) (by simp [results, Try.results42, go_sem, z0, z1, z2, z3]) rfl ⟨rfl, BF.out⟩
end Go.Proofs.Ytdndanjabknjpaa
namespace Go.Proofs.Ytdndanjabknjpaa
open Go.RowKit Go.Lib
set_option linter.unusedVariables false

theorem fold_min (l : List Ln) : ∀ m, (l.foldl minStep m) = m ∨ l.foldl minStep m ∈ l := by
  induction l with
  | nil => intro m; exact .inl rfl
  | cons y l ih =>
    intro m
    rw [List.foldl_cons]
    rcases ih (minStep m y) with h | h
    · rw [h]
      unfold minStep
      split
      · exact .inr List.mem_cons_self
      · exact .inl rfl
    · exact .inr (List.mem_cons_of_mem _ h)
theorem fold_le (l : List Ln) : ∀ m, (l.foldl minStep m).used ≤ m.used ∧ ∀ y ∈ l, (l.foldl minStep m).used ≤ y.used := by
  induction l with
  | nil => intro m; exact ⟨Int.le_refl _, fun y hy => by cases hy⟩
  | cons y l ih =>
    intro m
    rw [List.foldl_cons]
    obtain ⟨h1, h2⟩ := ih (minStep m y)
    have h3 : (minStep m y).used ≤ m.used ∧ (minStep m y).used ≤ y.used := by
      unfold minStep
      split <;> omega
    refine ⟨by omega, fun z hz => ?_⟩
    rcases List.mem_cons.1 hz with rfl | hz
    · omega
    · exact h2 z hz
/-- The least is of the list, and none is less. -/
theorem minD_mem {l : List Ln} (h : 0 < l.length) : minD l ∈ l := by
  cases l with
  | nil => simp at h
  | cons a l =>
    have e : minD (a :: l) = l.foldl minStep a := rfl
    rw [e]
    rcases fold_min l a with h | h
    · rw [h]; exact List.mem_cons_self
    · exact List.mem_cons_of_mem _ h
theorem minD_le {l : List Ln} {y : Ln} (hy : y ∈ l) : (minD l).used ≤ y.used := by
  cases l with
  | nil => cases hy
  | cons a l =>
    have e : minD (a :: l) = l.foldl minStep a := rfl
    rw [e]
    obtain ⟨h1, h2⟩ := fold_le l a
    rcases List.mem_cons.1 hy with rfl | hy
    · exact h1
    · exact h2 y hy
end Go.Proofs.Ytdndanjabknjpaa
