/- Walks of the queue's methods: Len, Less, Swap. -/
import Derived.Test.YtimhdkgllgdamaaA
import Derived.Test.YtimhdkgllgdamaaLibD
import Derived.Test.YtimhdkgllgdamaaRg
namespace Go.Proofs.Ytimhdkgllgdamaa
open Go.RowKit Go.Lib

set_option linter.unusedVariables false
attribute [local go_sem] Act.puts
namespace D

theorem ite_wanted {c : Bool} {A B : Prop} (h : c = true) (hA : A) : if c = true then A else B := by rw [if_pos h]; exact hA
theorem ite_unwanted {c : Bool} {A B : Prop} (h : c = false) (hB : B) : if c = true then A else B := by rw [if_neg (by rw [h]; decide)]; exact hB
/-- A call of a Go function, by its contract, as one step of a guarded region. -/
theorem step_callg {P : Program} {ops : Array Oper} {Q : Exit → Act → World → Prop} (w : World) {o : Oper} {a : Act} {K : Act → World → Prop} {E : Prop} (hw : Region.wanted o (yielded ops a.tmps) = true) (f : Nat) (xs : Array Operand) (ts : Array TypeId)
    (ho : o.op = .call { callee := .value (.func f), args := xs, argTypes := ts }) (args : Array Value) (ha : xs.map a.eval = args) (eg : ∀ args w, (callFunc f args).run P w = .ok (.enter f args) w)
    {Post : Ending → World → Prop} (hc : Calls P f args w Post) (h : ∀ e w', Post e w' → ∃ v, e = .returned v ∧ K (a.put o.dst v) w') :
    if Region.wanted o (yielded ops a.tmps) = true then Oper.wp P o a w K Q else E := by
  rw [if_pos hw]
  have hr : (execOp a.eval o).run P w = .ok (.enter f args) w := by
    unfold execOp
    simp [ho, resolve, ha, Act.eval, Deferred.ofValue, invoke, eg]
  unfold Oper.wp
  rw [hr]
  refine hc.mono fun e w' hp => ?_
  obtain ⟨v, rfl, hk⟩ := h e w' hp
  exact hk
structure LessR (w0 : World) (bb off n c i j : Nat) (x y : Du) (L : Nat → Bool) (u7 u8 u9 u10 u11 u12 u13 u14 u15 u6 : Value) (wz : World) : Prop where
  b : Below w0.heap.size w0 wz
  s0 : L 0 = true → u7 = .slice (some ⟨bb, off, none⟩) n c
  s1 : L 1 = true → u8 = .int .i64 (i : Int)
  s2 : L 2 = true → u9 = .pointer (some ⟨bb, off + i * 2, none⟩)
  s3 : L 3 = true → u10 = .agg #[.int .i64 x.when_, .int .i64 x.which]
  s4 : L 4 = true → u11 = .slice (some ⟨bb, off, none⟩) n c
  s5 : L 5 = true → u12 = .int .i64 (j : Int)
  s6 : L 6 = true → u13 = .pointer (some ⟨bb, off + j * 2, none⟩)
  s7 : L 7 = true → u14 = .agg #[.int .i64 y.when_, .int .i64 y.which]
  s8 : L 8 = true → u15 = .bool (lessD x y)
  s9 : L 9 = true → u6 = .bool (lessD x y)
def LessRPhi (w0 : World) (bb off n c i j : Nat) (x y : Du) (L : Nat → Bool) (vs : List Value) (w' : World) : Prop :=
  ∃ u7 u8 u9 u10 u11 u12 u13 u14 u15 u6 wz, vs = [u7, u8, u9, u10, u11, u12, u13, u14, u15, u6] ∧ LessR w0 bb off n c i j x y L u7 u8 u9 u10 u11 u12 u13 u14 u15 u6 wz ∧ wz = w'

theorem len_any (A : Option Addr) (n c : Nat) (w : World) : Calls Try.prog 26 #[.slice A n c] w fun e w' => e = .returned (.int .i64 (n : Int)) ∧ w = w' := by
  go_enter Try.func26, Try.ntmps26
  go_wp2_with fail
  go_ret
  exact ⟨by simp, rfl⟩
set_option maxHeartbeats 4000000 in
set_option maxRecDepth 100000 in
theorem qless_any (A : Option Addr) (n c i j : Nat) (l : List Du) (w : World) (hs : Sl 2 Du.enc w A l) (hn : l.length = n) (hi : i < n) (hj : j < n) (hn1 : n ≤ 1000000) :
    Calls Try.prog 55 #[.slice A n c, .int .i64 (i : Int), .int .i64 (j : Int)] w fun e w' => e = .returned (.bool (lessD l[i]! l[j]!)) ∧ Below w.heap.size w w' := by
  obtain ⟨bb, off, rfl, hp⟩ := hs.at_ i (by omega)
  obtain ⟨bb', off', e, hq⟩ := hs.at_ j (by omega)
  obtain ⟨rfl, rfl⟩ : bb = bb' ∧ off = off' := by simpa using e
  have p0 : w.drew.cell? ⟨bb, off + i * 2, none⟩ = some (.int .i64 l[i]!.when_) := hp 0 _ rfl
  have p1 : w.drew.cell? ⟨bb, off + i * 2 + 1, none⟩ = some (.int .i64 l[i]!.which) := hp 1 _ rfl
  have q0 : w.drew.cell? ⟨bb, off + j * 2, none⟩ = some (.int .i64 l[j]!.when_) := hq 0 _ rfl
  have q1 : w.drew.cell? ⟨bb, off + j * 2 + 1, none⟩ = some (.int .i64 l[j]!.which) := hq 1 _ rfl
  have hiz : (i : Int) < (n : Int) := by omega
  have hjz : (j : Int) < (n : Int) := by omega
  generalize l[i]! = x at *
  generalize l[j]! = y at *
  clear hp hq e hs hn
  go_enter Try.func55, Try.ntmps55
  go_wp2_with fail
  refine wp_region_rg (by kernel_rfl) (by kernel_rfl) [7, 8, 9, 10, 11, 12, 13, 14, 15, 6] (LessRPhi w.drew bb off n c i j x y) ?h0 ⟨?q0, ?q1, ?q2, ?q3, ?q4, ?q5, ?q6, ?q7, ?q8, ?q9, trivial⟩ ?hend
  case h0 => exact ⟨_, _, _, _, _, _, _, _, _, _, _, rfl, ⟨Below.refl _ _, (fun h => by cases h), (fun h => by cases h), (fun h => by cases h), (fun h => by cases h), (fun h => by cases h), (fun h => by cases h), (fun h => by cases h), (fun h => by cases h), (fun h => by cases h), (fun h => by cases h)⟩, rfl⟩
  case q0 =>
    rintro L vs w' K ⟨u7, u8, u9, u10, u11, u12, u13, u14, u15, u6, wz, rfl, φ, rfl⟩ hL hpre hcl hK G hG
    simp [Region.binds, closedFrom] at hpre hcl
    have hk := hK [(.slice (some ⟨bb, off, none⟩) n c), u8, u9, u10, u11, u12, u13, u14, u15, u6] wz ⟨_, _, _, _, _, _, _, _, _, _, wz, rfl,
      { b := φ.b,
        s0 := fun _ => rfl,
        s1 := fun h0 => φ.s1 (by simpa using h0),
        s2 := fun h0 => φ.s2 (by simpa using h0),
        s3 := fun h0 => φ.s3 (by simpa using h0),
        s4 := fun h0 => φ.s4 (by simpa using h0),
        s5 := fun h0 => φ.s5 (by simpa using h0),
        s6 := fun h0 => φ.s6 (by simpa using h0),
        s7 := fun h0 => φ.s7 (by simpa using h0),
        s8 := fun h0 => φ.s8 (by simpa using h0),
        s9 := fun h0 => φ.s9 (by simpa using h0) }, rfl⟩
    refine hG ?_
    clear hK φ hG
    revert hk
    go_simp
    first | done | exact fun h => h
  case q1 =>
    rintro L vs w' K ⟨u7, u8, u9, u10, u11, u12, u13, u14, u15, u6, wz, rfl, φ, rfl⟩ hL hpre hcl hK G hG
    simp [Region.binds, closedFrom] at hpre hcl
    have hk := hK [u7, (.int .i64 (i : Int)), u9, u10, u11, u12, u13, u14, u15, u6] wz ⟨_, _, _, _, _, _, _, _, _, _, wz, rfl,
      { b := φ.b,
        s0 := fun h0 => φ.s0 (by simpa using h0),
        s1 := fun _ => rfl,
        s2 := fun h0 => φ.s2 (by simpa using h0),
        s3 := fun h0 => φ.s3 (by simpa using h0),
        s4 := fun h0 => φ.s4 (by simpa using h0),
        s5 := fun h0 => φ.s5 (by simpa using h0),
        s6 := fun h0 => φ.s6 (by simpa using h0),
        s7 := fun h0 => φ.s7 (by simpa using h0),
        s8 := fun h0 => φ.s8 (by simpa using h0),
        s9 := fun h0 => φ.s9 (by simpa using h0) }, rfl⟩
    refine hG ?_
    clear hK φ hG
    revert hk
    go_simp
    first | done | exact fun h => h
  case q2 =>
    rintro L vs w' K ⟨u7, u8, u9, u10, u11, u12, u13, u14, u15, u6, wz, rfl, φ, rfl⟩ hL hpre hcl hK G hG
    simp [Region.binds, closedFrom] at hpre hcl
    obtain rfl := φ.s0 (by simp [hpre])
    obtain rfl := φ.s1 (by simp [hpre])
    have hk := hK [(.slice (some ⟨bb, off, none⟩) n c), (.int .i64 (i : Int)), (.pointer (some ⟨bb, off + i * 2, none⟩)), u10, u11, u12, u13, u14, u15, u6] wz ⟨_, _, _, _, _, _, _, _, _, _, wz, rfl,
      { b := φ.b,
        s0 := fun h0 => φ.s0 (by simpa using h0),
        s1 := fun h0 => φ.s1 (by simpa using h0),
        s2 := fun _ => rfl,
        s3 := fun h0 => φ.s3 (by simpa using h0),
        s4 := fun h0 => φ.s4 (by simpa using h0),
        s5 := fun h0 => φ.s5 (by simpa using h0),
        s6 := fun h0 => φ.s6 (by simpa using h0),
        s7 := fun h0 => φ.s7 (by simpa using h0),
        s8 := fun h0 => φ.s8 (by simpa using h0),
        s9 := fun h0 => φ.s9 (by simpa using h0) }, rfl⟩
    refine hG ?_
    clear hK φ hG
    revert hk
    go_simp
    first | done | exact fun h => h
  case q3 =>
    rintro L vs w' K ⟨u7, u8, u9, u10, u11, u12, u13, u14, u15, u6, wz, rfl, φ, rfl⟩ hL hpre hcl hK G hG
    simp [Region.binds, closedFrom] at hpre hcl
    obtain rfl := φ.s2 (by simp [hpre])
    have ce0 := (φ.b.cell (p := ⟨bb, off + i * 2, none⟩) (World.block_lt_of_cell? _ _ p0)).trans p0
    have ce1 := (φ.b.cell (p := ⟨bb, off + i * 2 + 1, none⟩) (World.block_lt_of_cell? _ _ p1)).trans p1
    have hk := hK [u7, u8, (.pointer (some ⟨bb, off + i * 2, none⟩)), (.agg #[.int .i64 x.when_, .int .i64 x.which]), u11, u12, u13, u14, u15, u6] wz ⟨_, _, _, _, _, _, _, _, _, _, wz, rfl,
      { b := φ.b,
        s0 := fun h0 => φ.s0 (by simpa using h0),
        s1 := fun h0 => φ.s1 (by simpa using h0),
        s2 := fun h0 => φ.s2 (by simpa using h0),
        s3 := fun _ => rfl,
        s4 := fun h0 => φ.s4 (by simpa using h0),
        s5 := fun h0 => φ.s5 (by simpa using h0),
        s6 := fun h0 => φ.s6 (by simpa using h0),
        s7 := fun h0 => φ.s7 (by simpa using h0),
        s8 := fun h0 => φ.s8 (by simpa using h0),
        s9 := fun h0 => φ.s9 (by simpa using h0) }, rfl⟩
    refine hG ?_
    clear hK φ hG
    revert hk
    go_simp
    first | done | exact fun h => h
  case q4 =>
    rintro L vs w' K ⟨u7, u8, u9, u10, u11, u12, u13, u14, u15, u6, wz, rfl, φ, rfl⟩ hL hpre hcl hK G hG
    simp [Region.binds, closedFrom] at hpre hcl
    have hk := hK [u7, u8, u9, u10, (.slice (some ⟨bb, off, none⟩) n c), u12, u13, u14, u15, u6] wz ⟨_, _, _, _, _, _, _, _, _, _, wz, rfl,
      { b := φ.b,
        s0 := fun h0 => φ.s0 (by simpa using h0),
        s1 := fun h0 => φ.s1 (by simpa using h0),
        s2 := fun h0 => φ.s2 (by simpa using h0),
        s3 := fun h0 => φ.s3 (by simpa using h0),
        s4 := fun _ => rfl,
        s5 := fun h0 => φ.s5 (by simpa using h0),
        s6 := fun h0 => φ.s6 (by simpa using h0),
        s7 := fun h0 => φ.s7 (by simpa using h0),
        s8 := fun h0 => φ.s8 (by simpa using h0),
        s9 := fun h0 => φ.s9 (by simpa using h0) }, rfl⟩
    refine hG ?_
    clear hK φ hG
    revert hk
    go_simp
    first | done | exact fun h => h
  case q5 =>
    rintro L vs w' K ⟨u7, u8, u9, u10, u11, u12, u13, u14, u15, u6, wz, rfl, φ, rfl⟩ hL hpre hcl hK G hG
    simp [Region.binds, closedFrom] at hpre hcl
    have hk := hK [u7, u8, u9, u10, u11, (.int .i64 (j : Int)), u13, u14, u15, u6] wz ⟨_, _, _, _, _, _, _, _, _, _, wz, rfl,
      { b := φ.b,
        s0 := fun h0 => φ.s0 (by simpa using h0),
        s1 := fun h0 => φ.s1 (by simpa using h0),
        s2 := fun h0 => φ.s2 (by simpa using h0),
        s3 := fun h0 => φ.s3 (by simpa using h0),
        s4 := fun h0 => φ.s4 (by simpa using h0),
        s5 := fun _ => rfl,
        s6 := fun h0 => φ.s6 (by simpa using h0),
        s7 := fun h0 => φ.s7 (by simpa using h0),
        s8 := fun h0 => φ.s8 (by simpa using h0),
        s9 := fun h0 => φ.s9 (by simpa using h0) }, rfl⟩
    refine hG ?_
    clear hK φ hG
    revert hk
    go_simp
    first | done | exact fun h => h
  case q6 =>
    rintro L vs w' K ⟨u7, u8, u9, u10, u11, u12, u13, u14, u15, u6, wz, rfl, φ, rfl⟩ hL hpre hcl hK G hG
    simp [Region.binds, closedFrom] at hpre hcl
    obtain rfl := φ.s4 (by simp [hpre])
    obtain rfl := φ.s5 (by simp [hpre])
    have hk := hK [u7, u8, u9, u10, (.slice (some ⟨bb, off, none⟩) n c), (.int .i64 (j : Int)), (.pointer (some ⟨bb, off + j * 2, none⟩)), u14, u15, u6] wz ⟨_, _, _, _, _, _, _, _, _, _, wz, rfl,
      { b := φ.b,
        s0 := fun h0 => φ.s0 (by simpa using h0),
        s1 := fun h0 => φ.s1 (by simpa using h0),
        s2 := fun h0 => φ.s2 (by simpa using h0),
        s3 := fun h0 => φ.s3 (by simpa using h0),
        s4 := fun h0 => φ.s4 (by simpa using h0),
        s5 := fun h0 => φ.s5 (by simpa using h0),
        s6 := fun _ => rfl,
        s7 := fun h0 => φ.s7 (by simpa using h0),
        s8 := fun h0 => φ.s8 (by simpa using h0),
        s9 := fun h0 => φ.s9 (by simpa using h0) }, rfl⟩
    refine hG ?_
    clear hK φ hG
    revert hk
    go_simp
    first | done | exact fun h => h
  case q7 =>
    rintro L vs w' K ⟨u7, u8, u9, u10, u11, u12, u13, u14, u15, u6, wz, rfl, φ, rfl⟩ hL hpre hcl hK G hG
    simp [Region.binds, closedFrom] at hpre hcl
    obtain rfl := φ.s6 (by simp [hpre])
    have ce0 := (φ.b.cell (p := ⟨bb, off + j * 2, none⟩) (World.block_lt_of_cell? _ _ q0)).trans q0
    have ce1 := (φ.b.cell (p := ⟨bb, off + j * 2 + 1, none⟩) (World.block_lt_of_cell? _ _ q1)).trans q1
    have hk := hK [u7, u8, u9, u10, u11, u12, (.pointer (some ⟨bb, off + j * 2, none⟩)), (.agg #[.int .i64 y.when_, .int .i64 y.which]), u15, u6] wz ⟨_, _, _, _, _, _, _, _, _, _, wz, rfl,
      { b := φ.b,
        s0 := fun h0 => φ.s0 (by simpa using h0),
        s1 := fun h0 => φ.s1 (by simpa using h0),
        s2 := fun h0 => φ.s2 (by simpa using h0),
        s3 := fun h0 => φ.s3 (by simpa using h0),
        s4 := fun h0 => φ.s4 (by simpa using h0),
        s5 := fun h0 => φ.s5 (by simpa using h0),
        s6 := fun h0 => φ.s6 (by simpa using h0),
        s7 := fun _ => rfl,
        s8 := fun h0 => φ.s8 (by simpa using h0),
        s9 := fun h0 => φ.s9 (by simpa using h0) }, rfl⟩
    refine hG ?_
    clear hK φ hG
    revert hk
    go_simp
    first | done | exact fun h => h
  case q8 =>
    rintro L vs w' K ⟨u7, u8, u9, u10, u11, u12, u13, u14, u15, u6, wz, rfl, φ, rfl⟩ hL hpre hcl hK G hG
    simp [Region.binds, closedFrom] at hpre hcl
    obtain rfl := φ.s3 (by simp [hpre])
    obtain rfl := φ.s7 (by simp [hpre])
    refine hG (step_callg wz (rfl) 28 #[.tmp 10, .tmp 14] #[30, 30] rfl #[.agg #[.int .i64 x.when_, .int .i64 x.which], .agg #[.int .i64 y.when_, .int .i64 y.which]] (by simp [Act.eval, Act.puts, Act.put]) (enters_of Try.func28 (by kernel_rfl) rfl) (less_any x y wz) ?_)
    rintro e w9 ⟨rfl, hb9⟩
    refine ⟨_, rfl, ?_⟩
    have hk := hK [u7, u8, u9, (.agg #[.int .i64 x.when_, .int .i64 x.which]), u11, u12, u13, (.agg #[.int .i64 y.when_, .int .i64 y.which]), (.bool (lessD x y)), u6] w9 ⟨_, _, _, _, _, _, _, _, _, _, w9, rfl,
      { b := φ.b.trans (hb9.mono φ.b.size),
        s0 := fun h0 => φ.s0 (by simpa using h0),
        s1 := fun h0 => φ.s1 (by simpa using h0),
        s2 := fun h0 => φ.s2 (by simpa using h0),
        s3 := fun h0 => φ.s3 (by simpa using h0),
        s4 := fun h0 => φ.s4 (by simpa using h0),
        s5 := fun h0 => φ.s5 (by simpa using h0),
        s6 := fun h0 => φ.s6 (by simpa using h0),
        s7 := fun h0 => φ.s7 (by simpa using h0),
        s8 := fun _ => rfl,
        s9 := fun h0 => φ.s9 (by simpa using h0) }, rfl⟩
    clear hK φ hG
    revert hk
    go_simp
    first | done | exact fun h => h
  case q9 =>
    rintro L vs w' K ⟨u7, u8, u9, u10, u11, u12, u13, u14, u15, u6, wz, rfl, φ, rfl⟩ hL hpre hcl hK G hG
    simp [Region.binds, closedFrom] at hpre hcl
    obtain rfl := φ.s8 (by simp [hpre])
    have hk := hK [u7, u8, u9, u10, u11, u12, u13, u14, (.bool (lessD x y)), (.bool (lessD x y))] wz ⟨_, _, _, _, _, _, _, _, _, _, wz, rfl,
      { b := φ.b,
        s0 := fun h0 => φ.s0 (by simpa using h0),
        s1 := fun h0 => φ.s1 (by simpa using h0),
        s2 := fun h0 => φ.s2 (by simpa using h0),
        s3 := fun h0 => φ.s3 (by simpa using h0),
        s4 := fun h0 => φ.s4 (by simpa using h0),
        s5 := fun h0 => φ.s5 (by simpa using h0),
        s6 := fun h0 => φ.s6 (by simpa using h0),
        s7 := fun h0 => φ.s7 (by simpa using h0),
        s8 := fun h0 => φ.s8 (by simpa using h0),
        s9 := fun _ => rfl }, rfl⟩
    refine hG ?_
    clear hK φ hG
    revert hk
    go_simp
    first | done | exact fun h => h
  case hend =>
    rintro vs w' ⟨u7, u8, u9, u10, u11, u12, u13, u14, u15, u6, wz, rfl, φ, rfl⟩ G hG
    obtain rfl := φ.s9 rfl
    have b9 := φ.b
    clear φ
    refine hG ?_
    clear hG
    go_simp
    go_wp2_with fail
    go_ret
    exact ⟨by simp, (Below.refl _ _).drew.trans b9⟩

theorem own_swap {w : World} {base b n c i j : Nat} {l : List Du} (own : w.ownsRow base 30 2 (.slice (some ⟨b, 0, none⟩) n c) n (l.flatMap Du.enc)) (hn : l.length = n) (hi : i < n) (hj : j < n) (x y : Du) (hx : l[i]! = x) (hy : l[j]! = y) :
    ((((w.setCell ⟨b, i * 2, none⟩ (.int .i64 y.when_)).setCell ⟨b, i * 2 + 1, none⟩ (.int .i64 y.which)).setCell ⟨b, j * 2, none⟩ (.int .i64 x.when_)).setCell ⟨b, j * 2 + 1, none⟩ (.int .i64 x.which)).ownsRow base 30 2 (.slice (some ⟨b, 0, none⟩) n c) n (((l.set i y).set j x).flatMap Du.enc) := by
  have h1 := own_set own (i * 2 + 0) (.int .i64 y.when_)
  rw [flat_set Du.enc_len l i 0 ⟨y.when_, l[i]!.which⟩ (.int .i64 y.when_) (by omega) (by decide) rfl] at h1
  have h2 := own_set h1 (i * 2 + 1) (.int .i64 y.which)
  rw [flat_set Du.enc_len _ i 1 y (.int .i64 y.which) (by simp; omega) (by decide) (by rw [getElem!_pos _ i (by simp; omega)]; simp; rfl)] at h2
  rw [List.set_set] at h2
  have h3 := own_set h2 (j * 2 + 0) (.int .i64 x.when_)
  rw [flat_set Du.enc_len _ j 0 ⟨x.when_, (l.set i y)[j]!.which⟩ (.int .i64 x.when_) (by simp; omega) (by decide) rfl] at h3
  have h4 := own_set h3 (j * 2 + 1) (.int .i64 x.which)
  rw [flat_set Du.enc_len _ j 1 x (.int .i64 x.which) (by simp; omega) (by decide) (by rw [getElem!_pos _ j (by simp; omega)]; simp; rfl)] at h4
  rw [List.set_set] at h4
  exact h4

set_option maxHeartbeats 4000000 in
theorem swap_ne (base b n c i j : Nat) (l : List Du) (w : World) (own : w.ownsRow base 30 2 (.slice (some ⟨b, 0, none⟩) n c) n (l.flatMap Du.enc)) (hn : l.length = n) (hi : i < n) (hj : j < n) (hn1 : n ≤ 1000000) (hne : i ≠ j) :
    Calls Try.prog 56 #[.slice (some ⟨b, 0, none⟩) n c, .int .i64 (i : Int), .int .i64 (j : Int)] w fun e w' => e = .returned (.tuple #[]) ∧ w'.ownsRow base 30 2 (.slice (some ⟨b, 0, none⟩) n c) n (((l.set i l[j]!).set j l[i]!).flatMap Du.enc) ∧ w.grownBy w' (some b) := by
  have ownD : w.drew.ownsRow base 30 2 (.slice (some ⟨b, 0, none⟩) n c) n (l.flatMap Du.enc) := own
  have res := own_swap ownD hn hi hj l[i]! l[j]! rfl rfl
  have G0 : w.grownBy w.drew (some b) := ⟨rfl, rfl, rfl, Nat.le_refl _, fun _ _ _ => rfl⟩
  have p0 : w.cell? ⟨b, i * 2, none⟩ = some (.int .i64 l[i]!.when_) := own_cell own (i * 2) _ (by have := flat_at Du.enc_len l i 0 _ (by omega) rfl; simpa using this)
  have p1 : w.cell? ⟨b, i * 2 + 1, none⟩ = some (.int .i64 l[i]!.which) := own_cell own (i * 2 + 1) _ (flat_at Du.enc_len l i 1 _ (by omega) rfl)
  have q0 : w.cell? ⟨b, j * 2, none⟩ = some (.int .i64 l[j]!.when_) := own_cell own (j * 2) _ (by have := flat_at Du.enc_len l j 0 _ (by omega) rfl; simpa using this)
  have q1 : w.cell? ⟨b, j * 2 + 1, none⟩ = some (.int .i64 l[j]!.which) := own_cell own (j * 2 + 1) _ (flat_at Du.enc_len l j 1 _ (by omega) rfl)
  have hf := own_frozen own
  have f0 := hf (i * 2)
  have f1 := hf (i * 2 + 1)
  have f2 := hf (j * 2)
  have f3 := hf (j * 2 + 1)
  have hiz : (i : Int) < (n : Int) := by omega
  have hjz : (j : Int) < (n : Int) := by omega
  generalize l[i]! = x at *
  generalize l[j]! = y at *
  have n1 : i * 2 ≠ j * 2 := by omega
  have n2 : i * 2 ≠ j * 2 + 1 := by omega
  have n3 : i * 2 + 1 ≠ j * 2 := by omega
  have n4 : i * 2 + 1 ≠ j * 2 + 1 := by omega
  clear hne
  have R := Lib.hid res
  have G := Lib.hid (grown_set (j := j * 2 + 1) (grown_set (j := j * 2) (grown_set (j := i * 2 + 1) (grown_set (j := i * 2) G0 (.int .i64 y.when_)) (.int .i64 y.which)) (.int .i64 x.when_)) (.int .i64 x.which))
  clear own ownD res hf G0 hn hi hj
  go_enter Try.func56, Try.ntmps56
  go_wp2_with fail
  go_region
  all_goals (
    go_wp2_with fail
    go_end0
    exact ⟨rfl, R.out, G.out⟩)

set_option maxHeartbeats 4000000 in
theorem swap_eq (base b n c i : Nat) (l : List Du) (w : World) (own : w.ownsRow base 30 2 (.slice (some ⟨b, 0, none⟩) n c) n (l.flatMap Du.enc)) (hn : l.length = n) (hi : i < n) (hn1 : n ≤ 1000000)  :
    Calls Try.prog 56 #[.slice (some ⟨b, 0, none⟩) n c, .int .i64 (i : Int), .int .i64 (i : Int)] w fun e w' => e = .returned (.tuple #[]) ∧ w'.ownsRow base 30 2 (.slice (some ⟨b, 0, none⟩) n c) n (((l.set i l[i]!).set i l[i]!).flatMap Du.enc) ∧ w.grownBy w' (some b) := by
  have ownD : w.drew.ownsRow base 30 2 (.slice (some ⟨b, 0, none⟩) n c) n (l.flatMap Du.enc) := own
  have res := own_swap ownD hn hi hi l[i]! l[i]! rfl rfl
  have G0 : w.grownBy w.drew (some b) := ⟨rfl, rfl, rfl, Nat.le_refl _, fun _ _ _ => rfl⟩
  have p0 : w.cell? ⟨b, i * 2, none⟩ = some (.int .i64 l[i]!.when_) := own_cell own (i * 2) _ (by have := flat_at Du.enc_len l i 0 _ (by omega) rfl; simpa using this)
  have p1 : w.cell? ⟨b, i * 2 + 1, none⟩ = some (.int .i64 l[i]!.which) := own_cell own (i * 2 + 1) _ (flat_at Du.enc_len l i 1 _ (by omega) rfl)
  have hf := own_frozen own
  have f0 := hf (i * 2)
  have f1 := hf (i * 2 + 1)
  have hiz : (i : Int) < (n : Int) := by omega
  generalize l[i]! = x at *
  have R := Lib.hid res
  have G := Lib.hid (grown_set (j := i * 2 + 1) (grown_set (j := i * 2) (grown_set (j := i * 2 + 1) (grown_set (j := i * 2) G0 (.int .i64 x.when_)) (.int .i64 x.which)) (.int .i64 x.when_)) (.int .i64 x.which))
  clear own ownD res hf G0 hn hi
  go_enter Try.func56, Try.ntmps56
  go_wp2_with fail
  go_region
  all_goals (
    go_wp2_with fail
    go_end0
    exact ⟨rfl, R.out, G.out⟩)

theorem swap_any (base b n c i j : Nat) (l : List Du) (w : World) (own : w.ownsRow base 30 2 (.slice (some ⟨b, 0, none⟩) n c) n (l.flatMap Du.enc)) (hn : l.length = n) (hi : i < n) (hj : j < n) (hn1 : n ≤ 1000000) :
    Calls Try.prog 56 #[.slice (some ⟨b, 0, none⟩) n c, .int .i64 (i : Int), .int .i64 (j : Int)] w fun e w' => e = .returned (.tuple #[]) ∧ w'.ownsRow base 30 2 (.slice (some ⟨b, 0, none⟩) n c) n (((l.set i l[j]!).set j l[i]!).flatMap Du.enc) ∧ w.grownBy w' (some b) := by
  by_cases h : i = j
  · subst h
    exact swap_eq base b n c i l w own hn hi hn1
  · exact swap_ne base b n c i j l w own hn hi hj hn1 h
end D
end Go.Proofs.Ytimhdkgllgdamaa
