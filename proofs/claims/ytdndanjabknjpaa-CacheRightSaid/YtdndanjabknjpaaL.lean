/- Walks of cache: the closures of push; MinFunc. -/
import Derived.Test.YtdndanjabknjpaaK
namespace Go.Proofs.Ytdndanjabknjpaa
open Go.RowKit Go.Lib
set_option linter.unusedVariables false
attribute [local go_sem] Act.puts
theorem eq32 (d : Nat) (w : World) (x0 y0 x1 y1 x2 y2 x3 y3 : Int) :
    (Op.equalIn (d + 2) 32 (.agg #[.int .i64 x0, .int .i64 x1, .int .u32 x2, .int .i64 x3]) (.agg #[.int .i64 y0, .int .i64 y1, .int .u32 y2, .int .i64 y3])).run Try.prog w = .ok (x0 == y0 && (x1 == y1 && (x2 == y2 && (x3 == y3)))) w := by
  refine se_of Try.underlying32 (by kernel_rfl) ?_
  refine se_cons (by rfl) (by go_simp; rfl) (by go_simp; rfl) (by go_simp) ?_
  refine se_cons (by rfl) (by go_simp; rfl) (by go_simp; rfl) (by go_simp) ?_
  refine se_cons (by rfl) (by go_simp; rfl) (by go_simp; rfl) (by go_simp) ?_
  exact se_last (by rfl) (by go_simp; rfl) (by go_simp; rfl) (by go_simp)
attribute [local go_sem high] eq32
theorem ln_beq (x y : Ln) : (x.addr == y.addr && (x.state == y.state && (x.val_ == y.val_ && (x.used == y.used)))) = decide (x = y) := by
  cases x; cases y; rw [Bool.eq_iff_iff]; simp
theorem same_any (x y : Ln) (T : Nat) (w : World) (hT : Bx w T (Ln.enc y)) :
    Calls Try.prog 45 #[.agg #[.int .i64 x.addr, .int .i64 x.state, .int .u32 x.val_, .int .i64 x.used], .pointer (some ⟨T, 0, none⟩)] w fun e w' => e = .returned (.bool (decide (x = y))) ∧ Below w.heap.size w w' := by
  have h2 := hT.alloc (.cells #[.int .i64 x.addr, .int .i64 x.state, .int .u32 x.val_, .int .i64 x.used] 32)
  have c0 := h2.cell 0 _ rfl
  have c1 := h2.cell 1 _ rfl
  have c2 := h2.cell 2 _ rfl
  have c3 := h2.cell 3 _ rfl
  have hne : T ≠ w.heap.size := Nat.ne_of_lt hT.lt
  have hb := ln_beq x y
  go_enter Try.func45, Try.ntmps45
  go_wp2_with fail
  go_ret
  exact ⟨by rw [← hb]; rfl, (Below.refl _ _).alloc (Nat.le_refl _) _⟩
theorem same_pred (y : Ln) (T : Nat) (w : World) (hT : Bx w T (Ln.enc y)) :
    PredBelow Try.prog 45 #[.pointer (some ⟨T, 0, none⟩)] (fun x => .agg (Ln.enc x).toArray) (fun x => decide (x = y)) w := fun W x hb =>
  (same_any x y T W (hT.below hb)).mono fun e w' ⟨he, hb'⟩ => ⟨he, hb.trans (hb'.mono hb.size)⟩
theorem cmp_any (x y : Ln) (w : World) :
    Calls Try.prog 43 #[.agg #[.int .i64 x.addr, .int .i64 x.state, .int .u32 x.val_, .int .i64 x.used], .agg #[.int .i64 y.addr, .int .i64 y.state, .int .u32 y.val_, .int .i64 y.used]] w fun e w' => e = .returned (.int .i64 (Lib.compareInt x.used y.used)) ∧ Below w.heap.size w w' := by
  have b0 : Below w.heap.size w ((w.alloc (.cells #[.int .i64 x.addr, .int .i64 x.state, .int .u32 x.val_, .int .i64 x.used] 32)).alloc (.cells #[.int .i64 y.addr, .int .i64 y.state, .int .u32 y.val_, .int .i64 y.used] 32)) := ((Below.refl _ _).alloc (Nat.le_refl _) _).alloc (by simp) _
  have cC := fun w1 => compare_any x.used y.used w1
  go_enter Try.func43, Try.ntmps43
  go_wp2_with fail
  refine (cC _).mono ?_
  rintro e w1 ⟨rfl, rfl⟩
  go_wp2_with fail
  go_ret
  exact ⟨rfl, b0⟩
end Go.Proofs.Ytdndanjabknjpaa
