/- The walk of LinkWindow. -/
import Derived.Test.YtjnpdicoopgkoaaS
namespace Go.Proofs.Ytjnpdicoopgkoaa
open Go.RowKit Go.Lib
set_option linter.unusedVariables false


set_option maxHeartbeats 8000000 in
theorem win_early (A B : Option Addr) (c d n m : Nat) (g : Gtr) (p : Pce) (w : World) (hg : GtrIn w A B g) (hn : g.early.length = n) (hm : g.came.length = m) (hp9 : p.num ≤ 9223372036854775807) (h : 20 < n) :
    Calls Try.prog 4 #[.agg #[.int .i64 g.next, .slice A n c, .slice B m d], .agg #[.int .i64 p.num, .int .u32 p.val]] w fun e w' => e = .returned (.bool true) ∧ Below w.heap.size w w' := by
  have b : Below w.heap.size w ((w.alloc (.cells #[.int .i64 g.next, .slice A n c, .slice B m d] 29)).alloc (.cells #[.int .i64 p.num, .int .u32 p.val] 34)) := ((Below.refl _ _).alloc (Nat.le_refl _) _).alloc (by simp) _
  have e0 : ((w.alloc (.cells #[.int .i64 g.next, .slice A n c, .slice B m d] 29)).alloc (.cells #[.int .i64 p.num, .int .u32 p.val] 34)).cell? ⟨w.heap.size, 0, none⟩ = some (.int .i64 g.next) := by go_simp
  have e1 : ((w.alloc (.cells #[.int .i64 g.next, .slice A n c, .slice B m d] 29)).alloc (.cells #[.int .i64 p.num, .int .u32 p.val] 34)).cell? ⟨w.heap.size, 1, none⟩ = some (.slice A n c) := by go_simp
  have e2 : ((w.alloc (.cells #[.int .i64 g.next, .slice A n c, .slice B m d] 29)).alloc (.cells #[.int .i64 p.num, .int .u32 p.val] 34)).cell? ⟨w.heap.size, 2, none⟩ = some (.slice B m d) := by go_simp
  have p0 : ((w.alloc (.cells #[.int .i64 g.next, .slice A n c, .slice B m d] 29)).alloc (.cells #[.int .i64 p.num, .int .u32 p.val] 34)).cell? ⟨w.heap.size + 1, 0, none⟩ = some (.int .i64 p.num) := by go_simp
  have p1 : ((w.alloc (.cells #[.int .i64 g.next, .slice A n c, .slice B m d] 29)).alloc (.cells #[.int .i64 p.num, .int .u32 p.val] 34)).cell? ⟨w.heap.size + 1, 1, none⟩ = some (.int .u32 p.val) := by go_simp
  have lt0 : w.heap.size < ((w.alloc (.cells #[.int .i64 g.next, .slice A n c, .slice B m d] 29)).alloc (.cells #[.int .i64 p.num, .int .u32 p.val] 34)).heap.size := by simp <;> omega
  have lt1 : w.heap.size + 1 < ((w.alloc (.cells #[.int .i64 g.next, .slice A n c, .slice B m d] 29)).alloc (.cells #[.int .i64 p.num, .int .u32 p.val] 34)).heap.size := by simp <;> omega
  replace hg := hg.below b
  have cR := fun w1 (hg : GtrIn w1 A B g) => gRight_any A B c d n m g w1 hg.early hn
  have z : (20 : Int) < n := by omega
  have HN := Lib.hid hn
  have HM := Lib.hid hm
  clear hn hm
  go_enter Try.func4, Try.ntmps4
  go_wp2_with fail
  generalize ((w.alloc (.cells #[.int .i64 g.next, .slice A n c, .slice B m d] 29)).alloc (.cells #[.int .i64 p.num, .int .u32 p.val] 34)) = W0 at *
  refine (awake_any _).mono ?_
  rintro e w1 ⟨rfl, hb1⟩
  replace e0 := (hb1.cell (p := ⟨w.heap.size, 0, none⟩) (World.block_lt_of_cell? _ _ e0)).trans e0
  replace e1 := (hb1.cell (p := ⟨w.heap.size, 1, none⟩) (World.block_lt_of_cell? _ _ e1)).trans e1
  replace e2 := (hb1.cell (p := ⟨w.heap.size, 2, none⟩) (World.block_lt_of_cell? _ _ e2)).trans e2
  replace p0 := (hb1.cell (p := ⟨w.heap.size + 1, 0, none⟩) (World.block_lt_of_cell? _ _ p0)).trans p0
  replace p1 := (hb1.cell (p := ⟨w.heap.size + 1, 1, none⟩) (World.block_lt_of_cell? _ _ p1)).trans p1
  replace lt0 := Nat.lt_of_lt_of_le lt0 hb1.size
  replace lt1 := Nat.lt_of_lt_of_le lt1 hb1.size
  replace hg := hg.below hb1
  replace b := b.trans (hb1.mono b.size)
  clear hb1
  go_wp2_with fail
  go_ret
  exact ⟨rfl, b⟩

set_option maxHeartbeats 8000000 in
theorem win_came (A B : Option Addr) (c d n m : Nat) (g : Gtr) (p : Pce) (w : World) (hg : GtrIn w A B g) (hn : g.early.length = n) (hm : g.came.length = m) (hp9 : p.num ≤ 9223372036854775807) (h0 : n ≤ 20) (h : 100 < m) :
    Calls Try.prog 4 #[.agg #[.int .i64 g.next, .slice A n c, .slice B m d], .agg #[.int .i64 p.num, .int .u32 p.val]] w fun e w' => e = .returned (.bool true) ∧ Below w.heap.size w w' := by
  have b : Below w.heap.size w ((w.alloc (.cells #[.int .i64 g.next, .slice A n c, .slice B m d] 29)).alloc (.cells #[.int .i64 p.num, .int .u32 p.val] 34)) := ((Below.refl _ _).alloc (Nat.le_refl _) _).alloc (by simp) _
  have e0 : ((w.alloc (.cells #[.int .i64 g.next, .slice A n c, .slice B m d] 29)).alloc (.cells #[.int .i64 p.num, .int .u32 p.val] 34)).cell? ⟨w.heap.size, 0, none⟩ = some (.int .i64 g.next) := by go_simp
  have e1 : ((w.alloc (.cells #[.int .i64 g.next, .slice A n c, .slice B m d] 29)).alloc (.cells #[.int .i64 p.num, .int .u32 p.val] 34)).cell? ⟨w.heap.size, 1, none⟩ = some (.slice A n c) := by go_simp
  have e2 : ((w.alloc (.cells #[.int .i64 g.next, .slice A n c, .slice B m d] 29)).alloc (.cells #[.int .i64 p.num, .int .u32 p.val] 34)).cell? ⟨w.heap.size, 2, none⟩ = some (.slice B m d) := by go_simp
  have p0 : ((w.alloc (.cells #[.int .i64 g.next, .slice A n c, .slice B m d] 29)).alloc (.cells #[.int .i64 p.num, .int .u32 p.val] 34)).cell? ⟨w.heap.size + 1, 0, none⟩ = some (.int .i64 p.num) := by go_simp
  have p1 : ((w.alloc (.cells #[.int .i64 g.next, .slice A n c, .slice B m d] 29)).alloc (.cells #[.int .i64 p.num, .int .u32 p.val] 34)).cell? ⟨w.heap.size + 1, 1, none⟩ = some (.int .u32 p.val) := by go_simp
  have lt0 : w.heap.size < ((w.alloc (.cells #[.int .i64 g.next, .slice A n c, .slice B m d] 29)).alloc (.cells #[.int .i64 p.num, .int .u32 p.val] 34)).heap.size := by simp <;> omega
  have lt1 : w.heap.size + 1 < ((w.alloc (.cells #[.int .i64 g.next, .slice A n c, .slice B m d] 29)).alloc (.cells #[.int .i64 p.num, .int .u32 p.val] 34)).heap.size := by simp <;> omega
  replace hg := hg.below b
  have cR := fun w1 (hg : GtrIn w1 A B g) => gRight_any A B c d n m g w1 hg.early hn
  have z0 : ¬ (20 : Int) < n := by omega
  have z : (100 : Int) < m := by omega
  have HN := Lib.hid hn
  have HM := Lib.hid hm
  clear hn hm
  go_enter Try.func4, Try.ntmps4
  go_wp2_with fail
  generalize ((w.alloc (.cells #[.int .i64 g.next, .slice A n c, .slice B m d] 29)).alloc (.cells #[.int .i64 p.num, .int .u32 p.val] 34)) = W0 at *
  refine (awake_any _).mono ?_
  rintro e w1 ⟨rfl, hb1⟩
  replace e0 := (hb1.cell (p := ⟨w.heap.size, 0, none⟩) (World.block_lt_of_cell? _ _ e0)).trans e0
  replace e1 := (hb1.cell (p := ⟨w.heap.size, 1, none⟩) (World.block_lt_of_cell? _ _ e1)).trans e1
  replace e2 := (hb1.cell (p := ⟨w.heap.size, 2, none⟩) (World.block_lt_of_cell? _ _ e2)).trans e2
  replace p0 := (hb1.cell (p := ⟨w.heap.size + 1, 0, none⟩) (World.block_lt_of_cell? _ _ p0)).trans p0
  replace p1 := (hb1.cell (p := ⟨w.heap.size + 1, 1, none⟩) (World.block_lt_of_cell? _ _ p1)).trans p1
  replace lt0 := Nat.lt_of_lt_of_le lt0 hb1.size
  replace lt1 := Nat.lt_of_lt_of_le lt1 hb1.size
  replace hg := hg.below hb1
  replace b := b.trans (hb1.mono b.size)
  clear hb1
  go_wp2_with fail
  go_ret
  exact ⟨rfl, b⟩

set_option maxHeartbeats 8000000 in
theorem win_wrong (A B : Option Addr) (c d n m : Nat) (g : Gtr) (p : Pce) (w : World) (hg : GtrIn w A B g) (hn : g.early.length = n) (hm : g.came.length = m) (hp9 : p.num ≤ 9223372036854775807) (h0 : n ≤ 20) (h1 : m ≤ 100) (hr : gRight g = false) :
    Calls Try.prog 4 #[.agg #[.int .i64 g.next, .slice A n c, .slice B m d], .agg #[.int .i64 p.num, .int .u32 p.val]] w fun e w' => e = .returned (.bool true) ∧ Below w.heap.size w w' := by
  have b : Below w.heap.size w ((w.alloc (.cells #[.int .i64 g.next, .slice A n c, .slice B m d] 29)).alloc (.cells #[.int .i64 p.num, .int .u32 p.val] 34)) := ((Below.refl _ _).alloc (Nat.le_refl _) _).alloc (by simp) _
  have e0 : ((w.alloc (.cells #[.int .i64 g.next, .slice A n c, .slice B m d] 29)).alloc (.cells #[.int .i64 p.num, .int .u32 p.val] 34)).cell? ⟨w.heap.size, 0, none⟩ = some (.int .i64 g.next) := by go_simp
  have e1 : ((w.alloc (.cells #[.int .i64 g.next, .slice A n c, .slice B m d] 29)).alloc (.cells #[.int .i64 p.num, .int .u32 p.val] 34)).cell? ⟨w.heap.size, 1, none⟩ = some (.slice A n c) := by go_simp
  have e2 : ((w.alloc (.cells #[.int .i64 g.next, .slice A n c, .slice B m d] 29)).alloc (.cells #[.int .i64 p.num, .int .u32 p.val] 34)).cell? ⟨w.heap.size, 2, none⟩ = some (.slice B m d) := by go_simp
  have p0 : ((w.alloc (.cells #[.int .i64 g.next, .slice A n c, .slice B m d] 29)).alloc (.cells #[.int .i64 p.num, .int .u32 p.val] 34)).cell? ⟨w.heap.size + 1, 0, none⟩ = some (.int .i64 p.num) := by go_simp
  have p1 : ((w.alloc (.cells #[.int .i64 g.next, .slice A n c, .slice B m d] 29)).alloc (.cells #[.int .i64 p.num, .int .u32 p.val] 34)).cell? ⟨w.heap.size + 1, 1, none⟩ = some (.int .u32 p.val) := by go_simp
  have lt0 : w.heap.size < ((w.alloc (.cells #[.int .i64 g.next, .slice A n c, .slice B m d] 29)).alloc (.cells #[.int .i64 p.num, .int .u32 p.val] 34)).heap.size := by simp <;> omega
  have lt1 : w.heap.size + 1 < ((w.alloc (.cells #[.int .i64 g.next, .slice A n c, .slice B m d] 29)).alloc (.cells #[.int .i64 p.num, .int .u32 p.val] 34)).heap.size := by simp <;> omega
  replace hg := hg.below b
  have cR := fun w1 (hg : GtrIn w1 A B g) => gRight_any A B c d n m g w1 hg.early hn
  have z0 : ¬ (20 : Int) < n := by omega
  have z1 : ¬ (100 : Int) < m := by omega
  rw [hr] at cR
  clear hr
  have HN := Lib.hid hn
  have HM := Lib.hid hm
  clear hn hm
  go_enter Try.func4, Try.ntmps4
  go_wp2_with fail
  generalize ((w.alloc (.cells #[.int .i64 g.next, .slice A n c, .slice B m d] 29)).alloc (.cells #[.int .i64 p.num, .int .u32 p.val] 34)) = W0 at *
  refine (awake_any _).mono ?_
  rintro e w1 ⟨rfl, hb1⟩
  replace e0 := (hb1.cell (p := ⟨w.heap.size, 0, none⟩) (World.block_lt_of_cell? _ _ e0)).trans e0
  replace e1 := (hb1.cell (p := ⟨w.heap.size, 1, none⟩) (World.block_lt_of_cell? _ _ e1)).trans e1
  replace e2 := (hb1.cell (p := ⟨w.heap.size, 2, none⟩) (World.block_lt_of_cell? _ _ e2)).trans e2
  replace p0 := (hb1.cell (p := ⟨w.heap.size + 1, 0, none⟩) (World.block_lt_of_cell? _ _ p0)).trans p0
  replace p1 := (hb1.cell (p := ⟨w.heap.size + 1, 1, none⟩) (World.block_lt_of_cell? _ _ p1)).trans p1
  replace lt0 := Nat.lt_of_lt_of_le lt0 hb1.size
  replace lt1 := Nat.lt_of_lt_of_le lt1 hb1.size
  replace hg := hg.below hb1
  replace b := b.trans (hb1.mono b.size)
  clear hb1
  go_wp2_with fail
  refine (cR _ hg).mono ?_
  rintro e w2 ⟨rfl, hb2⟩
  replace e0 := (hb2.cell (p := ⟨w.heap.size, 0, none⟩) (World.block_lt_of_cell? _ _ e0)).trans e0
  replace e1 := (hb2.cell (p := ⟨w.heap.size, 1, none⟩) (World.block_lt_of_cell? _ _ e1)).trans e1
  replace e2 := (hb2.cell (p := ⟨w.heap.size, 2, none⟩) (World.block_lt_of_cell? _ _ e2)).trans e2
  replace p0 := (hb2.cell (p := ⟨w.heap.size + 1, 0, none⟩) (World.block_lt_of_cell? _ _ p0)).trans p0
  replace p1 := (hb2.cell (p := ⟨w.heap.size + 1, 1, none⟩) (World.block_lt_of_cell? _ _ p1)).trans p1
  replace lt0 := Nat.lt_of_lt_of_le lt0 hb2.size
  replace lt1 := Nat.lt_of_lt_of_le lt1 hb2.size
  replace hg := hg.below hb2
  replace b := b.trans (hb2.mono b.size)
  clear hb2 cR
  go_wp2_with fail
  go_ret
  exact ⟨rfl, b⟩

set_option maxHeartbeats 8000000 in
theorem win_far (A B : Option Addr) (c d n m : Nat) (g : Gtr) (p : Pce) (w : World) (hg : GtrIn w A B g) (hn : g.early.length = n) (hm : g.came.length = m) (hp9 : p.num ≤ 9223372036854775807) (h0 : n ≤ 20) (h1 : m ≤ 100) (hr : gRight g = true) (hx : 549755813888 < g.next) :
    Calls Try.prog 4 #[.agg #[.int .i64 g.next, .slice A n c, .slice B m d], .agg #[.int .i64 p.num, .int .u32 p.val]] w fun e w' => e = .returned (.bool true) ∧ Below w.heap.size w w' := by
  have b : Below w.heap.size w ((w.alloc (.cells #[.int .i64 g.next, .slice A n c, .slice B m d] 29)).alloc (.cells #[.int .i64 p.num, .int .u32 p.val] 34)) := ((Below.refl _ _).alloc (Nat.le_refl _) _).alloc (by simp) _
  have e0 : ((w.alloc (.cells #[.int .i64 g.next, .slice A n c, .slice B m d] 29)).alloc (.cells #[.int .i64 p.num, .int .u32 p.val] 34)).cell? ⟨w.heap.size, 0, none⟩ = some (.int .i64 g.next) := by go_simp
  have e1 : ((w.alloc (.cells #[.int .i64 g.next, .slice A n c, .slice B m d] 29)).alloc (.cells #[.int .i64 p.num, .int .u32 p.val] 34)).cell? ⟨w.heap.size, 1, none⟩ = some (.slice A n c) := by go_simp
  have e2 : ((w.alloc (.cells #[.int .i64 g.next, .slice A n c, .slice B m d] 29)).alloc (.cells #[.int .i64 p.num, .int .u32 p.val] 34)).cell? ⟨w.heap.size, 2, none⟩ = some (.slice B m d) := by go_simp
  have p0 : ((w.alloc (.cells #[.int .i64 g.next, .slice A n c, .slice B m d] 29)).alloc (.cells #[.int .i64 p.num, .int .u32 p.val] 34)).cell? ⟨w.heap.size + 1, 0, none⟩ = some (.int .i64 p.num) := by go_simp
  have p1 : ((w.alloc (.cells #[.int .i64 g.next, .slice A n c, .slice B m d] 29)).alloc (.cells #[.int .i64 p.num, .int .u32 p.val] 34)).cell? ⟨w.heap.size + 1, 1, none⟩ = some (.int .u32 p.val) := by go_simp
  have lt0 : w.heap.size < ((w.alloc (.cells #[.int .i64 g.next, .slice A n c, .slice B m d] 29)).alloc (.cells #[.int .i64 p.num, .int .u32 p.val] 34)).heap.size := by simp <;> omega
  have lt1 : w.heap.size + 1 < ((w.alloc (.cells #[.int .i64 g.next, .slice A n c, .slice B m d] 29)).alloc (.cells #[.int .i64 p.num, .int .u32 p.val] 34)).heap.size := by simp <;> omega
  replace hg := hg.below b
  have cR := fun w1 (hg : GtrIn w1 A B g) => gRight_any A B c d n m g w1 hg.early hn
  have z0 : ¬ (20 : Int) < n := by omega
  have z1 : ¬ (100 : Int) < m := by omega
  rw [hr] at cR
  have zx : decide (549755813888 < g.next) = true := decide_eq_true hx
  clear hr hx
  have HN := Lib.hid hn
  have HM := Lib.hid hm
  clear hn hm
  go_enter Try.func4, Try.ntmps4
  go_wp2_with fail
  generalize ((w.alloc (.cells #[.int .i64 g.next, .slice A n c, .slice B m d] 29)).alloc (.cells #[.int .i64 p.num, .int .u32 p.val] 34)) = W0 at *
  refine (awake_any _).mono ?_
  rintro e w1 ⟨rfl, hb1⟩
  replace e0 := (hb1.cell (p := ⟨w.heap.size, 0, none⟩) (World.block_lt_of_cell? _ _ e0)).trans e0
  replace e1 := (hb1.cell (p := ⟨w.heap.size, 1, none⟩) (World.block_lt_of_cell? _ _ e1)).trans e1
  replace e2 := (hb1.cell (p := ⟨w.heap.size, 2, none⟩) (World.block_lt_of_cell? _ _ e2)).trans e2
  replace p0 := (hb1.cell (p := ⟨w.heap.size + 1, 0, none⟩) (World.block_lt_of_cell? _ _ p0)).trans p0
  replace p1 := (hb1.cell (p := ⟨w.heap.size + 1, 1, none⟩) (World.block_lt_of_cell? _ _ p1)).trans p1
  replace lt0 := Nat.lt_of_lt_of_le lt0 hb1.size
  replace lt1 := Nat.lt_of_lt_of_le lt1 hb1.size
  replace hg := hg.below hb1
  replace b := b.trans (hb1.mono b.size)
  clear hb1
  go_wp2_with fail
  refine (cR _ hg).mono ?_
  rintro e w2 ⟨rfl, hb2⟩
  replace e0 := (hb2.cell (p := ⟨w.heap.size, 0, none⟩) (World.block_lt_of_cell? _ _ e0)).trans e0
  replace e1 := (hb2.cell (p := ⟨w.heap.size, 1, none⟩) (World.block_lt_of_cell? _ _ e1)).trans e1
  replace e2 := (hb2.cell (p := ⟨w.heap.size, 2, none⟩) (World.block_lt_of_cell? _ _ e2)).trans e2
  replace p0 := (hb2.cell (p := ⟨w.heap.size + 1, 0, none⟩) (World.block_lt_of_cell? _ _ p0)).trans p0
  replace p1 := (hb2.cell (p := ⟨w.heap.size + 1, 1, none⟩) (World.block_lt_of_cell? _ _ p1)).trans p1
  replace lt0 := Nat.lt_of_lt_of_le lt0 hb2.size
  replace lt1 := Nat.lt_of_lt_of_le lt1 hb2.size
  replace hg := hg.below hb2
  replace b := b.trans (hb2.mono b.size)
  clear hb2 cR
  go_wp2_with fail
  go_ret
  exact ⟨rfl, b⟩

set_option maxHeartbeats 8000000 in
theorem win_neg (A B : Option Addr) (c d n m : Nat) (g : Gtr) (p : Pce) (w : World) (hg : GtrIn w A B g) (hn : g.early.length = n) (hm : g.came.length = m) (hp9 : p.num ≤ 9223372036854775807) (h0 : n ≤ 20) (h1 : m ≤ 100) (hr : gRight g = true) (hx : g.next ≤ 549755813888) (hp : p.num < 0) :
    Calls Try.prog 4 #[.agg #[.int .i64 g.next, .slice A n c, .slice B m d], .agg #[.int .i64 p.num, .int .u32 p.val]] w fun e w' => e = .returned (.bool true) ∧ Below w.heap.size w w' := by
  have b : Below w.heap.size w ((w.alloc (.cells #[.int .i64 g.next, .slice A n c, .slice B m d] 29)).alloc (.cells #[.int .i64 p.num, .int .u32 p.val] 34)) := ((Below.refl _ _).alloc (Nat.le_refl _) _).alloc (by simp) _
  have e0 : ((w.alloc (.cells #[.int .i64 g.next, .slice A n c, .slice B m d] 29)).alloc (.cells #[.int .i64 p.num, .int .u32 p.val] 34)).cell? ⟨w.heap.size, 0, none⟩ = some (.int .i64 g.next) := by go_simp
  have e1 : ((w.alloc (.cells #[.int .i64 g.next, .slice A n c, .slice B m d] 29)).alloc (.cells #[.int .i64 p.num, .int .u32 p.val] 34)).cell? ⟨w.heap.size, 1, none⟩ = some (.slice A n c) := by go_simp
  have e2 : ((w.alloc (.cells #[.int .i64 g.next, .slice A n c, .slice B m d] 29)).alloc (.cells #[.int .i64 p.num, .int .u32 p.val] 34)).cell? ⟨w.heap.size, 2, none⟩ = some (.slice B m d) := by go_simp
  have p0 : ((w.alloc (.cells #[.int .i64 g.next, .slice A n c, .slice B m d] 29)).alloc (.cells #[.int .i64 p.num, .int .u32 p.val] 34)).cell? ⟨w.heap.size + 1, 0, none⟩ = some (.int .i64 p.num) := by go_simp
  have p1 : ((w.alloc (.cells #[.int .i64 g.next, .slice A n c, .slice B m d] 29)).alloc (.cells #[.int .i64 p.num, .int .u32 p.val] 34)).cell? ⟨w.heap.size + 1, 1, none⟩ = some (.int .u32 p.val) := by go_simp
  have lt0 : w.heap.size < ((w.alloc (.cells #[.int .i64 g.next, .slice A n c, .slice B m d] 29)).alloc (.cells #[.int .i64 p.num, .int .u32 p.val] 34)).heap.size := by simp <;> omega
  have lt1 : w.heap.size + 1 < ((w.alloc (.cells #[.int .i64 g.next, .slice A n c, .slice B m d] 29)).alloc (.cells #[.int .i64 p.num, .int .u32 p.val] 34)).heap.size := by simp <;> omega
  replace hg := hg.below b
  have cR := fun w1 (hg : GtrIn w1 A B g) => gRight_any A B c d n m g w1 hg.early hn
  have z0 : ¬ (20 : Int) < n := by omega
  have z1 : ¬ (100 : Int) < m := by omega
  rw [hr] at cR
  have zx : decide (549755813888 < g.next) = false := decide_eq_false (by omega)
  have zp : decide (p.num < 0) = true := decide_eq_true hp
  obtain ⟨h, hhe⟩ : ∃ h, h = g := ⟨_, rfl⟩
  have hh : getG g p = (h, 1) := by rw [hhe]; exact getG_neg hp
  have hn5 : h.early.length = n := by rw [hhe]; exact hn
  have hm5 : h.came.length = m := by rw [hhe]; exact hm
  have hnx : h.next = g.next := by rw [hhe]
  have cG := fun w1 (hg : GtrIn w1 A B g) => get_num (get_any A B c d n m g p w1 hg.early hg.came hn hm (by omega) (by omega) hp9) (g := h) (k := 1) (n := n) (m := m) hh hn5 hm5
  rw [hnx] at cG
  clear hr hx hp hhe hh hn5 hm5 hnx
  have HN := Lib.hid hn
  have HM := Lib.hid hm
  clear hn hm
  go_enter Try.func4, Try.ntmps4
  go_wp2_with fail
  generalize ((w.alloc (.cells #[.int .i64 g.next, .slice A n c, .slice B m d] 29)).alloc (.cells #[.int .i64 p.num, .int .u32 p.val] 34)) = W0 at *
  refine (awake_any _).mono ?_
  rintro e w1 ⟨rfl, hb1⟩
  replace e0 := (hb1.cell (p := ⟨w.heap.size, 0, none⟩) (World.block_lt_of_cell? _ _ e0)).trans e0
  replace e1 := (hb1.cell (p := ⟨w.heap.size, 1, none⟩) (World.block_lt_of_cell? _ _ e1)).trans e1
  replace e2 := (hb1.cell (p := ⟨w.heap.size, 2, none⟩) (World.block_lt_of_cell? _ _ e2)).trans e2
  replace p0 := (hb1.cell (p := ⟨w.heap.size + 1, 0, none⟩) (World.block_lt_of_cell? _ _ p0)).trans p0
  replace p1 := (hb1.cell (p := ⟨w.heap.size + 1, 1, none⟩) (World.block_lt_of_cell? _ _ p1)).trans p1
  replace lt0 := Nat.lt_of_lt_of_le lt0 hb1.size
  replace lt1 := Nat.lt_of_lt_of_le lt1 hb1.size
  replace hg := hg.below hb1
  replace b := b.trans (hb1.mono b.size)
  clear hb1
  go_wp2_with fail
  refine (cR _ hg).mono ?_
  rintro e w2 ⟨rfl, hb2⟩
  replace e0 := (hb2.cell (p := ⟨w.heap.size, 0, none⟩) (World.block_lt_of_cell? _ _ e0)).trans e0
  replace e1 := (hb2.cell (p := ⟨w.heap.size, 1, none⟩) (World.block_lt_of_cell? _ _ e1)).trans e1
  replace e2 := (hb2.cell (p := ⟨w.heap.size, 2, none⟩) (World.block_lt_of_cell? _ _ e2)).trans e2
  replace p0 := (hb2.cell (p := ⟨w.heap.size + 1, 0, none⟩) (World.block_lt_of_cell? _ _ p0)).trans p0
  replace p1 := (hb2.cell (p := ⟨w.heap.size + 1, 1, none⟩) (World.block_lt_of_cell? _ _ p1)).trans p1
  replace lt0 := Nat.lt_of_lt_of_le lt0 hb2.size
  replace lt1 := Nat.lt_of_lt_of_le lt1 hb2.size
  replace hg := hg.below hb2
  replace b := b.trans (hb2.mono b.size)
  clear hb2 cR
  go_wp2_with fail
  refine (cG _ hg).mono ?_
  rintro e w3 ⟨A5, c5, B5, d5, rfl, h5, hb3⟩
  replace e0 := (hb3.cell (p := ⟨w.heap.size, 0, none⟩) (World.block_lt_of_cell? _ _ e0)).trans e0
  replace e1 := (hb3.cell (p := ⟨w.heap.size, 1, none⟩) (World.block_lt_of_cell? _ _ e1)).trans e1
  replace e2 := (hb3.cell (p := ⟨w.heap.size, 2, none⟩) (World.block_lt_of_cell? _ _ e2)).trans e2
  replace p0 := (hb3.cell (p := ⟨w.heap.size + 1, 0, none⟩) (World.block_lt_of_cell? _ _ p0)).trans p0
  replace p1 := (hb3.cell (p := ⟨w.heap.size + 1, 1, none⟩) (World.block_lt_of_cell? _ _ p1)).trans p1
  replace lt0 := Nat.lt_of_lt_of_le lt0 hb3.size
  replace lt1 := Nat.lt_of_lt_of_le lt1 hb3.size
  replace hg := hg.below hb3
  replace b := b.trans (hb3.mono b.size)
  clear hb3 cG
  go_wp2_with fail
  go_ret
  exact ⟨rfl, b.alloc b.size _⟩

set_option maxHeartbeats 8000000 in
theorem win_low (A B : Option Addr) (c d n m : Nat) (g : Gtr) (p : Pce) (w : World) (hg : GtrIn w A B g) (hn : g.early.length = n) (hm : g.came.length = m) (hp9 : p.num ≤ 9223372036854775807) (h0 : n ≤ 20) (h1 : m ≤ 100) (hr : gRight g = true) (hx : g.next ≤ 549755813888) (hp : 0 ≤ p.num) (hl : p.num < g.next) :
    Calls Try.prog 4 #[.agg #[.int .i64 g.next, .slice A n c, .slice B m d], .agg #[.int .i64 p.num, .int .u32 p.val]] w fun e w' => e = .returned (.bool true) ∧ Below w.heap.size w w' := by
  have b : Below w.heap.size w ((w.alloc (.cells #[.int .i64 g.next, .slice A n c, .slice B m d] 29)).alloc (.cells #[.int .i64 p.num, .int .u32 p.val] 34)) := ((Below.refl _ _).alloc (Nat.le_refl _) _).alloc (by simp) _
  have e0 : ((w.alloc (.cells #[.int .i64 g.next, .slice A n c, .slice B m d] 29)).alloc (.cells #[.int .i64 p.num, .int .u32 p.val] 34)).cell? ⟨w.heap.size, 0, none⟩ = some (.int .i64 g.next) := by go_simp
  have e1 : ((w.alloc (.cells #[.int .i64 g.next, .slice A n c, .slice B m d] 29)).alloc (.cells #[.int .i64 p.num, .int .u32 p.val] 34)).cell? ⟨w.heap.size, 1, none⟩ = some (.slice A n c) := by go_simp
  have e2 : ((w.alloc (.cells #[.int .i64 g.next, .slice A n c, .slice B m d] 29)).alloc (.cells #[.int .i64 p.num, .int .u32 p.val] 34)).cell? ⟨w.heap.size, 2, none⟩ = some (.slice B m d) := by go_simp
  have p0 : ((w.alloc (.cells #[.int .i64 g.next, .slice A n c, .slice B m d] 29)).alloc (.cells #[.int .i64 p.num, .int .u32 p.val] 34)).cell? ⟨w.heap.size + 1, 0, none⟩ = some (.int .i64 p.num) := by go_simp
  have p1 : ((w.alloc (.cells #[.int .i64 g.next, .slice A n c, .slice B m d] 29)).alloc (.cells #[.int .i64 p.num, .int .u32 p.val] 34)).cell? ⟨w.heap.size + 1, 1, none⟩ = some (.int .u32 p.val) := by go_simp
  have lt0 : w.heap.size < ((w.alloc (.cells #[.int .i64 g.next, .slice A n c, .slice B m d] 29)).alloc (.cells #[.int .i64 p.num, .int .u32 p.val] 34)).heap.size := by simp <;> omega
  have lt1 : w.heap.size + 1 < ((w.alloc (.cells #[.int .i64 g.next, .slice A n c, .slice B m d] 29)).alloc (.cells #[.int .i64 p.num, .int .u32 p.val] 34)).heap.size := by simp <;> omega
  replace hg := hg.below b
  have cR := fun w1 (hg : GtrIn w1 A B g) => gRight_any A B c d n m g w1 hg.early hn
  have z0 : ¬ (20 : Int) < n := by omega
  have z1 : ¬ (100 : Int) < m := by omega
  rw [hr] at cR
  have zx : decide (549755813888 < g.next) = false := decide_eq_false (by omega)
  have zp : decide (p.num < 0) = false := decide_eq_false (by omega)
  obtain ⟨h, hhe⟩ : ∃ h, h = (getG g p).1 := ⟨_, rfl⟩
  obtain ⟨hk, hgot⟩ := getG_got hr hp hx
  have hh : getG g p = (h, 0) := by rw [hhe, ← hk]
  rw [← hhe] at hgot
  obtain ⟨n5, hn5⟩ : ∃ n5, h.early.length = n5 := ⟨_, rfl⟩
  obtain ⟨m5, hm5⟩ : ∃ m5, h.came.length = m5 := ⟨_, rfl⟩
  have cG := fun w1 (hg : GtrIn w1 A B g) => get_num (get_any A B c d n m g p w1 hg.early hg.came hn hm (by omega) (by omega) hp9) (g := h) (k := 0) (n := n5) (m := m5) hh hn5 hm5
  have cR5 := fun A B c d w1 (hg : GtrIn w1 A B h) => gRight_any A B c d n5 m5 h w1 hg.early hn5
  rw [hgot.right] at cR5
  have g0 : 0 ≤ g.next := (gRight_iff.1 hr).1
  have u0 : decide (h.next < g.next) = false := decide_eq_false (by have := hgot.up; omega)
  have u1 : decide (g.next + 16 < h.next) = false := decide_eq_false (by have := hgot.le; omega)
  have hlen := hgot.len
  rw [hm5, hm] at hlen
  have u2 : ((m5 : Int) - (m : Int) != h.next - g.next) = false := by rw [bne_eq_false_iff_eq]; exact hlen
  have v0 := hgot.up
  have v1 := hgot.le
  have v2 : m5 ≤ 116 := by omega
  have hsame : h = g := by rw [hhe, getG_outside hr hp hx (by omega)]
  have cE := fun A B E F c d s t w1 (hg : GtrIn w1 A B h) (hh : GtrIn w1 E F g) => getter_any A B E F c d n5 m5 s t n m h g w1 hg hh hn5 hm5 hn hm
  rw [show decide (h = g) = true from decide_eq_true hsame] at cE
  have zl : decide (p.num < g.next) = true := decide_eq_true hl
  clear hr hp hhe hk hgot hh hn5 hm5 hlen hsame hl
  have HN := Lib.hid hn
  have HM := Lib.hid hm
  clear hn hm
  go_enter Try.func4, Try.ntmps4
  go_wp2_with fail
  generalize ((w.alloc (.cells #[.int .i64 g.next, .slice A n c, .slice B m d] 29)).alloc (.cells #[.int .i64 p.num, .int .u32 p.val] 34)) = W0 at *
  refine (awake_any _).mono ?_
  rintro e w1 ⟨rfl, hb1⟩
  replace e0 := (hb1.cell (p := ⟨w.heap.size, 0, none⟩) (World.block_lt_of_cell? _ _ e0)).trans e0
  replace e1 := (hb1.cell (p := ⟨w.heap.size, 1, none⟩) (World.block_lt_of_cell? _ _ e1)).trans e1
  replace e2 := (hb1.cell (p := ⟨w.heap.size, 2, none⟩) (World.block_lt_of_cell? _ _ e2)).trans e2
  replace p0 := (hb1.cell (p := ⟨w.heap.size + 1, 0, none⟩) (World.block_lt_of_cell? _ _ p0)).trans p0
  replace p1 := (hb1.cell (p := ⟨w.heap.size + 1, 1, none⟩) (World.block_lt_of_cell? _ _ p1)).trans p1
  replace lt0 := Nat.lt_of_lt_of_le lt0 hb1.size
  replace lt1 := Nat.lt_of_lt_of_le lt1 hb1.size
  replace hg := hg.below hb1
  replace b := b.trans (hb1.mono b.size)
  clear hb1
  go_wp2_with fail
  refine (cR _ hg).mono ?_
  rintro e w2 ⟨rfl, hb2⟩
  replace e0 := (hb2.cell (p := ⟨w.heap.size, 0, none⟩) (World.block_lt_of_cell? _ _ e0)).trans e0
  replace e1 := (hb2.cell (p := ⟨w.heap.size, 1, none⟩) (World.block_lt_of_cell? _ _ e1)).trans e1
  replace e2 := (hb2.cell (p := ⟨w.heap.size, 2, none⟩) (World.block_lt_of_cell? _ _ e2)).trans e2
  replace p0 := (hb2.cell (p := ⟨w.heap.size + 1, 0, none⟩) (World.block_lt_of_cell? _ _ p0)).trans p0
  replace p1 := (hb2.cell (p := ⟨w.heap.size + 1, 1, none⟩) (World.block_lt_of_cell? _ _ p1)).trans p1
  replace lt0 := Nat.lt_of_lt_of_le lt0 hb2.size
  replace lt1 := Nat.lt_of_lt_of_le lt1 hb2.size
  replace hg := hg.below hb2
  replace b := b.trans (hb2.mono b.size)
  clear hb2 cR
  go_wp2_with fail
  refine (cG _ hg).mono ?_
  rintro e w3 ⟨A5, c5, B5, d5, rfl, h5, hb3⟩
  replace e0 := (hb3.cell (p := ⟨w.heap.size, 0, none⟩) (World.block_lt_of_cell? _ _ e0)).trans e0
  replace e1 := (hb3.cell (p := ⟨w.heap.size, 1, none⟩) (World.block_lt_of_cell? _ _ e1)).trans e1
  replace e2 := (hb3.cell (p := ⟨w.heap.size, 2, none⟩) (World.block_lt_of_cell? _ _ e2)).trans e2
  replace p0 := (hb3.cell (p := ⟨w.heap.size + 1, 0, none⟩) (World.block_lt_of_cell? _ _ p0)).trans p0
  replace p1 := (hb3.cell (p := ⟨w.heap.size + 1, 1, none⟩) (World.block_lt_of_cell? _ _ p1)).trans p1
  replace lt0 := Nat.lt_of_lt_of_le lt0 hb3.size
  replace lt1 := Nat.lt_of_lt_of_le lt1 hb3.size
  replace hg := hg.below hb3
  replace b := b.trans (hb3.mono b.size)
  clear hb3 cG
  go_wp2_with fail
  replace e0 : (w3.alloc (.cells #[.int .i64 h.next, .slice A5 n5 c5, .slice B5 m5 d5] 29)).cell? ⟨w.heap.size, 0, none⟩ = some (.int .i64 g.next) := (World.cell?_alloc_lt w3 _ ⟨w.heap.size, 0, none⟩ (World.block_lt_of_cell? _ _ e0)).trans e0
  replace e1 : (w3.alloc (.cells #[.int .i64 h.next, .slice A5 n5 c5, .slice B5 m5 d5] 29)).cell? ⟨w.heap.size, 1, none⟩ = some (.slice A n c) := (World.cell?_alloc_lt w3 _ ⟨w.heap.size, 1, none⟩ (World.block_lt_of_cell? _ _ e1)).trans e1
  replace e2 : (w3.alloc (.cells #[.int .i64 h.next, .slice A5 n5 c5, .slice B5 m5 d5] 29)).cell? ⟨w.heap.size, 2, none⟩ = some (.slice B m d) := (World.cell?_alloc_lt w3 _ ⟨w.heap.size, 2, none⟩ (World.block_lt_of_cell? _ _ e2)).trans e2
  replace p0 : (w3.alloc (.cells #[.int .i64 h.next, .slice A5 n5 c5, .slice B5 m5 d5] 29)).cell? ⟨w.heap.size + 1, 0, none⟩ = some (.int .i64 p.num) := (World.cell?_alloc_lt w3 _ ⟨w.heap.size + 1, 0, none⟩ (World.block_lt_of_cell? _ _ p0)).trans p0
  replace p1 : (w3.alloc (.cells #[.int .i64 h.next, .slice A5 n5 c5, .slice B5 m5 d5] 29)).cell? ⟨w.heap.size + 1, 1, none⟩ = some (.int .u32 p.val) := (World.cell?_alloc_lt w3 _ ⟨w.heap.size + 1, 1, none⟩ (World.block_lt_of_cell? _ _ p1)).trans p1
  have x0 : (w3.alloc (.cells #[.int .i64 h.next, .slice A5 n5 c5, .slice B5 m5 d5] 29)).cell? ⟨w3.heap.size, 0, none⟩ = some (.int .i64 h.next) := World.cell?_alloc_new (w := w3) _ _ _
  have x1 : (w3.alloc (.cells #[.int .i64 h.next, .slice A5 n5 c5, .slice B5 m5 d5] 29)).cell? ⟨w3.heap.size, 1, none⟩ = some (.slice A5 n5 c5) := World.cell?_alloc_new (w := w3) _ _ _
  have x2 : (w3.alloc (.cells #[.int .i64 h.next, .slice A5 n5 c5, .slice B5 m5 d5] 29)).cell? ⟨w3.heap.size, 2, none⟩ = some (.slice B5 m5 d5) := World.cell?_alloc_new (w := w3) _ _ _
  replace lt0 : _ < (w3.alloc (.cells #[.int .i64 h.next, .slice A5 n5 c5, .slice B5 m5 d5] 29)).heap.size := Nat.lt_of_lt_of_le lt0 (by simp)
  replace lt1 : _ < (w3.alloc (.cells #[.int .i64 h.next, .slice A5 n5 c5, .slice B5 m5 d5] 29)).heap.size := Nat.lt_of_lt_of_le lt1 (by simp)
  replace hg := hg.below ((Below.refl w3.heap.size w3).alloc (Nat.le_refl _) (.cells #[.int .i64 h.next, .slice A5 n5 c5, .slice B5 m5 d5] 29))
  replace h5 := h5.below ((Below.refl w3.heap.size w3).alloc (Nat.le_refl _) (.cells #[.int .i64 h.next, .slice A5 n5 c5, .slice B5 m5 d5] 29))
  replace b := b.alloc b.size (.cells #[.int .i64 h.next, .slice A5 n5 c5, .slice B5 m5 d5] 29)
  have lt5 : w3.heap.size < (w3.alloc (.cells #[.int .i64 h.next, .slice A5 n5 c5, .slice B5 m5 d5] 29)).heap.size := by simp
  generalize hw_w4 : w3.alloc (.cells #[.int .i64 h.next, .slice A5 n5 c5, .slice B5 m5 d5] 29) = w4 at *
  clear hw_w4
  generalize w3.heap.size = H5 at *
  refine (cR5 _ _ _ _ _ h5).mono ?_
  rintro e w5 ⟨rfl, hb5⟩
  replace e0 := (hb5.cell (p := ⟨w.heap.size, 0, none⟩) (World.block_lt_of_cell? _ _ e0)).trans e0
  replace e1 := (hb5.cell (p := ⟨w.heap.size, 1, none⟩) (World.block_lt_of_cell? _ _ e1)).trans e1
  replace e2 := (hb5.cell (p := ⟨w.heap.size, 2, none⟩) (World.block_lt_of_cell? _ _ e2)).trans e2
  replace p0 := (hb5.cell (p := ⟨w.heap.size + 1, 0, none⟩) (World.block_lt_of_cell? _ _ p0)).trans p0
  replace p1 := (hb5.cell (p := ⟨w.heap.size + 1, 1, none⟩) (World.block_lt_of_cell? _ _ p1)).trans p1
  replace x0 := (hb5.cell (p := ⟨H5, 0, none⟩) (World.block_lt_of_cell? _ _ x0)).trans x0
  replace x1 := (hb5.cell (p := ⟨H5, 1, none⟩) (World.block_lt_of_cell? _ _ x1)).trans x1
  replace x2 := (hb5.cell (p := ⟨H5, 2, none⟩) (World.block_lt_of_cell? _ _ x2)).trans x2
  replace lt0 := Nat.lt_of_lt_of_le lt0 hb5.size
  replace lt1 := Nat.lt_of_lt_of_le lt1 hb5.size
  replace lt5 := Nat.lt_of_lt_of_le lt5 hb5.size
  replace hg := hg.below hb5
  replace h5 := h5.below hb5
  replace b := b.trans (hb5.mono b.size)
  clear hb5 cR5
  go_wp2_with fail
  refine (cE _ _ _ _ _ _ _ _ _ h5 hg).mono ?_
  rintro e w9 ⟨rfl, hb9⟩
  replace b := b.trans (hb9.mono b.size)
  go_wp2_with fail
  go_ret
  exact ⟨rfl, b⟩

set_option maxHeartbeats 8000000 in
theorem win_high (A B : Option Addr) (c d n m : Nat) (g : Gtr) (p : Pce) (w : World) (hg : GtrIn w A B g) (hn : g.early.length = n) (hm : g.came.length = m) (hp9 : p.num ≤ 9223372036854775807) (h0 : n ≤ 20) (h1 : m ≤ 100) (hr : gRight g = true) (hx : g.next ≤ 549755813888) (hp : 0 ≤ p.num) (hl : g.next ≤ p.num) (hl2 : g.next + 16 ≤ p.num) :
    Calls Try.prog 4 #[.agg #[.int .i64 g.next, .slice A n c, .slice B m d], .agg #[.int .i64 p.num, .int .u32 p.val]] w fun e w' => e = .returned (.bool true) ∧ Below w.heap.size w w' := by
  have b : Below w.heap.size w ((w.alloc (.cells #[.int .i64 g.next, .slice A n c, .slice B m d] 29)).alloc (.cells #[.int .i64 p.num, .int .u32 p.val] 34)) := ((Below.refl _ _).alloc (Nat.le_refl _) _).alloc (by simp) _
  have e0 : ((w.alloc (.cells #[.int .i64 g.next, .slice A n c, .slice B m d] 29)).alloc (.cells #[.int .i64 p.num, .int .u32 p.val] 34)).cell? ⟨w.heap.size, 0, none⟩ = some (.int .i64 g.next) := by go_simp
  have e1 : ((w.alloc (.cells #[.int .i64 g.next, .slice A n c, .slice B m d] 29)).alloc (.cells #[.int .i64 p.num, .int .u32 p.val] 34)).cell? ⟨w.heap.size, 1, none⟩ = some (.slice A n c) := by go_simp
  have e2 : ((w.alloc (.cells #[.int .i64 g.next, .slice A n c, .slice B m d] 29)).alloc (.cells #[.int .i64 p.num, .int .u32 p.val] 34)).cell? ⟨w.heap.size, 2, none⟩ = some (.slice B m d) := by go_simp
  have p0 : ((w.alloc (.cells #[.int .i64 g.next, .slice A n c, .slice B m d] 29)).alloc (.cells #[.int .i64 p.num, .int .u32 p.val] 34)).cell? ⟨w.heap.size + 1, 0, none⟩ = some (.int .i64 p.num) := by go_simp
  have p1 : ((w.alloc (.cells #[.int .i64 g.next, .slice A n c, .slice B m d] 29)).alloc (.cells #[.int .i64 p.num, .int .u32 p.val] 34)).cell? ⟨w.heap.size + 1, 1, none⟩ = some (.int .u32 p.val) := by go_simp
  have lt0 : w.heap.size < ((w.alloc (.cells #[.int .i64 g.next, .slice A n c, .slice B m d] 29)).alloc (.cells #[.int .i64 p.num, .int .u32 p.val] 34)).heap.size := by simp <;> omega
  have lt1 : w.heap.size + 1 < ((w.alloc (.cells #[.int .i64 g.next, .slice A n c, .slice B m d] 29)).alloc (.cells #[.int .i64 p.num, .int .u32 p.val] 34)).heap.size := by simp <;> omega
  replace hg := hg.below b
  have cR := fun w1 (hg : GtrIn w1 A B g) => gRight_any A B c d n m g w1 hg.early hn
  have z0 : ¬ (20 : Int) < n := by omega
  have z1 : ¬ (100 : Int) < m := by omega
  rw [hr] at cR
  have zx : decide (549755813888 < g.next) = false := decide_eq_false (by omega)
  have zp : decide (p.num < 0) = false := decide_eq_false (by omega)
  obtain ⟨h, hhe⟩ : ∃ h, h = (getG g p).1 := ⟨_, rfl⟩
  obtain ⟨hk, hgot⟩ := getG_got hr hp hx
  have hh : getG g p = (h, 0) := by rw [hhe, ← hk]
  rw [← hhe] at hgot
  obtain ⟨n5, hn5⟩ : ∃ n5, h.early.length = n5 := ⟨_, rfl⟩
  obtain ⟨m5, hm5⟩ : ∃ m5, h.came.length = m5 := ⟨_, rfl⟩
  have cG := fun w1 (hg : GtrIn w1 A B g) => get_num (get_any A B c d n m g p w1 hg.early hg.came hn hm (by omega) (by omega) hp9) (g := h) (k := 0) (n := n5) (m := m5) hh hn5 hm5
  have cR5 := fun A B c d w1 (hg : GtrIn w1 A B h) => gRight_any A B c d n5 m5 h w1 hg.early hn5
  rw [hgot.right] at cR5
  have g0 : 0 ≤ g.next := (gRight_iff.1 hr).1
  have u0 : decide (h.next < g.next) = false := decide_eq_false (by have := hgot.up; omega)
  have u1 : decide (g.next + 16 < h.next) = false := decide_eq_false (by have := hgot.le; omega)
  have hlen := hgot.len
  rw [hm5, hm] at hlen
  have u2 : ((m5 : Int) - (m : Int) != h.next - g.next) = false := by rw [bne_eq_false_iff_eq]; exact hlen
  have v0 := hgot.up
  have v1 := hgot.le
  have v2 : m5 ≤ 116 := by omega
  have hsame : h = g := by rw [hhe, getG_outside hr hp hx (by omega)]
  have cE := fun A B E F c d s t w1 (hg : GtrIn w1 A B h) (hh : GtrIn w1 E F g) => getter_any A B E F c d n5 m5 s t n m h g w1 hg hh hn5 hm5 hn hm
  rw [show decide (h = g) = true from decide_eq_true hsame] at cE
  have zl : decide (p.num < g.next) = false := decide_eq_false (by omega)
  have zm : decide (g.next + 16 ≤ p.num) = true := decide_eq_true hl2
  clear hr hp hhe hk hgot hh hn5 hm5 hlen hsame hl hl2
  have HN := Lib.hid hn
  have HM := Lib.hid hm
  clear hn hm
  go_enter Try.func4, Try.ntmps4
  go_wp2_with fail
  generalize ((w.alloc (.cells #[.int .i64 g.next, .slice A n c, .slice B m d] 29)).alloc (.cells #[.int .i64 p.num, .int .u32 p.val] 34)) = W0 at *
  refine (awake_any _).mono ?_
  rintro e w1 ⟨rfl, hb1⟩
  replace e0 := (hb1.cell (p := ⟨w.heap.size, 0, none⟩) (World.block_lt_of_cell? _ _ e0)).trans e0
  replace e1 := (hb1.cell (p := ⟨w.heap.size, 1, none⟩) (World.block_lt_of_cell? _ _ e1)).trans e1
  replace e2 := (hb1.cell (p := ⟨w.heap.size, 2, none⟩) (World.block_lt_of_cell? _ _ e2)).trans e2
  replace p0 := (hb1.cell (p := ⟨w.heap.size + 1, 0, none⟩) (World.block_lt_of_cell? _ _ p0)).trans p0
  replace p1 := (hb1.cell (p := ⟨w.heap.size + 1, 1, none⟩) (World.block_lt_of_cell? _ _ p1)).trans p1
  replace lt0 := Nat.lt_of_lt_of_le lt0 hb1.size
  replace lt1 := Nat.lt_of_lt_of_le lt1 hb1.size
  replace hg := hg.below hb1
  replace b := b.trans (hb1.mono b.size)
  clear hb1
  go_wp2_with fail
  refine (cR _ hg).mono ?_
  rintro e w2 ⟨rfl, hb2⟩
  replace e0 := (hb2.cell (p := ⟨w.heap.size, 0, none⟩) (World.block_lt_of_cell? _ _ e0)).trans e0
  replace e1 := (hb2.cell (p := ⟨w.heap.size, 1, none⟩) (World.block_lt_of_cell? _ _ e1)).trans e1
  replace e2 := (hb2.cell (p := ⟨w.heap.size, 2, none⟩) (World.block_lt_of_cell? _ _ e2)).trans e2
  replace p0 := (hb2.cell (p := ⟨w.heap.size + 1, 0, none⟩) (World.block_lt_of_cell? _ _ p0)).trans p0
  replace p1 := (hb2.cell (p := ⟨w.heap.size + 1, 1, none⟩) (World.block_lt_of_cell? _ _ p1)).trans p1
  replace lt0 := Nat.lt_of_lt_of_le lt0 hb2.size
  replace lt1 := Nat.lt_of_lt_of_le lt1 hb2.size
  replace hg := hg.below hb2
  replace b := b.trans (hb2.mono b.size)
  clear hb2 cR
  go_wp2_with fail
  refine (cG _ hg).mono ?_
  rintro e w3 ⟨A5, c5, B5, d5, rfl, h5, hb3⟩
  replace e0 := (hb3.cell (p := ⟨w.heap.size, 0, none⟩) (World.block_lt_of_cell? _ _ e0)).trans e0
  replace e1 := (hb3.cell (p := ⟨w.heap.size, 1, none⟩) (World.block_lt_of_cell? _ _ e1)).trans e1
  replace e2 := (hb3.cell (p := ⟨w.heap.size, 2, none⟩) (World.block_lt_of_cell? _ _ e2)).trans e2
  replace p0 := (hb3.cell (p := ⟨w.heap.size + 1, 0, none⟩) (World.block_lt_of_cell? _ _ p0)).trans p0
  replace p1 := (hb3.cell (p := ⟨w.heap.size + 1, 1, none⟩) (World.block_lt_of_cell? _ _ p1)).trans p1
  replace lt0 := Nat.lt_of_lt_of_le lt0 hb3.size
  replace lt1 := Nat.lt_of_lt_of_le lt1 hb3.size
  replace hg := hg.below hb3
  replace b := b.trans (hb3.mono b.size)
  clear hb3 cG
  go_wp2_with fail
  replace e0 : (w3.alloc (.cells #[.int .i64 h.next, .slice A5 n5 c5, .slice B5 m5 d5] 29)).cell? ⟨w.heap.size, 0, none⟩ = some (.int .i64 g.next) := (World.cell?_alloc_lt w3 _ ⟨w.heap.size, 0, none⟩ (World.block_lt_of_cell? _ _ e0)).trans e0
  replace e1 : (w3.alloc (.cells #[.int .i64 h.next, .slice A5 n5 c5, .slice B5 m5 d5] 29)).cell? ⟨w.heap.size, 1, none⟩ = some (.slice A n c) := (World.cell?_alloc_lt w3 _ ⟨w.heap.size, 1, none⟩ (World.block_lt_of_cell? _ _ e1)).trans e1
  replace e2 : (w3.alloc (.cells #[.int .i64 h.next, .slice A5 n5 c5, .slice B5 m5 d5] 29)).cell? ⟨w.heap.size, 2, none⟩ = some (.slice B m d) := (World.cell?_alloc_lt w3 _ ⟨w.heap.size, 2, none⟩ (World.block_lt_of_cell? _ _ e2)).trans e2
  replace p0 : (w3.alloc (.cells #[.int .i64 h.next, .slice A5 n5 c5, .slice B5 m5 d5] 29)).cell? ⟨w.heap.size + 1, 0, none⟩ = some (.int .i64 p.num) := (World.cell?_alloc_lt w3 _ ⟨w.heap.size + 1, 0, none⟩ (World.block_lt_of_cell? _ _ p0)).trans p0
  replace p1 : (w3.alloc (.cells #[.int .i64 h.next, .slice A5 n5 c5, .slice B5 m5 d5] 29)).cell? ⟨w.heap.size + 1, 1, none⟩ = some (.int .u32 p.val) := (World.cell?_alloc_lt w3 _ ⟨w.heap.size + 1, 1, none⟩ (World.block_lt_of_cell? _ _ p1)).trans p1
  have x0 : (w3.alloc (.cells #[.int .i64 h.next, .slice A5 n5 c5, .slice B5 m5 d5] 29)).cell? ⟨w3.heap.size, 0, none⟩ = some (.int .i64 h.next) := World.cell?_alloc_new (w := w3) _ _ _
  have x1 : (w3.alloc (.cells #[.int .i64 h.next, .slice A5 n5 c5, .slice B5 m5 d5] 29)).cell? ⟨w3.heap.size, 1, none⟩ = some (.slice A5 n5 c5) := World.cell?_alloc_new (w := w3) _ _ _
  have x2 : (w3.alloc (.cells #[.int .i64 h.next, .slice A5 n5 c5, .slice B5 m5 d5] 29)).cell? ⟨w3.heap.size, 2, none⟩ = some (.slice B5 m5 d5) := World.cell?_alloc_new (w := w3) _ _ _
  replace lt0 : _ < (w3.alloc (.cells #[.int .i64 h.next, .slice A5 n5 c5, .slice B5 m5 d5] 29)).heap.size := Nat.lt_of_lt_of_le lt0 (by simp)
  replace lt1 : _ < (w3.alloc (.cells #[.int .i64 h.next, .slice A5 n5 c5, .slice B5 m5 d5] 29)).heap.size := Nat.lt_of_lt_of_le lt1 (by simp)
  replace hg := hg.below ((Below.refl w3.heap.size w3).alloc (Nat.le_refl _) (.cells #[.int .i64 h.next, .slice A5 n5 c5, .slice B5 m5 d5] 29))
  replace h5 := h5.below ((Below.refl w3.heap.size w3).alloc (Nat.le_refl _) (.cells #[.int .i64 h.next, .slice A5 n5 c5, .slice B5 m5 d5] 29))
  replace b := b.alloc b.size (.cells #[.int .i64 h.next, .slice A5 n5 c5, .slice B5 m5 d5] 29)
  have lt5 : w3.heap.size < (w3.alloc (.cells #[.int .i64 h.next, .slice A5 n5 c5, .slice B5 m5 d5] 29)).heap.size := by simp
  generalize hw_w4 : w3.alloc (.cells #[.int .i64 h.next, .slice A5 n5 c5, .slice B5 m5 d5] 29) = w4 at *
  clear hw_w4
  generalize w3.heap.size = H5 at *
  refine (cR5 _ _ _ _ _ h5).mono ?_
  rintro e w5 ⟨rfl, hb5⟩
  replace e0 := (hb5.cell (p := ⟨w.heap.size, 0, none⟩) (World.block_lt_of_cell? _ _ e0)).trans e0
  replace e1 := (hb5.cell (p := ⟨w.heap.size, 1, none⟩) (World.block_lt_of_cell? _ _ e1)).trans e1
  replace e2 := (hb5.cell (p := ⟨w.heap.size, 2, none⟩) (World.block_lt_of_cell? _ _ e2)).trans e2
  replace p0 := (hb5.cell (p := ⟨w.heap.size + 1, 0, none⟩) (World.block_lt_of_cell? _ _ p0)).trans p0
  replace p1 := (hb5.cell (p := ⟨w.heap.size + 1, 1, none⟩) (World.block_lt_of_cell? _ _ p1)).trans p1
  replace x0 := (hb5.cell (p := ⟨H5, 0, none⟩) (World.block_lt_of_cell? _ _ x0)).trans x0
  replace x1 := (hb5.cell (p := ⟨H5, 1, none⟩) (World.block_lt_of_cell? _ _ x1)).trans x1
  replace x2 := (hb5.cell (p := ⟨H5, 2, none⟩) (World.block_lt_of_cell? _ _ x2)).trans x2
  replace lt0 := Nat.lt_of_lt_of_le lt0 hb5.size
  replace lt1 := Nat.lt_of_lt_of_le lt1 hb5.size
  replace lt5 := Nat.lt_of_lt_of_le lt5 hb5.size
  replace hg := hg.below hb5
  replace h5 := h5.below hb5
  replace b := b.trans (hb5.mono b.size)
  clear hb5 cR5
  go_wp2_with fail
  refine (cE _ _ _ _ _ _ _ _ _ h5 hg).mono ?_
  rintro e w9 ⟨rfl, hb9⟩
  replace b := b.trans (hb9.mono b.size)
  go_wp2_with fail
  go_ret
  exact ⟨rfl, b⟩

set_option maxHeartbeats 8000000 in
theorem win_in (A B : Option Addr) (c d n m : Nat) (g : Gtr) (p : Pce) (w : World) (hg : GtrIn w A B g) (hn : g.early.length = n) (hm : g.came.length = m) (hp9 : p.num ≤ 9223372036854775807) (h0 : n ≤ 20) (h1 : m ≤ 100) (hr : gRight g = true) (hx : g.next ≤ 549755813888) (hp : 0 ≤ p.num) (hl : g.next ≤ p.num) (hl2 : p.num < g.next + 16) :
    Calls Try.prog 4 #[.agg #[.int .i64 g.next, .slice A n c, .slice B m d], .agg #[.int .i64 p.num, .int .u32 p.val]] w fun e w' => e = .returned (.bool true) ∧ Below w.heap.size w w' := by
  have b : Below w.heap.size w ((w.alloc (.cells #[.int .i64 g.next, .slice A n c, .slice B m d] 29)).alloc (.cells #[.int .i64 p.num, .int .u32 p.val] 34)) := ((Below.refl _ _).alloc (Nat.le_refl _) _).alloc (by simp) _
  have e0 : ((w.alloc (.cells #[.int .i64 g.next, .slice A n c, .slice B m d] 29)).alloc (.cells #[.int .i64 p.num, .int .u32 p.val] 34)).cell? ⟨w.heap.size, 0, none⟩ = some (.int .i64 g.next) := by go_simp
  have e1 : ((w.alloc (.cells #[.int .i64 g.next, .slice A n c, .slice B m d] 29)).alloc (.cells #[.int .i64 p.num, .int .u32 p.val] 34)).cell? ⟨w.heap.size, 1, none⟩ = some (.slice A n c) := by go_simp
  have e2 : ((w.alloc (.cells #[.int .i64 g.next, .slice A n c, .slice B m d] 29)).alloc (.cells #[.int .i64 p.num, .int .u32 p.val] 34)).cell? ⟨w.heap.size, 2, none⟩ = some (.slice B m d) := by go_simp
  have p0 : ((w.alloc (.cells #[.int .i64 g.next, .slice A n c, .slice B m d] 29)).alloc (.cells #[.int .i64 p.num, .int .u32 p.val] 34)).cell? ⟨w.heap.size + 1, 0, none⟩ = some (.int .i64 p.num) := by go_simp
  have p1 : ((w.alloc (.cells #[.int .i64 g.next, .slice A n c, .slice B m d] 29)).alloc (.cells #[.int .i64 p.num, .int .u32 p.val] 34)).cell? ⟨w.heap.size + 1, 1, none⟩ = some (.int .u32 p.val) := by go_simp
  have lt0 : w.heap.size < ((w.alloc (.cells #[.int .i64 g.next, .slice A n c, .slice B m d] 29)).alloc (.cells #[.int .i64 p.num, .int .u32 p.val] 34)).heap.size := by simp <;> omega
  have lt1 : w.heap.size + 1 < ((w.alloc (.cells #[.int .i64 g.next, .slice A n c, .slice B m d] 29)).alloc (.cells #[.int .i64 p.num, .int .u32 p.val] 34)).heap.size := by simp <;> omega
  replace hg := hg.below b
  have cR := fun w1 (hg : GtrIn w1 A B g) => gRight_any A B c d n m g w1 hg.early hn
  have z0 : ¬ (20 : Int) < n := by omega
  have z1 : ¬ (100 : Int) < m := by omega
  rw [hr] at cR
  have zx : decide (549755813888 < g.next) = false := decide_eq_false (by omega)
  have zp : decide (p.num < 0) = false := decide_eq_false (by omega)
  obtain ⟨h, hhe⟩ : ∃ h, h = (getG g p).1 := ⟨_, rfl⟩
  obtain ⟨hk, hgot⟩ := getG_got hr hp hx
  have hh : getG g p = (h, 0) := by rw [hhe, ← hk]
  rw [← hhe] at hgot
  obtain ⟨n5, hn5⟩ : ∃ n5, h.early.length = n5 := ⟨_, rfl⟩
  obtain ⟨m5, hm5⟩ : ∃ m5, h.came.length = m5 := ⟨_, rfl⟩
  have cG := fun w1 (hg : GtrIn w1 A B g) => get_num (get_any A B c d n m g p w1 hg.early hg.came hn hm (by omega) (by omega) hp9) (g := h) (k := 0) (n := n5) (m := m5) hh hn5 hm5
  have cR5 := fun A B c d w1 (hg : GtrIn w1 A B h) => gRight_any A B c d n5 m5 h w1 hg.early hn5
  rw [hgot.right] at cR5
  have g0 : 0 ≤ g.next := (gRight_iff.1 hr).1
  have u0 : decide (h.next < g.next) = false := decide_eq_false (by have := hgot.up; omega)
  have u1 : decide (g.next + 16 < h.next) = false := decide_eq_false (by have := hgot.le; omega)
  have hlen := hgot.len
  rw [hm5, hm] at hlen
  have u2 : ((m5 : Int) - (m : Int) != h.next - g.next) = false := by rw [bne_eq_false_iff_eq]; exact hlen
  have v0 := hgot.up
  have v1 := hgot.le
  have v2 : m5 ≤ 116 := by omega
  have h2 : getG h p = (h, 0) := by rw [hhe]; exact getG_again hr hx hp hl hl2
  have cG2 := fun A B c d w1 (hg : GtrIn w1 A B h) => get_num (get_any A B c d n5 m5 h p w1 hg.early hg.came hn5 hm5 (by have := (gRight_iff.1 hgot.right).2.2.1; omega) (by omega) hp9) (g := h) (k := 0) (n := n5) (m := m5) h2 hn5 hm5
  have cE := fun A B E F c d s t w1 (hg : GtrIn w1 A B h) (hh : GtrIn w1 E F h) => getter_any A B E F c d n5 m5 s t n5 m5 h h w1 hg hh hn5 hm5 hn5 hm5
  rw [show decide (h = h) = true from decide_eq_true rfl] at cE
  have zl : decide (p.num < g.next) = false := decide_eq_false (by omega)
  have zm : decide (g.next + 16 ≤ p.num) = false := decide_eq_false (by omega)
  clear hr hp hhe hk hgot hh hn5 hm5 hlen h2 hl hl2
  have HN := Lib.hid hn
  have HM := Lib.hid hm
  clear hn hm
  go_enter Try.func4, Try.ntmps4
  go_wp2_with fail
  generalize ((w.alloc (.cells #[.int .i64 g.next, .slice A n c, .slice B m d] 29)).alloc (.cells #[.int .i64 p.num, .int .u32 p.val] 34)) = W0 at *
  refine (awake_any _).mono ?_
  rintro e w1 ⟨rfl, hb1⟩
  replace e0 := (hb1.cell (p := ⟨w.heap.size, 0, none⟩) (World.block_lt_of_cell? _ _ e0)).trans e0
  replace e1 := (hb1.cell (p := ⟨w.heap.size, 1, none⟩) (World.block_lt_of_cell? _ _ e1)).trans e1
  replace e2 := (hb1.cell (p := ⟨w.heap.size, 2, none⟩) (World.block_lt_of_cell? _ _ e2)).trans e2
  replace p0 := (hb1.cell (p := ⟨w.heap.size + 1, 0, none⟩) (World.block_lt_of_cell? _ _ p0)).trans p0
  replace p1 := (hb1.cell (p := ⟨w.heap.size + 1, 1, none⟩) (World.block_lt_of_cell? _ _ p1)).trans p1
  replace lt0 := Nat.lt_of_lt_of_le lt0 hb1.size
  replace lt1 := Nat.lt_of_lt_of_le lt1 hb1.size
  replace hg := hg.below hb1
  replace b := b.trans (hb1.mono b.size)
  clear hb1
  go_wp2_with fail
  refine (cR _ hg).mono ?_
  rintro e w2 ⟨rfl, hb2⟩
  replace e0 := (hb2.cell (p := ⟨w.heap.size, 0, none⟩) (World.block_lt_of_cell? _ _ e0)).trans e0
  replace e1 := (hb2.cell (p := ⟨w.heap.size, 1, none⟩) (World.block_lt_of_cell? _ _ e1)).trans e1
  replace e2 := (hb2.cell (p := ⟨w.heap.size, 2, none⟩) (World.block_lt_of_cell? _ _ e2)).trans e2
  replace p0 := (hb2.cell (p := ⟨w.heap.size + 1, 0, none⟩) (World.block_lt_of_cell? _ _ p0)).trans p0
  replace p1 := (hb2.cell (p := ⟨w.heap.size + 1, 1, none⟩) (World.block_lt_of_cell? _ _ p1)).trans p1
  replace lt0 := Nat.lt_of_lt_of_le lt0 hb2.size
  replace lt1 := Nat.lt_of_lt_of_le lt1 hb2.size
  replace hg := hg.below hb2
  replace b := b.trans (hb2.mono b.size)
  clear hb2 cR
  go_wp2_with fail
  refine (cG _ hg).mono ?_
  rintro e w3 ⟨A5, c5, B5, d5, rfl, h5, hb3⟩
  replace e0 := (hb3.cell (p := ⟨w.heap.size, 0, none⟩) (World.block_lt_of_cell? _ _ e0)).trans e0
  replace e1 := (hb3.cell (p := ⟨w.heap.size, 1, none⟩) (World.block_lt_of_cell? _ _ e1)).trans e1
  replace e2 := (hb3.cell (p := ⟨w.heap.size, 2, none⟩) (World.block_lt_of_cell? _ _ e2)).trans e2
  replace p0 := (hb3.cell (p := ⟨w.heap.size + 1, 0, none⟩) (World.block_lt_of_cell? _ _ p0)).trans p0
  replace p1 := (hb3.cell (p := ⟨w.heap.size + 1, 1, none⟩) (World.block_lt_of_cell? _ _ p1)).trans p1
  replace lt0 := Nat.lt_of_lt_of_le lt0 hb3.size
  replace lt1 := Nat.lt_of_lt_of_le lt1 hb3.size
  replace hg := hg.below hb3
  replace b := b.trans (hb3.mono b.size)
  clear hb3 cG
  go_wp2_with fail
  replace e0 : (w3.alloc (.cells #[.int .i64 h.next, .slice A5 n5 c5, .slice B5 m5 d5] 29)).cell? ⟨w.heap.size, 0, none⟩ = some (.int .i64 g.next) := (World.cell?_alloc_lt w3 _ ⟨w.heap.size, 0, none⟩ (World.block_lt_of_cell? _ _ e0)).trans e0
  replace e1 : (w3.alloc (.cells #[.int .i64 h.next, .slice A5 n5 c5, .slice B5 m5 d5] 29)).cell? ⟨w.heap.size, 1, none⟩ = some (.slice A n c) := (World.cell?_alloc_lt w3 _ ⟨w.heap.size, 1, none⟩ (World.block_lt_of_cell? _ _ e1)).trans e1
  replace e2 : (w3.alloc (.cells #[.int .i64 h.next, .slice A5 n5 c5, .slice B5 m5 d5] 29)).cell? ⟨w.heap.size, 2, none⟩ = some (.slice B m d) := (World.cell?_alloc_lt w3 _ ⟨w.heap.size, 2, none⟩ (World.block_lt_of_cell? _ _ e2)).trans e2
  replace p0 : (w3.alloc (.cells #[.int .i64 h.next, .slice A5 n5 c5, .slice B5 m5 d5] 29)).cell? ⟨w.heap.size + 1, 0, none⟩ = some (.int .i64 p.num) := (World.cell?_alloc_lt w3 _ ⟨w.heap.size + 1, 0, none⟩ (World.block_lt_of_cell? _ _ p0)).trans p0
  replace p1 : (w3.alloc (.cells #[.int .i64 h.next, .slice A5 n5 c5, .slice B5 m5 d5] 29)).cell? ⟨w.heap.size + 1, 1, none⟩ = some (.int .u32 p.val) := (World.cell?_alloc_lt w3 _ ⟨w.heap.size + 1, 1, none⟩ (World.block_lt_of_cell? _ _ p1)).trans p1
  have x0 : (w3.alloc (.cells #[.int .i64 h.next, .slice A5 n5 c5, .slice B5 m5 d5] 29)).cell? ⟨w3.heap.size, 0, none⟩ = some (.int .i64 h.next) := World.cell?_alloc_new (w := w3) _ _ _
  have x1 : (w3.alloc (.cells #[.int .i64 h.next, .slice A5 n5 c5, .slice B5 m5 d5] 29)).cell? ⟨w3.heap.size, 1, none⟩ = some (.slice A5 n5 c5) := World.cell?_alloc_new (w := w3) _ _ _
  have x2 : (w3.alloc (.cells #[.int .i64 h.next, .slice A5 n5 c5, .slice B5 m5 d5] 29)).cell? ⟨w3.heap.size, 2, none⟩ = some (.slice B5 m5 d5) := World.cell?_alloc_new (w := w3) _ _ _
  replace lt0 : _ < (w3.alloc (.cells #[.int .i64 h.next, .slice A5 n5 c5, .slice B5 m5 d5] 29)).heap.size := Nat.lt_of_lt_of_le lt0 (by simp)
  replace lt1 : _ < (w3.alloc (.cells #[.int .i64 h.next, .slice A5 n5 c5, .slice B5 m5 d5] 29)).heap.size := Nat.lt_of_lt_of_le lt1 (by simp)
  replace hg := hg.below ((Below.refl w3.heap.size w3).alloc (Nat.le_refl _) (.cells #[.int .i64 h.next, .slice A5 n5 c5, .slice B5 m5 d5] 29))
  replace h5 := h5.below ((Below.refl w3.heap.size w3).alloc (Nat.le_refl _) (.cells #[.int .i64 h.next, .slice A5 n5 c5, .slice B5 m5 d5] 29))
  replace b := b.alloc b.size (.cells #[.int .i64 h.next, .slice A5 n5 c5, .slice B5 m5 d5] 29)
  have lt5 : w3.heap.size < (w3.alloc (.cells #[.int .i64 h.next, .slice A5 n5 c5, .slice B5 m5 d5] 29)).heap.size := by simp
  generalize hw_w4 : w3.alloc (.cells #[.int .i64 h.next, .slice A5 n5 c5, .slice B5 m5 d5] 29) = w4 at *
  clear hw_w4
  generalize w3.heap.size = H5 at *
  refine (cR5 _ _ _ _ _ h5).mono ?_
  rintro e w5 ⟨rfl, hb5⟩
  replace e0 := (hb5.cell (p := ⟨w.heap.size, 0, none⟩) (World.block_lt_of_cell? _ _ e0)).trans e0
  replace e1 := (hb5.cell (p := ⟨w.heap.size, 1, none⟩) (World.block_lt_of_cell? _ _ e1)).trans e1
  replace e2 := (hb5.cell (p := ⟨w.heap.size, 2, none⟩) (World.block_lt_of_cell? _ _ e2)).trans e2
  replace p0 := (hb5.cell (p := ⟨w.heap.size + 1, 0, none⟩) (World.block_lt_of_cell? _ _ p0)).trans p0
  replace p1 := (hb5.cell (p := ⟨w.heap.size + 1, 1, none⟩) (World.block_lt_of_cell? _ _ p1)).trans p1
  replace x0 := (hb5.cell (p := ⟨H5, 0, none⟩) (World.block_lt_of_cell? _ _ x0)).trans x0
  replace x1 := (hb5.cell (p := ⟨H5, 1, none⟩) (World.block_lt_of_cell? _ _ x1)).trans x1
  replace x2 := (hb5.cell (p := ⟨H5, 2, none⟩) (World.block_lt_of_cell? _ _ x2)).trans x2
  replace lt0 := Nat.lt_of_lt_of_le lt0 hb5.size
  replace lt1 := Nat.lt_of_lt_of_le lt1 hb5.size
  replace lt5 := Nat.lt_of_lt_of_le lt5 hb5.size
  replace hg := hg.below hb5
  replace h5 := h5.below hb5
  replace b := b.trans (hb5.mono b.size)
  clear hb5 cR5
  go_wp2_with fail
  refine (cG2 _ _ _ _ _ h5).mono ?_
  rintro e w6 ⟨A7, c7, B7, d7, rfl, h7, hb7⟩
  replace e0 := (hb7.cell (p := ⟨w.heap.size, 0, none⟩) (World.block_lt_of_cell? _ _ e0)).trans e0
  replace e1 := (hb7.cell (p := ⟨w.heap.size, 1, none⟩) (World.block_lt_of_cell? _ _ e1)).trans e1
  replace e2 := (hb7.cell (p := ⟨w.heap.size, 2, none⟩) (World.block_lt_of_cell? _ _ e2)).trans e2
  replace p0 := (hb7.cell (p := ⟨w.heap.size + 1, 0, none⟩) (World.block_lt_of_cell? _ _ p0)).trans p0
  replace p1 := (hb7.cell (p := ⟨w.heap.size + 1, 1, none⟩) (World.block_lt_of_cell? _ _ p1)).trans p1
  replace x0 := (hb7.cell (p := ⟨H5, 0, none⟩) (World.block_lt_of_cell? _ _ x0)).trans x0
  replace x1 := (hb7.cell (p := ⟨H5, 1, none⟩) (World.block_lt_of_cell? _ _ x1)).trans x1
  replace x2 := (hb7.cell (p := ⟨H5, 2, none⟩) (World.block_lt_of_cell? _ _ x2)).trans x2
  replace lt0 := Nat.lt_of_lt_of_le lt0 hb7.size
  replace lt1 := Nat.lt_of_lt_of_le lt1 hb7.size
  replace lt5 := Nat.lt_of_lt_of_le lt5 hb7.size
  replace hg := hg.below hb7
  replace h5 := h5.below hb7
  replace b := b.trans (hb7.mono b.size)
  clear hb7 cG2
  go_wp2_with fail
  replace e0 : (w6.alloc (.cells #[.int .i64 h.next, .slice A7 n5 c7, .slice B7 m5 d7] 29)).cell? ⟨w.heap.size, 0, none⟩ = some (.int .i64 g.next) := (World.cell?_alloc_lt w6 _ ⟨w.heap.size, 0, none⟩ (World.block_lt_of_cell? _ _ e0)).trans e0
  replace e1 : (w6.alloc (.cells #[.int .i64 h.next, .slice A7 n5 c7, .slice B7 m5 d7] 29)).cell? ⟨w.heap.size, 1, none⟩ = some (.slice A n c) := (World.cell?_alloc_lt w6 _ ⟨w.heap.size, 1, none⟩ (World.block_lt_of_cell? _ _ e1)).trans e1
  replace e2 : (w6.alloc (.cells #[.int .i64 h.next, .slice A7 n5 c7, .slice B7 m5 d7] 29)).cell? ⟨w.heap.size, 2, none⟩ = some (.slice B m d) := (World.cell?_alloc_lt w6 _ ⟨w.heap.size, 2, none⟩ (World.block_lt_of_cell? _ _ e2)).trans e2
  replace p0 : (w6.alloc (.cells #[.int .i64 h.next, .slice A7 n5 c7, .slice B7 m5 d7] 29)).cell? ⟨w.heap.size + 1, 0, none⟩ = some (.int .i64 p.num) := (World.cell?_alloc_lt w6 _ ⟨w.heap.size + 1, 0, none⟩ (World.block_lt_of_cell? _ _ p0)).trans p0
  replace p1 : (w6.alloc (.cells #[.int .i64 h.next, .slice A7 n5 c7, .slice B7 m5 d7] 29)).cell? ⟨w.heap.size + 1, 1, none⟩ = some (.int .u32 p.val) := (World.cell?_alloc_lt w6 _ ⟨w.heap.size + 1, 1, none⟩ (World.block_lt_of_cell? _ _ p1)).trans p1
  replace x0 : (w6.alloc (.cells #[.int .i64 h.next, .slice A7 n5 c7, .slice B7 m5 d7] 29)).cell? ⟨H5, 0, none⟩ = some (.int .i64 h.next) := (World.cell?_alloc_lt w6 _ ⟨H5, 0, none⟩ (World.block_lt_of_cell? _ _ x0)).trans x0
  replace x1 : (w6.alloc (.cells #[.int .i64 h.next, .slice A7 n5 c7, .slice B7 m5 d7] 29)).cell? ⟨H5, 1, none⟩ = some (.slice A5 n5 c5) := (World.cell?_alloc_lt w6 _ ⟨H5, 1, none⟩ (World.block_lt_of_cell? _ _ x1)).trans x1
  replace x2 : (w6.alloc (.cells #[.int .i64 h.next, .slice A7 n5 c7, .slice B7 m5 d7] 29)).cell? ⟨H5, 2, none⟩ = some (.slice B5 m5 d5) := (World.cell?_alloc_lt w6 _ ⟨H5, 2, none⟩ (World.block_lt_of_cell? _ _ x2)).trans x2
  have y0 : (w6.alloc (.cells #[.int .i64 h.next, .slice A7 n5 c7, .slice B7 m5 d7] 29)).cell? ⟨w6.heap.size, 0, none⟩ = some (.int .i64 h.next) := World.cell?_alloc_new (w := w6) _ _ _
  have y1 : (w6.alloc (.cells #[.int .i64 h.next, .slice A7 n5 c7, .slice B7 m5 d7] 29)).cell? ⟨w6.heap.size, 1, none⟩ = some (.slice A7 n5 c7) := World.cell?_alloc_new (w := w6) _ _ _
  have y2 : (w6.alloc (.cells #[.int .i64 h.next, .slice A7 n5 c7, .slice B7 m5 d7] 29)).cell? ⟨w6.heap.size, 2, none⟩ = some (.slice B7 m5 d7) := World.cell?_alloc_new (w := w6) _ _ _
  replace lt0 : _ < (w6.alloc (.cells #[.int .i64 h.next, .slice A7 n5 c7, .slice B7 m5 d7] 29)).heap.size := Nat.lt_of_lt_of_le lt0 (by simp)
  replace lt1 : _ < (w6.alloc (.cells #[.int .i64 h.next, .slice A7 n5 c7, .slice B7 m5 d7] 29)).heap.size := Nat.lt_of_lt_of_le lt1 (by simp)
  replace lt5 : _ < (w6.alloc (.cells #[.int .i64 h.next, .slice A7 n5 c7, .slice B7 m5 d7] 29)).heap.size := Nat.lt_of_lt_of_le lt5 (by simp)
  replace hg := hg.below ((Below.refl w6.heap.size w6).alloc (Nat.le_refl _) (.cells #[.int .i64 h.next, .slice A7 n5 c7, .slice B7 m5 d7] 29))
  replace h5 := h5.below ((Below.refl w6.heap.size w6).alloc (Nat.le_refl _) (.cells #[.int .i64 h.next, .slice A7 n5 c7, .slice B7 m5 d7] 29))
  replace h7 := h7.below ((Below.refl w6.heap.size w6).alloc (Nat.le_refl _) (.cells #[.int .i64 h.next, .slice A7 n5 c7, .slice B7 m5 d7] 29))
  replace b := b.alloc b.size (.cells #[.int .i64 h.next, .slice A7 n5 c7, .slice B7 m5 d7] 29)
  have lt7 : w6.heap.size < (w6.alloc (.cells #[.int .i64 h.next, .slice A7 n5 c7, .slice B7 m5 d7] 29)).heap.size := by simp
  generalize hw_w7 : w6.alloc (.cells #[.int .i64 h.next, .slice A7 n5 c7, .slice B7 m5 d7] 29) = w7 at *
  clear hw_w7
  generalize w6.heap.size = H7 at *
  refine (cE _ _ _ _ _ _ _ _ _ h7 h5).mono ?_
  rintro e w9 ⟨rfl, hb9⟩
  replace b := b.trans (hb9.mono b.size)
  go_wp2_with fail
  go_ret
  exact ⟨rfl, b⟩

theorem window_walk (A B : Option Addr) (c d n m : Nat) (g : Gtr) (p : Pce) (w : World) (hg : GtrIn w A B g) (hn : g.early.length = n) (hm : g.came.length = m) (hp9 : p.num ≤ 9223372036854775807) :
    Calls Try.prog 4 #[.agg #[.int .i64 g.next, .slice A n c, .slice B m d], .agg #[.int .i64 p.num, .int .u32 p.val]] w fun e w' => e = .returned (.bool true) ∧ Below w.heap.size w w' := by
  by_cases h0 : 20 < n
  · exact win_early A B c d n m g p w hg hn hm hp9 h0
  by_cases h1 : 100 < m
  · exact win_came A B c d n m g p w hg hn hm hp9 (by omega) h1
  cases hr : gRight g with
  | false => exact win_wrong A B c d n m g p w hg hn hm hp9 (by omega) (by omega) hr
  | true =>
    by_cases hx : 549755813888 < g.next
    · exact win_far A B c d n m g p w hg hn hm hp9 (by omega) (by omega) hr hx
    by_cases hp : p.num < 0
    · exact win_neg A B c d n m g p w hg hn hm hp9 (by omega) (by omega) hr (by omega) hp
    by_cases hl : p.num < g.next
    · exact win_low A B c d n m g p w hg hn hm hp9 (by omega) (by omega) hr (by omega) (by omega) hl
    by_cases hl2 : g.next + 16 ≤ p.num
    · exact win_high A B c d n m g p w hg hn hm hp9 (by omega) (by omega) hr (by omega) (by omega) (by omega) hl2
    exact win_in A B c d n m g p w hg hn hm hp9 (by omega) (by omega) hr (by omega) (by omega) (by omega) (by omega)
theorem window_row (A : Option Addr) (c : Nat) (B : Option Addr) (d : Nat) (g : Gtr) (p : Pce) (w : World) (hg : GtrIn w A B g) (hp9 : p.num ≤ 9223372036854775807) :
    Calls Try.prog 4 #[.agg #[.int .i64 g.next, .slice A g.early.length c, .slice B g.came.length d], .agg #[.int .i64 p.num, .int .u32 p.val]] w fun e w' => e = .returned (.bool true) ∧ Below w.heap.size w w' :=
  window_walk A B c d _ _ g p w hg rfl rfl hp9
end Go.Proofs.Ytjnpdicoopgkoaa
