/- A cache that is read: slices of slices; the walk of formed; a map[int]bool of the call's own as a set. -/
import Derived.Test.YtdndanjabknjpaaA
import Derived.Test.YtdndanjabknjpaaLibD
import Derived.Maps.OwnSet
import Derived.Maps.Views
namespace Go.Proofs.Ytdndanjabknjpaa
open Go.RowKit Go.Lib

set_option linter.unusedVariables false
/-- A slice's three words. -/
structure Hd where
  addr : Option Addr
  len : Nat
  cap : Nat
  deriving Inhabited
def Hd.val (h : Hd) : Value := .slice h.addr h.len h.cap
def Hd.enc (h : Hd) : List Value := [.slice h.addr h.len h.cap]
theorem Hd.enc_len (h : Hd) : (Hd.enc h).length = 1 := rfl
theorem Hd.enc_one (h : Hd) : ∀ u ∈ Hd.enc h, u.oneCell' = true := by
  intro u hu
  simp [Hd.enc] at hu
  subst hu; rfl
theorem info40 : (Try.prog.info? 40).map (fun i => (i.zero, i.size, i.bytes)) = some (some (.slice none 0 0), 1, 24) := by kernel_rfl
/-- The slice of slices at A reads as ls. -/
structure CIn (w : World) (A : Option Addr) (ls : List (List Ln)) (hs : List Hd) : Prop where
  outer : Sl 1 Hd.enc w A hs
  len : hs.length = ls.length
  inner : ∀ j, j < ls.length → hs[j]!.len = ls[j]!.length ∧ hs[j]!.len ≤ hs[j]!.cap ∧ (hs[j]!.addr = none → hs[j]!.cap = 0) ∧ Sl 4 Ln.enc w hs[j]!.addr ls[j]!
theorem CIn.below {w w' : World} {A : Option Addr} {ls : List (List Ln)} {hs : List Hd} (h : CIn w A ls hs) (hb : Below w.heap.size w w') : CIn w' A ls hs :=
  ⟨h.outer.below hb, h.len, fun j hj => ⟨(h.inner j hj).1, (h.inner j hj).2.1, (h.inner j hj).2.2.1, (h.inner j hj).2.2.2.below hb⟩⟩
theorem CIn.nil (w : World) (A : Option Addr) : CIn w A [] [] := ⟨Sl.nil _ _ _ _, rfl, fun j hj => absurd hj (Nat.not_lt_zero _)⟩
/-- The header of one set. -/
theorem CIn.at_ {w : World} {A : Option Addr} {ls : List (List Ln)} {hs : List Hd} (h : CIn w A ls hs) (j : Nat) (hj : j < ls.length) :
    ∃ b off B m c, A = some ⟨b, off, none⟩ ∧ w.cell? ⟨b, off + j, none⟩ = some (.slice B m c) ∧ ls[j]!.length = m ∧ m ≤ c ∧ (B = none → c = 0) ∧ Sl 4 Ln.enc w B ls[j]! := by
  obtain ⟨b, off, e, hc⟩ := h.outer.at_ j (by rw [h.len]; exact hj)
  obtain ⟨h1, h2, h3, h4⟩ := h.inner j hj
  have := hc 0 _ rfl
  rw [Nat.mul_one, Nat.add_zero] at this
  exact ⟨b, off, hs[j]!.addr, hs[j]!.len, hs[j]!.cap, e, this, h1.symm, h2, h3, h4⟩
structure Ca where
  sets : Int
  ways : Int
  clock : Int
  lines : List (List Ln)
  deriving DecidableEq, Inhabited
def formedB (x : Ca) : Bool := decide (1 ≤ x.sets ∧ x.sets ≤ 8 ∧ 1 ≤ x.ways ∧ x.ways ≤ 8 ∧ 0 ≤ x.clock ∧ x.clock ≤ 1099511627776 ∧ (x.lines.length : Int) = x.sets)
/-- A map[int]bool of the call's own, as the numbers that are in it. -/
def Seen (w : World) (b n : Nat) (ks : List Int) : Prop :=
  ∃ D : DataW Unit, w.ownsMap Try.prog 3 (plainElem Try.prog 4) b n D ∧ ∀ x : Int, D.atKey (.int .i64 x) (.lit (.bool false)) = .lit (.bool (decide (x ∈ ks)))
theorem kint : Maps.Keyed Try.prog 3 := Maps.int_keyed Try.underlying3
theorem zero4 (w : World) : (zeroValue 4).run Try.prog w = .ok (.bool false) w := by kernel_rfl
theorem Seen.made (w : World) : Seen (w.alloc (.map #[] 0)) w.heap.size 0 [] := ⟨.map [], World.ownsMap_made w _ _ _, fun x => rfl⟩
theorem Seen.lt {w : World} {b n : Nat} {ks : List Int} (h : Seen w b n ks) : b < w.heap.size := by
  obtain ⟨D, h1, _⟩ := h
  exact h1.lt
theorem Seen.below {w w' : World} {b n : Nat} {ks : List Int} (h : Seen w b n ks) (hb : Below w.heap.size w w') : Seen w' b n ks := by
  obtain ⟨D, h1, h2⟩ := h
  exact ⟨D, h1.kept (row := none) ⟨hb.os, hb.tape, hb.output, hb.size, fun i hi _ => hb.block i hi⟩ (by simp), h2⟩
theorem Seen.grown {w w' : World} {b n r : Nat} {ks : List Int} (h : Seen w b n ks) (hg : w.grownBy w' (some r)) (hr : r ≠ b) : Seen w' b n ks := by
  obtain ⟨D, h1, h2⟩ := h
  exact ⟨D, h1.kept hg (by simpa using Ne.symm hr), h2⟩
set_option maxRecDepth 100000 in
theorem Seen.lookup {w : World} {b n : Nat} {ks : List Int} (h : Seen w b n ks) {x : Int} (hx : (Lit.int .i64 x).wf = true) : (Instr.lookup 74 (.map (some b)) (.int .i64 x) false).run Try.prog w = .ok (.bool (decide (x ∈ ks))) w := by
  obtain ⟨D, h1, h2⟩ := h
  obtain ⟨v, ps, hrun, hv⟩ := h1.lookup (t := 74) kint Try.underlying74 (zero4 w) (plainElem_bool Try.underlying4 false) (Maps.keyOf_int_mk Try.underlying3 hx)
  rw [h2 x] at hv
  rw [hrun]
  unfold plainElem at hv
  rw [Try.underlying4] at hv
  cases v <;> simp at hv
  rw [hv.1]
theorem wf_int {x : Int} (h0 : -9223372036854775808 ≤ x) (h1 : x ≤ 9223372036854775807) : (Lit.int .i64 x).wf = true := by
  simp [Lit.wf, IntKind.min, IntKind.max, IntKind.signed, IntKind.bits]
  omega
theorem Seen.update {w : World} {b n : Nat} {ks : List Int} (h : Seen w b n ks) {x : Int} (hx : (Lit.int .i64 x).wf = true) (hn : n < maxLen) :
    ∃ w', (Instr.mapUpdate 74 (.map (some b)) (.int .i64 x) (.bool true)).run Try.prog w = .ok () w' ∧ Seen w' b (n + 1) (x :: ks) ∧ w.grownBy w' (some b) := by
  obtain ⟨D, h1, h2⟩ := h
  obtain ⟨w', hrun, h3, h4⟩ := h1.update (t := 74) kint Try.underlying74 hn (Maps.keyOf_int_mk Try.underlying3 hx) (plainElem_bool (H := Unit) Try.underlying4 true)
  refine ⟨w', hrun, ⟨_, h3, fun y => ?_⟩, h4⟩
  by_cases e : y = x
  · subst e
    rw [Maps.atKey_put_same h1.isMap (show WideAt.IsKeyLit (.int .i64 y) from trivial)]
    simp
  · rw [Maps.atKey_put_other (by simpa using e), h2 y]
    simp [e]

set_option maxHeartbeats 8000000 in
theorem formed_any (A : Option Addr) (c n : Nat) (x : Ca) (w : World) (hn : x.lines.length = n) :
    Calls Try.prog 38 #[.agg #[.int .i64 x.sets, .int .i64 x.ways, .int .i64 x.clock, .slice A n c]] w fun e w' => e = .returned (.bool (formedB x)) ∧ Below w.heap.size w w' := by
  have b0 : Below w.heap.size w (w.alloc (.cells #[.int .i64 x.sets, .int .i64 x.ways, .int .i64 x.clock, .slice A n c] 26)) := (Below.refl _ _).alloc (Nat.le_refl _) _
  have hf : formedB x = decide (1 ≤ x.sets ∧ x.sets ≤ 8 ∧ 1 ≤ x.ways ∧ x.ways ≤ 8 ∧ 0 ≤ x.clock ∧ x.clock ≤ 1099511627776 ∧ (n : Int) = x.sets) := by unfold formedB; rw [hn]
  rw [hf]
  clear hf hn
  by_cases h0 : 1 ≤ x.sets
  · by_cases h1 : x.sets ≤ 8
    · by_cases h2 : 1 ≤ x.ways
      · by_cases h3 : x.ways ≤ 8
        · by_cases h4 : 0 ≤ x.clock
          · by_cases h5 : x.clock ≤ 1099511627776
            · by_cases h6 : (n : Int) = x.sets
              · rw [decide_eq_true (show _ from ⟨h0, h1, h2, h3, h4, h5, h6⟩)]
                have z0 : decide (1 ≤ x.sets) = true := decide_eq_true h0
                have z1 : decide (x.sets ≤ 8) = true := decide_eq_true h1
                have z2 : decide (1 ≤ x.ways) = true := decide_eq_true h2
                have z3 : decide (x.ways ≤ 8) = true := decide_eq_true h3
                have z4 : decide (0 ≤ x.clock) = true := decide_eq_true h4
                have z5 : decide (x.clock ≤ 1099511627776) = true := decide_eq_true h5
                have z6 : ((n : Int) == x.sets) = true := by rw [beq_iff_eq]; exact h6
                go_enter Try.func38, Try.ntmps38
                go_wp2_with fail
                go_ret
                exact ⟨by simp, b0⟩
              · rw [decide_eq_false (fun hh => h6 (by obtain ⟨a0, a1, a2, a3, a4, a5, a6⟩ := hh; exact a6))]
                have z0 : decide (1 ≤ x.sets) = true := decide_eq_true h0
                have z1 : decide (x.sets ≤ 8) = true := decide_eq_true h1
                have z2 : decide (1 ≤ x.ways) = true := decide_eq_true h2
                have z3 : decide (x.ways ≤ 8) = true := decide_eq_true h3
                have z4 : decide (0 ≤ x.clock) = true := decide_eq_true h4
                have z5 : decide (x.clock ≤ 1099511627776) = true := decide_eq_true h5
                have z6 : ((n : Int) == x.sets) = false := by rw [beq_eq_false_iff_ne]; exact h6
                go_enter Try.func38, Try.ntmps38
                go_wp2_with fail
                go_ret
                exact ⟨by simp, b0⟩
            · rw [decide_eq_false (fun hh => h5 (by obtain ⟨a0, a1, a2, a3, a4, a5, a6⟩ := hh; exact a5))]
              have z0 : decide (1 ≤ x.sets) = true := decide_eq_true h0
              have z1 : decide (x.sets ≤ 8) = true := decide_eq_true h1
              have z2 : decide (1 ≤ x.ways) = true := decide_eq_true h2
              have z3 : decide (x.ways ≤ 8) = true := decide_eq_true h3
              have z4 : decide (0 ≤ x.clock) = true := decide_eq_true h4
              have z5 : decide (x.clock ≤ 1099511627776) = false := decide_eq_false h5
              go_enter Try.func38, Try.ntmps38
              go_wp2_with fail
              go_ret
              exact ⟨by simp, b0⟩
          · rw [decide_eq_false (fun hh => h4 (by obtain ⟨a0, a1, a2, a3, a4, a5, a6⟩ := hh; exact a4))]
            have z0 : decide (1 ≤ x.sets) = true := decide_eq_true h0
            have z1 : decide (x.sets ≤ 8) = true := decide_eq_true h1
            have z2 : decide (1 ≤ x.ways) = true := decide_eq_true h2
            have z3 : decide (x.ways ≤ 8) = true := decide_eq_true h3
            have z4 : decide (0 ≤ x.clock) = false := decide_eq_false h4
            go_enter Try.func38, Try.ntmps38
            go_wp2_with fail
            go_ret
            exact ⟨by simp, b0⟩
        · rw [decide_eq_false (fun hh => h3 (by obtain ⟨a0, a1, a2, a3, a4, a5, a6⟩ := hh; exact a3))]
          have z0 : decide (1 ≤ x.sets) = true := decide_eq_true h0
          have z1 : decide (x.sets ≤ 8) = true := decide_eq_true h1
          have z2 : decide (1 ≤ x.ways) = true := decide_eq_true h2
          have z3 : decide (x.ways ≤ 8) = false := decide_eq_false h3
          go_enter Try.func38, Try.ntmps38
          go_wp2_with fail
          go_ret
          exact ⟨by simp, b0⟩
      · rw [decide_eq_false (fun hh => h2 (by obtain ⟨a0, a1, a2, a3, a4, a5, a6⟩ := hh; exact a2))]
        have z0 : decide (1 ≤ x.sets) = true := decide_eq_true h0
        have z1 : decide (x.sets ≤ 8) = true := decide_eq_true h1
        have z2 : decide (1 ≤ x.ways) = false := decide_eq_false h2
        go_enter Try.func38, Try.ntmps38
        go_wp2_with fail
        go_ret
        exact ⟨by simp, b0⟩
    · rw [decide_eq_false (fun hh => h1 (by obtain ⟨a0, a1, a2, a3, a4, a5, a6⟩ := hh; exact a1))]
      have z0 : decide (1 ≤ x.sets) = true := decide_eq_true h0
      have z1 : decide (x.sets ≤ 8) = false := decide_eq_false h1
      go_enter Try.func38, Try.ntmps38
      go_wp2_with fail
      go_ret
      exact ⟨by simp, b0⟩
  · rw [decide_eq_false (fun hh => h0 (by obtain ⟨a0, a1, a2, a3, a4, a5, a6⟩ := hh; exact a0))]
    have z0 : decide (1 ≤ x.sets) = false := decide_eq_false h0
    go_enter Try.func38, Try.ntmps38
    go_wp2_with fail
    go_ret
    exact ⟨by simp, b0⟩
end Go.Proofs.Ytdndanjabknjpaa
