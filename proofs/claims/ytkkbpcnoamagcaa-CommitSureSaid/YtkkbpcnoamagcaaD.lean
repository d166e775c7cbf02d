/- Walks of commit's inner functions: below. -/
import Derived.Test.YtkkbpcnoamagcaaC
namespace Go.Proofs.Ytkkbpcnoamagcaa
open Go.RowKit Go.Lib

theorem lit3_any (x : Hld) (n : Int) (B : Nat) (w : World) (hc : w.cell? ⟨B, 0, none⟩ = some (.int .i64 n)) (hB : B < w.heap.size) :
    Calls Try.prog 31 #[.agg #[.int .i64 x.core, .int .u32 x.val, .int .i64 x.span], .pointer (some ⟨B, 0, none⟩)] w fun e w' => e = .returned (.bool (decide (n ≤ x.span))) ∧ Below w.heap.size w w' := by
  have hne : B ≠ w.heap.size := by omega
  go_enter Try.func31, Try.ntmps31
  go_wp2
  go_ret
  exact ⟨rfl, (Below.refl _ _).alloc (Nat.le_refl _) _⟩
theorem lit3_pred (n : Int) (B : Nat) (w : World) (hc : w.cell? ⟨B, 0, none⟩ = some (.int .i64 n)) (hB : B < w.heap.size) :
    PredBelow Try.prog 31 #[.pointer (some ⟨B, 0, none⟩)] (fun x => .agg (Hld.enc x).toArray) (fun x => decide (n ≤ x.span)) w := fun W x hb => by
  have h := lit3_any x n B W ((hb.cell (p := ⟨B, 0, none⟩) hB).trans hc) (Nat.lt_of_lt_of_le hB hb.size)
  exact h.mono fun e w' ⟨he, hb'⟩ => ⟨he, hb.trans (hb'.mono hb.size)⟩

/-- How many stand ahead of the first one of an interval from n on. -/
def belowN (h : List Hld) (n : Int) : Nat := (h.takeWhile fun x => decide (x.span < n)).length
theorem belowN_le (h : List Hld) (n : Int) : belowN h n ≤ h.length := (List.takeWhile_prefix _).length_le

theorem idx_below (h : List Hld) (n : Int) : Lib.idxBy (fun (_ : Hld) (y : Hld) => decide (n ≤ y.span)) h default = if belowN h n < h.length then (belowN h n : Int) else -1 := by
  have gen : ∀ (zs : List Hld) (i : Nat), Lib.idxByFrom (fun (_ : Hld) (y : Hld) => decide (n ≤ y.span)) default zs i = if belowN zs n < zs.length then ((i + belowN zs n : Nat) : Int) else -1 := by
    intro zs
    induction zs with
    | nil => intro i; simp [Lib.idxByFrom, belowN]
    | cons z zs ih =>
      intro i
      by_cases hz : n ≤ z.span
      · have h1 : ¬ z.span < n := by omega
        simp [Lib.idxByFrom, belowN, hz, h1]
      · have h1 : z.span < n := by omega
        have h2 : belowN (z :: zs) n = belowN zs n + 1 := by simp [belowN, h1]
        simp only [Lib.idxByFrom, hz, decide_false, Bool.false_eq_true, if_false]
        rw [ih (i + 1), h2, List.length_cons]
        by_cases h3 : belowN zs n < zs.length
        · rw [if_pos h3, if_pos (by omega)]; congr 1; omega
        · rw [if_neg h3, if_neg (by omega)]
  have := gen h 0
  simpa [Lib.idxBy] using this

set_option maxHeartbeats 1000000 in
theorem below_any (A B : Option Addr) (c d n m : Nat) (k : Int) (h : List Hld) (t : List Tld) (w : World) (hg : GateIn w A B h t) (hn : h.length = n) :
    Calls Try.prog 22 #[.agg #[.slice A n c, .slice B m d], .int .i64 k] w fun e w' => e = .returned (.int .i64 (belowN h k)) ∧ Below w.heap.size w w' := by
  have hb0 : Below w.heap.size w ((w.alloc (.cells #[.slice A n c, .slice B m d] 25)).alloc (.cells #[.int .i64 k] 3)) := ((Below.refl _ _).alloc (Nat.le_refl _) _).alloc (by simp) _
  have cI := indexFunc_any 31 #[.pointer (some ⟨w.heap.size + 1, 0, none⟩)] _ (enters_of Try.func31 (by kernel_rfl) rfl) A c n h _ (lit3_pred k (w.heap.size + 1) ((w.alloc (.cells #[.slice A n c, .slice B m d] 25)).alloc (.cells #[.int .i64 k] 3)) (by go_simp) (by simp)) (hg.held.below hb0) hn
  rw [idx_below, hn] at cI
  have hle := belowN_le h k
  have hbig := hg.held.big
  rw [hn] at hle hbig
  clear hg
  generalize belowN h k = r at *
  by_cases hlt : r < n
  · rw [if_pos hlt] at cI
    go_enter Try.func22, Try.ntmps22
    go_wp2_with (go_at_call 30; refine cI.mono ?_; rintro e w1 ⟨rfl, hb1⟩)
    go_ret
    exact ⟨rfl, hb0.trans (hb1.mono hb0.size)⟩
  · rw [if_neg hlt] at cI
    obtain rfl : r = n := by omega
    go_enter Try.func22, Try.ntmps22
    go_wp2_with (go_at_call 30; refine cI.mono ?_; rintro e w1 ⟨rfl, hb1⟩; have e0 : w1.cell? ⟨w.heap.size, 0, none⟩ = some (.slice A r c) := (hb1.cell (p := ⟨w.heap.size, 0, none⟩) (by simp; omega)).trans (by go_simp))
    go_ret
    exact ⟨rfl, hb0.trans (hb1.mono hb0.size)⟩

structure Gt where
  held : List Hld
  out : List Tld
  deriving DecidableEq, Inhabited
def Hld.told (x : Hld) : Tld := ⟨x.core, x.val⟩
def lateB (h : List Hld) (n : Int) : Bool := decide (0 < h.length ∧ n < h[h.length - 1]!.span)
def tellG (g : Gt) (n : Int) (t : Tld) : Gt × Int :=
  if rightB g.held = false ∨ spanB n = false ∨ lateB g.held n = true then (g, 1)
  else if g.held.length = 64 then (g, 6)
  else (⟨g.held ++ [⟨t.core, t.val, n⟩], g.out⟩, 0)
def sureG (g : Gt) (n : Int) : Gt × Int :=
  if rightB g.held = false ∨ spanB n = false then (g, 1)
  else (⟨g.held.drop (belowN g.held n), g.out ++ (g.held.take (belowN g.held n)).map Hld.told⟩, 0)
def backG (g : Gt) (n : Int) : Gt × Int :=
  if rightB g.held = false ∨ spanB n = false then (g, 1)
  else (⟨g.held.take (belowN g.held n), g.out⟩, 0)
def allG (g : Gt) : List Tld := g.out ++ g.held.map Hld.told
/-- A gate that a call hands back, and an error. -/
def Gave (w : World) (g : Gt) (k : Int) (e : Ending) (w' : World) : Prop :=
  ∃ A c B d, e = .returned (.tuple #[.agg #[.slice A g.held.length c, .slice B g.out.length d], .int .i64 k]) ∧ GateIn w' A B g.held g.out ∧ Below w.heap.size w w'

theorem own_cap {w : World} {base e k n c : Nat} {A : Option Addr} {cs : List Value} (h : w.ownsRow base e k (.slice A n c) n cs) : n ≤ c ∧ c ≤ maxLen := by
  rcases h.2 with ⟨h0, _⟩ | ⟨g', cap, cur, hv, hb, hh, hn, hm, hs, ht⟩
  · injection h0 with e1 e2 e3
    subst e3; subst e2
    exact ⟨Nat.le_refl _, Nat.zero_le _⟩
  · injection hv with e1 e2 e3
    subst e3
    exact ⟨hn, hm⟩
/-- The same, of memory that the call made. -/
def GaveF (w : World) (g : Gt) (k : Int) (e : Ending) (w' : World) : Prop :=
  ∃ A c B d, e = .returned (.tuple #[.agg #[.slice A g.held.length c, .slice B g.out.length d], .int .i64 k]) ∧ GateIn w' A B g.held g.out ∧ Below w.heap.size w w' ∧ (∀ a, A = some a → w.heap.size ≤ a.block) ∧ (∀ a, B = some a → w.heap.size ≤ a.block) ∧ g.out.length ≤ d
theorem GaveF.gave {w w' : World} {g : Gt} {k : Int} {e : Ending} (h : GaveF w g k e w') : Gave w g k e w' := by
  obtain ⟨A, c, B, d, h1, h2, h3, _, _, _⟩ := h
  exact ⟨A, c, B, d, h1, h2, h3⟩
theorem own_fresh {w : World} {b base e k n c : Nat} {A : Option Addr} {cs : List Value} (h : w.ownsRow base e k (.slice A n c) n cs) (hb : b ≤ base) : ∀ a, A = some a → b ≤ a.block := fun a e => by
  subst e
  have := h.lt a.block rfl
  omega

theorem rightB_at {h : List Hld} (hr : rightB h = true) (j : Nat) (hj : j < h.length) : 0 ≤ h[j]!.span ∧ h[j]!.span ≤ 1099511627776 := by
  simp only [rightB, Bool.and_eq_true, List.all_eq_true] at hr
  have := hr.2.1 h[j] (List.getElem_mem hj)
  rw [getElem!_pos h j hj]
  simpa [spanB] using this
theorem rightB_len {h : List Hld} (hr : rightB h = true) : h.length ≤ 64 := by
  simp only [rightB, Bool.and_eq_true, decide_eq_true_eq] at hr
  exact hr.1

end Go.Proofs.Ytkkbpcnoamagcaa
