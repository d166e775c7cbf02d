/- Walks of the library's functions that due calls: Clone, IndexFunc; less, may. -/
import Derived.Test.YtimhdkgllgdamaaProg
import Derived.Test.YtimhdkgllgdamaaLibB
import Derived.WalkKit
import Derived.WalkSpells
import Derived.WalkLawsBesides
import Derived.Laws.EntriesVeiled
import Derived.Deep.QuietTactic
import Derived.BigQuiet
import Derived.Deep.LoopGhost
import Derived.Shelf.GgClosure.Gives
import Derived.Shelf.SlicesQ.IndexFunc
import Derived.Lib.SliceRun
import Derived.Lib.Walk
import Derived.StillTailTactics
import Derived.IntWalk
import Derived.Deep.RegionHeld3
import Derived.Deep.DeepCutAuto
import Derived.Deep.CutBlock
import Derived.Laws.MakeOwn
import Derived.OneCell
namespace Go.Proofs.Ytimhdkgllgdamaa
open Go.RowKit Go.Lib

structure Du where
  when_ : Int
  which : Int
  deriving DecidableEq, Inhabited
def Du.enc (c : Du) : List Value := [.int .i64 c.when_, .int .i64 c.which]
theorem Du.enc_len (x : Du) : (Du.enc x).length = 2 := rfl
theorem Du.enc_one (x : Du) : ∀ u ∈ Du.enc x, u.oneCell' = true := by
  intro u hu
  simp [Du.enc] at hu
  rcases hu with rfl | rfl <;> rfl
theorem info30 : (Try.prog.info? 30).map (fun i => (i.zero, i.size, i.bytes)) = some (some (.agg #[.int .i64 0, .int .i64 0]), 2, 16) := by kernel_rfl

set_option maxHeartbeats 2000000 in
set_option maxRecDepth 100000 in
theorem clone_any (A : Option Addr) (c n : Nat) (l : List Du) (w : World) (hs : Sl 2 Du.enc w A l) (hn : l.length = n) (hsmall : n ≤ 1000000) :
    Calls Try.prog 21 #[.slice A n c] w fun e w' => ∃ v', e = .returned v' ∧ w'.ownsRow w.heap.size 30 2 v' n (l.flatMap Du.enc) ∧ Below w.heap.size w w' := by
  obtain ⟨i0, hi, hz0, hz1, hz2⟩ := info_parts info30
  have q22 : ∀ (w : World) (a : Option Addr) (n c n' c' : Nat), (binOp .eql 24 (.slice a n c) (.slice none n' c')).run Try.prog w = .ok (.bool a.isNone) w := fun w a n c n' c' => Lib.run_eql_slice_nil w _ _ a n c n' c' Try.underlying24
  have u22 : ∀ w, Sem.run Try.prog (underlying 24) w = .ok (TypeDesc.slice 30) w := run_underlying Try.underlying24
  cases A with
  | none =>
    have : l = [] := by
      by_cases h : l = []
      · exact h
      · obtain ⟨b, off, e, _⟩ := hs.cell h
        simp at e
    subst this
    subst hn
    go_enter Try.func21, Try.ntmps21
    go_wp2
    go_ret
    exact ⟨_, rfl, World.ownsRow_nil _ _ _ _, Below.refl _ _⟩
  | some ad =>
    have hs' := hs.below (bnew (T := 30) (cs := #[]))
    have HS := Lib.hid hs'
    have HN := Lib.hid hn
    clear hs hs' hn
    go_enter Try.func21, Try.ntmps21
    go_wp2_with (at_builtin; refine wpList_append_sl _ rfl _ _ 24 rfl w.heap.size 30 i0 _ 2 16 Try.underlying24 hi hz0 hz1 hz2 rfl (by decide) _ _ _ rfl (World.ownsRow_made w #[] 0 (Nat.le_refl _) (Nat.zero_le _) (by simp)) Du.enc Du.enc_len Du.enc_one (some ad) n c l rfl HN.out HS.out ?p2 ?p3 ?p4 ?_)
    case p2 => unfold maxLen; omega
    case p3 => omega
    case p4 => simp
    intro v' w1 hown hgrow hat
    have hb : Below w.heap.size w w1 := below_append (k := 2) bnew hgrow (by simp) (World.ownsRow_made w #[] 0 (Nat.le_refl _) (Nat.zero_le _) (by simp)) (Nat.le_refl _)
    clear hgrow hat
    go_wp2
    go_ret
    exact ⟨v', rfl, by simpa using hown, hb⟩

set_option maxHeartbeats 1000000 in
theorem indexFunc_any (g : Nat) (lb : Array Value) (p : Du → Bool) (eg : ∀ args w, (callFunc g args).run Try.prog w = .ok (.enter g args) w) (A : Option Addr) (c n : Nat) (zs : List Du) (w : World)
    (hp : PredBelow Try.prog g lb (fun x => .agg (Du.enc x).toArray) p w) (hs : Sl 2 Du.enc w A zs) (hn : zs.length = n) :
    Calls Try.prog 35 #[.slice A n c, .func (.func g) #[] lb] w fun e w' => e = .returned (.int .i64 (Lib.idxBy (fun _ y => p y) zs default)) ∧ Below w.heap.size w w' := by
  subst hn
  have hbig := hs.big
  have HC := Lib.hid hs
  clear hs
  go_enter Try.func35, Try.ntmps35
  go_wp2
  go_loopg [5, 8] zs.length (fun gg _ s8 wr => ∃ kk : Nat, kk ≤ zs.length ∧ zs.length - kk ≤ gg ∧ s8 = .int .i64 kk ∧ Aside (Below w.heap.size w wr) ∧ Aside (∀ j, j < kk → p zs[j]! = false))
  case atStart => exact ⟨0, Nat.zero_le _, by omega, rfl, Below.refl _ w, fun j hj => absurd hj (Nat.not_lt_zero _)⟩
  case round =>
    obtain ⟨kk, hkk, hg, rfl, BW, AA⟩ := hrel
    by_cases hlt : kk < zs.length
    · have hltz : (kk : Int) < (zs.length : Int) := by omega
      obtain ⟨b, off, rfl, hq0⟩ := HC.out.at_ kk hlt
      have q0 := hq0 0 _ rfl
      have q1 := hq0 1 _ rfl
      rw [Nat.add_zero] at q0
      rw [← BW.out.cell (World.block_lt_of_cell? w _ q0)] at q0
      rw [← BW.out.cell (World.block_lt_of_cell? w _ q1)] at q1
      have hcall := hp wr zs[kk]! BW.out
      clear hp hq0
      generalize hy : zs[kk]! = y at q0 q1 hcall
      have B : Aside (zs[kk]! = y) := hy
      clear hy
      cases hq : p y with
      | true =>
        rw [hq] at hcall
        go_wp2_with (go_at_fn g; refine hcall.mono ?_; rintro e w' ⟨rfl, hb'⟩)
        go_ret
        refine ⟨?_, hb'⟩
        have := Lib.idxBy_hit (fun _ y => p y) zs zs.length kk default hlt (Nat.le_refl _) (by show p zs[kk]! = true; rw [B.out]; exact hq) AA.out
        rw [List.take_length] at this
        rw [this]; rfl
      | false =>
        rw [hq] at hcall
        go_wp2_with (go_at_fn g; refine hcall.mono ?_; rintro e w' ⟨rfl, hb'⟩)
        go_roundg (zs.length - (kk + 1))
        case measure => omega
        case rel =>
          refine ⟨kk + 1, by omega, by omega, by go_num, hb', (show Aside _ from fun j hj => ?_)⟩
          by_cases e : j = kk
          · subst e
            rw [B.out]; exact hq
          · exact AA.out j (by omega)
    · have hltz : ¬ (kk : Int) < (zs.length : Int) := by omega
      have : kk = zs.length := by omega
      subst this
      go_wp2
      go_ret
      refine ⟨?_, BW.out⟩
      have := Lib.idxBy_miss (fun _ y => p y) zs zs.length default AA.out
      rw [List.take_length] at this
      rw [this]; rfl

def lessD (a b : Du) : Bool := decide (a.when_ < b.when_ ∨ (a.when_ = b.when_ ∧ a.which < b.which))
def mayD (d : Du) : Bool := decide (0 ≤ d.when_ ∧ d.when_ ≤ 1099511627776 ∧ 0 ≤ d.which ∧ d.which ≤ 1099511627776)
def BW2 (w : World) : World := w

set_option maxHeartbeats 1000000 in
theorem less_any (a b : Du) (w : World) : Calls Try.prog 28 #[.agg #[.int .i64 a.when_, .int .i64 a.which], .agg #[.int .i64 b.when_, .int .i64 b.which]] w fun e w' => e = .returned (.bool (lessD a b)) ∧ Below w.heap.size w w' := by
  have b0 : Below w.heap.size w ((w.alloc (.cells #[.int .i64 a.when_, .int .i64 a.which] 30)).alloc (.cells #[.int .i64 b.when_, .int .i64 b.which] 30)) := ((Below.refl _ _).alloc (Nat.le_refl _) _).alloc (by simp) _
  rcases (show a.when_ < b.when_ ∨ (¬ a.when_ < b.when_ ∧ a.when_ ≠ b.when_) ∨ a.when_ = b.when_ by omega) with h1 | h1 | h1
  · have hr : lessD a b = true := by simp only [lessD]; rw [decide_eq_true_iff]; omega
    have z1 : decide (a.when_ < b.when_) = true := decide_eq_true h1
    have z2 : (a.when_ != b.when_) = true := by rw [bne_iff_ne]; omega
    rw [hr]
    clear hr h1
    go_enter Try.func28, Try.ntmps28
    go_wp2_with fail
    go_ret
    exact ⟨by simp, b0⟩
  · have hr : lessD a b = false := by simp only [lessD]; rw [decide_eq_false_iff_not]; omega
    obtain ⟨h1, h2⟩ := h1
    have z1 : decide (a.when_ < b.when_) = false := decide_eq_false h1
    have z2 : (a.when_ == b.when_) = false := by rw [beq_eq_false_iff_ne]; exact h2
    have z3 : (a.when_ != b.when_) = true := by rw [bne_iff_ne]; exact h2
    rw [hr]
    clear hr h1 h2
    go_enter Try.func28, Try.ntmps28
    go_wp2_with fail
    go_ret
    exact ⟨by simp, b0⟩
  · have hr : lessD a b = (decide (a.which < b.which)) := by simp only [lessD]; rw [decide_eq_decide]; omega
    have z1 : decide (a.when_ < b.when_) = false := decide_eq_false (by omega)
    have z2 : (a.when_ == b.when_) = true := by rw [beq_iff_eq]; exact h1
    have z3 : (a.when_ != b.when_) = false := by rw [bne_eq_false_iff_eq]; exact h1
    rw [hr]
    clear hr h1
    go_enter Try.func28, Try.ntmps28
    go_wp2_with fail
    go_ret
    exact ⟨by simp, b0⟩

set_option maxHeartbeats 1000000 in
theorem ahead_any (a b : Du) (w : World) : Calls Try.prog 34 #[.agg #[.int .i64 a.when_, .int .i64 a.which], .agg #[.int .i64 b.when_, .int .i64 b.which]] w fun e w' => e = .returned (.bool (lessD a b)) ∧ Below w.heap.size w w' := by
  have b0 : Below w.heap.size w ((w.alloc (.cells #[.int .i64 a.when_, .int .i64 a.which] 30)).alloc (.cells #[.int .i64 b.when_, .int .i64 b.which] 30)) := ((Below.refl _ _).alloc (Nat.le_refl _) _).alloc (by simp) _
  rcases (show a.when_ < b.when_ ∨ (¬ a.when_ < b.when_ ∧ a.when_ ≠ b.when_) ∨ a.when_ = b.when_ by omega) with h1 | h1 | h1
  · have hr : lessD a b = true := by simp only [lessD]; rw [decide_eq_true_iff]; omega
    have z1 : decide (a.when_ < b.when_) = true := decide_eq_true h1
    have z2 : (a.when_ != b.when_) = true := by rw [bne_iff_ne]; omega
    rw [hr]
    clear hr h1
    go_enter Try.func34, Try.ntmps34
    go_wp2_with fail
    go_ret
    exact ⟨by simp, b0⟩
  · have hr : lessD a b = false := by simp only [lessD]; rw [decide_eq_false_iff_not]; omega
    obtain ⟨h1, h2⟩ := h1
    have z1 : decide (a.when_ < b.when_) = false := decide_eq_false h1
    have z2 : (a.when_ == b.when_) = false := by rw [beq_eq_false_iff_ne]; exact h2
    have z3 : (a.when_ != b.when_) = true := by rw [bne_iff_ne]; exact h2
    rw [hr]
    clear hr h1 h2
    go_enter Try.func34, Try.ntmps34
    go_wp2_with fail
    go_ret
    exact ⟨by simp, b0⟩
  · have hr : lessD a b = (decide (a.which < b.which)) := by simp only [lessD]; rw [decide_eq_decide]; omega
    have z1 : decide (a.when_ < b.when_) = false := decide_eq_false (by omega)
    have z2 : (a.when_ == b.when_) = true := by rw [beq_iff_eq]; exact h1
    have z3 : (a.when_ != b.when_) = false := by rw [bne_eq_false_iff_eq]; exact h1
    rw [hr]
    clear hr h1
    go_enter Try.func34, Try.ntmps34
    go_wp2_with fail
    go_ret
    exact ⟨by simp, b0⟩

set_option maxHeartbeats 1000000 in
theorem may_any (d : Du) (w : World) : Calls Try.prog 20 #[.agg #[.int .i64 d.when_, .int .i64 d.which]] w fun e w' => e = .returned (.bool (mayD d)) ∧ Below w.heap.size w w' := by
  have b0 : Below w.heap.size w (w.alloc (.cells #[.int .i64 d.when_, .int .i64 d.which] 30)) := (Below.refl _ _).alloc (Nat.le_refl _) _
  by_cases h1 : 0 ≤ d.when_
  · by_cases h2 : d.when_ ≤ 1099511627776
    · by_cases h3 : 0 ≤ d.which
      · by_cases h4 : d.which ≤ 1099511627776
        · have hr : mayD d = true := by simp only [mayD]; rw [decide_eq_true_iff]; omega
          rw [hr]
          clear hr
          go_enter Try.func20, Try.ntmps20
          go_wp2_with fail
          go_ret
          exact ⟨by simp, b0⟩
        · have hr : mayD d = false := by simp only [mayD]; rw [decide_eq_false_iff_not]; omega
          rw [hr]
          clear hr
          go_enter Try.func20, Try.ntmps20
          go_wp2_with fail
          go_ret
          exact ⟨by simp, b0⟩
      · have hr : mayD d = false := by simp only [mayD]; rw [decide_eq_false_iff_not]; omega
        rw [hr]
        clear hr
        go_enter Try.func20, Try.ntmps20
        go_wp2_with fail
        go_ret
        exact ⟨by simp, b0⟩
    · have hr : mayD d = false := by simp only [mayD]; rw [decide_eq_false_iff_not]; omega
      rw [hr]
      clear hr
      go_enter Try.func20, Try.ntmps20
      go_wp2_with fail
      go_ret
      exact ⟨by simp, b0⟩
  · have hr : mayD d = false := by simp only [mayD]; rw [decide_eq_false_iff_not]; omega
    rw [hr]
    clear hr
    go_enter Try.func20, Try.ntmps20
    go_wp2_with fail
    go_ret
    exact ⟨by simp, b0⟩

set_option maxHeartbeats 1000000 in
theorem rmay_any (d : Du) (w : World) : Calls Try.prog 30 #[.agg #[.int .i64 d.when_, .int .i64 d.which]] w fun e w' => e = .returned (.bool (mayD d)) ∧ Below w.heap.size w w' := by
  have b0 : Below w.heap.size w (w.alloc (.cells #[.int .i64 d.when_, .int .i64 d.which] 30)) := (Below.refl _ _).alloc (Nat.le_refl _) _
  by_cases h1 : 0 ≤ d.when_
  · by_cases h2 : d.when_ ≤ 1099511627776
    · by_cases h3 : 0 ≤ d.which
      · by_cases h4 : d.which ≤ 1099511627776
        · have hr : mayD d = true := by simp only [mayD]; rw [decide_eq_true_iff]; omega
          rw [hr]
          clear hr
          go_enter Try.func30, Try.ntmps30
          go_wp2_with fail
          go_ret
          exact ⟨by simp, b0⟩
        · have hr : mayD d = false := by simp only [mayD]; rw [decide_eq_false_iff_not]; omega
          rw [hr]
          clear hr
          go_enter Try.func30, Try.ntmps30
          go_wp2_with fail
          go_ret
          exact ⟨by simp, b0⟩
      · have hr : mayD d = false := by simp only [mayD]; rw [decide_eq_false_iff_not]; omega
        rw [hr]
        clear hr
        go_enter Try.func30, Try.ntmps30
        go_wp2_with fail
        go_ret
        exact ⟨by simp, b0⟩
    · have hr : mayD d = false := by simp only [mayD]; rw [decide_eq_false_iff_not]; omega
      rw [hr]
      clear hr
      go_enter Try.func30, Try.ntmps30
      go_wp2_with fail
      go_ret
      exact ⟨by simp, b0⟩
  · have hr : mayD d = false := by simp only [mayD]; rw [decide_eq_false_iff_not]; omega
    rw [hr]
    clear hr
    go_enter Try.func30, Try.ntmps30
    go_wp2_with fail
    go_ret
    exact ⟨by simp, b0⟩

theorem which_any (x : Du) (t : Int) (T : Nat) (w : World) (hc : w.cell? ⟨T, 0, none⟩ = some (.int .i64 t)) (hT : T < w.heap.size) :
    Calls Try.prog 36 #[.agg #[.int .i64 x.when_, .int .i64 x.which], .pointer (some ⟨T, 0, none⟩)] w fun e w' => e = .returned (.bool (decide (x.which = t))) ∧ Below w.heap.size w w' := by
  have hne : T ≠ w.heap.size := by omega
  have hc2 : (w.alloc (.cells #[.int .i64 x.when_, .int .i64 x.which] 30)).cell? ⟨T, 0, none⟩ = some (.int .i64 t) := (World.cell?_alloc_lt w _ ⟨T, 0, none⟩ hT).trans hc
  go_enter Try.func36, Try.ntmps36
  go_wp2_with fail
  go_ret
  exact ⟨by simp; rw [Bool.eq_iff_iff]; simp, (Below.refl _ _).alloc (Nat.le_refl _) _⟩
theorem which_pred (t : Int) (T : Nat) (w : World) (hc : w.cell? ⟨T, 0, none⟩ = some (.int .i64 t)) (hT : T < w.heap.size) :
    PredBelow Try.prog 36 #[.pointer (some ⟨T, 0, none⟩)] (fun x => .agg (Du.enc x).toArray) (fun x => decide (x.which = t)) w := fun W x hb => by
  have hc' := (hb.cell (p := ⟨T, 0, none⟩) hT).trans hc
  exact (which_any x t T W hc' (Nat.lt_of_lt_of_le hT hb.size)).mono fun e w' ⟨he, hb'⟩ => ⟨he, hb.trans (hb'.mono hb.size)⟩
def placeD (l : List Du) (t : Int) : Int := Lib.idxBy (fun _ y => decide (y.which = t)) l default
theorem place_any (A : Option Addr) (c n : Nat) (l : List Du) (t : Int) (w : World) (hs : Sl 2 Du.enc w A l) (hn : l.length = n) :
    Calls Try.prog 22 #[.slice A n c, .int .i64 t] w fun e w' => e = .returned (.int .i64 (placeD l t)) ∧ Below w.heap.size w w' := by
  have b0 : Below w.heap.size w (w.alloc (.cells #[.int .i64 t] 3)) := (Below.refl _ _).alloc (Nat.le_refl _) _
  have hcI := indexFunc_any 36 #[.pointer (some ⟨w.heap.size, 0, none⟩)] (fun x => decide (x.which = t)) (enters_of Try.func36 (by kernel_rfl) rfl) A c n l (w.alloc (.cells #[.int .i64 t] 3)) (which_pred t w.heap.size _ (by go_simp) (by simp)) (hs.below b0) hn
  have hR : placeD l t = Lib.idxBy (fun _ y => decide (y.which = t)) l default := rfl
  rw [← hR] at hcI
  generalize placeD l t = r at *
  clear hs hn hR
  go_enter Try.func22, Try.ntmps22
  go_wp2_with (go_at_call 35; refine hcI.mono ?_; rintro e w' ⟨rfl, hb'⟩)
  go_ret
  exact ⟨rfl, b0.trans (hb'.mono b0.size)⟩
end Go.Proofs.Ytimhdkgllgdamaa
