/- Walks of the library's functions that cache calls: Clone, IndexFunc; place's predicate; cmp.Compare. -/
import Derived.Test.YtdndanjabknjpaaProg
import Derived.Test.YtdndanjabknjpaaLibB
import Derived.WalkKit
import Derived.WalkSpells
import Derived.WalkLawsBesides
import Derived.Laws.EntriesVeiled
import Derived.Deep.QuietTactic
import Derived.BigQuiet
import Derived.Deep.LoopGhost
import Derived.Shelf.GgClosure.Gives
import Derived.Shelf.SlicesQ.IndexFunc
import Derived.Lib.SliceRun
import Derived.Lib.Walk
import Derived.StillTailTactics
import Derived.IntWalk
import Derived.Deep.RegionHeld3
import Derived.Deep.DeepCutAuto
import Derived.Deep.CutBlock
import Derived.Laws.MakeOwn
import Derived.OneCell
import Derived.Lib.Small
namespace Go.Proofs.Ytdndanjabknjpaa
open Go.RowKit Go.Lib

structure Ln where
  addr : Int
  state : Int
  val_ : Int
  used : Int
  deriving DecidableEq, Inhabited
def Ln.enc (c : Ln) : List Value := [.int .i64 c.addr, .int .i64 c.state, .int .u32 c.val_, .int .i64 c.used]
theorem Ln.enc_len (x : Ln) : (Ln.enc x).length = 4 := rfl
theorem Ln.enc_one (x : Ln) : ∀ u ∈ Ln.enc x, u.oneCell' = true := by
  intro u hu
  simp [Ln.enc] at hu
  rcases hu with rfl | rfl | rfl | rfl <;> rfl
theorem info32 : (Try.prog.info? 32).map (fun i => (i.zero, i.size, i.bytes)) = some (some (.agg #[.int .i64 0, .int .i64 0, .int .u32 0, .int .i64 0]), 4, 32) := by kernel_rfl

set_option maxHeartbeats 2000000 in
set_option maxRecDepth 100000 in
theorem clone_any (A : Option Addr) (c n : Nat) (l : List Ln) (w : World) (hs : Sl 4 Ln.enc w A l) (hn : l.length = n) (hsmall : n ≤ 1000000) :
    Calls Try.prog 39 #[.slice A n c] w fun e w' => ∃ v', e = .returned v' ∧ w'.ownsRow w.heap.size 32 4 v' n (l.flatMap Ln.enc) ∧ Below w.heap.size w w' := by
  obtain ⟨i0, hi, hz0, hz1, hz2⟩ := info_parts info32
  have q22 : ∀ (w : World) (a : Option Addr) (n c n' c' : Nat), (binOp .eql 40 (.slice a n c) (.slice none n' c')).run Try.prog w = .ok (.bool a.isNone) w := fun w a n c n' c' => Lib.run_eql_slice_nil w _ _ a n c n' c' Try.underlying40
  have u22 : ∀ w, Sem.run Try.prog (underlying 40) w = .ok (TypeDesc.slice 32) w := run_underlying Try.underlying40
  cases A with
  | none =>
    have : l = [] := by
      by_cases h : l = []
      · exact h
      · obtain ⟨b, off, e, _⟩ := hs.cell h
        simp at e
    subst this
    subst hn
    go_enter Try.func39, Try.ntmps39
    go_wp2
    go_ret
    exact ⟨_, rfl, World.ownsRow_nil _ _ _ _, Below.refl _ _⟩
  | some ad =>
    have hs' := hs.below (bnew (T := 32) (cs := #[]))
    have HS := Lib.hid hs'
    have HN := Lib.hid hn
    clear hs hs' hn
    go_enter Try.func39, Try.ntmps39
    go_wp2_with (at_builtin; refine wpList_append_sl _ rfl _ _ 40 rfl w.heap.size 32 i0 _ 4 32 Try.underlying40 hi hz0 hz1 hz2 rfl (by decide) _ _ _ rfl (World.ownsRow_made w #[] 0 (Nat.le_refl _) (Nat.zero_le _) (by simp)) Ln.enc Ln.enc_len Ln.enc_one (some ad) n c l rfl HN.out HS.out ?p2 ?p3 ?p4 ?_)
    case p2 => unfold maxLen; omega
    case p3 => omega
    case p4 => simp
    intro v' w1 hown hgrow hat
    have hb : Below w.heap.size w w1 := below_append (k := 4) bnew hgrow (by simp) (World.ownsRow_made w #[] 0 (Nat.le_refl _) (Nat.zero_le _) (by simp)) (Nat.le_refl _)
    clear hgrow hat
    go_wp2
    go_ret
    exact ⟨v', rfl, by simpa using hown, hb⟩

set_option maxHeartbeats 1000000 in
theorem indexFunc_any (g : Nat) (lb : Array Value) (p : Ln → Bool) (eg : ∀ args w, (callFunc g args).run Try.prog w = .ok (.enter g args) w) (A : Option Addr) (c n : Nat) (zs : List Ln) (w : World)
    (hp : PredBelow Try.prog g lb (fun x => .agg (Ln.enc x).toArray) p w) (hs : Sl 4 Ln.enc w A zs) (hn : zs.length = n) :
    Calls Try.prog 40 #[.slice A n c, .func (.func g) #[] lb] w fun e w' => e = .returned (.int .i64 (Lib.idxBy (fun _ y => p y) zs default)) ∧ Below w.heap.size w w' := by
  subst hn
  have hbig := hs.big
  have HC := Lib.hid hs
  clear hs
  go_enter Try.func40, Try.ntmps40
  go_wp2
  go_loopg [5, 8] zs.length (fun gg _ s8 wr => ∃ kk : Nat, kk ≤ zs.length ∧ zs.length - kk ≤ gg ∧ s8 = .int .i64 kk ∧ Aside (Below w.heap.size w wr) ∧ Aside (∀ j, j < kk → p zs[j]! = false))
  case atStart => exact ⟨0, Nat.zero_le _, by omega, rfl, Below.refl _ w, fun j hj => absurd hj (Nat.not_lt_zero _)⟩
  case round =>
    obtain ⟨kk, hkk, hg, rfl, BW, AA⟩ := hrel
    by_cases hlt : kk < zs.length
    · have hltz : (kk : Int) < (zs.length : Int) := by omega
      obtain ⟨b, off, rfl, hq0⟩ := HC.out.at_ kk hlt
      have q0 := hq0 0 _ rfl
      have q1 := hq0 1 _ rfl
      have q2 := hq0 2 _ rfl
      have q3 := hq0 3 _ rfl
      rw [Nat.add_zero] at q0
      rw [← BW.out.cell (World.block_lt_of_cell? w _ q0)] at q0
      rw [← BW.out.cell (World.block_lt_of_cell? w _ q1)] at q1
      rw [← BW.out.cell (World.block_lt_of_cell? w _ q2)] at q2
      rw [← BW.out.cell (World.block_lt_of_cell? w _ q3)] at q3
      have hcall := hp wr zs[kk]! BW.out
      clear hp hq0
      generalize hy : zs[kk]! = y at q0 q1 q2 q3 hcall
      have B : Aside (zs[kk]! = y) := hy
      clear hy
      cases hq : p y with
      | true =>
        rw [hq] at hcall
        go_wp2_with (go_at_fn g; refine hcall.mono ?_; rintro e w' ⟨rfl, hb'⟩)
        go_ret
        refine ⟨?_, hb'⟩
        have := Lib.idxBy_hit (fun _ y => p y) zs zs.length kk default hlt (Nat.le_refl _) (by show p zs[kk]! = true; rw [B.out]; exact hq) AA.out
        rw [List.take_length] at this
        rw [this]; rfl
      | false =>
        rw [hq] at hcall
        go_wp2_with (go_at_fn g; refine hcall.mono ?_; rintro e w' ⟨rfl, hb'⟩)
        go_roundg (zs.length - (kk + 1))
        case measure => omega
        case rel =>
          refine ⟨kk + 1, by omega, by omega, by go_num, hb', (show Aside _ from fun j hj => ?_)⟩
          by_cases e : j = kk
          · subst e
            rw [B.out]; exact hq
          · exact AA.out j (by omega)
    · have hltz : ¬ (kk : Int) < (zs.length : Int) := by omega
      have : kk = zs.length := by omega
      subst this
      go_wp2
      go_ret
      refine ⟨?_, BW.out⟩
      have := Lib.idxBy_miss (fun _ y => p y) zs zs.length default AA.out
      rw [List.take_length] at this
      rw [this]; rfl

theorem addr_any (x : Ln) (t : Int) (T : Nat) (w : World) (hc : w.cell? ⟨T, 0, none⟩ = some (.int .i64 t)) (hT : T < w.heap.size) :
    Calls Try.prog 41 #[.agg #[.int .i64 x.addr, .int .i64 x.state, .int .u32 x.val_, .int .i64 x.used], .pointer (some ⟨T, 0, none⟩)] w fun e w' => e = .returned (.bool (decide (x.addr = t))) ∧ Below w.heap.size w w' := by
  have hne : T ≠ w.heap.size := by omega
  have hc2 : (w.alloc (.cells #[.int .i64 x.addr, .int .i64 x.state, .int .u32 x.val_, .int .i64 x.used] 32)).cell? ⟨T, 0, none⟩ = some (.int .i64 t) := (World.cell?_alloc_lt w _ ⟨T, 0, none⟩ hT).trans hc
  go_enter Try.func41, Try.ntmps41
  go_wp2_with fail
  go_ret
  exact ⟨by simp; rw [Bool.eq_iff_iff]; simp, (Below.refl _ _).alloc (Nat.le_refl _) _⟩
theorem addr_pred (t : Int) (T : Nat) (w : World) (hc : w.cell? ⟨T, 0, none⟩ = some (.int .i64 t)) (hT : T < w.heap.size) :
    PredBelow Try.prog 41 #[.pointer (some ⟨T, 0, none⟩)] (fun x => .agg (Ln.enc x).toArray) (fun x => decide (x.addr = t)) w := fun W x hb => by
  have hc' := (hb.cell (p := ⟨T, 0, none⟩) hT).trans hc
  exact (addr_any x t T W hc' (Nat.lt_of_lt_of_le hT hb.size)).mono fun e w' ⟨he, hb'⟩ => ⟨he, hb.trans (hb'.mono hb.size)⟩
def idxA (l : List Ln) (t : Int) : Int := Lib.idxBy (fun _ y => decide (y.addr = t)) l default
theorem isNaN_any (a : Int) (w : World) : Calls Try.prog 49 #[.int .i64 a] w fun e w' => e = .returned (.bool false) ∧ w = w' := by
  have h1 : (a != a) = false := by simp
  go_enter Try.func49, Try.ntmps49
  go_wp2_with fail
  go_ret
  exact ⟨by simp, rfl⟩
theorem compare_any (a b : Int) (w : World) : Calls Try.prog 33 #[.int .i64 a, .int .i64 b] w fun e w' => e = .returned (.int .i64 (Lib.compareInt a b)) ∧ w = w' := by
  have c1 := isNaN_any a w
  have c2 := isNaN_any b w
  rcases (show a < b ∨ (¬ a < b ∧ b < a) ∨ (¬ a < b ∧ ¬ b < a) by omega) with h | ⟨h, h'⟩ | ⟨h, h'⟩
  · have hr : Lib.compareInt a b = -1 := by unfold Lib.compareInt; rw [if_pos h]
    rw [hr]
    clear hr
    go_enter Try.func33, Try.ntmps33
    go_wp2_with fail
    refine c1.mono ?_
    rintro e w1 ⟨rfl, rfl⟩
    go_wp2_with fail
    refine c2.mono ?_
    rintro e w1 ⟨rfl, rfl⟩
    go_wp2_with fail
    go_ret
    exact ⟨by simp, rfl⟩
  · have hr : Lib.compareInt a b = 1 := by unfold Lib.compareInt; rw [if_neg h, if_pos h']
    rw [hr]
    clear hr
    go_enter Try.func33, Try.ntmps33
    go_wp2_with fail
    refine c1.mono ?_
    rintro e w1 ⟨rfl, rfl⟩
    go_wp2_with fail
    refine c2.mono ?_
    rintro e w1 ⟨rfl, rfl⟩
    go_wp2_with fail
    go_ret
    exact ⟨by simp, rfl⟩
  · have hr : Lib.compareInt a b = 0 := by unfold Lib.compareInt; rw [if_neg h, if_neg (by omega)]
    rw [hr]
    clear hr
    go_enter Try.func33, Try.ntmps33
    go_wp2_with fail
    refine c1.mono ?_
    rintro e w1 ⟨rfl, rfl⟩
    go_wp2_with fail
    refine c2.mono ?_
    rintro e w1 ⟨rfl, rfl⟩
    go_wp2_with fail
    go_ret
    exact ⟨by simp, rfl⟩
end Go.Proofs.Ytdndanjabknjpaa
