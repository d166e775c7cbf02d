/- Walks of the library's functions that commit calls: Clone, IndexFunc, ContainsFunc. -/
import Derived.Test.YtkkbpcnoamagcaaProg
import Derived.Test.YtkkbpcnoamagcaaLibB
import Derived.WalkKit
import Derived.WalkSpells
import Derived.WalkLawsBesides
import Derived.Laws.EntriesVeiled
import Derived.Deep.QuietTactic
import Derived.BigQuiet
import Derived.Deep.LoopGhost
import Derived.Shelf.GgClosure.Gives
import Derived.Shelf.SlicesQ.IndexFunc
import Derived.Lib.SliceRun
import Derived.Lib.Walk
import Derived.StillTailTactics
import Derived.IntWalk
import Derived.Deep.RegionHeld3
import Derived.Deep.DeepCutAuto
import Derived.Deep.CutBlock
import Derived.Laws.MakeOwn
import Derived.OneCell
namespace Go.Proofs.Ytkkbpcnoamagcaa
open Go.RowKit Go.Lib

structure Tld where
  core : Int
  val : Int
  deriving DecidableEq, Inhabited
def Tld.enc (c : Tld) : List Value := [.int .i64 c.core, .int .u32 c.val]
theorem Tld.enc_len (x : Tld) : (Tld.enc x).length = 2 := rfl
theorem Tld.enc_one (x : Tld) : ∀ u ∈ Tld.enc x, u.oneCell' = true := by
  intro u hu
  simp [Tld.enc] at hu
  rcases hu with rfl | rfl <;> rfl
theorem info28 : (Try.prog.info? 28).map (fun i => (i.zero, i.size, i.bytes)) = some (some (.agg #[.int .i64 0, .int .u32 0]), 2, 16) := by kernel_rfl
structure Hld where
  core : Int
  val : Int
  span : Int
  deriving DecidableEq, Inhabited
def Hld.enc (c : Hld) : List Value := [.int .i64 c.core, .int .u32 c.val, .int .i64 c.span]
theorem Hld.enc_len (x : Hld) : (Hld.enc x).length = 3 := rfl
theorem Hld.enc_one (x : Hld) : ∀ u ∈ Hld.enc x, u.oneCell' = true := by
  intro u hu
  simp [Hld.enc] at hu
  rcases hu with rfl | rfl | rfl <;> rfl
theorem info51 : (Try.prog.info? 51).map (fun i => (i.zero, i.size, i.bytes)) = some (some (.agg #[.int .i64 0, .int .u32 0, .int .i64 0]), 3, 24) := by kernel_rfl

set_option maxHeartbeats 2000000 in
set_option maxRecDepth 100000 in
theorem cloneT_any (A : Option Addr) (c n : Nat) (l : List Tld) (w : World) (hs : Sl 2 Tld.enc w A l) (hn : l.length = n) (hsmall : n ≤ 1000000) :
    Calls Try.prog 28 #[.slice A n c] w fun e w' => ∃ v', e = .returned v' ∧ w'.ownsRow w.heap.size 28 2 v' n (l.flatMap Tld.enc) ∧ Below w.heap.size w w' := by
  obtain ⟨i0, hi, hz0, hz1, hz2⟩ := info_parts info28
  have q22 : ∀ (w : World) (a : Option Addr) (n c n' c' : Nat), (binOp .eql 23 (.slice a n c) (.slice none n' c')).run Try.prog w = .ok (.bool a.isNone) w := fun w a n c n' c' => Lib.run_eql_slice_nil w _ _ a n c n' c' Try.underlying23
  have u22 : ∀ w, Sem.run Try.prog (underlying 23) w = .ok (TypeDesc.slice 28) w := run_underlying Try.underlying23
  cases A with
  | none =>
    have : l = [] := by
      by_cases h : l = []
      · exact h
      · obtain ⟨b, off, e, _⟩ := hs.cell h
        simp at e
    subst this
    subst hn
    go_enter Try.func28, Try.ntmps28
    go_wp2
    go_ret
    exact ⟨_, rfl, World.ownsRow_nil _ _ _ _, Below.refl _ _⟩
  | some ad =>
    have hs' := hs.below (bnew (T := 28) (cs := #[]))
    have HS := Lib.hid hs'
    have HN := Lib.hid hn
    clear hs hs' hn
    go_enter Try.func28, Try.ntmps28
    go_wp2_with (at_builtin; refine wpList_append_sl _ rfl _ _ 23 rfl w.heap.size 28 i0 _ 2 16 Try.underlying23 hi hz0 hz1 hz2 rfl (by decide) _ _ _ rfl (World.ownsRow_made w #[] 0 (Nat.le_refl _) (Nat.zero_le _) (by simp)) Tld.enc Tld.enc_len Tld.enc_one (some ad) n c l rfl HN.out HS.out ?p2 ?p3 ?p4 ?_)
    case p2 => unfold maxLen; omega
    case p3 => omega
    case p4 => simp
    intro v' w1 hown hgrow hat
    have hb : Below w.heap.size w w1 := below_append (k := 2) bnew hgrow (by simp) (World.ownsRow_made w #[] 0 (Nat.le_refl _) (Nat.zero_le _) (by simp)) (Nat.le_refl _)
    clear hgrow hat
    go_wp2
    go_ret
    exact ⟨v', rfl, by simpa using hown, hb⟩

set_option maxHeartbeats 2000000 in
set_option maxRecDepth 100000 in
theorem cloneH_any (A : Option Addr) (c n : Nat) (l : List Hld) (w : World) (hs : Sl 3 Hld.enc w A l) (hn : l.length = n) (hsmall : n ≤ 1000000) :
    Calls Try.prog 29 #[.slice A n c] w fun e w' => ∃ v', e = .returned v' ∧ w'.ownsRow w.heap.size 51 3 v' n (l.flatMap Hld.enc) ∧ Below w.heap.size w w' := by
  obtain ⟨i0, hi, hz0, hz1, hz2⟩ := info_parts info51
  have q22 : ∀ (w : World) (a : Option Addr) (n c n' c' : Nat), (binOp .eql 22 (.slice a n c) (.slice none n' c')).run Try.prog w = .ok (.bool a.isNone) w := fun w a n c n' c' => Lib.run_eql_slice_nil w _ _ a n c n' c' Try.underlying22
  have u22 : ∀ w, Sem.run Try.prog (underlying 22) w = .ok (TypeDesc.slice 51) w := run_underlying Try.underlying22
  cases A with
  | none =>
    have : l = [] := by
      by_cases h : l = []
      · exact h
      · obtain ⟨b, off, e, _⟩ := hs.cell h
        simp at e
    subst this
    subst hn
    go_enter Try.func29, Try.ntmps29
    go_wp2
    go_ret
    exact ⟨_, rfl, World.ownsRow_nil _ _ _ _, Below.refl _ _⟩
  | some ad =>
    have hs' := hs.below (bnew (T := 51) (cs := #[]))
    have HS := Lib.hid hs'
    have HN := Lib.hid hn
    clear hs hs' hn
    go_enter Try.func29, Try.ntmps29
    go_wp2_with (at_builtin; refine wpList_append_sl _ rfl _ _ 22 rfl w.heap.size 51 i0 _ 3 24 Try.underlying22 hi hz0 hz1 hz2 rfl (by decide) _ _ _ rfl (World.ownsRow_made w #[] 0 (Nat.le_refl _) (Nat.zero_le _) (by simp)) Hld.enc Hld.enc_len Hld.enc_one (some ad) n c l rfl HN.out HS.out ?p2 ?p3 ?p4 ?_)
    case p2 => unfold maxLen; omega
    case p3 => omega
    case p4 => simp
    intro v' w1 hown hgrow hat
    have hb : Below w.heap.size w w1 := below_append (k := 3) bnew hgrow (by simp) (World.ownsRow_made w #[] 0 (Nat.le_refl _) (Nat.zero_le _) (by simp)) (Nat.le_refl _)
    clear hgrow hat
    go_wp2
    go_ret
    exact ⟨v', rfl, by simpa using hown, hb⟩

set_option maxHeartbeats 1000000 in
theorem indexFunc_any (g : Nat) (lb : Array Value) (p : Hld → Bool) (eg : ∀ args w, (callFunc g args).run Try.prog w = .ok (.enter g args) w) (A : Option Addr) (c n : Nat) (zs : List Hld) (w : World)
    (hp : PredBelow Try.prog g lb (fun x => .agg (Hld.enc x).toArray) p w) (hs : Sl 3 Hld.enc w A zs) (hn : zs.length = n) :
    Calls Try.prog 30 #[.slice A n c, .func (.func g) #[] lb] w fun e w' => e = .returned (.int .i64 (Lib.idxBy (fun _ y => p y) zs default)) ∧ Below w.heap.size w w' := by
  subst hn
  have hbig := hs.big
  have HC := Lib.hid hs
  clear hs
  go_enter Try.func30, Try.ntmps30
  go_wp2
  go_loopg [5, 8] zs.length (fun gg _ s8 wr => ∃ kk : Nat, kk ≤ zs.length ∧ zs.length - kk ≤ gg ∧ s8 = .int .i64 kk ∧ Aside (Below w.heap.size w wr) ∧ Aside (∀ j, j < kk → p zs[j]! = false))
  case atStart => exact ⟨0, Nat.zero_le _, by omega, rfl, Below.refl _ w, fun j hj => absurd hj (Nat.not_lt_zero _)⟩
  case round =>
    obtain ⟨kk, hkk, hg, rfl, BW, AA⟩ := hrel
    by_cases hlt : kk < zs.length
    · have hltz : (kk : Int) < (zs.length : Int) := by omega
      obtain ⟨b, off, rfl, hq0⟩ := HC.out.at_ kk hlt
      have q0 := hq0 0 _ rfl
      have q1 := hq0 1 _ rfl
      have q2 := hq0 2 _ rfl
      rw [Nat.add_zero] at q0
      rw [← BW.out.cell (World.block_lt_of_cell? w _ q0)] at q0
      rw [← BW.out.cell (World.block_lt_of_cell? w _ q1)] at q1
      rw [← BW.out.cell (World.block_lt_of_cell? w _ q2)] at q2
      have hcall := hp wr zs[kk]! BW.out
      clear hp hq0
      generalize hy : zs[kk]! = y at q0 q1 q2 hcall
      have B : Aside (zs[kk]! = y) := hy
      clear hy
      cases hq : p y with
      | true =>
        rw [hq] at hcall
        go_wp2_with (go_at_fn g; refine hcall.mono ?_; rintro e w' ⟨rfl, hb'⟩)
        go_ret
        refine ⟨?_, hb'⟩
        have := Lib.idxBy_hit (fun _ y => p y) zs zs.length kk default hlt (Nat.le_refl _) (by show p zs[kk]! = true; rw [B.out]; exact hq) AA.out
        rw [List.take_length] at this
        rw [this]; rfl
      | false =>
        rw [hq] at hcall
        go_wp2_with (go_at_fn g; refine hcall.mono ?_; rintro e w' ⟨rfl, hb'⟩)
        go_roundg (zs.length - (kk + 1))
        case measure => omega
        case rel =>
          refine ⟨kk + 1, by omega, by omega, by go_num, hb', (show Aside _ from fun j hj => ?_)⟩
          by_cases e : j = kk
          · subst e
            rw [B.out]; exact hq
          · exact AA.out j (by omega)
    · have hltz : ¬ (kk : Int) < (zs.length : Int) := by omega
      have : kk = zs.length := by omega
      subst this
      go_wp2
      go_ret
      refine ⟨?_, BW.out⟩
      have := Lib.idxBy_miss (fun _ y => p y) zs zs.length default AA.out
      rw [List.take_length] at this
      rw [this]; rfl

theorem containsFunc_any (g : Nat) (lb : Array Value) (p : Hld → Bool) (eg : ∀ args w, (callFunc g args).run Try.prog w = .ok (.enter g args) w) (A : Option Addr) (c n : Nat) (zs : List Hld) (w : World)
    (hp : PredBelow Try.prog g lb (fun x => .agg (Hld.enc x).toArray) p w) (hs : Sl 3 Hld.enc w A zs) (hn : zs.length = n) :
    Calls Try.prog 24 #[.slice A n c, .func (.func g) #[] lb] w fun e w' => e = .returned (.bool (zs.any p)) ∧ Below w.heap.size w w' := by
  have h := Lib.idxBy_nonneg_iff (fun _ y => p y) zs default
  rw [← h]
  clear h
  have hc := indexFunc_any g lb p eg A c n zs w hp hs hn
  generalize Lib.idxBy (fun _ y => p y) zs default = r at *
  clear hp hs hn
  go_enter Try.func24, Try.ntmps24
  go_wp2_with (go_at_call 30; refine hc.mono ?_; rintro e w' ⟨rfl, hb'⟩)
  go_ret
  exact ⟨rfl, hb'⟩
end Go.Proofs.Ytkkbpcnoamagcaa
