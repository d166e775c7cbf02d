/- Walks of the library's functions that link calls: Clone, IndexFunc. -/
import Derived.Test.YtjnpdicoopgkoaaProg
import Derived.Test.YtjnpdicoopgkoaaLibB
import Derived.WalkKit
import Derived.WalkSpells
import Derived.WalkLawsBesides
import Derived.Laws.EntriesVeiled
import Derived.Deep.QuietTactic
import Derived.BigQuiet
import Derived.Deep.LoopGhost
import Derived.Shelf.GgClosure.Gives
import Derived.Shelf.SlicesQ.IndexFunc
import Derived.Lib.SliceRun
import Derived.Lib.Walk
import Derived.StillTailTactics
import Derived.IntWalk
import Derived.Deep.RegionHeld3
import Derived.Deep.DeepCutAuto
import Derived.Deep.CutBlock
import Derived.Laws.MakeOwn
import Derived.OneCell
namespace Go.Proofs.Ytjnpdicoopgkoaa
open Go.RowKit Go.Lib

structure Pce where
  num : Int
  val : Int
  deriving DecidableEq, Inhabited
def Pce.enc (c : Pce) : List Value := [.int .i64 c.num, .int .u32 c.val]
theorem Pce.enc_len (x : Pce) : (Pce.enc x).length = 2 := rfl
theorem Pce.enc_one (x : Pce) : ∀ u ∈ Pce.enc x, u.oneCell' = true := by
  intro u hu
  simp [Pce.enc] at hu
  rcases hu with rfl | rfl <;> rfl
theorem info34 : (Try.prog.info? 34).map (fun i => (i.zero, i.size, i.bytes)) = some (some (.agg #[.int .i64 0, .int .u32 0]), 2, 16) := by kernel_rfl
structure Wrd where
  val : Int
  deriving DecidableEq, Inhabited
def Wrd.enc (c : Wrd) : List Value := [.int .u32 c.val]
theorem Wrd.enc_len (x : Wrd) : (Wrd.enc x).length = 1 := rfl
theorem Wrd.enc_one (x : Wrd) : ∀ u ∈ Wrd.enc x, u.oneCell' = true := by
  intro u hu
  simp [Wrd.enc] at hu
  rcases hu with rfl <;> rfl
theorem info32 : (Try.prog.info? 32).map (fun i => (i.zero, i.size, i.bytes)) = some (some (.int .u32 0), 1, 4) := by kernel_rfl

set_option maxHeartbeats 2000000 in
set_option maxRecDepth 100000 in
theorem cloneP_any (A : Option Addr) (c n : Nat) (l : List Pce) (w : World) (hs : Sl 2 Pce.enc w A l) (hn : l.length = n) (hsmall : n ≤ 1000000) :
    Calls Try.prog 13 #[.slice A n c] w fun e w' => ∃ v', e = .returned v' ∧ w'.ownsRow w.heap.size 34 2 v' n (l.flatMap Pce.enc) ∧ Below w.heap.size w w' := by
  obtain ⟨i0, hi, hz0, hz1, hz2⟩ := info_parts info34
  have q22 : ∀ (w : World) (a : Option Addr) (n c n' c' : Nat), (binOp .eql 25 (.slice a n c) (.slice none n' c')).run Try.prog w = .ok (.bool a.isNone) w := fun w a n c n' c' => Lib.run_eql_slice_nil w _ _ a n c n' c' Try.underlying25
  have u22 : ∀ w, Sem.run Try.prog (underlying 25) w = .ok (TypeDesc.slice 34) w := run_underlying Try.underlying25
  cases A with
  | none =>
    have : l = [] := by
      by_cases h : l = []
      · exact h
      · obtain ⟨b, off, e, _⟩ := hs.cell h
        simp at e
    subst this
    subst hn
    go_enter Try.func13, Try.ntmps13
    go_wp2
    go_ret
    exact ⟨_, rfl, World.ownsRow_nil _ _ _ _, Below.refl _ _⟩
  | some ad =>
    have hs' := hs.below (bnew (T := 34) (cs := #[]))
    have HS := Lib.hid hs'
    have HN := Lib.hid hn
    clear hs hs' hn
    go_enter Try.func13, Try.ntmps13
    go_wp2_with (at_builtin; refine wpList_append_sl _ rfl _ _ 25 rfl w.heap.size 34 i0 _ 2 16 Try.underlying25 hi hz0 hz1 hz2 rfl (by decide) _ _ _ rfl (World.ownsRow_made w #[] 0 (Nat.le_refl _) (Nat.zero_le _) (by simp)) Pce.enc Pce.enc_len Pce.enc_one (some ad) n c l rfl HN.out HS.out ?p2 ?p3 ?p4 ?_)
    case p2 => unfold maxLen; omega
    case p3 => omega
    case p4 => simp
    intro v' w1 hown hgrow hat
    have hb : Below w.heap.size w w1 := below_append (k := 2) bnew hgrow (by simp) (World.ownsRow_made w #[] 0 (Nat.le_refl _) (Nat.zero_le _) (by simp)) (Nat.le_refl _)
    clear hgrow hat
    go_wp2
    go_ret
    exact ⟨v', rfl, by simpa using hown, hb⟩

set_option maxHeartbeats 2000000 in
set_option maxRecDepth 100000 in
theorem cloneW_any (A : Option Addr) (c n : Nat) (l : List Wrd) (w : World) (hs : Sl 1 Wrd.enc w A l) (hn : l.length = n) (hsmall : n ≤ 1000000) :
    Calls Try.prog 14 #[.slice A n c] w fun e w' => ∃ v', e = .returned v' ∧ w'.ownsRow w.heap.size 32 1 v' n (l.flatMap Wrd.enc) ∧ Below w.heap.size w w' := by
  obtain ⟨i0, hi, hz0, hz1, hz2⟩ := info_parts info32
  have q22 : ∀ (w : World) (a : Option Addr) (n c n' c' : Nat), (binOp .eql 22 (.slice a n c) (.slice none n' c')).run Try.prog w = .ok (.bool a.isNone) w := fun w a n c n' c' => Lib.run_eql_slice_nil w _ _ a n c n' c' Try.underlying22
  have u22 : ∀ w, Sem.run Try.prog (underlying 22) w = .ok (TypeDesc.slice 32) w := run_underlying Try.underlying22
  cases A with
  | none =>
    have : l = [] := by
      by_cases h : l = []
      · exact h
      · obtain ⟨b, off, e, _⟩ := hs.cell h
        simp at e
    subst this
    subst hn
    go_enter Try.func14, Try.ntmps14
    go_wp2
    go_ret
    exact ⟨_, rfl, World.ownsRow_nil _ _ _ _, Below.refl _ _⟩
  | some ad =>
    have hs' := hs.below (bnew (T := 32) (cs := #[]))
    have HS := Lib.hid hs'
    have HN := Lib.hid hn
    clear hs hs' hn
    go_enter Try.func14, Try.ntmps14
    go_wp2_with (at_builtin; refine wpList_append_sl _ rfl _ _ 22 rfl w.heap.size 32 i0 _ 1 4 Try.underlying22 hi hz0 hz1 hz2 rfl (by decide) _ _ _ rfl (World.ownsRow_made w #[] 0 (Nat.le_refl _) (Nat.zero_le _) (by simp)) Wrd.enc Wrd.enc_len Wrd.enc_one (some ad) n c l rfl HN.out HS.out ?p2 ?p3 ?p4 ?_)
    case p2 => unfold maxLen; omega
    case p3 => omega
    case p4 => simp
    intro v' w1 hown hgrow hat
    have hb : Below w.heap.size w w1 := below_append (k := 1) bnew hgrow (by simp) (World.ownsRow_made w #[] 0 (Nat.le_refl _) (Nat.zero_le _) (by simp)) (Nat.le_refl _)
    clear hgrow hat
    go_wp2
    go_ret
    exact ⟨v', rfl, by simpa using hown, hb⟩

set_option maxHeartbeats 1000000 in
theorem indexFunc_any (g : Nat) (lb : Array Value) (p : Pce → Bool) (eg : ∀ args w, (callFunc g args).run Try.prog w = .ok (.enter g args) w) (A : Option Addr) (c n : Nat) (zs : List Pce) (w : World)
    (hp : PredBelow Try.prog g lb (fun x => .agg (Pce.enc x).toArray) p w) (hs : Sl 2 Pce.enc w A zs) (hn : zs.length = n) :
    Calls Try.prog 24 #[.slice A n c, .func (.func g) #[] lb] w fun e w' => e = .returned (.int .i64 (Lib.idxBy (fun _ y => p y) zs default)) ∧ Below w.heap.size w w' := by
  subst hn
  have hbig := hs.big
  have HC := Lib.hid hs
  clear hs
  go_enter Try.func24, Try.ntmps24
  go_wp2
  go_loopg [5, 8] zs.length (fun gg _ s8 wr => ∃ kk : Nat, kk ≤ zs.length ∧ zs.length - kk ≤ gg ∧ s8 = .int .i64 kk ∧ Aside (Below w.heap.size w wr) ∧ Aside (∀ j, j < kk → p zs[j]! = false))
  case atStart => exact ⟨0, Nat.zero_le _, by omega, rfl, Below.refl _ w, fun j hj => absurd hj (Nat.not_lt_zero _)⟩
  case round =>
    obtain ⟨kk, hkk, hg, rfl, BW, AA⟩ := hrel
    by_cases hlt : kk < zs.length
    · have hltz : (kk : Int) < (zs.length : Int) := by omega
      obtain ⟨b, off, rfl, hq0⟩ := HC.out.at_ kk hlt
      have q0 := hq0 0 _ rfl
      have q1 := hq0 1 _ rfl
      rw [Nat.add_zero] at q0
      rw [← BW.out.cell (World.block_lt_of_cell? w _ q0)] at q0
      rw [← BW.out.cell (World.block_lt_of_cell? w _ q1)] at q1
      have hcall := hp wr zs[kk]! BW.out
      clear hp hq0
      generalize hy : zs[kk]! = y at q0 q1 hcall
      have B : Aside (zs[kk]! = y) := hy
      clear hy
      cases hq : p y with
      | true =>
        rw [hq] at hcall
        go_wp2_with (go_at_fn g; refine hcall.mono ?_; rintro e w' ⟨rfl, hb'⟩)
        go_ret
        refine ⟨?_, hb'⟩
        have := Lib.idxBy_hit (fun _ y => p y) zs zs.length kk default hlt (Nat.le_refl _) (by show p zs[kk]! = true; rw [B.out]; exact hq) AA.out
        rw [List.take_length] at this
        rw [this]; rfl
      | false =>
        rw [hq] at hcall
        go_wp2_with (go_at_fn g; refine hcall.mono ?_; rintro e w' ⟨rfl, hb'⟩)
        go_roundg (zs.length - (kk + 1))
        case measure => omega
        case rel =>
          refine ⟨kk + 1, by omega, by omega, by go_num, hb', (show Aside _ from fun j hj => ?_)⟩
          by_cases e : j = kk
          · subst e
            rw [B.out]; exact hq
          · exact AA.out j (by omega)
    · have hltz : ¬ (kk : Int) < (zs.length : Int) := by omega
      have : kk = zs.length := by omega
      subst this
      go_wp2
      go_ret
      refine ⟨?_, BW.out⟩
      have := Lib.idxBy_miss (fun _ y => p y) zs zs.length default AA.out
      rw [List.take_length] at this
      rw [this]; rfl
end Go.Proofs.Ytjnpdicoopgkoaa
