/- Walks of the credit package's inner functions. -/
import Derived.Test.YtcjlpgpmoleidaaProg
import Derived.Test.YtcjlpgpmoleidaaLib
import Derived.WalkKit
import Derived.WalkSpells
import Derived.WalkLawsBesides
import Derived.Laws.EntriesVeiled
import Derived.Deep.QuietTactic
import Derived.BigQuiet
import Derived.Deep.LoopGhost
import Derived.Shelf.GgClosure.Gives
import Derived.Shelf.SlicesQ.IndexFunc
namespace Go.Proofs.Ytcjlpgpmoleidaa
open Go.RowKit Go.Lib

/-- May a class be? -/
def okC (m u : Int) : Bool := decide (0 ≤ m ∧ m ≤ 1000 ∧ 0 ≤ u ∧ u ≤ m)

set_option maxHeartbeats 400000 in
theorem right_any (m u : Int) (w : World) :
    Calls Try.prog 24 #[.agg #[.int .i64 m, .int .i64 u]] w fun e w' => e = .returned (.bool (okC m u)) ∧ Below w.heap.size w w' := by
  have hb : Below w.heap.size w (w.alloc (Obj.cells #[Value.int IntKind.i64 m, Value.int IntKind.i64 u] 49)) := (Below.refl _ _).alloc (Nat.le_refl _) _
  by_cases h1 : 0 ≤ m
  · by_cases h2 : m ≤ 1000
    · by_cases h3 : 0 ≤ u
      · by_cases h4 : u ≤ m
        all_goals
          have hk : okC m u = decide (u ≤ m) := by simp [okC, *]
          rw [hk]; clear hk
          go_enter Try.func24, Try.ntmps24
          go_wp2
          go_ret
          exact ⟨by simp [*], hb⟩
      · have hk : okC m u = false := by simp [okC]; omega
        rw [hk]; clear hk
        go_enter Try.func24, Try.ntmps24
        go_wp2
        go_ret
        exact ⟨rfl, hb⟩
    · have hk : okC m u = false := by simp [okC]; omega
      rw [hk]; clear hk
      go_enter Try.func24, Try.ntmps24
      go_wp2
      go_ret
      exact ⟨rfl, hb⟩
  · have hk : okC m u = false := by simp [okC]; omega
    rw [hk]; clear hk
    go_enter Try.func24, Try.ntmps24
    go_wp2
    go_ret
    exact ⟨rfl, hb⟩

set_option maxHeartbeats 400000 in
theorem lit_any (m u : Int) (B : Nat) (w : World) (hc : w.cell? ⟨B, 0, none⟩ = some (.func (.func 24) #[] #[])) (hB : B < w.heap.size) :
    Calls Try.prog 26 #[.agg #[.int .i64 m, .int .i64 u], .pointer (some ⟨B, 0, none⟩)] w fun e w' => e = .returned (.bool (!okC m u)) ∧ Below w.heap.size w w' := by
  go_enter Try.func26, Try.ntmps26
  go_wp2_with (go_at_call 24; refine (right_any _ _ _).mono ?_; rintro e w1 ⟨rfl, hb1⟩)
  go_ret
  exact ⟨rfl, (((Below.refl _ _).alloc (Nat.le_refl _) _)).trans (hb1.mono (by simp))⟩

/-- A row of classes as cells. -/
structure Cls where
  most : Int
  used : Int
  deriving DecidableEq, Inhabited
def Cls.enc (c : Cls) : List Value := [.int .i64 c.most, .int .i64 c.used]

theorem Cls.enc_len (x : Cls) : (Cls.enc x).length = 2 := rfl

set_option maxHeartbeats 1000000 in
theorem indexFunc_any (g : Nat) (lb : Array Value) (p : Cls → Bool) (eg : ∀ args w, (callFunc g args).run Try.prog w = .ok (.enter g args) w) (A : Option Addr) (c : Nat) (zs : List Cls) (w : World)
    (hp : PredBelow Try.prog g lb (fun x => .agg (Cls.enc x).toArray) p w) (hs : Sl 2 Cls.enc w A zs) :
    Calls Try.prog 28 #[.slice A zs.length c, .func (.func g) #[] lb] w fun e w' => e = .returned (.int .i64 (Lib.idxBy (fun _ y => p y) zs default)) ∧ Below w.heap.size w w' := by
  have hbig := hs.big
  have HC := Lib.hid hs
  clear hs
  go_enter Try.func28, Try.ntmps28
  go_wp2
  go_loopg [5, 8] zs.length (fun gg _ s8 wr => ∃ kk : Nat, kk ≤ zs.length ∧ zs.length - kk ≤ gg ∧ s8 = .int .i64 kk ∧ Aside (Below w.heap.size w wr) ∧ Aside (∀ j, j < kk → p zs[j]! = false))
  case atStart => exact ⟨0, Nat.zero_le _, by omega, rfl, Below.refl _ w, fun j hj => absurd hj (Nat.not_lt_zero _)⟩
  case round =>
    obtain ⟨kk, hkk, hg, rfl, BW, AA⟩ := hrel
    by_cases hlt : kk < zs.length
    · have hltz : (kk : Int) < (zs.length : Int) := by omega
      obtain ⟨b, off, rfl, hq0⟩ := HC.out.at_ kk hlt
      have q1 := hq0 0 _ rfl
      have q2 := hq0 1 _ rfl
      rw [Nat.add_zero] at q1
      rw [← BW.out.cell (World.block_lt_of_cell? w _ q1)] at q1
      rw [← BW.out.cell (World.block_lt_of_cell? w _ q2)] at q2
      have hcall := hp wr zs[kk]! BW.out
      clear hp hq0
      generalize hy : zs[kk]! = y at q1 q2 hcall
      have B : Aside (zs[kk]! = y) := hy
      clear hy
      cases hq : p y with
      | true =>
        rw [hq] at hcall
        go_wp2_with (go_at_fn g; refine hcall.mono ?_; rintro e w' ⟨rfl, hb'⟩)
        go_ret
        refine ⟨?_, hb'⟩
        have := Lib.idxBy_hit (fun _ y => p y) zs zs.length kk default hlt (Nat.le_refl _) (by show p zs[kk]! = true; rw [B.out]; exact hq) AA.out
        rw [List.take_length] at this
        rw [this]; rfl
      | false =>
        rw [hq] at hcall
        go_wp2_with (go_at_fn g; refine hcall.mono ?_; rintro e w' ⟨rfl, hb'⟩)
        go_roundg (zs.length - (kk + 1))
        case measure => omega
        case rel =>
          refine ⟨kk + 1, by omega, by omega, by go_num, hb', (show Aside _ from fun j hj => ?_)⟩
          by_cases e : j = kk
          · subst e
            rw [B.out]; exact hq
          · exact AA.out j (by omega)
    · have hltz : ¬ (kk : Int) < (zs.length : Int) := by omega
      have : kk = zs.length := by omega
      subst this
      go_wp2
      go_ret
      refine ⟨?_, BW.out⟩
      have := Lib.idxBy_miss (fun _ y => p y) zs zs.length default AA.out
      rw [List.take_length] at this
      rw [this]; rfl

theorem containsFunc_any (g : Nat) (lb : Array Value) (p : Cls → Bool) (eg : ∀ args w, (callFunc g args).run Try.prog w = .ok (.enter g args) w) (A : Option Addr) (c : Nat) (zs : List Cls) (w : World)
    (hp : PredBelow Try.prog g lb (fun x => .agg (Cls.enc x).toArray) p w) (hs : Sl 2 Cls.enc w A zs) :
    Calls Try.prog 25 #[.slice A zs.length c, .func (.func g) #[] lb] w fun e w' => e = .returned (.bool (zs.any p)) ∧ Below w.heap.size w w' := by
  have h := Lib.idxBy_nonneg_iff (fun _ y => p y) zs default
  rw [← h]
  clear h
  go_enter Try.func25, Try.ntmps25
  go_wp2_with (go_at_call 28; refine (indexFunc_any g lb p eg A c zs _ hp hs).mono ?_; rintro e w' ⟨rfl, hb'⟩)
  go_ret
  exact ⟨rfl, hb'⟩

def rightB (l : List Cls) : Bool := decide (1 ≤ l.length ∧ l.length ≤ 8) && l.all fun x => okC x.most x.used

theorem lit_pred (B : Nat) (w : World) (hc : w.cell? ⟨B, 0, none⟩ = some (.func (.func 24) #[] #[])) (hB : B < w.heap.size) :
    PredBelow Try.prog 26 #[.pointer (some ⟨B, 0, none⟩)] (fun x => .agg (Cls.enc x).toArray) (fun x => !okC x.most x.used) w := fun W x hb => by
  have h := lit_any x.most x.used B W ((hb.cell (p := ⟨B, 0, none⟩) hB).trans hc) (Nat.lt_of_lt_of_le hB hb.size)
  exact h.mono fun e w' ⟨he, hb'⟩ => ⟨he, hb.trans (hb'.mono hb.size)⟩

set_option maxHeartbeats 1000000 in
theorem Right_any (A : Option Addr) (c : Nat) (l : List Cls) (w : World) (hs : Sl 2 Cls.enc w A l) :
    Calls Try.prog 16 #[.slice A l.length c] w fun e w' => e = .returned (.bool (rightB l)) ∧ Below w.heap.size w w' := by
  have hbig := hs.big
  have hb0 : Below w.heap.size w (w.alloc (.cells #[.func (.func 24) #[] #[]] 48)) := (Below.refl _ _).alloc (Nat.le_refl _) _
  by_cases h1 : 1 ≤ l.length
  · by_cases h2 : l.length ≤ 8
    · have hcon := containsFunc_any 26 #[.pointer (some ⟨w.heap.size, 0, none⟩)] _ (enters_of Try.func26 (by kernel_rfl) rfl) A c l _ (lit_pred w.heap.size (w.alloc (.cells #[.func (.func 24) #[] #[]] 48)) (by simp) (by simp)) (hs.below hb0)
      have hr : rightB l = !(l.any fun x => !okC x.most x.used) := by
        simp only [rightB, h1, h2, and_self, decide_true, Bool.true_and]
        simp [List.all_eq_not_any_not]
      rw [hr]
      generalize (l.any fun x => !okC x.most x.used) = r at hcon
      clear hs hr
      go_enter Try.func16, Try.ntmps16
      go_wp2_with (go_at_call 25; refine hcon.mono ?_; rintro e w' ⟨rfl, hb'⟩)
      go_ret
      exact ⟨by cases r <;> rfl, hb0.trans (hb'.mono (by simp))⟩
    · have hr : rightB l = false := by simp [rightB, h2]
      rw [hr]
      clear hs hr
      have h3 : ¬ (l.length : Int) ≤ 8 := by omega
      go_enter Try.func16, Try.ntmps16
      go_wp2
      go_ret
      exact ⟨rfl, hb0⟩
  · have hr : rightB l = false := by simp [rightB, h1]
    rw [hr]
    clear hs hr
    have h3 : ¬ 1 ≤ (l.length : Int) := by omega
    go_enter Try.func16, Try.ntmps16
    go_wp2

    go_ret
    exact ⟨rfl, hb0⟩

end Go.Proofs.Ytcjlpgpmoleidaa
