/- Walks of link: Again, Send, Acked. -/
import Derived.Test.YtjnpdicoopgkoaaE
namespace Go.Proofs.Ytjnpdicoopgkoaa
open Go.RowKit Go.Lib
set_option linter.unusedVariables false
attribute [local go_sem] Act.puts

theorem below_any (x : Pce) (t : Int) (T : Nat) (w : World) (hc : w.cell? ⟨T, 0, none⟩ = some (.int .i64 t)) (hT : T < w.heap.size) :
    Calls Try.prog 19 #[.agg #[.int .i64 x.num, .int .u32 x.val], .pointer (some ⟨T, 0, none⟩)] w fun e w' => e = .returned (.bool (decide (x.num < t))) ∧ Below w.heap.size w w' := by
  have hne : T ≠ w.heap.size := by omega
  have hc2 : (w.alloc (.cells #[.int .i64 x.num, .int .u32 x.val] 34)).cell? ⟨T, 0, none⟩ = some (.int .i64 t) := (World.cell?_alloc_lt w _ ⟨T, 0, none⟩ hT).trans hc
  go_enter Try.func19, Try.ntmps19
  go_wp2_with fail
  go_ret
  exact ⟨by simp, (Below.refl _ _).alloc (Nat.le_refl _) _⟩
theorem below_pred (t : Int) (T : Nat) (w : World) (hc : w.cell? ⟨T, 0, none⟩ = some (.int .i64 t)) (hT : T < w.heap.size) :
    PredBelow Try.prog 19 #[.pointer (some ⟨T, 0, none⟩)] (fun x => .agg (Pce.enc x).toArray) (fun x => decide (x.num < t)) w := fun W x hb => by
  have hc' := (hb.cell (p := ⟨T, 0, none⟩) hT).trans hc
  exact (below_any x t T W hc' (Nat.lt_of_lt_of_le hT hb.size)).mono fun e w' ⟨he, hb'⟩ => ⟨he, hb.trans (hb'.mono hb.size)⟩

def againL (s : Snd) : List Pce := if sRight s then s.out else []
def GivesP (w : World) (l : List Pce) (e : Ending) (w' : World) : Prop := ∃ A' n' c', e = .returned (.slice A' n' c') ∧ l.length = n' ∧ Sl 2 Pce.enc w' A' l ∧ Below w.heap.size w w' ∧ ∀ a, A' = some a → w.heap.size ≤ a.block
set_option maxHeartbeats 1000000 in
theorem again_any (A : Option Addr) (c n : Nat) (s : Snd) (w : World) (hs : Sl 2 Pce.enc w A s.out) (hn : s.out.length = n) (hn1 : n ≤ 1000000) :
    Calls Try.prog 11 #[.agg #[.int .i64 s.next, .slice A n c]] w (GivesP w (againL s)) := by
  unfold againL
  have b0 : Below w.heap.size w (w.alloc (.cells #[.int .i64 s.next, .slice A n c] 27)) := (Below.refl _ _).alloc (Nat.le_refl _) _
  have e1 : (w.alloc (.cells #[.int .i64 s.next, .slice A n c] 27)).cell? ⟨w.heap.size, 1, none⟩ = some (.slice A n c) := by go_simp
  have cR := fun w1 (hb : Below w.heap.size w w1) => sRight_any A c n s w1 (hs.below hb) hn
  have cC := fun w1 (hb : Below w.heap.size w w1) => cloneP_any A c n s.out w1 (hs.below hb) hn hn1
  have HN := Lib.hid hn
  clear hs hn
  cases hr : sRight s with
  | false =>
    rw [hr] at cR
    simp only [Bool.false_eq_true, if_false]
    clear hr
    go_enter Try.func11, Try.ntmps11
    go_wp2_with fail
    refine (cR _ b0).mono ?_
    rintro e w1 ⟨rfl, hb1⟩
    go_wp2_with fail
    go_ret
    exact ⟨none, 0, 0, rfl, rfl, Sl.nil _ _ _ _, b0.trans (hb1.mono b0.size), fun a e => by cases e⟩
  | true =>
    rw [hr] at cR
    simp only [if_true]
    clear hr
    go_enter Try.func11, Try.ntmps11
    go_wp2_with fail
    refine (cR _ b0).mono ?_
    rintro e w1 ⟨rfl, hb1⟩
    replace e1 := (hb1.cell (p := ⟨w.heap.size, 1, none⟩) (by simp)).trans e1
    have b1 := b0.trans (hb1.mono b0.size)
    go_wp2_with fail
    refine (cC _ b1).mono ?_
    rintro e w2 ⟨v2, rfl, own2, hb2⟩
    obtain ⟨A', c', rfl⟩ := own_shape own2
    go_wp2_with fail
    go_ret
    exact ⟨A', n, c', rfl, HN.out, Sl.of_own Pce.enc_len own2 HN.out, b1.trans (hb2.mono b1.size), own_fresh own2 b1.size⟩
end Go.Proofs.Ytjnpdicoopgkoaa
