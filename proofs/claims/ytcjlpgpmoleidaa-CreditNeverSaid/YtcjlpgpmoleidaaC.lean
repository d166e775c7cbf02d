/- Walks of the credit package: Take, Give, Move, New. -/
import Derived.Test.YtcjlpgpmoleidaaB
namespace Go.Proofs.Ytcjlpgpmoleidaa
open Go.RowKit Go.Lib

def takeL (l : List Cls) (n many : Int) : List Cls × Int :=
  if hasB l n = false ∨ many < 0 then (l, 1)
  else if roomI l n < many then (l, 6)
  else (l.set n.toNat ⟨l[n.toNat]!.most, l[n.toNat]!.used + many⟩, 0)

theorem hasB_iff {l : List Cls} {n : Int} : hasB l n = true ↔ rightB l = true ∧ 0 ≤ n ∧ n < l.length := by simp [hasB]

/-- A new row, and nothing else has turned. -/
def NewRow (w w' : World) (v : Value) (l : List Cls) : Prop := w'.ownsRow w.heap.size 42 2 v l.length (l.flatMap Cls.enc) ∧ Below w.heap.size w w'
def Gives (w : World) (r : List Cls × Int) (e : Ending) (w' : World) : Prop := ∃ v, e = .returned (.tuple #[v, .int .i64 r.2]) ∧ NewRow w w' v r.1

set_option maxHeartbeats 1000000 in
theorem Take_any (A : Option Addr) (c : Nat) (l : List Cls) (n many : Int) (w : World) (hs : Sl 2 Cls.enc w A l) (hsm : l.length ≤ 1000000) :
    Calls Try.prog 7 #[.slice A l.length c, .int .i64 n, .int .i64 many] w (Gives w (takeL l n many)) := by
  have hbig := hs.big
  have hcl := clone_any A c l w hs hsm
  have hhas := fun w1 (hb : Below w.heap.size w w1) => has_any A c l n w1 (hs.below hb)
  have hroom := fun w1 (hb : Below w.heap.size w w1) => Room_any A c l n w1 (hs.below hb)
  unfold takeL
  cases hh : hasB l n with
  | false =>
    rw [hh] at hhas
    simp only [true_or, if_true]
    clear hh hroom hs
    go_enter Try.func7, Try.ntmps7
    go_wp2_with (first | (go_at_call 20; refine hcl.mono ?_; rintro e w1 ⟨v, rfl, hown, hb1⟩) | (go_at_call 21; refine (hhas _ hb1).mono ?_; rintro e w2 ⟨rfl, hb2⟩))
    go_ret2
    exact ⟨v, rfl, own_below hown hb2, hb1.trans (hb2.mono hb1.size)⟩
  | true =>
    rw [hh] at hhas
    simp only [Bool.true_eq_false, false_or]
    by_cases hm : many < 0
    · simp only [hm, if_true]
      clear hh hroom hs
      go_enter Try.func7, Try.ntmps7
      go_wp2_with (first | (go_at_call 20; refine hcl.mono ?_; rintro e w1 ⟨v, rfl, hown, hb1⟩) | (go_at_call 21; refine (hhas _ hb1).mono ?_; rintro e w2 ⟨rfl, hb2⟩))
      go_ret2
      exact ⟨v, rfl, own_below hown hb2, hb1.trans (hb2.mono hb1.size)⟩
    · simp only [hm, if_false]
      obtain ⟨hr, h1, h2⟩ := hasB_iff.1 hh
      obtain ⟨j, rfl⟩ := Int.eq_ofNat_of_zero_le h1
      have hj : j < l.length := by omega
      obtain ⟨g1, g2, g3, g4⟩ := rightB_at hr j hj
      have hri : roomI l j = l[j]!.most - l[j]!.used := by simp [roomI, hh]
      rw [hri] at hroom ⊢
      rw [Int.toNat_natCast]
      by_cases hf : l[j]!.most - l[j]!.used < many
      · simp only [hf, if_true]
        clear hh hs hr hri
        generalize l[j]!.most = y0 at *
        generalize l[j]!.used = y1 at *
        go_enter Try.func7, Try.ntmps7
        go_wp2_with (first | (go_at_call 20; refine hcl.mono ?_; rintro e w1 ⟨v, rfl, hown, hb1⟩) | (go_at_call 21; refine (hhas _ hb1).mono ?_; rintro e w2 ⟨rfl, hb2⟩; have hb3 := hb1.trans (hb2.mono hb1.size)) | (go_at_call 18; refine (hroom _ hb3).mono ?_; rintro e w3 ⟨rfl, hb4⟩))
        go_ret2
        exact ⟨v, rfl, own_below (own_below hown hb2) hb4, hb3.trans (hb4.mono hb3.size)⟩
      · simp only [hf, if_false]
        have hset := flat_set Cls.enc_len l j 1 ⟨l[j]!.most, l[j]!.used + many⟩ (.int .i64 (l[j]!.used + many)) hj (by decide) rfl
        have hat0 := flat_at Cls.enc_len l j 0 (.int .i64 l[j]!.most) hj rfl
        have hat1 := flat_at Cls.enc_len l j 1 (.int .i64 l[j]!.used) hj rfl
        have hlen : (l.set j ⟨l[j]!.most, l[j]!.used + many⟩).length = l.length := by simp
        clear hh hs hr hri
        have HS := Lib.hid (show Gives w (l.set j ⟨l[j]!.most, l[j]!.used + many⟩, 0) = fun e w' => ∃ v, e = .returned (.tuple #[v, .int .i64 0]) ∧ w'.ownsRow w.heap.size 42 2 v l.length ((l.flatMap Cls.enc).set (j * 2 + 1) (.int .i64 (l[j]!.used + many))) ∧ Below w.heap.size w w' from by
          unfold Gives NewRow; simp only [hlen, hset])
        clear hset hlen
        rw [HS.out]
        clear HS
        generalize l[j]!.most = y0 at *
        generalize l[j]!.used = y1 at *
        generalize l.flatMap Cls.enc = cs at *
        go_enter Try.func7, Try.ntmps7
        go_wp2_with (first | (go_at_call 20; refine hcl.mono ?_; rintro e w1 ⟨v, rfl, hown, hb1⟩; obtain ⟨g, cap, rfl⟩ := own_slice hown (by omega)) | (go_at_call 21; refine (hhas _ hb1).mono ?_; rintro e w2 ⟨rfl, hb2⟩; have hb3 := hb1.trans (hb2.mono hb1.size)) | (go_at_call 18; refine (hroom _ hb3).mono ?_; rintro e w3 ⟨rfl, hb4⟩; have hown3 := own_below (own_below hown hb2) hb4; have q1 := own_cell hown3 _ _ hat1; have fr := own_frozen hown3 (j * 2 + 1)))
        go_ret2
        exact ⟨_, rfl, own_set hown3 _ _, (hb3.trans (hb4.mono hb3.size)).setCell (own_block hown).1 _⟩

def giveL (l : List Cls) (n many : Int) : List Cls × Int :=
  if hasB l n = false ∨ many < 0 then (l, 1)
  else if l[n.toNat]!.used < many then (l, 7)
  else (l.set n.toNat ⟨l[n.toNat]!.most, l[n.toNat]!.used - many⟩, 0)

set_option maxHeartbeats 1000000 in
theorem Give_any (A : Option Addr) (c : Nat) (l : List Cls) (n many : Int) (w : World) (hs : Sl 2 Cls.enc w A l) (hsm : l.length ≤ 1000000) :
    Calls Try.prog 10 #[.slice A l.length c, .int .i64 n, .int .i64 many] w (Gives w (giveL l n many)) := by
  have hbig := hs.big
  have hcl := clone_any A c l w hs hsm
  have hhas := fun w1 (hb : Below w.heap.size w w1) => has_any A c l n w1 (hs.below hb)
  unfold giveL
  cases hh : hasB l n with
  | false =>
    rw [hh] at hhas
    simp only [true_or, if_true]
    clear hh hs
    go_enter Try.func10, Try.ntmps10
    go_wp2_with (first | (go_at_call 20; refine hcl.mono ?_; rintro e w1 ⟨v, rfl, hown, hb1⟩) | (go_at_call 21; refine (hhas _ hb1).mono ?_; rintro e w2 ⟨rfl, hb2⟩))
    go_ret2
    exact ⟨v, rfl, own_below hown hb2, hb1.trans (hb2.mono hb1.size)⟩
  | true =>
    rw [hh] at hhas
    simp only [Bool.true_eq_false, false_or]
    by_cases hm : many < 0
    · simp only [hm, if_true]
      clear hh hs
      go_enter Try.func10, Try.ntmps10
      go_wp2_with (first | (go_at_call 20; refine hcl.mono ?_; rintro e w1 ⟨v, rfl, hown, hb1⟩) | (go_at_call 21; refine (hhas _ hb1).mono ?_; rintro e w2 ⟨rfl, hb2⟩))
      go_ret2
      exact ⟨v, rfl, own_below hown hb2, hb1.trans (hb2.mono hb1.size)⟩
    · simp only [hm, if_false]
      obtain ⟨hr, h1, h2⟩ := hasB_iff.1 hh
      obtain ⟨j, rfl⟩ := Int.eq_ofNat_of_zero_le h1
      have hj : j < l.length := by omega
      obtain ⟨g1, g2, g3, g4⟩ := rightB_at hr j hj
      obtain ⟨b, off, rfl, hq0⟩ := hs.at_ j hj
      have p1 := hq0 1 _ rfl
      rw [Int.toNat_natCast]
      by_cases hf : l[j]!.used < many
      · simp only [hf, if_true]
        clear hh hs hr hq0
        generalize l[j]!.most = y0 at *
        generalize l[j]!.used = y1 at *
        go_enter Try.func10, Try.ntmps10
        go_wp2_with (first | (go_at_call 20; refine hcl.mono ?_; rintro e w1 ⟨v, rfl, hown, hb1⟩) | (go_at_call 21; refine (hhas _ hb1).mono ?_; rintro e w2 ⟨rfl, hb2⟩; have hb3 := hb1.trans (hb2.mono hb1.size); rw [← hb3.cell (World.block_lt_of_cell? w _ p1)] at p1))
        go_ret2
        exact ⟨v, rfl, own_below hown hb2, hb3⟩
      · simp only [hf, if_false]
        have hset := flat_set Cls.enc_len l j 1 ⟨l[j]!.most, l[j]!.used - many⟩ (.int .i64 (l[j]!.used - many)) hj (by decide) rfl
        have hat1 := flat_at Cls.enc_len l j 1 (.int .i64 l[j]!.used) hj rfl
        have hlen : (l.set j ⟨l[j]!.most, l[j]!.used - many⟩).length = l.length := by simp
        clear hh hs hr hq0
        have HS := Lib.hid (show Gives w (l.set j ⟨l[j]!.most, l[j]!.used - many⟩, 0) = fun e w' => ∃ v, e = .returned (.tuple #[v, .int .i64 0]) ∧ w'.ownsRow w.heap.size 42 2 v l.length ((l.flatMap Cls.enc).set (j * 2 + 1) (.int .i64 (l[j]!.used - many))) ∧ Below w.heap.size w w' from by
          unfold Gives NewRow; simp only [hlen, hset])
        clear hset hlen
        rw [HS.out]
        clear HS
        generalize l[j]!.most = y0 at *
        generalize l[j]!.used = y1 at *
        generalize l.flatMap Cls.enc = cs at *
        go_enter Try.func10, Try.ntmps10
        go_wp2_with (first | (go_at_call 20; refine hcl.mono ?_; rintro e w1 ⟨v, rfl, hown, hb1⟩; obtain ⟨g, cap, rfl⟩ := own_slice hown (by omega)) | (go_at_call 21; refine (hhas _ hb1).mono ?_; rintro e w2 ⟨rfl, hb2⟩; have hb3 := hb1.trans (hb2.mono hb1.size); rw [← hb3.cell (World.block_lt_of_cell? w _ p1)] at p1; have hown3 := own_below hown hb2; have q1 := own_cell hown3 _ _ hat1; have fr := own_frozen hown3 (j * 2 + 1)))
        go_ret2
        exact ⟨_, rfl, own_set hown3 _ _, hb3.setCell (own_block hown).1 _⟩
end Go.Proofs.Ytcjlpgpmoleidaa
