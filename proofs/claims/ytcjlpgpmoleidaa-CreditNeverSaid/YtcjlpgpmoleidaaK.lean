/- Walks of the laws' fixed answer of layer 20. -/
import Derived.Test.YtcjlpgpmoleidaaJ
namespace Go.Proofs.Ytcjlpgpmoleidaa
open Go.RowKit Go.Lib

theorem Gives.r {w : World} {r : List Cls × Int} {e : Ending} {w' : World} (h : Gives w r e w') : RGives w r e w' := by
  obtain ⟨v, he, hn⟩ := h
  obtain ⟨A, c, rfl, hs⟩ := hn.sl
  exact ⟨A, c, he, hs, hn.2⟩
/-- A call that gives the row l and the error k. -/
def Gave (w : World) (l : List Cls) (n : Nat) (k : Int) (e : Ending) (w' : World) : Prop := ∃ A c, e = .returned (.tuple #[.slice A n c, .int .i64 k]) ∧ Sl 2 Cls.enc w' A l ∧ Below w.heap.size w w'
theorem Gives.gave {w : World} {r : List Cls × Int} {l : List Cls} {n : Nat} {k : Int} {e : Ending} {w' : World} (h : Gives w r e w') (hr : r = (l, k)) (hn : l.length = n) : Gave w l n k e w' := by
  subst hr; subst hn; exact h.r
theorem RGives.gave {w : World} {r : List Cls × Int} {l : List Cls} {n : Nat} {k : Int} {e : Ending} {w' : World} (h : RGives w r e w') (hr : r = (l, k)) (hn : l.length = n) : Gave w l n k e w' := by
  subst hr; subst hn; exact h

theorem sl_two (w : World) (a b : Int) : Sl 1 encI (w.alloc (.cells #[.int .i64 a, .int .i64 b] 3)) (some ⟨w.heap.size, 0, none⟩) [a, b] :=
  ⟨by simp, fun _ => ⟨_, _, rfl, fun j hj i v hv => by
    have h := cell_new_block w [.int .i64 a, .int .i64 b] 3 (j * 1 + i) v (by
      match j, hj with
      | 0, _ =>
        match i, hv with
        | 0, hv => simpa [encI] using hv
        | i + 1, hv => simp [encI] at hv
      | 1, _ =>
        match i, hv with
        | 0, hv => simpa [encI] using hv
        | i + 1, hv => simp [encI] at hv
      | j + 2, hj => simp at hj; omega)
    rw [Go.WideShapes.add_plain] at h
    rw [Nat.add_assoc]; exact h⟩⟩

set_option maxHeartbeats 2000000 in
theorem awake_any (w : World) : Calls Try.prog 6 #[] w fun e w' => e = .returned (.bool true) ∧ Below w.heap.size w w' := by
  have hb0 : Below w.heap.size w (w.alloc (.cells #[.int .i64 2, .int .i64 5] 3)) := (Below.refl _ _).alloc (Nat.le_refl _) _
  have c1 := (New_any (some ⟨w.heap.size, 0, none⟩) 2 [2, 5] (w.alloc (.cells #[.int .i64 2, .int .i64 5] 3)) (sl_two w 2 5) (by simp)).mono fun e w' h => h.gave (l := [⟨2, 0⟩, ⟨5, 0⟩]) (n := 2) (k := 0) (by decide) rfl
  have c2 := fun A c w1 (hs : Sl 2 Cls.enc w1 A [⟨2, 0⟩, ⟨5, 0⟩]) => (Take_any A c [⟨2, 0⟩, ⟨5, 0⟩] 0 2 w1 hs (by simp)).mono fun e w' h => h.gave (l := [⟨2, 2⟩, ⟨5, 0⟩]) (n := 2) (k := 0) (by decide) rfl
  have c3 := fun A c w1 (hs : Sl 2 Cls.enc w1 A [⟨2, 2⟩, ⟨5, 0⟩]) => (Take_any A c [⟨2, 2⟩, ⟨5, 0⟩] 0 1 w1 hs (by simp)).mono fun e w' h => h.gave (l := [⟨2, 2⟩, ⟨5, 0⟩]) (n := 2) (k := 6) (by decide) rfl
  have c4 := fun A c w1 (hs : Sl 2 Cls.enc w1 A [⟨2, 2⟩, ⟨5, 0⟩]) => (Move_any A c [⟨2, 2⟩, ⟨5, 0⟩] 1 0 3 w1 hs (by simp)).mono fun e w' h => h.gave (l := [⟨5, 2⟩, ⟨2, 0⟩]) (n := 2) (k := 0) (by decide) rfl
  have c5 := fun A c w1 (hs : Sl 2 Cls.enc w1 A [⟨5, 2⟩, ⟨2, 0⟩]) => (Give_any A c [⟨5, 2⟩, ⟨2, 0⟩] 0 1 w1 hs (by simp)).mono fun e w' h => h.gave (l := [⟨5, 1⟩, ⟨2, 0⟩]) (n := 2) (k := 0) (by decide) rfl
  have c6 := fun A c w1 (hs : Sl 2 Cls.enc w1 A [⟨5, 2⟩, ⟨2, 0⟩]) => Room_any A c [⟨5, 2⟩, ⟨2, 0⟩] 0 w1 hs
  have c7 := fun A c w1 (hs : Sl 2 Cls.enc w1 A [⟨5, 1⟩, ⟨2, 0⟩]) => Room_any A c [⟨5, 1⟩, ⟨2, 0⟩] 0 w1 hs
  have c8 := fun A c w1 (hs : Sl 2 Cls.enc w1 A [⟨5, 1⟩, ⟨2, 0⟩]) => Right_any A c [⟨5, 1⟩, ⟨2, 0⟩] w1 hs
  rw [show roomI [⟨5, 2⟩, ⟨2, 0⟩] 0 = 3 by decide] at c6
  rw [show roomI [⟨5, 1⟩, ⟨2, 0⟩] 0 = 4 by decide] at c7
  rw [show rightB [⟨5, 1⟩, ⟨2, 0⟩] = true by decide] at c8
  go_enter Try.func6, Try.ntmps6
  go_wp2_with fail
  refine c1.mono ?_
  rintro e w1 ⟨A1, d1, rfl, hs1, hb1⟩
  go_wp2_with fail
  refine (c2 A1 d1 w1 hs1).mono ?_
  rintro e w2 ⟨A2, d2, rfl, hs2, hb2⟩
  go_wp2_with fail
  refine (c3 A2 d2 w2 hs2).mono ?_
  rintro e w3 ⟨A3, d3, rfl, hs3, hb3⟩
  go_wp2_with fail
  refine (c4 A2 d2 w3 (hs2.below hb3)).mono ?_
  rintro e w4 ⟨A4, d4, rfl, hs4, hb4⟩
  go_wp2_with fail
  refine (c5 A4 d4 w4 hs4).mono ?_
  rintro e w5 ⟨A5, d5, rfl, hs5, hb5⟩
  go_wp2_with fail
  refine (c6 A4 d4 w5 (hs4.below hb5)).mono ?_
  rintro e w6 ⟨rfl, hb6⟩
  go_wp2_with fail
  refine (c7 A5 d5 w6 (hs5.below hb6)).mono ?_
  rintro e w7 ⟨rfl, hb7⟩
  go_wp2_with fail
  refine (c8 A5 d5 w7 ((hs5.below hb6).below hb7)).mono ?_
  rintro e w8 ⟨rfl, hb8⟩
  go_wp2_with fail
  go_ret
  have b1 := hb0.trans (hb1.mono hb0.size)
  have b2 := b1.trans (hb2.mono b1.size)
  have b3 := b2.trans (hb3.mono b2.size)
  have b4 := b3.trans (hb4.mono b3.size)
  have b5 := b4.trans (hb5.mono b4.size)
  have b6 := b5.trans (hb6.mono b5.size)
  have b7 := b6.trans (hb7.mono b6.size)
  exact ⟨rfl, b7.trans (hb8.mono b7.size)⟩
end Go.Proofs.Ytcjlpgpmoleidaa
