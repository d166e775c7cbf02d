/- The walk of CreditTurns. -/
import Derived.Test.YtcjlpgpmoleidaaK
import Derived.Test.YtcjlpgpmoleidaaL
namespace Go.Proofs.Ytcjlpgpmoleidaa
open Go.RowKit Go.Lib

theorem Take_n (A : Option Addr) (c n : Nat) (l : List Cls) (a x : Int) (w : World) (hs : Sl 2 Cls.enc w A l) (hn : l.length = n) (hsm : n ≤ 1000000) :
    Calls Try.prog 7 #[.slice A n c, .int .i64 a, .int .i64 x] w (Gave w (takeL l a x).1 n (takeL l a x).2) := by
  subst hn
  exact (Take_any A c l a x w hs hsm).mono fun e w' h => h.gave rfl (takeL_len l a x)
theorem Give_n (A : Option Addr) (c n : Nat) (l : List Cls) (a x : Int) (w : World) (hs : Sl 2 Cls.enc w A l) (hn : l.length = n) (hsm : n ≤ 1000000) :
    Calls Try.prog 10 #[.slice A n c, .int .i64 a, .int .i64 x] w (Gave w (giveL l a x).1 n (giveL l a x).2) := by
  subst hn
  exact (Give_any A c l a x w hs hsm).mono fun e w' h => h.gave rfl (giveL_len l a x)
theorem Move_n (A : Option Addr) (c n : Nat) (l : List Cls) (a b x : Int) (w : World) (hs : Sl 2 Cls.enc w A l) (hn : l.length = n) (hsm : n ≤ 1000000) :
    Calls Try.prog 12 #[.slice A n c, .int .i64 a, .int .i64 b, .int .i64 x] w (Gave w (moveL l a b x).1 n (moveL l a b x).2) := by
  subst hn
  exact (Move_any A c l a b x w hs hsm).mono fun e w' h => h.gave rfl (moveL_len l a b x)
theorem Same_n (A B : Option Addr) (c d n : Nat) (l m : List Cls) (w : World) (hs : Sl 2 Cls.enc w A l) (ht : Sl 2 Cls.enc w B m) (hn : l.length = n) (hm : m.length = n) :
    Calls Try.prog 9 #[.slice A n c, .slice B n d] w fun e w' => e = .returned (.bool (decide (l = m))) ∧ Below w.heap.size w w' := by
  have h := rSame_any A B c d l m w hs ht
  rwa [hn, hm] at h

set_option maxHeartbeats 8000000 in
theorem turns_walk (A : Option Addr) (c : Nat) (l : List Cls) (a b x y : Int) (w : World) (hs : Sl 2 Cls.enc w A l) :
    Calls Try.prog 5 #[.slice A l.length c, .int .i64 a, .int .i64 b, .int .i64 x, .int .i64 y] w fun e w' => e = .returned (.bool true) ∧ Below w.heap.size w w' := by
  have hbig := hs.big
  have cAw := awake_any w
  by_cases hlong : 20 < l.length
  · have hl1 : 20 < (l.length : Int) := by omega
    clear hs
    go_enter Try.func5, Try.ntmps5
    go_wp2_with fail
    refine cAw.mono ?_
    rintro e w0 ⟨rfl, b0⟩
    go_wp2
    go_ret
    exact ⟨rfl, b0⟩
  have hl1 : ¬ 20 < (l.length : Int) := by omega
  have hsm : l.length ≤ 1000000 := by omega
  have cA := fun w1 (hb : Below w.heap.size w w1) => Take_n A c l.length l a x w1 (hs.below hb) rfl hsm
  have cM := fun w1 (hb : Below w.heap.size w w1) => Move_n A c l.length l a b x w1 (hs.below hb) rfl hsm
  have cQ := fun w1 (hb : Below w.heap.size w w1) => Take_n A c l.length l b y w1 (hs.below hb) rfl hsm
  have tl := takeL_len l a x
  have ml := moveL_len l a b x
  have ql := takeL_len l b y
  have G := fun t => @take_give l t a x
  have MB := fun t => @move_back l t a b x
  have TT := fun p r => @take_two l p r a b x y
  cases ht : takeL l a x with
  | mk t e1 =>
  cases hm : moveL l a b x with
  | mk m e2 =>
  cases hq : takeL l b y with
  | mk q g =>
  simp only [ht] at cA tl G TT
  simp only [hm] at cM ml MB
  simp only [hq] at cQ ql TT
  clear ht hm hq
  have cP := fun A' c' w1 (hs' : Sl 2 Cls.enc w1 A' t) => Take_n A' c' l.length t b y w1 hs' tl hsm
  have cR := fun A' c' w1 (hs' : Sl 2 Cls.enc w1 A' q) => Take_n A' c' l.length q a x w1 hs' ql hsm
  have pl := takeL_len t b y
  have rl := takeL_len q a x
  have TT' := TT t
  clear TT
  cases hp : takeL t b y with
  | mk p f =>
  cases hr : takeL q a x with
  | mk r h =>
  simp only [hp] at cP pl TT'
  simp only [hr] at cR rl TT'
  have hr0 := hr
  clear hp hr
  by_cases he1 : e1 = 0
  · by_cases he2 : e2 = 0
    · by_cases hab : a = b
      · by_cases hf : f = 0
        · have t1 : (e1 == 0) = true := by rw [beq_iff_eq]; exact he1
          have t1' : (e1 != 0) = false := by rw [bne_eq_false_iff_eq]; exact he1
          have t2 : (e2 == 0) = true := by rw [beq_iff_eq]; exact he2
          have t3 : (a == b) = true := by rw [beq_iff_eq]; exact hab
          have t4 : (f != 0) = false := by rw [bne_eq_false_iff_eq]; exact hf
          have G' := G t (by rw [he1])
          have cG := fun A' c' w1 (hs' : Sl 2 Cls.enc w1 A' t) => Give_n A' c' l.length t a x w1 hs' tl hsm
          simp only [G'] at cG
          clear G'
          have MB' := MB m (by rw [he2])
          have cN := fun A' c' w1 (hs' : Sl 2 Cls.enc w1 A' m) => Move_n A' c' l.length m b a x w1 hs' ml hsm
          simp only [MB'] at cN
          clear MB'
          clear he1 he2 hab hf G MB TT' hr0
          have HS := Lib.hid hs
          clear hs hlong
          generalize hn : l.length = n at *
          have HN := Lib.hid hn
          clear hn
          go_enter Try.func5, Try.ntmps5
          go_wp2_with fail
          refine cAw.mono ?_
          rintro e w0 ⟨rfl, b0⟩
          go_wp2_with fail
          refine (cA w0 b0).mono ?_
          rintro e w1 ⟨A1, c1, rfl, s1, b1'⟩
          have b1 := b0.trans (b1'.mono b0.size)
          go_wp2_with fail
          refine (cG A1 c1 w1 s1).mono ?_
          rintro e w2 ⟨A2, c2, rfl, s2, b2'⟩
          have b2 := b1.trans (b2'.mono b1.size)
          go_wp2_with fail
          refine (Same_n A2 A c2 c n l l w2 s2 (HS.out.below b2) HN.out HN.out).mono ?_
          rintro e w3 ⟨rfl, b3'⟩
          have b3 := b2.trans (b3'.mono b2.size)
          rw [show decide (l = l) = true by simp]
          go_wp2_with fail
          refine (cM w3 b3).mono ?_
          rintro e w4 ⟨A4, c4, rfl, s4, b4'⟩
          have b4 := b3.trans (b4'.mono b3.size)
          go_wp2_with fail
          refine (cN A4 c4 w4 s4).mono ?_
          rintro e w5 ⟨A5, c5, rfl, s5, b5'⟩
          have b5 := b4.trans (b5'.mono b4.size)
          go_wp2_with fail
          refine (Same_n A5 A c5 c n l l w5 s5 (HS.out.below b5) HN.out HN.out).mono ?_
          rintro e w6 ⟨rfl, b6'⟩
          have b6 := b5.trans (b6'.mono b5.size)
          rw [show decide (l = l) = true by simp]
          go_wp2_with fail
          refine (cA w6 b6).mono ?_
          rintro e w7 ⟨A7, c7, rfl, s7, b7'⟩
          have b7 := b6.trans (b7'.mono b6.size)
          go_wp2_with fail
          refine (cP A7 c7 w7 s7).mono ?_
          rintro e w8 ⟨A8, c8, rfl, s8, b8'⟩
          have b8 := b7.trans (b8'.mono b7.size)
          go_wp2_with fail
          refine (cQ w8 b8).mono ?_
          rintro e w9 ⟨A9, c9, rfl, s9, b9'⟩
          have b9 := b8.trans (b9'.mono b8.size)
          go_wp2_with fail
          refine (cR A9 c9 w9 s9).mono ?_
          rintro e wa ⟨Aa, ca, rfl, sa, ba'⟩
          have ba := b9.trans (ba'.mono b9.size)
          go_wp2
          go_ret
          exact ⟨rfl, ba⟩
        · have t1 : (e1 == 0) = true := by rw [beq_iff_eq]; exact he1
          have t1' : (e1 != 0) = false := by rw [bne_eq_false_iff_eq]; exact he1
          have t2 : (e2 == 0) = true := by rw [beq_iff_eq]; exact he2
          have t3 : (a == b) = true := by rw [beq_iff_eq]; exact hab
          have t4 : (f != 0) = true := by rw [bne_iff_ne]; exact hf
          have G' := G t (by rw [he1])
          have cG := fun A' c' w1 (hs' : Sl 2 Cls.enc w1 A' t) => Give_n A' c' l.length t a x w1 hs' tl hsm
          simp only [G'] at cG
          clear G'
          have MB' := MB m (by rw [he2])
          have cN := fun A' c' w1 (hs' : Sl 2 Cls.enc w1 A' m) => Move_n A' c' l.length m b a x w1 hs' ml hsm
          simp only [MB'] at cN
          clear MB'
          clear he1 he2 hab hf G MB TT' hr0
          have HS := Lib.hid hs
          clear hs hlong
          generalize hn : l.length = n at *
          have HN := Lib.hid hn
          clear hn
          go_enter Try.func5, Try.ntmps5
          go_wp2_with fail
          refine cAw.mono ?_
          rintro e w0 ⟨rfl, b0⟩
          go_wp2_with fail
          refine (cA w0 b0).mono ?_
          rintro e w1 ⟨A1, c1, rfl, s1, b1'⟩
          have b1 := b0.trans (b1'.mono b0.size)
          go_wp2_with fail
          refine (cG A1 c1 w1 s1).mono ?_
          rintro e w2 ⟨A2, c2, rfl, s2, b2'⟩
          have b2 := b1.trans (b2'.mono b1.size)
          go_wp2_with fail
          refine (Same_n A2 A c2 c n l l w2 s2 (HS.out.below b2) HN.out HN.out).mono ?_
          rintro e w3 ⟨rfl, b3'⟩
          have b3 := b2.trans (b3'.mono b2.size)
          rw [show decide (l = l) = true by simp]
          go_wp2_with fail
          refine (cM w3 b3).mono ?_
          rintro e w4 ⟨A4, c4, rfl, s4, b4'⟩
          have b4 := b3.trans (b4'.mono b3.size)
          go_wp2_with fail
          refine (cN A4 c4 w4 s4).mono ?_
          rintro e w5 ⟨A5, c5, rfl, s5, b5'⟩
          have b5 := b4.trans (b5'.mono b4.size)
          go_wp2_with fail
          refine (Same_n A5 A c5 c n l l w5 s5 (HS.out.below b5) HN.out HN.out).mono ?_
          rintro e w6 ⟨rfl, b6'⟩
          have b6 := b5.trans (b6'.mono b5.size)
          rw [show decide (l = l) = true by simp]
          go_wp2_with fail
          refine (cA w6 b6).mono ?_
          rintro e w7 ⟨A7, c7, rfl, s7, b7'⟩
          have b7 := b6.trans (b7'.mono b6.size)
          go_wp2_with fail
          refine (cP A7 c7 w7 s7).mono ?_
          rintro e w8 ⟨A8, c8, rfl, s8, b8'⟩
          have b8 := b7.trans (b8'.mono b7.size)
          go_wp2_with fail
          refine (cQ w8 b8).mono ?_
          rintro e w9 ⟨A9, c9, rfl, s9, b9'⟩
          have b9 := b8.trans (b9'.mono b8.size)
          go_wp2_with fail
          refine (cR A9 c9 w9 s9).mono ?_
          rintro e wa ⟨Aa, ca, rfl, sa, ba'⟩
          have ba := b9.trans (ba'.mono b9.size)
          go_wp2
          go_ret
          exact ⟨rfl, ba⟩
      · by_cases hf : f = 0
        · have t1 : (e1 == 0) = true := by rw [beq_iff_eq]; exact he1
          have t1' : (e1 != 0) = false := by rw [bne_eq_false_iff_eq]; exact he1
          have t2 : (e2 == 0) = true := by rw [beq_iff_eq]; exact he2
          have t3 : (a == b) = false := by rw [beq_eq_false_iff_ne]; exact hab
          have t4 : (f != 0) = false := by rw [bne_eq_false_iff_eq]; exact hf
          have G' := G t (by rw [he1])
          have cG := fun A' c' w1 (hs' : Sl 2 Cls.enc w1 A' t) => Give_n A' c' l.length t a x w1 hs' tl hsm
          simp only [G'] at cG
          clear G'
          have MB' := MB m (by rw [he2])
          have cN := fun A' c' w1 (hs' : Sl 2 Cls.enc w1 A' m) => Move_n A' c' l.length m b a x w1 hs' ml hsm
          simp only [MB'] at cN
          clear MB'
          obtain ⟨q', hq1, hq2⟩ := TT' p hab (by rw [he1]) (by rw [hf])
          obtain ⟨rfl, hg⟩ : q = q' ∧ g = 0 := by simpa using hq1
          obtain ⟨rfl, hh⟩ : r = p ∧ h = 0 := by rw [hr0] at hq2; simpa using hq2
          have t5 : (g == 0) = true := by rw [beq_iff_eq]; exact hg
          have t6 : (h == 0) = true := by rw [beq_iff_eq]; exact hh
          clear hg hh hq1 hq2
          clear he1 he2 hab hf G MB TT' hr0
          have HS := Lib.hid hs
          clear hs hlong
          generalize hn : l.length = n at *
          have HN := Lib.hid hn
          clear hn
          go_enter Try.func5, Try.ntmps5
          go_wp2_with fail
          refine cAw.mono ?_
          rintro e w0 ⟨rfl, b0⟩
          go_wp2_with fail
          refine (cA w0 b0).mono ?_
          rintro e w1 ⟨A1, c1, rfl, s1, b1'⟩
          have b1 := b0.trans (b1'.mono b0.size)
          go_wp2_with fail
          refine (cG A1 c1 w1 s1).mono ?_
          rintro e w2 ⟨A2, c2, rfl, s2, b2'⟩
          have b2 := b1.trans (b2'.mono b1.size)
          go_wp2_with fail
          refine (Same_n A2 A c2 c n l l w2 s2 (HS.out.below b2) HN.out HN.out).mono ?_
          rintro e w3 ⟨rfl, b3'⟩
          have b3 := b2.trans (b3'.mono b2.size)
          rw [show decide (l = l) = true by simp]
          go_wp2_with fail
          refine (cM w3 b3).mono ?_
          rintro e w4 ⟨A4, c4, rfl, s4, b4'⟩
          have b4 := b3.trans (b4'.mono b3.size)
          go_wp2_with fail
          refine (cN A4 c4 w4 s4).mono ?_
          rintro e w5 ⟨A5, c5, rfl, s5, b5'⟩
          have b5 := b4.trans (b5'.mono b4.size)
          go_wp2_with fail
          refine (Same_n A5 A c5 c n l l w5 s5 (HS.out.below b5) HN.out HN.out).mono ?_
          rintro e w6 ⟨rfl, b6'⟩
          have b6 := b5.trans (b6'.mono b5.size)
          rw [show decide (l = l) = true by simp]
          go_wp2_with fail
          refine (cA w6 b6).mono ?_
          rintro e w7 ⟨A7, c7, rfl, s7, b7'⟩
          have b7 := b6.trans (b7'.mono b6.size)
          go_wp2_with fail
          refine (cP A7 c7 w7 s7).mono ?_
          rintro e w8 ⟨A8, c8, rfl, s8, b8'⟩
          have b8 := b7.trans (b8'.mono b7.size)
          go_wp2_with fail
          refine (cQ w8 b8).mono ?_
          rintro e w9 ⟨A9, c9, rfl, s9, b9'⟩
          have b9 := b8.trans (b9'.mono b8.size)
          go_wp2_with fail
          refine (cR A9 c9 w9 s9).mono ?_
          rintro e wa ⟨Aa, ca, rfl, sa, ba'⟩
          have ba := b9.trans (ba'.mono b9.size)
          go_wp2_with fail
          refine (Same_n A8 Aa c8 ca n r r wa ((s8.below b9').below ba') sa (pl.trans tl) (rl.trans ql)).mono ?_
          rintro e wb ⟨rfl, bb'⟩
          have bb := ba.trans (bb'.mono ba.size)
          rw [show decide (r = r) = true by simp]
          go_wp2
          go_ret
          exact ⟨rfl, bb⟩
        · have t1 : (e1 == 0) = true := by rw [beq_iff_eq]; exact he1
          have t1' : (e1 != 0) = false := by rw [bne_eq_false_iff_eq]; exact he1
          have t2 : (e2 == 0) = true := by rw [beq_iff_eq]; exact he2
          have t3 : (a == b) = false := by rw [beq_eq_false_iff_ne]; exact hab
          have t4 : (f != 0) = true := by rw [bne_iff_ne]; exact hf
          have G' := G t (by rw [he1])
          have cG := fun A' c' w1 (hs' : Sl 2 Cls.enc w1 A' t) => Give_n A' c' l.length t a x w1 hs' tl hsm
          simp only [G'] at cG
          clear G'
          have MB' := MB m (by rw [he2])
          have cN := fun A' c' w1 (hs' : Sl 2 Cls.enc w1 A' m) => Move_n A' c' l.length m b a x w1 hs' ml hsm
          simp only [MB'] at cN
          clear MB'
          clear he1 he2 hab hf G MB TT' hr0
          have HS := Lib.hid hs
          clear hs hlong
          generalize hn : l.length = n at *
          have HN := Lib.hid hn
          clear hn
          go_enter Try.func5, Try.ntmps5
          go_wp2_with fail
          refine cAw.mono ?_
          rintro e w0 ⟨rfl, b0⟩
          go_wp2_with fail
          refine (cA w0 b0).mono ?_
          rintro e w1 ⟨A1, c1, rfl, s1, b1'⟩
          have b1 := b0.trans (b1'.mono b0.size)
          go_wp2_with fail
          refine (cG A1 c1 w1 s1).mono ?_
          rintro e w2 ⟨A2, c2, rfl, s2, b2'⟩
          have b2 := b1.trans (b2'.mono b1.size)
          go_wp2_with fail
          refine (Same_n A2 A c2 c n l l w2 s2 (HS.out.below b2) HN.out HN.out).mono ?_
          rintro e w3 ⟨rfl, b3'⟩
          have b3 := b2.trans (b3'.mono b2.size)
          rw [show decide (l = l) = true by simp]
          go_wp2_with fail
          refine (cM w3 b3).mono ?_
          rintro e w4 ⟨A4, c4, rfl, s4, b4'⟩
          have b4 := b3.trans (b4'.mono b3.size)
          go_wp2_with fail
          refine (cN A4 c4 w4 s4).mono ?_
          rintro e w5 ⟨A5, c5, rfl, s5, b5'⟩
          have b5 := b4.trans (b5'.mono b4.size)
          go_wp2_with fail
          refine (Same_n A5 A c5 c n l l w5 s5 (HS.out.below b5) HN.out HN.out).mono ?_
          rintro e w6 ⟨rfl, b6'⟩
          have b6 := b5.trans (b6'.mono b5.size)
          rw [show decide (l = l) = true by simp]
          go_wp2_with fail
          refine (cA w6 b6).mono ?_
          rintro e w7 ⟨A7, c7, rfl, s7, b7'⟩
          have b7 := b6.trans (b7'.mono b6.size)
          go_wp2_with fail
          refine (cP A7 c7 w7 s7).mono ?_
          rintro e w8 ⟨A8, c8, rfl, s8, b8'⟩
          have b8 := b7.trans (b8'.mono b7.size)
          go_wp2_with fail
          refine (cQ w8 b8).mono ?_
          rintro e w9 ⟨A9, c9, rfl, s9, b9'⟩
          have b9 := b8.trans (b9'.mono b8.size)
          go_wp2_with fail
          refine (cR A9 c9 w9 s9).mono ?_
          rintro e wa ⟨Aa, ca, rfl, sa, ba'⟩
          have ba := b9.trans (ba'.mono b9.size)
          go_wp2
          go_ret
          exact ⟨rfl, ba⟩
    · by_cases hab : a = b
      · by_cases hf : f = 0
        · have t1 : (e1 == 0) = true := by rw [beq_iff_eq]; exact he1
          have t1' : (e1 != 0) = false := by rw [bne_eq_false_iff_eq]; exact he1
          have t2 : (e2 == 0) = false := by rw [beq_eq_false_iff_ne]; exact he2
          have t3 : (a == b) = true := by rw [beq_iff_eq]; exact hab
          have t4 : (f != 0) = false := by rw [bne_eq_false_iff_eq]; exact hf
          have G' := G t (by rw [he1])
          have cG := fun A' c' w1 (hs' : Sl 2 Cls.enc w1 A' t) => Give_n A' c' l.length t a x w1 hs' tl hsm
          simp only [G'] at cG
          clear G'
          clear he1 he2 hab hf G MB TT' hr0
          have HS := Lib.hid hs
          clear hs hlong
          generalize hn : l.length = n at *
          have HN := Lib.hid hn
          clear hn
          go_enter Try.func5, Try.ntmps5
          go_wp2_with fail
          refine cAw.mono ?_
          rintro e w0 ⟨rfl, b0⟩
          go_wp2_with fail
          refine (cA w0 b0).mono ?_
          rintro e w1 ⟨A1, c1, rfl, s1, b1'⟩
          have b1 := b0.trans (b1'.mono b0.size)
          go_wp2_with fail
          refine (cG A1 c1 w1 s1).mono ?_
          rintro e w2 ⟨A2, c2, rfl, s2, b2'⟩
          have b2 := b1.trans (b2'.mono b1.size)
          go_wp2_with fail
          refine (Same_n A2 A c2 c n l l w2 s2 (HS.out.below b2) HN.out HN.out).mono ?_
          rintro e w3 ⟨rfl, b3'⟩
          have b3 := b2.trans (b3'.mono b2.size)
          rw [show decide (l = l) = true by simp]
          go_wp2_with fail
          refine (cM w3 b3).mono ?_
          rintro e w4 ⟨A4, c4, rfl, s4, b4'⟩
          have b4 := b3.trans (b4'.mono b3.size)
          go_wp2_with fail
          refine (cA w4 b4).mono ?_
          rintro e w7 ⟨A7, c7, rfl, s7, b7'⟩
          have b7 := b4.trans (b7'.mono b4.size)
          go_wp2_with fail
          refine (cP A7 c7 w7 s7).mono ?_
          rintro e w8 ⟨A8, c8, rfl, s8, b8'⟩
          have b8 := b7.trans (b8'.mono b7.size)
          go_wp2_with fail
          refine (cQ w8 b8).mono ?_
          rintro e w9 ⟨A9, c9, rfl, s9, b9'⟩
          have b9 := b8.trans (b9'.mono b8.size)
          go_wp2_with fail
          refine (cR A9 c9 w9 s9).mono ?_
          rintro e wa ⟨Aa, ca, rfl, sa, ba'⟩
          have ba := b9.trans (ba'.mono b9.size)
          go_wp2
          go_ret
          exact ⟨rfl, ba⟩
        · have t1 : (e1 == 0) = true := by rw [beq_iff_eq]; exact he1
          have t1' : (e1 != 0) = false := by rw [bne_eq_false_iff_eq]; exact he1
          have t2 : (e2 == 0) = false := by rw [beq_eq_false_iff_ne]; exact he2
          have t3 : (a == b) = true := by rw [beq_iff_eq]; exact hab
          have t4 : (f != 0) = true := by rw [bne_iff_ne]; exact hf
          have G' := G t (by rw [he1])
          have cG := fun A' c' w1 (hs' : Sl 2 Cls.enc w1 A' t) => Give_n A' c' l.length t a x w1 hs' tl hsm
          simp only [G'] at cG
          clear G'
          clear he1 he2 hab hf G MB TT' hr0
          have HS := Lib.hid hs
          clear hs hlong
          generalize hn : l.length = n at *
          have HN := Lib.hid hn
          clear hn
          go_enter Try.func5, Try.ntmps5
          go_wp2_with fail
          refine cAw.mono ?_
          rintro e w0 ⟨rfl, b0⟩
          go_wp2_with fail
          refine (cA w0 b0).mono ?_
          rintro e w1 ⟨A1, c1, rfl, s1, b1'⟩
          have b1 := b0.trans (b1'.mono b0.size)
          go_wp2_with fail
          refine (cG A1 c1 w1 s1).mono ?_
          rintro e w2 ⟨A2, c2, rfl, s2, b2'⟩
          have b2 := b1.trans (b2'.mono b1.size)
          go_wp2_with fail
          refine (Same_n A2 A c2 c n l l w2 s2 (HS.out.below b2) HN.out HN.out).mono ?_
          rintro e w3 ⟨rfl, b3'⟩
          have b3 := b2.trans (b3'.mono b2.size)
          rw [show decide (l = l) = true by simp]
          go_wp2_with fail
          refine (cM w3 b3).mono ?_
          rintro e w4 ⟨A4, c4, rfl, s4, b4'⟩
          have b4 := b3.trans (b4'.mono b3.size)
          go_wp2_with fail
          refine (cA w4 b4).mono ?_
          rintro e w7 ⟨A7, c7, rfl, s7, b7'⟩
          have b7 := b4.trans (b7'.mono b4.size)
          go_wp2_with fail
          refine (cP A7 c7 w7 s7).mono ?_
          rintro e w8 ⟨A8, c8, rfl, s8, b8'⟩
          have b8 := b7.trans (b8'.mono b7.size)
          go_wp2_with fail
          refine (cQ w8 b8).mono ?_
          rintro e w9 ⟨A9, c9, rfl, s9, b9'⟩
          have b9 := b8.trans (b9'.mono b8.size)
          go_wp2_with fail
          refine (cR A9 c9 w9 s9).mono ?_
          rintro e wa ⟨Aa, ca, rfl, sa, ba'⟩
          have ba := b9.trans (ba'.mono b9.size)
          go_wp2
          go_ret
          exact ⟨rfl, ba⟩
      · by_cases hf : f = 0
        · have t1 : (e1 == 0) = true := by rw [beq_iff_eq]; exact he1
          have t1' : (e1 != 0) = false := by rw [bne_eq_false_iff_eq]; exact he1
          have t2 : (e2 == 0) = false := by rw [beq_eq_false_iff_ne]; exact he2
          have t3 : (a == b) = false := by rw [beq_eq_false_iff_ne]; exact hab
          have t4 : (f != 0) = false := by rw [bne_eq_false_iff_eq]; exact hf
          have G' := G t (by rw [he1])
          have cG := fun A' c' w1 (hs' : Sl 2 Cls.enc w1 A' t) => Give_n A' c' l.length t a x w1 hs' tl hsm
          simp only [G'] at cG
          clear G'
          obtain ⟨q', hq1, hq2⟩ := TT' p hab (by rw [he1]) (by rw [hf])
          obtain ⟨rfl, hg⟩ : q = q' ∧ g = 0 := by simpa using hq1
          obtain ⟨rfl, hh⟩ : r = p ∧ h = 0 := by rw [hr0] at hq2; simpa using hq2
          have t5 : (g == 0) = true := by rw [beq_iff_eq]; exact hg
          have t6 : (h == 0) = true := by rw [beq_iff_eq]; exact hh
          clear hg hh hq1 hq2
          clear he1 he2 hab hf G MB TT' hr0
          have HS := Lib.hid hs
          clear hs hlong
          generalize hn : l.length = n at *
          have HN := Lib.hid hn
          clear hn
          go_enter Try.func5, Try.ntmps5
          go_wp2_with fail
          refine cAw.mono ?_
          rintro e w0 ⟨rfl, b0⟩
          go_wp2_with fail
          refine (cA w0 b0).mono ?_
          rintro e w1 ⟨A1, c1, rfl, s1, b1'⟩
          have b1 := b0.trans (b1'.mono b0.size)
          go_wp2_with fail
          refine (cG A1 c1 w1 s1).mono ?_
          rintro e w2 ⟨A2, c2, rfl, s2, b2'⟩
          have b2 := b1.trans (b2'.mono b1.size)
          go_wp2_with fail
          refine (Same_n A2 A c2 c n l l w2 s2 (HS.out.below b2) HN.out HN.out).mono ?_
          rintro e w3 ⟨rfl, b3'⟩
          have b3 := b2.trans (b3'.mono b2.size)
          rw [show decide (l = l) = true by simp]
          go_wp2_with fail
          refine (cM w3 b3).mono ?_
          rintro e w4 ⟨A4, c4, rfl, s4, b4'⟩
          have b4 := b3.trans (b4'.mono b3.size)
          go_wp2_with fail
          refine (cA w4 b4).mono ?_
          rintro e w7 ⟨A7, c7, rfl, s7, b7'⟩
          have b7 := b4.trans (b7'.mono b4.size)
          go_wp2_with fail
          refine (cP A7 c7 w7 s7).mono ?_
          rintro e w8 ⟨A8, c8, rfl, s8, b8'⟩
          have b8 := b7.trans (b8'.mono b7.size)
          go_wp2_with fail
          refine (cQ w8 b8).mono ?_
          rintro e w9 ⟨A9, c9, rfl, s9, b9'⟩
          have b9 := b8.trans (b9'.mono b8.size)
          go_wp2_with fail
          refine (cR A9 c9 w9 s9).mono ?_
          rintro e wa ⟨Aa, ca, rfl, sa, ba'⟩
          have ba := b9.trans (ba'.mono b9.size)
          go_wp2_with fail
          refine (Same_n A8 Aa c8 ca n r r wa ((s8.below b9').below ba') sa (pl.trans tl) (rl.trans ql)).mono ?_
          rintro e wb ⟨rfl, bb'⟩
          have bb := ba.trans (bb'.mono ba.size)
          rw [show decide (r = r) = true by simp]
          go_wp2
          go_ret
          exact ⟨rfl, bb⟩
        · have t1 : (e1 == 0) = true := by rw [beq_iff_eq]; exact he1
          have t1' : (e1 != 0) = false := by rw [bne_eq_false_iff_eq]; exact he1
          have t2 : (e2 == 0) = false := by rw [beq_eq_false_iff_ne]; exact he2
          have t3 : (a == b) = false := by rw [beq_eq_false_iff_ne]; exact hab
          have t4 : (f != 0) = true := by rw [bne_iff_ne]; exact hf
          have G' := G t (by rw [he1])
          have cG := fun A' c' w1 (hs' : Sl 2 Cls.enc w1 A' t) => Give_n A' c' l.length t a x w1 hs' tl hsm
          simp only [G'] at cG
          clear G'
          clear he1 he2 hab hf G MB TT' hr0
          have HS := Lib.hid hs
          clear hs hlong
          generalize hn : l.length = n at *
          have HN := Lib.hid hn
          clear hn
          go_enter Try.func5, Try.ntmps5
          go_wp2_with fail
          refine cAw.mono ?_
          rintro e w0 ⟨rfl, b0⟩
          go_wp2_with fail
          refine (cA w0 b0).mono ?_
          rintro e w1 ⟨A1, c1, rfl, s1, b1'⟩
          have b1 := b0.trans (b1'.mono b0.size)
          go_wp2_with fail
          refine (cG A1 c1 w1 s1).mono ?_
          rintro e w2 ⟨A2, c2, rfl, s2, b2'⟩
          have b2 := b1.trans (b2'.mono b1.size)
          go_wp2_with fail
          refine (Same_n A2 A c2 c n l l w2 s2 (HS.out.below b2) HN.out HN.out).mono ?_
          rintro e w3 ⟨rfl, b3'⟩
          have b3 := b2.trans (b3'.mono b2.size)
          rw [show decide (l = l) = true by simp]
          go_wp2_with fail
          refine (cM w3 b3).mono ?_
          rintro e w4 ⟨A4, c4, rfl, s4, b4'⟩
          have b4 := b3.trans (b4'.mono b3.size)
          go_wp2_with fail
          refine (cA w4 b4).mono ?_
          rintro e w7 ⟨A7, c7, rfl, s7, b7'⟩
          have b7 := b4.trans (b7'.mono b4.size)
          go_wp2_with fail
          refine (cP A7 c7 w7 s7).mono ?_
          rintro e w8 ⟨A8, c8, rfl, s8, b8'⟩
          have b8 := b7.trans (b8'.mono b7.size)
          go_wp2_with fail
          refine (cQ w8 b8).mono ?_
          rintro e w9 ⟨A9, c9, rfl, s9, b9'⟩
          have b9 := b8.trans (b9'.mono b8.size)
          go_wp2_with fail
          refine (cR A9 c9 w9 s9).mono ?_
          rintro e wa ⟨Aa, ca, rfl, sa, ba'⟩
          have ba := b9.trans (ba'.mono b9.size)
          go_wp2
          go_ret
          exact ⟨rfl, ba⟩
  · by_cases he2 : e2 = 0
    · by_cases hab : a = b
      · by_cases hf : f = 0
        · have t1 : (e1 == 0) = false := by rw [beq_eq_false_iff_ne]; exact he1
          have t1' : (e1 != 0) = true := by rw [bne_iff_ne]; exact he1
          have t2 : (e2 == 0) = true := by rw [beq_iff_eq]; exact he2
          have t3 : (a == b) = true := by rw [beq_iff_eq]; exact hab
          have t4 : (f != 0) = false := by rw [bne_eq_false_iff_eq]; exact hf
          have MB' := MB m (by rw [he2])
          have cN := fun A' c' w1 (hs' : Sl 2 Cls.enc w1 A' m) => Move_n A' c' l.length m b a x w1 hs' ml hsm
          simp only [MB'] at cN
          clear MB'
          clear he1 he2 hab hf G MB TT' hr0
          have HS := Lib.hid hs
          clear hs hlong
          generalize hn : l.length = n at *
          have HN := Lib.hid hn
          clear hn
          go_enter Try.func5, Try.ntmps5
          go_wp2_with fail
          refine cAw.mono ?_
          rintro e w0 ⟨rfl, b0⟩
          go_wp2_with fail
          refine (cA w0 b0).mono ?_
          rintro e w1 ⟨A1, c1, rfl, s1, b1'⟩
          have b1 := b0.trans (b1'.mono b0.size)
          go_wp2_with fail
          refine (cM w1 b1).mono ?_
          rintro e w4 ⟨A4, c4, rfl, s4, b4'⟩
          have b4 := b1.trans (b4'.mono b1.size)
          go_wp2_with fail
          refine (cN A4 c4 w4 s4).mono ?_
          rintro e w5 ⟨A5, c5, rfl, s5, b5'⟩
          have b5 := b4.trans (b5'.mono b4.size)
          go_wp2_with fail
          refine (Same_n A5 A c5 c n l l w5 s5 (HS.out.below b5) HN.out HN.out).mono ?_
          rintro e w6 ⟨rfl, b6'⟩
          have b6 := b5.trans (b6'.mono b5.size)
          rw [show decide (l = l) = true by simp]
          go_wp2_with fail
          refine (cA w6 b6).mono ?_
          rintro e w7 ⟨A7, c7, rfl, s7, b7'⟩
          have b7 := b6.trans (b7'.mono b6.size)
          go_wp2_with fail
          refine (cP A7 c7 w7 s7).mono ?_
          rintro e w8 ⟨A8, c8, rfl, s8, b8'⟩
          have b8 := b7.trans (b8'.mono b7.size)
          go_wp2_with fail
          refine (cQ w8 b8).mono ?_
          rintro e w9 ⟨A9, c9, rfl, s9, b9'⟩
          have b9 := b8.trans (b9'.mono b8.size)
          go_wp2_with fail
          refine (cR A9 c9 w9 s9).mono ?_
          rintro e wa ⟨Aa, ca, rfl, sa, ba'⟩
          have ba := b9.trans (ba'.mono b9.size)
          go_wp2
          go_ret
          exact ⟨rfl, ba⟩
        · have t1 : (e1 == 0) = false := by rw [beq_eq_false_iff_ne]; exact he1
          have t1' : (e1 != 0) = true := by rw [bne_iff_ne]; exact he1
          have t2 : (e2 == 0) = true := by rw [beq_iff_eq]; exact he2
          have t3 : (a == b) = true := by rw [beq_iff_eq]; exact hab
          have t4 : (f != 0) = true := by rw [bne_iff_ne]; exact hf
          have MB' := MB m (by rw [he2])
          have cN := fun A' c' w1 (hs' : Sl 2 Cls.enc w1 A' m) => Move_n A' c' l.length m b a x w1 hs' ml hsm
          simp only [MB'] at cN
          clear MB'
          clear he1 he2 hab hf G MB TT' hr0
          have HS := Lib.hid hs
          clear hs hlong
          generalize hn : l.length = n at *
          have HN := Lib.hid hn
          clear hn
          go_enter Try.func5, Try.ntmps5
          go_wp2_with fail
          refine cAw.mono ?_
          rintro e w0 ⟨rfl, b0⟩
          go_wp2_with fail
          refine (cA w0 b0).mono ?_
          rintro e w1 ⟨A1, c1, rfl, s1, b1'⟩
          have b1 := b0.trans (b1'.mono b0.size)
          go_wp2_with fail
          refine (cM w1 b1).mono ?_
          rintro e w4 ⟨A4, c4, rfl, s4, b4'⟩
          have b4 := b1.trans (b4'.mono b1.size)
          go_wp2_with fail
          refine (cN A4 c4 w4 s4).mono ?_
          rintro e w5 ⟨A5, c5, rfl, s5, b5'⟩
          have b5 := b4.trans (b5'.mono b4.size)
          go_wp2_with fail
          refine (Same_n A5 A c5 c n l l w5 s5 (HS.out.below b5) HN.out HN.out).mono ?_
          rintro e w6 ⟨rfl, b6'⟩
          have b6 := b5.trans (b6'.mono b5.size)
          rw [show decide (l = l) = true by simp]
          go_wp2_with fail
          refine (cA w6 b6).mono ?_
          rintro e w7 ⟨A7, c7, rfl, s7, b7'⟩
          have b7 := b6.trans (b7'.mono b6.size)
          go_wp2_with fail
          refine (cP A7 c7 w7 s7).mono ?_
          rintro e w8 ⟨A8, c8, rfl, s8, b8'⟩
          have b8 := b7.trans (b8'.mono b7.size)
          go_wp2_with fail
          refine (cQ w8 b8).mono ?_
          rintro e w9 ⟨A9, c9, rfl, s9, b9'⟩
          have b9 := b8.trans (b9'.mono b8.size)
          go_wp2_with fail
          refine (cR A9 c9 w9 s9).mono ?_
          rintro e wa ⟨Aa, ca, rfl, sa, ba'⟩
          have ba := b9.trans (ba'.mono b9.size)
          go_wp2
          go_ret
          exact ⟨rfl, ba⟩
      · by_cases hf : f = 0
        · have t1 : (e1 == 0) = false := by rw [beq_eq_false_iff_ne]; exact he1
          have t1' : (e1 != 0) = true := by rw [bne_iff_ne]; exact he1
          have t2 : (e2 == 0) = true := by rw [beq_iff_eq]; exact he2
          have t3 : (a == b) = false := by rw [beq_eq_false_iff_ne]; exact hab
          have t4 : (f != 0) = false := by rw [bne_eq_false_iff_eq]; exact hf
          have MB' := MB m (by rw [he2])
          have cN := fun A' c' w1 (hs' : Sl 2 Cls.enc w1 A' m) => Move_n A' c' l.length m b a x w1 hs' ml hsm
          simp only [MB'] at cN
          clear MB'
          clear he1 he2 hab hf G MB TT' hr0
          have HS := Lib.hid hs
          clear hs hlong
          generalize hn : l.length = n at *
          have HN := Lib.hid hn
          clear hn
          go_enter Try.func5, Try.ntmps5
          go_wp2_with fail
          refine cAw.mono ?_
          rintro e w0 ⟨rfl, b0⟩
          go_wp2_with fail
          refine (cA w0 b0).mono ?_
          rintro e w1 ⟨A1, c1, rfl, s1, b1'⟩
          have b1 := b0.trans (b1'.mono b0.size)
          go_wp2_with fail
          refine (cM w1 b1).mono ?_
          rintro e w4 ⟨A4, c4, rfl, s4, b4'⟩
          have b4 := b1.trans (b4'.mono b1.size)
          go_wp2_with fail
          refine (cN A4 c4 w4 s4).mono ?_
          rintro e w5 ⟨A5, c5, rfl, s5, b5'⟩
          have b5 := b4.trans (b5'.mono b4.size)
          go_wp2_with fail
          refine (Same_n A5 A c5 c n l l w5 s5 (HS.out.below b5) HN.out HN.out).mono ?_
          rintro e w6 ⟨rfl, b6'⟩
          have b6 := b5.trans (b6'.mono b5.size)
          rw [show decide (l = l) = true by simp]
          go_wp2_with fail
          refine (cA w6 b6).mono ?_
          rintro e w7 ⟨A7, c7, rfl, s7, b7'⟩
          have b7 := b6.trans (b7'.mono b6.size)
          go_wp2_with fail
          refine (cP A7 c7 w7 s7).mono ?_
          rintro e w8 ⟨A8, c8, rfl, s8, b8'⟩
          have b8 := b7.trans (b8'.mono b7.size)
          go_wp2_with fail
          refine (cQ w8 b8).mono ?_
          rintro e w9 ⟨A9, c9, rfl, s9, b9'⟩
          have b9 := b8.trans (b9'.mono b8.size)
          go_wp2_with fail
          refine (cR A9 c9 w9 s9).mono ?_
          rintro e wa ⟨Aa, ca, rfl, sa, ba'⟩
          have ba := b9.trans (ba'.mono b9.size)
          go_wp2
          go_ret
          exact ⟨rfl, ba⟩
        · have t1 : (e1 == 0) = false := by rw [beq_eq_false_iff_ne]; exact he1
          have t1' : (e1 != 0) = true := by rw [bne_iff_ne]; exact he1
          have t2 : (e2 == 0) = true := by rw [beq_iff_eq]; exact he2
          have t3 : (a == b) = false := by rw [beq_eq_false_iff_ne]; exact hab
          have t4 : (f != 0) = true := by rw [bne_iff_ne]; exact hf
          have MB' := MB m (by rw [he2])
          have cN := fun A' c' w1 (hs' : Sl 2 Cls.enc w1 A' m) => Move_n A' c' l.length m b a x w1 hs' ml hsm
          simp only [MB'] at cN
          clear MB'
          clear he1 he2 hab hf G MB TT' hr0
          have HS := Lib.hid hs
          clear hs hlong
          generalize hn : l.length = n at *
          have HN := Lib.hid hn
          clear hn
          go_enter Try.func5, Try.ntmps5
          go_wp2_with fail
          refine cAw.mono ?_
          rintro e w0 ⟨rfl, b0⟩
          go_wp2_with fail
          refine (cA w0 b0).mono ?_
          rintro e w1 ⟨A1, c1, rfl, s1, b1'⟩
          have b1 := b0.trans (b1'.mono b0.size)
          go_wp2_with fail
          refine (cM w1 b1).mono ?_
          rintro e w4 ⟨A4, c4, rfl, s4, b4'⟩
          have b4 := b1.trans (b4'.mono b1.size)
          go_wp2_with fail
          refine (cN A4 c4 w4 s4).mono ?_
          rintro e w5 ⟨A5, c5, rfl, s5, b5'⟩
          have b5 := b4.trans (b5'.mono b4.size)
          go_wp2_with fail
          refine (Same_n A5 A c5 c n l l w5 s5 (HS.out.below b5) HN.out HN.out).mono ?_
          rintro e w6 ⟨rfl, b6'⟩
          have b6 := b5.trans (b6'.mono b5.size)
          rw [show decide (l = l) = true by simp]
          go_wp2_with fail
          refine (cA w6 b6).mono ?_
          rintro e w7 ⟨A7, c7, rfl, s7, b7'⟩
          have b7 := b6.trans (b7'.mono b6.size)
          go_wp2_with fail
          refine (cP A7 c7 w7 s7).mono ?_
          rintro e w8 ⟨A8, c8, rfl, s8, b8'⟩
          have b8 := b7.trans (b8'.mono b7.size)
          go_wp2_with fail
          refine (cQ w8 b8).mono ?_
          rintro e w9 ⟨A9, c9, rfl, s9, b9'⟩
          have b9 := b8.trans (b9'.mono b8.size)
          go_wp2_with fail
          refine (cR A9 c9 w9 s9).mono ?_
          rintro e wa ⟨Aa, ca, rfl, sa, ba'⟩
          have ba := b9.trans (ba'.mono b9.size)
          go_wp2
          go_ret
          exact ⟨rfl, ba⟩
    · by_cases hab : a = b
      · by_cases hf : f = 0
        · have t1 : (e1 == 0) = false := by rw [beq_eq_false_iff_ne]; exact he1
          have t1' : (e1 != 0) = true := by rw [bne_iff_ne]; exact he1
          have t2 : (e2 == 0) = false := by rw [beq_eq_false_iff_ne]; exact he2
          have t3 : (a == b) = true := by rw [beq_iff_eq]; exact hab
          have t4 : (f != 0) = false := by rw [bne_eq_false_iff_eq]; exact hf
          clear he1 he2 hab hf G MB TT' hr0
          have HS := Lib.hid hs
          clear hs hlong
          generalize hn : l.length = n at *
          have HN := Lib.hid hn
          clear hn
          go_enter Try.func5, Try.ntmps5
          go_wp2_with fail
          refine cAw.mono ?_
          rintro e w0 ⟨rfl, b0⟩
          go_wp2_with fail
          refine (cA w0 b0).mono ?_
          rintro e w1 ⟨A1, c1, rfl, s1, b1'⟩
          have b1 := b0.trans (b1'.mono b0.size)
          go_wp2_with fail
          refine (cM w1 b1).mono ?_
          rintro e w4 ⟨A4, c4, rfl, s4, b4'⟩
          have b4 := b1.trans (b4'.mono b1.size)
          go_wp2_with fail
          refine (cA w4 b4).mono ?_
          rintro e w7 ⟨A7, c7, rfl, s7, b7'⟩
          have b7 := b4.trans (b7'.mono b4.size)
          go_wp2_with fail
          refine (cP A7 c7 w7 s7).mono ?_
          rintro e w8 ⟨A8, c8, rfl, s8, b8'⟩
          have b8 := b7.trans (b8'.mono b7.size)
          go_wp2_with fail
          refine (cQ w8 b8).mono ?_
          rintro e w9 ⟨A9, c9, rfl, s9, b9'⟩
          have b9 := b8.trans (b9'.mono b8.size)
          go_wp2_with fail
          refine (cR A9 c9 w9 s9).mono ?_
          rintro e wa ⟨Aa, ca, rfl, sa, ba'⟩
          have ba := b9.trans (ba'.mono b9.size)
          go_wp2
          go_ret
          exact ⟨rfl, ba⟩
        · have t1 : (e1 == 0) = false := by rw [beq_eq_false_iff_ne]; exact he1
          have t1' : (e1 != 0) = true := by rw [bne_iff_ne]; exact he1
          have t2 : (e2 == 0) = false := by rw [beq_eq_false_iff_ne]; exact he2
          have t3 : (a == b) = true := by rw [beq_iff_eq]; exact hab
          have t4 : (f != 0) = true := by rw [bne_iff_ne]; exact hf
          clear he1 he2 hab hf G MB TT' hr0
          have HS := Lib.hid hs
          clear hs hlong
          generalize hn : l.length = n at *
          have HN := Lib.hid hn
          clear hn
          go_enter Try.func5, Try.ntmps5
          go_wp2_with fail
          refine cAw.mono ?_
          rintro e w0 ⟨rfl, b0⟩
          go_wp2_with fail
          refine (cA w0 b0).mono ?_
          rintro e w1 ⟨A1, c1, rfl, s1, b1'⟩
          have b1 := b0.trans (b1'.mono b0.size)
          go_wp2_with fail
          refine (cM w1 b1).mono ?_
          rintro e w4 ⟨A4, c4, rfl, s4, b4'⟩
          have b4 := b1.trans (b4'.mono b1.size)
          go_wp2_with fail
          refine (cA w4 b4).mono ?_
          rintro e w7 ⟨A7, c7, rfl, s7, b7'⟩
          have b7 := b4.trans (b7'.mono b4.size)
          go_wp2_with fail
          refine (cP A7 c7 w7 s7).mono ?_
          rintro e w8 ⟨A8, c8, rfl, s8, b8'⟩
          have b8 := b7.trans (b8'.mono b7.size)
          go_wp2_with fail
          refine (cQ w8 b8).mono ?_
          rintro e w9 ⟨A9, c9, rfl, s9, b9'⟩
          have b9 := b8.trans (b9'.mono b8.size)
          go_wp2_with fail
          refine (cR A9 c9 w9 s9).mono ?_
          rintro e wa ⟨Aa, ca, rfl, sa, ba'⟩
          have ba := b9.trans (ba'.mono b9.size)
          go_wp2
          go_ret
          exact ⟨rfl, ba⟩
      · by_cases hf : f = 0
        · have t1 : (e1 == 0) = false := by rw [beq_eq_false_iff_ne]; exact he1
          have t1' : (e1 != 0) = true := by rw [bne_iff_ne]; exact he1
          have t2 : (e2 == 0) = false := by rw [beq_eq_false_iff_ne]; exact he2
          have t3 : (a == b) = false := by rw [beq_eq_false_iff_ne]; exact hab
          have t4 : (f != 0) = false := by rw [bne_eq_false_iff_eq]; exact hf
          clear he1 he2 hab hf G MB TT' hr0
          have HS := Lib.hid hs
          clear hs hlong
          generalize hn : l.length = n at *
          have HN := Lib.hid hn
          clear hn
          go_enter Try.func5, Try.ntmps5
          go_wp2_with fail
          refine cAw.mono ?_
          rintro e w0 ⟨rfl, b0⟩
          go_wp2_with fail
          refine (cA w0 b0).mono ?_
          rintro e w1 ⟨A1, c1, rfl, s1, b1'⟩
          have b1 := b0.trans (b1'.mono b0.size)
          go_wp2_with fail
          refine (cM w1 b1).mono ?_
          rintro e w4 ⟨A4, c4, rfl, s4, b4'⟩
          have b4 := b1.trans (b4'.mono b1.size)
          go_wp2_with fail
          refine (cA w4 b4).mono ?_
          rintro e w7 ⟨A7, c7, rfl, s7, b7'⟩
          have b7 := b4.trans (b7'.mono b4.size)
          go_wp2_with fail
          refine (cP A7 c7 w7 s7).mono ?_
          rintro e w8 ⟨A8, c8, rfl, s8, b8'⟩
          have b8 := b7.trans (b8'.mono b7.size)
          go_wp2_with fail
          refine (cQ w8 b8).mono ?_
          rintro e w9 ⟨A9, c9, rfl, s9, b9'⟩
          have b9 := b8.trans (b9'.mono b8.size)
          go_wp2_with fail
          refine (cR A9 c9 w9 s9).mono ?_
          rintro e wa ⟨Aa, ca, rfl, sa, ba'⟩
          have ba := b9.trans (ba'.mono b9.size)
          go_wp2
          go_ret
          exact ⟨rfl, ba⟩
        · have t1 : (e1 == 0) = false := by rw [beq_eq_false_iff_ne]; exact he1
          have t1' : (e1 != 0) = true := by rw [bne_iff_ne]; exact he1
          have t2 : (e2 == 0) = false := by rw [beq_eq_false_iff_ne]; exact he2
          have t3 : (a == b) = false := by rw [beq_eq_false_iff_ne]; exact hab
          have t4 : (f != 0) = true := by rw [bne_iff_ne]; exact hf
          clear he1 he2 hab hf G MB TT' hr0
          have HS := Lib.hid hs
          clear hs hlong
          generalize hn : l.length = n at *
          have HN := Lib.hid hn
          clear hn
          go_enter Try.func5, Try.ntmps5
          go_wp2_with fail
          refine cAw.mono ?_
          rintro e w0 ⟨rfl, b0⟩
          go_wp2_with fail
          refine (cA w0 b0).mono ?_
          rintro e w1 ⟨A1, c1, rfl, s1, b1'⟩
          have b1 := b0.trans (b1'.mono b0.size)
          go_wp2_with fail
          refine (cM w1 b1).mono ?_
          rintro e w4 ⟨A4, c4, rfl, s4, b4'⟩
          have b4 := b1.trans (b4'.mono b1.size)
          go_wp2_with fail
          refine (cA w4 b4).mono ?_
          rintro e w7 ⟨A7, c7, rfl, s7, b7'⟩
          have b7 := b4.trans (b7'.mono b4.size)
          go_wp2_with fail
          refine (cP A7 c7 w7 s7).mono ?_
          rintro e w8 ⟨A8, c8, rfl, s8, b8'⟩
          have b8 := b7.trans (b8'.mono b7.size)
          go_wp2_with fail
          refine (cQ w8 b8).mono ?_
          rintro e w9 ⟨A9, c9, rfl, s9, b9'⟩
          have b9 := b8.trans (b9'.mono b8.size)
          go_wp2_with fail
          refine (cR A9 c9 w9 s9).mono ?_
          rintro e wa ⟨Aa, ca, rfl, sa, ba'⟩
          have ba := b9.trans (ba'.mono b9.size)
          go_wp2
          go_ret
          exact ⟨rfl, ba⟩
end Go.Proofs.Ytcjlpgpmoleidaa
