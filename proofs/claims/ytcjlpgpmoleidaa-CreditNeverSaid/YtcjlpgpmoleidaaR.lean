/- The walk of CreditRight. -/
import Derived.Test.YtcjlpgpmoleidaaM
import Derived.Test.YtcjlpgpmoleidaaLibB
namespace Go.Proofs.Ytcjlpgpmoleidaa
open Go.RowKit Go.Lib

theorem rTake_n (A : Option Addr) (c n : Nat) (l : List Cls) (a x : Int) (w : World) (hs : Sl 2 Cls.enc w A l) (hn : l.length = n) (hsm : n ≤ 1000000) :
    Calls Try.prog 8 #[.slice A n c, .int .i64 a, .int .i64 x] w (Gave w (takeL l a x).1 n (takeL l a x).2) := by
  subst hn
  exact (rTake_any A c l a x w hs hsm).mono fun e w' h => h.gave rfl (takeL_len l a x)
theorem rGive_n (A : Option Addr) (c n : Nat) (l : List Cls) (a x : Int) (w : World) (hs : Sl 2 Cls.enc w A l) (hn : l.length = n) (hsm : n ≤ 1000000) :
    Calls Try.prog 11 #[.slice A n c, .int .i64 a, .int .i64 x] w (Gave w (giveL l a x).1 n (giveL l a x).2) := by
  subst hn
  exact (rGive_any A c l a x w hs hsm).mono fun e w' h => h.gave rfl (giveL_len l a x)
theorem rMove_n (A : Option Addr) (c n : Nat) (l : List Cls) (a b x : Int) (w : World) (hs : Sl 2 Cls.enc w A l) (hn : l.length = n) (hsm : n ≤ 1000000) :
    Calls Try.prog 13 #[.slice A n c, .int .i64 a, .int .i64 b, .int .i64 x] w (Gave w (moveL l a b x).1 n (moveL l a b x).2) := by
  subst hn
  exact (rMove_any A c l a b x w hs hsm).mono fun e w' h => h.gave rfl (moveL_len l a b x)
theorem bnew {w : World} {T : TypeId} : Below w.heap.size w (w.alloc (.cells #[] T)) := (Below.refl _ _).alloc (Nat.le_refl _) _

set_option maxHeartbeats 8000000 in
set_option maxRecDepth 100000 in
theorem right_walk (A : Option Addr) (c : Nat) (l : List Cls) (a b x : Int) (B : Option Addr) (d : Nat) (most : List Int) (w : World) (hs : Sl 2 Cls.enc w A l) (hm : Sl 1 encI w B most) :
    Calls Try.prog 3 #[.slice A l.length c, .int .i64 a, .int .i64 b, .int .i64 x, .slice B most.length d] w fun e w' => e = .returned (.bool true) ∧ Below w.heap.size w w' := by
  have hbig := hs.big
  have hbig2 := hm.big
  have cAw := awake_any w
  by_cases hlong : 20 < l.length
  · have hl1 : 20 < (l.length : Int) := by omega
    clear hs hm
    go_enter Try.func3, Try.ntmps3
    go_wp2_with fail
    refine cAw.mono ?_
    rintro e w0 ⟨rfl, b0⟩
    go_wp2
    go_ret
    exact ⟨rfl, b0⟩
  have hl1 : ¬ 20 < (l.length : Int) := by omega
  by_cases hlong2 : 20 < most.length
  · have hl2 : 20 < (most.length : Int) := by omega
    clear hs hm
    go_enter Try.func3, Try.ntmps3
    go_wp2_with fail
    refine cAw.mono ?_
    rintro e w0 ⟨rfl, b0⟩
    go_wp2
    go_ret
    exact ⟨rfl, b0⟩
  have hl2 : ¬ 20 < (most.length : Int) := by omega
  have hsm : l.length ≤ 1000000 := by omega
  have hsm2 : most.length ≤ 1000000 := by omega
  obtain ⟨i0, hi, hz0, hz1, hz2⟩ := info_parts info42
  have hgen : ∀ (A : Option Addr) (w1 : World) (hs' : Sl 2 Cls.enc w1 A l), True := fun _ _ _ => trivial
  clear hgen
  have tl := takeL_len l a x
  have gl := giveL_len l a x
  have ml := moveL_len l a b x
  have cNew := fun w1 (hb : Below w.heap.size w w1) => New_any B d most w1 (hm.below hb) hsm2
  have cNew2 := fun w1 (hb : Below w.heap.size w w1) => rNew_any B d most w1 (hm.below hb) hsm2
  have cT := fun A' c' w1 (hs' : Sl 2 Cls.enc w1 A' l) => Take_n A' c' l.length l a x w1 hs' rfl hsm
  have cT2 := fun A' c' w1 (hs' : Sl 2 Cls.enc w1 A' l) => rTake_n A' c' l.length l a x w1 hs' rfl hsm
  have cG := fun A' c' w1 (hs' : Sl 2 Cls.enc w1 A' l) => Give_n A' c' l.length l a x w1 hs' rfl hsm
  have cG2 := fun A' c' w1 (hs' : Sl 2 Cls.enc w1 A' l) => rGive_n A' c' l.length l a x w1 hs' rfl hsm
  have cM := fun A' c' w1 (hs' : Sl 2 Cls.enc w1 A' l) => Move_n A' c' l.length l a b x w1 hs' rfl hsm
  have cM2 := fun A' c' w1 (hs' : Sl 2 Cls.enc w1 A' l) => rMove_n A' c' l.length l a b x w1 hs' rfl hsm
  have cR := fun A' c' w1 (hs' : Sl 2 Cls.enc w1 A' l) => Right_any A' c' l w1 hs'
  have cR2 := fun A' c' w1 (hs' : Sl 2 Cls.enc w1 A' l) => rRight_any A' c' l w1 hs'
  have cO := fun A' c' w1 (hs' : Sl 2 Cls.enc w1 A' l) => Room_any A' c' l a w1 hs'
  have cO2 := fun A' c' w1 (hs' : Sl 2 Cls.enc w1 A' l) => rRoom_any A' c' l a w1 hs'
  generalize takeL l a x = t at *
  generalize giveL l a x = g at *
  generalize moveL l a b x = m at *
  generalize newL most = nw at *
  generalize rightB l = rb at *
  generalize roomI l a = rm at *
  obtain ⟨t, te⟩ := t
  obtain ⟨g, ge⟩ := g
  obtain ⟨m, me⟩ := m
  obtain ⟨nw, ne⟩ := nw
  have HS := Lib.hid hs
  clear hs hm hlong hlong2
  generalize hn : l.length = n at *
  generalize hn2 : most.length = n2 at *
  have HN := Lib.hid hn
  clear hn hn2
  go_enter Try.func3, Try.ntmps3
  go_wp2_with fail
  refine cAw.mono ?_
  rintro e w0 ⟨rfl, b0⟩
  have s0 := HS.out.below b0
  have s0' := s0.below (bnew (T := 42))
  go_wp2_with (at_builtin; refine wpList_append_sl _ rfl _ _ 22 rfl w0.heap.size 42 i0 _ 2 16 Try.underlying22 hi hz0 hz1 hz2 rfl (by decide) _ _ _ rfl (World.ownsRow_made w0 #[] 0 (Nat.le_refl _) (Nat.zero_le _) (by simp)) Cls.enc Cls.enc_len ?p1 A n c l rfl HN.out s0' ?p2 ?p3 ?p4 ?_)
  case p1 => intro y u hu; simp [Cls.enc] at hu; rcases hu with rfl | rfl <;> rfl
  case p2 => unfold maxLen; omega
  case p3 => omega
  case p4 => simp
  intro v1 w1 own1 grow1 at1
  have b1' : Below w0.heap.size w0 w1 := below_append (k := 2) bnew grow1 (by simp) (World.ownsRow_made w0 #[] 0 (Nat.le_refl _) (Nat.zero_le _) (by simp)) (Nat.le_refl _)
  have b1 := b0.trans (b1'.mono b0.size)
  have own1' : w1.ownsRow w0.heap.size 42 2 v1 l.length (l.flatMap Cls.enc) := by rw [HN.out]; simpa using own1
  obtain ⟨A1, c1, rfl, _, m1⟩ := Sl.own Cls.enc_len own1'
  rw [HN.out]
  clear own1 own1' grow1 at1 s0 s0' 
  go_wp2_with fail
  refine (cT A1 c1 w1 m1).mono ?_
  rintro e w2 ⟨A2, c2, rfl, s2, b2'⟩
  have b2 := b1.trans (b2'.mono b1.size)
  have m2 := m1.below b2'
  go_wp2_with fail
  refine (cT2 A c w2 (HS.out.below b2)).mono ?_
  rintro e w3 ⟨A3, c3, rfl, t3, b3'⟩
  have b3 := b2.trans (b3'.mono b2.size)
  have m3 := m2.below b3'
  have s3 := s2.below b3'
  go_wp2_with fail
  refine (Same_n A2 A3 c2 c3 n t t w3 s3 t3 tl tl).mono ?_
  rintro e w4 ⟨rfl, b4'⟩
  have b4 := b3.trans (b4'.mono b3.size)
  have m4 := m3.below b4'
  have s4 := s3.below b4'
  have t4 := t3.below b4'
  rw [show decide (t = t) = true by simp]
  go_wp2_with fail
  refine (cG A1 c1 w4 m4).mono ?_
  rintro e w5 ⟨A5, c5, rfl, s5, b5'⟩
  have b5 := b4.trans (b5'.mono b4.size)
  have m5 := m4.below b5'
  go_wp2_with fail
  refine (cG2 A c w5 (HS.out.below b5)).mono ?_
  rintro e w6 ⟨A6, c6, rfl, t6, b6'⟩
  have b6 := b5.trans (b6'.mono b5.size)
  have m6 := m5.below b6'
  have s6 := s5.below b6'
  go_wp2_with fail
  refine (Same_n A5 A6 c5 c6 n g g w6 s6 t6 gl gl).mono ?_
  rintro e w7 ⟨rfl, b7'⟩
  have b7 := b6.trans (b7'.mono b6.size)
  have m7 := m6.below b7'
  have s7 := s6.below b7'
  have t7 := t6.below b7'
  rw [show decide (g = g) = true by simp]
  go_wp2_with fail
  refine (cM A1 c1 w7 m7).mono ?_
  rintro e w8 ⟨A8, c8, rfl, s8, b8'⟩
  have b8 := b7.trans (b8'.mono b7.size)
  have m8 := m7.below b8'
  go_wp2_with fail
  refine (cM2 A c w8 (HS.out.below b8)).mono ?_
  rintro e w9 ⟨A9, c9, rfl, t9, b9'⟩
  have b9 := b8.trans (b9'.mono b8.size)
  have m9 := m8.below b9'
  have s9 := s8.below b9'
  go_wp2_with fail
  refine (Same_n A8 A9 c8 c9 n m m w9 s9 t9 ml ml).mono ?_
  rintro e w10 ⟨rfl, b10'⟩
  have b10 := b9.trans (b10'.mono b9.size)
  have m10 := m9.below b10'
  have s10 := s9.below b10'
  have t10 := t9.below b10'
  rw [show decide (m = m) = true by simp]
  go_wp2_with fail
  refine (cNew w10 b10).mono ?_
  rintro e w11 hg
  obtain ⟨A11, c11, rfl, s11, b11'⟩ := hg.r
  have b11 := b10.trans (b11'.mono b10.size)
  have m11 := m10.below b11'
  go_wp2_with fail
  refine (cNew2 w11 b11).mono ?_
  rintro e w12 ⟨A12, c12, rfl, t12, b12'⟩
  have b12 := b11.trans (b12'.mono b11.size)
  have m12 := m11.below b12'
  have s12 := s11.below b12'
  go_wp2_with fail
  refine (Same_n A11 A12 c11 c12 nw.length nw nw w12 s12 t12 rfl rfl).mono ?_
  rintro e w13 ⟨rfl, b13'⟩
  have b13 := b12.trans (b13'.mono b12.size)
  have m13 := m12.below b13'
  rw [show decide (nw = nw) = true by simp]
  go_wp2_with fail
  refine (cR A1 c1 w13 m13).mono ?_
  rintro e w14 ⟨rfl, b14'⟩
  have b14 := b13.trans (b14'.mono b13.size)
  have m14 := m13.below b14'
  go_wp2_with fail
  refine (cR2 A c w14 (HS.out.below b14)).mono ?_
  rintro e w15 ⟨rfl, b15'⟩
  have b15 := b14.trans (b15'.mono b14.size)
  have m15 := m14.below b15'
  go_wp2_with fail
  refine (cO A1 c1 w15 m15).mono ?_
  rintro e w16 ⟨rfl, b16'⟩
  have b16 := b15.trans (b16'.mono b15.size)
  have m16 := m15.below b16'
  go_wp2_with fail
  refine (cO2 A c w16 (HS.out.below b16)).mono ?_
  rintro e w17 ⟨rfl, b17'⟩
  have b17 := b16.trans (b17'.mono b16.size)
  have m17 := m16.below b17'
  go_wp2_with fail
  refine (Same_n A1 A c1 c n l l w17 m17 (HS.out.below b17) HN.out HN.out).mono ?_
  rintro e w18 ⟨rfl, b18'⟩
  have b18 := b17.trans (b18'.mono b17.size)
  have m18 := m17.below b18'
  rw [show decide (l = l) = true by simp]
  go_wp2
  go_ret
  exact ⟨by simp, b18⟩
end Go.Proofs.Ytcjlpgpmoleidaa
