/- Walks of the credit package: Move, New. -/
import Derived.Test.YtcjlpgpmoleidaaC
namespace Go.Proofs.Ytcjlpgpmoleidaa
open Go.RowKit Go.Lib

def mv1 (l : List Cls) (a many : Int) : List Cls := l.set a.toNat ⟨l[a.toNat]!.most - many, l[a.toNat]!.used⟩
def moveL (l : List Cls) (a b many : Int) : List Cls × Int :=
  if hasB l a = false ∨ hasB l b = false ∨ many < 0 then (l, 1)
  else if roomI l a < many ∨ (a ≠ b ∧ 1000 - l[b.toNat]!.most < many) then (l, 6)
  else (mv1 (mv1 l a many) b (-many), 0)

set_option maxHeartbeats 1000000 in
theorem Move_any (A : Option Addr) (c : Nat) (l : List Cls) (a b many : Int) (w : World) (hs : Sl 2 Cls.enc w A l) (hsm : l.length ≤ 1000000) :
    Calls Try.prog 12 #[.slice A l.length c, .int .i64 a, .int .i64 b, .int .i64 many] w (Gives w (moveL l a b many)) := by
  have hbig := hs.big
  have hcl := clone_any A c l w hs hsm
  have hhas := fun n w1 (hb : Below w.heap.size w w1) => has_any A c l n w1 (hs.below hb)
  have hroom := fun w1 (hb : Below w.heap.size w w1) => Room_any A c l a w1 (hs.below hb)
  unfold moveL
  cases hh : hasB l a with
  | false =>
    have ha := hhas a
    rw [hh] at ha
    simp only [true_or, if_true]
    clear hh hroom hs hhas
    go_enter Try.func12, Try.ntmps12
    go_wp2_with (first | (go_at_call 20; refine hcl.mono ?_; rintro e w1 ⟨v, rfl, hown, hb1⟩) | (go_at_call 21; refine (ha _ hb1).mono ?_; rintro e w2 ⟨rfl, hb2⟩))
    go_ret2
    exact ⟨v, rfl, own_below hown hb2, hb1.trans (hb2.mono hb1.size)⟩
  | true =>
    have ha := hhas a
    have hb := hhas b
    rw [hh] at ha
    cases hk : hasB l b with
    | false =>
      rw [hk] at hb
      simp only [true_or, or_true, if_true]
      clear hh hk hroom hs hhas
      go_enter Try.func12, Try.ntmps12
      go_wp2_with (first | (go_at_call 20; refine hcl.mono ?_; rintro e w1 ⟨v, rfl, hown, hb1⟩) | (go_at_call 21; with_reducible refine (ha w1 hb1).mono ?_; rintro e w2 ⟨rfl, hb2⟩; have hb3 := hb1.trans (hb2.mono hb1.size)) | (go_at_call 21; with_reducible refine (hb w2 hb3).mono ?_; rintro e w3 ⟨rfl, hb4⟩))
      go_ret2
      exact ⟨v, rfl, own_below (own_below hown hb2) hb4, hb3.trans (hb4.mono hb3.size)⟩
    | true =>
      rw [hk] at hb
      simp only [Bool.true_eq_false, false_or]
      by_cases hm : many < 0
      · simp only [hm, if_true]
        clear hh hk hroom hs hhas
        go_enter Try.func12, Try.ntmps12
        go_wp2_with (first | (go_at_call 20; refine hcl.mono ?_; rintro e w1 ⟨v, rfl, hown, hb1⟩) | (go_at_call 21; with_reducible refine (ha w1 hb1).mono ?_; rintro e w2 ⟨rfl, hb2⟩; have hb3 := hb1.trans (hb2.mono hb1.size)) | (go_at_call 21; with_reducible refine (hb w2 hb3).mono ?_; rintro e w3 ⟨rfl, hb4⟩))
        go_ret2
        exact ⟨v, rfl, own_below (own_below hown hb2) hb4, hb3.trans (hb4.mono hb3.size)⟩
      · simp only [hm, if_false]
        obtain ⟨hr, h1, h2⟩ := hasB_iff.1 hh
        obtain ⟨_, h3, h4⟩ := hasB_iff.1 hk
        obtain ⟨j, rfl⟩ := Int.eq_ofNat_of_zero_le h1
        obtain ⟨i, rfl⟩ := Int.eq_ofNat_of_zero_le h3
        have hj : j < l.length := by omega
        have hi : i < l.length := by omega
        obtain ⟨g1, g2, g3, g4⟩ := rightB_at hr j hj
        obtain ⟨f1, f2, f3, f4⟩ := rightB_at hr i hi
        have hri : roomI l j = l[j]!.most - l[j]!.used := by simp [roomI, hh]
        rw [hri] at hroom ⊢
        simp only [mv1, Int.toNat_natCast]
        obtain ⟨bb, off, rfl, hq0⟩ := hs.at_ i hi
        have p1 := hq0 0 _ rfl
        rw [Nat.add_zero] at p1
        clear hhas
        by_cases hf : l[j]!.most - l[j]!.used < many
        · simp only [hf, true_or, if_true]
          clear hh hs hr hri hq0 hk
          generalize l[j]!.most = y0 at *
          generalize l[j]!.used = y1 at *
          generalize l[i]!.most = z0 at *
          generalize l[i]!.used = z1 at *
          go_enter Try.func12, Try.ntmps12
          go_wp2_with (first | (go_at_call 20; refine hcl.mono ?_; rintro e w1 ⟨v, rfl, hown, hb1⟩) | (go_at_call 21; with_reducible refine (ha w1 hb1).mono ?_; rintro e w2 ⟨rfl, hb2⟩; have hb3 := hb1.trans (hb2.mono hb1.size)) | (go_at_call 21; with_reducible refine (hb w2 hb3).mono ?_; rintro e w3 ⟨rfl, hb4⟩; have hb5 := hb3.trans (hb4.mono hb3.size)) | (go_at_call 18; refine (hroom _ hb5).mono ?_; rintro e w4 ⟨rfl, hb6⟩; have hb7 := hb5.trans (hb6.mono hb5.size)))
          go_ret2
          exact ⟨v, rfl, own_below (own_below (own_below hown hb2) hb4) hb6, hb7⟩
        · by_cases hij : i = j
          · subst hij
            have hx : ¬ (l[i]!.most - l[i]!.used < many ∨ ((i : Int) ≠ (i : Int) ∧ 1000 - l[i]!.most < many)) := by rintro (h | ⟨h, _⟩); exact hf h; exact h rfl
            simp only [hx, if_false]
            have hl1 : (l.set i ⟨l[i]!.most - many, l[i]!.used⟩)[i]! = ⟨l[i]!.most - many, l[i]!.used⟩ := by rw [getElem!_pos _ _ (by simpa using hi)]; simp
            have hset := flat_set Cls.enc_len l i 0 ⟨l[i]!.most - many, l[i]!.used⟩ (.int .i64 (l[i]!.most - many)) hi (by decide) rfl
            have hset2 := flat_set Cls.enc_len (l.set i ⟨l[i]!.most - many, l[i]!.used⟩) i 0 ⟨l[i]!.most - many - -many, l[i]!.used⟩ (.int .i64 (l[i]!.most - many - -many)) (by simpa using hi) (by decide) (by rw [hl1]; rfl)
            have hat0 := flat_at Cls.enc_len l i 0 (.int .i64 l[i]!.most) hj rfl
            rw [Nat.add_zero] at hat0 hset hset2
            have hat1 : ((l.flatMap Cls.enc).set (i * 2) (.int .i64 (l[i]!.most - many)))[i * 2]? = some (.int .i64 (l[i]!.most - many)) := by
              rw [List.getElem?_set_self (List.getElem?_eq_some_iff.1 hat0).1]
            rw [hl1]
            have hlen : ((l.set i ⟨l[i]!.most - many, l[i]!.used⟩).set i ⟨l[i]!.most - many - -many, l[i]!.used⟩).length = l.length := by simp
            have HS := Lib.hid (show Gives w ((l.set i ⟨l[i]!.most - many, l[i]!.used⟩).set i ⟨l[i]!.most - many - -many, l[i]!.used⟩, 0) = fun e w' => ∃ v, e = .returned (.tuple #[v, .int .i64 0]) ∧ w'.ownsRow w.heap.size 42 2 v l.length (((l.flatMap Cls.enc).set (i * 2) (.int .i64 (l[i]!.most - many))).set (i * 2) (.int .i64 (l[i]!.most - many - -many))) ∧ Below w.heap.size w w' from by
              unfold Gives NewRow; simp only [hlen, ← hset2, ← hset])
            clear hh hs hr hri hq0 hk hset hset2 hlen hl1 hx
            rw [HS.out]
            clear HS
            generalize l[i]!.most = y0 at *
            generalize l[i]!.used = y1 at *
            generalize l.flatMap Cls.enc = cs at *
            have hnn : y0 - many - -many = y0 := by omega
            rw [hnn]
            clear hnn
            go_enter Try.func12, Try.ntmps12
            go_wp2_with (first | (go_at_call 20; refine hcl.mono ?_; rintro e w1 ⟨v, rfl, hown, hb1⟩; obtain ⟨g, cap, rfl⟩ := own_slice hown (by omega)) | (go_at_call 21; with_reducible refine (ha w1 hb1).mono ?_; rintro e w2 ⟨rfl, hb2⟩; have hb3 := hb1.trans (hb2.mono hb1.size)) | (go_at_call 21; with_reducible refine (hb w2 hb3).mono ?_; rintro e w3 ⟨rfl, hb4⟩; have hb5 := hb3.trans (hb4.mono hb3.size)) | (go_at_call 18; refine (hroom _ hb5).mono ?_; rintro e w4 ⟨rfl, hb6⟩; have hb7 := hb5.trans (hb6.mono hb5.size); rw [← hb7.cell (World.block_lt_of_cell? w _ p1)] at p1; have hown3 := own_below (own_below (own_below hown hb2) hb4) hb6; have q1 := own_cell hown3 _ _ hat0; have fr := own_frozen hown3 (i * 2)))
            go_ret2
            refine ⟨_, rfl, own_set (own_set hown3 _ _) _ _, (hb7.setCell (own_block hown).1 _).setCell (own_block hown).1 _⟩
          · have hji : ¬ j = i := fun e => hij e.symm
            have hij1 : ((j : Int) == (i : Int)) = false := by rw [beq_eq_false_iff_ne]; omega
            have hij2 : ((j : Int) != (i : Int)) = true := by rw [bne_iff_ne]; omega
            by_cases hg : 1000 - l[i]!.most < many
            · have hx : (l[j]!.most - l[j]!.used < many ∨ ((j : Int) ≠ (i : Int) ∧ 1000 - l[i]!.most < many)) := .inr ⟨by omega, hg⟩
              simp only [hx, if_true]
              clear hh hs hr hri hq0 hk hx
              generalize l[j]!.most = y0 at *
              generalize l[j]!.used = y1 at *
              generalize l[i]!.most = z0 at *
              generalize l[i]!.used = z1 at *
              go_enter Try.func12, Try.ntmps12
              go_wp2_with (first | (go_at_call 20; refine hcl.mono ?_; rintro e w1 ⟨v, rfl, hown, hb1⟩) | (go_at_call 21; with_reducible refine (ha w1 hb1).mono ?_; rintro e w2 ⟨rfl, hb2⟩; have hb3 := hb1.trans (hb2.mono hb1.size)) | (go_at_call 21; with_reducible refine (hb w2 hb3).mono ?_; rintro e w3 ⟨rfl, hb4⟩; have hb5 := hb3.trans (hb4.mono hb3.size)) | (go_at_call 18; refine (hroom _ hb5).mono ?_; rintro e w4 ⟨rfl, hb6⟩; have hb7 := hb5.trans (hb6.mono hb5.size); rw [← hb7.cell (World.block_lt_of_cell? w _ p1)] at p1))
              go_ret2
              exact ⟨v, rfl, own_below (own_below (own_below hown hb2) hb4) hb6, hb7⟩
            · have hx : ¬ (l[j]!.most - l[j]!.used < many ∨ ((j : Int) ≠ (i : Int) ∧ 1000 - l[i]!.most < many)) := by rintro (h | ⟨_, h⟩); exact hf h; exact hg h
              simp only [hx, if_false]
              have hl1 : (l.set j ⟨l[j]!.most - many, l[j]!.used⟩)[i]! = l[i]! := by
                rw [getElem!_pos (l.set j ⟨l[j]!.most - many, l[j]!.used⟩) i (by simpa using hi), getElem!_pos l i hi, List.getElem_set_ne hji]
              have hset := flat_set Cls.enc_len l j 0 ⟨l[j]!.most - many, l[j]!.used⟩ (.int .i64 (l[j]!.most - many)) hj (by decide) rfl
              have hset2 := flat_set Cls.enc_len (l.set j ⟨l[j]!.most - many, l[j]!.used⟩) i 0 ⟨l[i]!.most - -many, l[i]!.used⟩ (.int .i64 (l[i]!.most - -many)) (by simpa using hi) (by decide) (by rw [hl1]; rfl)
              have hat0 := flat_at Cls.enc_len l j 0 (.int .i64 l[j]!.most) hj rfl
              have hat2 := flat_at Cls.enc_len l i 0 (.int .i64 l[i]!.most) hi rfl
              rw [Nat.add_zero] at hat0 hat2 hset hset2
              rw [hl1]
              have hlen : ((l.set j ⟨l[j]!.most - many, l[j]!.used⟩).set i ⟨l[i]!.most - -many, l[i]!.used⟩).length = l.length := by simp
              have HS := Lib.hid (show Gives w ((l.set j ⟨l[j]!.most - many, l[j]!.used⟩).set i ⟨l[i]!.most - -many, l[i]!.used⟩, 0) = fun e w' => ∃ v, e = .returned (.tuple #[v, .int .i64 0]) ∧ w'.ownsRow w.heap.size 42 2 v l.length (((l.flatMap Cls.enc).set (j * 2) (.int .i64 (l[j]!.most - many))).set (i * 2) (.int .i64 (l[i]!.most - -many))) ∧ Below w.heap.size w w' from by
                unfold Gives NewRow; simp only [hlen, ← hset2, ← hset])
              clear hh hs hr hri hq0 hk hset hset2 hlen hl1 hx
              rw [HS.out]
              clear HS
              generalize l[j]!.most = y0 at *
              generalize l[j]!.used = y1 at *
              generalize l[i]!.most = z0 at *
              generalize l[i]!.used = z1 at *
              generalize l.flatMap Cls.enc = cs at *
              rw [show z0 - -many = z0 + many by omega]
              go_enter Try.func12, Try.ntmps12
              go_wp2_with (first | (go_at_call 20; refine hcl.mono ?_; rintro e w1 ⟨v, rfl, hown, hb1⟩; obtain ⟨g, cap, rfl⟩ := own_slice hown (by omega)) | (go_at_call 21; with_reducible refine (ha w1 hb1).mono ?_; rintro e w2 ⟨rfl, hb2⟩; have hb3 := hb1.trans (hb2.mono hb1.size)) | (go_at_call 21; with_reducible refine (hb w2 hb3).mono ?_; rintro e w3 ⟨rfl, hb4⟩; have hb5 := hb3.trans (hb4.mono hb3.size)) | (go_at_call 18; refine (hroom _ hb5).mono ?_; rintro e w4 ⟨rfl, hb6⟩; have hb7 := hb5.trans (hb6.mono hb5.size); rw [← hb7.cell (World.block_lt_of_cell? w _ p1)] at p1; have hown3 := own_below (own_below (own_below hown hb2) hb4) hb6; have q1 := own_cell hown3 _ _ hat0; have fr := own_frozen hown3 (j * 2); have q2 := own_cell hown3 _ _ hat2; have fr2 := own_frozen hown3 (i * 2)))
              go_ret2
              exact ⟨_, rfl, own_set (own_set hown3 _ _) _ _, (hb7.setCell (own_block hown).1 _).setCell (own_block hown).1 _⟩
end Go.Proofs.Ytcjlpgpmoleidaa
