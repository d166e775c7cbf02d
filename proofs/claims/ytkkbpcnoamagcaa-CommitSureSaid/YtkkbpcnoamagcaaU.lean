/- Walks of commit's laws: CommitSure. -/
import Derived.Test.YtkkbpcnoamagcaaT
namespace Go.Proofs.Ytkkbpcnoamagcaa
open Go.RowKit Go.Lib
set_option linter.unusedVariables false

def cntN (l : List Hld) (sure : Int) (k : Nat) : Nat := ((l.take k).filter (lowB sure)).length
theorem cntN_le (l : List Hld) (sure : Int) (k : Nat) : cntN l sure k ≤ k := by
  unfold cntN
  exact Nat.le_trans (List.length_filter_le _ _) (List.length_take_le _ _)
theorem cntN_succ (l : List Hld) (sure : Int) (k : Nat) (hk : k < l.length) : cntN l sure (k + 1) = if l[k]!.span < sure then cntN l sure k + 1 else cntN l sure k := by
  unfold cntN
  rw [filter_snoc (lowB sure) l k hk l[k]! rfl]
  generalize l[k]! = y
  by_cases h : y.span < sure
  · simp [lowB, h]
  · simp [lowB, h]
theorem cntN_all {l : List Hld} {span sure : Int} {G : Gt} {i NN m : Nat} (st : St l span sure G i) (hN : l.length = NN) (hm : G.out.length = m) : cntN l sure NN = m := by
  unfold cntN
  rw [List.take_of_length_le (Nat.le_of_eq hN), (filter_low st.right sure).1, List.length_take, ← hm, st.outn]
  have := belowN_le l sure
  omega
structure SW (w wl : World) (GX W0s : Nat) (l : List Hld) (G : Gt) (gA : Option Addr) (gn gc : Nat) (gB : Option Addr) (gm gd : Nat) (N : Nat) (TA : Option Addr) (tc : Nat) (WA : Option Addr) (wc : Nat) : Prop where
  g0 : wl.cell? ⟨GX, 0, none⟩ = some (.slice gA gn gc)
  g1 : wl.cell? ⟨GX, 1, none⟩ = some (.slice gB gm gd)
  fg0 : wl.frozen? ⟨GX, 0, none⟩ = false
  fg1 : wl.frozen? ⟨GX, 1, none⟩ = false
  ltG : GX < wl.heap.size
  sz : W0s ≤ wl.heap.size
  gi : GateIn wl gA gB G.held G.out
  hn : G.held.length = gn
  hm : G.out.length = gm
  ownT : wl.ownsRow W0s 28 2 (.slice TA N tc) N (l.flatMap toldE)
  ownW : wl.ownsRow W0s 3 1 (.slice WA N wc) N (l.flatMap spanE)
  hN : l.length = N
  offT : GOff G gA gB (.slice TA N tc)
  offW : GOff G gA gB (.slice WA N wc)
  b : Below w.heap.size w wl

set_option maxHeartbeats 40000000 in
set_option maxRecDepth 100000 in
theorem sure_walk (A : Option Addr) (n c : Nat) (dl : List Doi) (w : World) (hdl : Sl 4 Doi.enc w A dl) (hgd : ∀ z ∈ dl, Doi.good z) (hdn : n = dl.length) :
    Calls Try.prog 4 #[.slice A n c] w fun e w' => e = .returned (.bool true) ∧ Below w.heap.size w w' := by
  have hbig := hdl.big
  rw [← hdn] at hbig
  have HDN := Lib.hid hdn
  have HS := Lib.hid hdl
  have HG := Lib.hid hgd
  clear hdl hgd hdn
  obtain ⟨i28, hi, hz0, hz1, hz2⟩ := info_parts info28
  obtain ⟨i3, ki, kz0, kz1, kz2⟩ := info_parts info3
  go_enter Try.func4, Try.ntmps4
  go_wp2_with fail
  refine (awake_any _).mono ?_
  rintro e w0 ⟨rfl, b⟩
  go_wp2_with fail
  have g0 : (w0.alloc (.cells #[.slice none 0 0, .slice none 0 0] 25)).cell? ⟨w0.heap.size, 0, none⟩ = some (.slice none 0 0) := by go_simp
  have g1 : (w0.alloc (.cells #[.slice none 0 0, .slice none 0 0] 25)).cell? ⟨w0.heap.size, 1, none⟩ = some (.slice none 0 0) := by go_simp
  have fg0 : (w0.alloc (.cells #[.slice none 0 0, .slice none 0 0] 25)).frozen? ⟨w0.heap.size, 0, none⟩ = false := by go_simp
  have fg1 : (w0.alloc (.cells #[.slice none 0 0, .slice none 0 0] 25)).frozen? ⟨w0.heap.size, 1, none⟩ = false := by go_simp
  have ltG : w0.heap.size < (w0.alloc (.cells #[.slice none 0 0, .slice none 0 0] 25)).heap.size := by simp
  have bG := b.size
  replace b := b.alloc b.size (.cells #[.slice none 0 0, .slice none 0 0] 25)
  generalize w0.alloc (.cells #[.slice none 0 0, .slice none 0 0] 25) = W at *
  generalize w0.heap.size = GX at *
  go_loopg [4, 5, 6, 7, 8] n (fun gg s4 s5 s6 s7 s8 wl => ∃ (i : Nat) (l : List Hld) (span sure : Int) (G : Gt) (gA : Option Addr) (gn gc : Nat) (gB : Option Addr) (gm gd NN : Nat) (TA : Option Addr) (tc : Nat) (WA : Option Addr) (wc : Nat),
    i ≤ n ∧ i ≤ 60 ∧ n - i ≤ gg ∧ s4 = .int .i64 span ∧ s5 = .int .i64 sure ∧ s6 = .slice TA NN tc ∧ s7 = .slice WA NN wc ∧ s8 = .int .i64 (i : Int) ∧ Aside (St l span sure G i) ∧ SW w wl GX W.heap.size l G gA gn gc gB gm gd NN TA tc WA wc)
  case atStart => exact ⟨0, [], 0, 0, ⟨[], []⟩, none, 0, 0, none, 0, 0, 0, none, 0, none, 0, Nat.zero_le _, by omega, by omega, rfl, rfl, rfl, rfl, rfl, St.start, ⟨g0, g1, fg0, fg1, ltG, Nat.le_refl _, ⟨Sl.nil _ _ _ _, Sl.nil _ _ _ _⟩, rfl, rfl, World.ownsRow_nil _ _ _ _, World.ownsRow_nil _ _ _ _, rfl, ⟨fun h => absurd rfl h, fun h => absurd rfl h⟩, ⟨fun h => absurd rfl h, fun h => absurd rfl h⟩, b⟩⟩
  case round =>
    have GW := ltG
    clear g0 g1 fg0 fg1 ltG b
    obtain ⟨i, l, span, sure, G, gA, gn, gc, gB, gm, gd, NN, TA, tc, WA, wc, hi0, hi60, hgg, rfl, rfl, rfl, rfl, rfl, HST, L⟩ := hrel
    obtain ⟨g0, g1, fg0, fg1, ltG, sz, gi, hn, hm, ownT, ownW, hN, offT, offW, b⟩ := L
    have st := HST.out
    have HN := Lib.hid hn
    have HM := Lib.hid hm
    have HNN := Lib.hid hN
    have l1 := st.len2
    have l2 := st.len
    have l3 := st.s0
    have l4 := st.s1
    have l5 := st.s2
    rw [hn, hm] at l1
    rw [hN] at l2
    clear hn hm hN
    obtain ⟨l1a, l1b⟩ := l1
    by_cases hlt : i < n ∧ i < 60
    · obtain ⟨hltn, hlt60⟩ := hlt
      have z1 : (i : Int) < (n : Int) := by omega
      have z2 : (i : Int) < 60 := by omega
      have hin : i < dl.length := by rw [← HDN.out]; exact hltn
      have hgood : Doi.good dl[i]! := HG.out _ (by rw [getElem!_pos dl i hin]; exact List.getElem_mem hin)
      obtain ⟨bb, off, rfl, hq⟩ := (HS.out.below b).at_ i hin
      have q0 := hq 0 _ rfl
      have q1 := hq 1 _ rfl
      have q2 := hq 2 _ rfl
      have q3 := hq 3 _ rfl
      rw [Nat.add_zero] at q0
      generalize dl[i]! = x at *
      obtain ⟨x0, x1, x2, x3⟩ := hgood
      clear hq hin
      rcases (show x.kind % 4 = 0 ∨ x.kind % 4 = 1 ∨ x.kind % 4 = 2 ∨ x.kind % 4 = 3 by omega) with hk | hk | hk | hk
      · have k0 : (x.kind % 4 == 0) = true := by rw [beq_iff_eq]; omega
        clear hk
        obtain ⟨G', hT, st', hout, hheld⟩ := st.tell hlt60 ⟨x.core, x.val⟩
        obtain ⟨gn', hn'⟩ : ∃ q, G'.held.length = q := ⟨_, rfl⟩
        obtain ⟨gm', hm'⟩ : ∃ q, G'.out.length = q := ⟨_, rfl⟩
        have cT := fun w1 hgg => fresh_num (Tell_fresh gA gB gc gd gn gm span G ⟨x.core, x.val⟩ w1 hgg HN.out HM.out (by omega) (by omega)) hT hn' hm'
        have hgm : gm ≤ gm' := by rw [← hm', hout, HM.out]; exact Nat.le_refl _
        have htk : G'.out.take gm = G.out := by rw [hout, ← HM.out, List.take_length]
        have ll' := st'.len2
        rw [hn', hm'] at ll'
        have rg' := st'.rightG
        have alG' := st'.all
        have HN' := Lib.hid hn'
        have HM' := Lib.hid hm'
        have HTK := Lib.hid htk
        have HAL := Lib.hid alG'
        have HRG := Lib.hid rg'
        clear hT hn' hm' hout hheld htk rg' alG'
        go_wp2_with fail
        obtain ⟨hb0, d0, d1, d2, d3, h0, h1, fh0, fh1, hsz⟩ := begin_round wr x _ rfl
        have obT := ownT.lt
        have obW := ownW.lt
        have qG := ltG
        replace g0 := (hb0.cell (p := ⟨GX, 0, none⟩) (World.block_lt_of_cell? _ _ g0)).trans g0
        replace g1 := (hb0.cell (p := ⟨GX, 1, none⟩) (World.block_lt_of_cell? _ _ g1)).trans g1
        replace fg0 := (hb0.frozen (p := ⟨GX, 0, none⟩) ltG).trans fg0
        replace fg1 := (hb0.frozen (p := ⟨GX, 1, none⟩) ltG).trans fg1
        replace ltG := Nat.lt_of_lt_of_le ltG hb0.size
        replace ownT := own_below ownT hb0
        replace ownW := own_below ownW hb0
        replace gi := gi.below hb0
        replace b := b.trans (hb0.mono b.size)
        replace sz := Nat.le_trans sz hb0.size
        clear hb0 q0 q1 q2 q3
        have ltD : wr.heap.size < ((wr.alloc (.cells #[.int .u8 x.kind, .int .u8 x.dst, .int .i64 x.core, .int .u32 x.val] 45)).alloc (.cells #[.slice none 0 0, .slice none 0 0] 25)).heap.size := by omega
        have ltH : wr.heap.size + 1 < ((wr.alloc (.cells #[.int .u8 x.kind, .int .u8 x.dst, .int .i64 x.core, .int .u32 x.val] 45)).alloc (.cells #[.slice none 0 0, .slice none 0 0] 25)).heap.size := by omega
        generalize ((wr.alloc (.cells #[.int .u8 x.kind, .int .u8 x.dst, .int .i64 x.core, .int .u32 x.val] 45)).alloc (.cells #[.slice none 0 0, .slice none 0 0] 25)) = W1 at *
        generalize wr.heap.size = D at *
        clear hsz
        refine (cT _ gi).mono ?_
        rintro e w2 ⟨A1, c1, B1, d1', rfl, hx, hb2, fr1, fr2, hcap⟩
        have of1 := GOff.fresh (g := G') fr1 fr2 ownT
        have of2 := GOff.fresh (g := G') fr1 fr2 ownW
        clear fr1 fr2
        replace g0 := (hb2.cell (p := ⟨GX, 0, none⟩) (World.block_lt_of_cell? _ _ g0)).trans g0
        replace g1 := (hb2.cell (p := ⟨GX, 1, none⟩) (World.block_lt_of_cell? _ _ g1)).trans g1
        replace d0 := (hb2.cell (p := ⟨D, 0, none⟩) (World.block_lt_of_cell? _ _ d0)).trans d0
        replace d1 := (hb2.cell (p := ⟨D, 1, none⟩) (World.block_lt_of_cell? _ _ d1)).trans d1
        replace d2 := (hb2.cell (p := ⟨D, 2, none⟩) (World.block_lt_of_cell? _ _ d2)).trans d2
        replace d3 := (hb2.cell (p := ⟨D, 3, none⟩) (World.block_lt_of_cell? _ _ d3)).trans d3
        replace h0 := (hb2.cell (p := ⟨D + 1, 0, none⟩) (World.block_lt_of_cell? _ _ h0)).trans h0
        replace h1 := (hb2.cell (p := ⟨D + 1, 1, none⟩) (World.block_lt_of_cell? _ _ h1)).trans h1
        replace fg0 := (hb2.frozen (p := ⟨GX, 0, none⟩) ltG).trans fg0
        replace fg1 := (hb2.frozen (p := ⟨GX, 1, none⟩) ltG).trans fg1
        replace fh0 := (hb2.frozen (p := ⟨D + 1, 0, none⟩) ltH).trans fh0
        replace fh1 := (hb2.frozen (p := ⟨D + 1, 1, none⟩) ltH).trans fh1
        replace ltG := Nat.lt_of_lt_of_le ltG hb2.size
        replace ltD := Nat.lt_of_lt_of_le ltD hb2.size
        replace ltH := Nat.lt_of_lt_of_le ltH hb2.size
        replace ownT := own_below ownT hb2
        replace ownW := own_below ownW hb2
        replace gi := gi.below hb2
        replace b := b.trans (hb2.mono b.size)
        replace sz := Nat.le_trans sz hb2.size
        clear hb2
        go_wp2_with (at_builtin; refine wpList_as ?_)
        intro _
        obtain ⟨ga, gb, ka, kb, gs, bs, szs, oth⟩ := gate_set ((w2.setCell ⟨D + 1, 0, none⟩ (.slice A1 gn' c1)).setCell ⟨D + 1, 1, none⟩ (.slice B1 gm' d1')) rfl h0 h1 fh0 fh1
        replace b := bs _ _ (by omega) b
        replace gi := gs _ _ _ _ gi
        replace hx := gs _ _ _ _ hx
        have neownT : _ ≠ some (D + 1) := fun e => by have := obT _ e; omega
        have neownW : _ ≠ some (D + 1) := fun e => by have := obW _ e; omega
        replace ownT := ownsRow_setCell_other (a := ⟨D + 1, 1, none⟩) (ownsRow_setCell_other (a := ⟨D + 1, 0, none⟩) ownT neownT (.slice A1 gn' c1)) neownT (.slice B1 gm' d1')
        replace ownW := ownsRow_setCell_other (a := ⟨D + 1, 1, none⟩) (ownsRow_setCell_other (a := ⟨D + 1, 0, none⟩) ownW neownW (.slice A1 gn' c1)) neownW (.slice B1 gm' d1')
        replace ltG := Nat.lt_of_lt_of_le ltG (Nat.le_of_eq szs.symm)
        replace ltD := Nat.lt_of_lt_of_le ltD (Nat.le_of_eq szs.symm)
        replace ltH := Nat.lt_of_lt_of_le ltH (Nat.le_of_eq szs.symm)
        replace sz := Nat.le_trans sz (Nat.le_of_eq szs.symm)
        replace g0 := (oth _ _ (by omega)).1.trans g0
        replace fg0 := (oth _ _ (by omega)).2.trans fg0
        replace g1 := (oth _ _ (by omega)).1.trans g1
        replace fg1 := (oth _ _ (by omega)).2.trans fg1
        replace d0 := (oth _ _ (by omega)).1.trans d0
        replace d1 := (oth _ _ (by omega)).1.trans d1
        replace d2 := (oth _ _ (by omega)).1.trans d2
        replace d3 := (oth _ _ (by omega)).1.trans d3
        rw [← szs]
        clear h0 h1 fh0 fh1 gs bs szs oth neownT neownW
        have h0 := ga
        have h1 := gb
        have fh0 := ka
        have fh1 := kb
        clear ga gb ka kb
        generalize ((w2.setCell ⟨D + 1, 0, none⟩ (.slice A1 gn' c1)).setCell ⟨D + 1, 1, none⟩ (.slice B1 gm' d1')) = w3 at *
        refine wpList_append_own_at _ rfl _ _ 23 rfl W.heap.size 28 i28 _ 2 16 Try.underlying23 hi hz0 hz1 hz2 rfl (by decide) _ _ _ rfl (ownT.alloc _) ⟨w3.heap.size, 0, none⟩ 1 1 [.int .i64 x.core, .int .u32 x.val] rfl rfl (fun j u hj => cell_new_block w3 _ 28 j u hj) (by intro u hu; simp at hu; rcases hu with rfl | rfl <;> rfl) (by unfold maxLen; omega) (by omega) (by simp; omega) ?_
        intro v4 w4 ownT' growT nilT atT
        obtain ⟨cc0, ff0⟩ := far_append growT (D) ltD (fun e => by have := obT _ e; omega)
        obtain ⟨cc1, ff1⟩ := far_append growT (D + 1) ltH (fun e => by have := obT _ e; omega)
        obtain ⟨cc2, ff2⟩ := far_append growT (GX) ltG (fun e => by have := obT _ e; omega)
        replace g0 := (cc2 0).trans g0
        replace fg0 := (ff2 0).trans fg0
        replace g1 := (cc2 1).trans g1
        replace fg1 := (ff2 1).trans fg1
        replace d0 := (cc0 0).trans d0
        replace d1 := (cc0 1).trans d1
        replace d2 := (cc0 2).trans d2
        replace d3 := (cc0 3).trans d3
        replace h0 := (cc1 0).trans h0
        replace fh0 := (ff1 0).trans fh0
        replace h1 := (cc1 1).trans h1
        replace fh1 := (ff1 1).trans fh1
        clear cc0 ff0 cc1 ff1 cc2 ff2
        have gagi := gi.below ((Below.refl _ _).alloc (Nat.le_refl _) (.cells #[.int .i64 x.core, .int .u32 x.val] 28))
        replace gi := gagi.grown growT offT
        replace offT := offT.next atT gagi (Nat.le_refl _)
        clear gagi
        have gahx := hx.below ((Below.refl _ _).alloc (Nat.le_refl _) (.cells #[.int .i64 x.core, .int .u32 x.val] 28))
        replace hx := gahx.grown growT of1
        replace of1 := of1.next atT gahx (Nat.le_refl _)
        clear gahx
        replace ownW := (ownW.alloc (.cells #[.int .i64 x.core, .int .u32 x.val] 28)).kept growT (own_two ownW ownT (by decide))
        replace b := below_append (b.alloc b.size _) growT (by simp; have := b.size; omega) (ownT.alloc _) (by omega)
        have hsN : w3.heap.size ≤ w4.heap.size := by have := growT.size; simp at this; omega
        replace ltG := Nat.lt_of_lt_of_le ltG hsN
        replace ltD := Nat.lt_of_lt_of_le ltD hsN
        replace ltH := Nat.lt_of_lt_of_le ltH hsN
        replace sz := Nat.le_trans sz hsN
        clear hsN
        clear growT nilT atT ownT
        have ownT := ownT'
        clear ownT'
        obtain ⟨TA', tc', rfl⟩ := own_shape ownT
        have obT' := ownT.lt
        go_wp2_with (at_builtin; refine wpList_as ?_)
        intro _
        refine wpList_append_own_at _ rfl _ _ 43 rfl W.heap.size 3 i3 _ 1 8 Try.underlying43 ki kz0 kz1 kz2 rfl (by decide) _ _ _ rfl (ownW.alloc _) ⟨w4.heap.size, 0, none⟩ 1 1 [.int .i64 span] rfl rfl (fun j u hj => cell_new_block w4 _ 3 j u hj) (by intro u hu; simp at hu; subst hu; rfl) (by unfold maxLen; omega) (by omega) (by simp; omega) ?_
        intro v5 w5 ownW' growW nilW atW
        obtain ⟨cc0, ff0⟩ := far_append growW (D) ltD (fun e => by have := obW _ e; omega)
        obtain ⟨cc1, ff1⟩ := far_append growW (D + 1) ltH (fun e => by have := obW _ e; omega)
        obtain ⟨cc2, ff2⟩ := far_append growW (GX) ltG (fun e => by have := obW _ e; omega)
        replace g0 := (cc2 0).trans g0
        replace fg0 := (ff2 0).trans fg0
        replace g1 := (cc2 1).trans g1
        replace fg1 := (ff2 1).trans fg1
        replace d0 := (cc0 0).trans d0
        replace d1 := (cc0 1).trans d1
        replace d2 := (cc0 2).trans d2
        replace d3 := (cc0 3).trans d3
        replace h0 := (cc1 0).trans h0
        replace fh0 := (ff1 0).trans fh0
        replace h1 := (cc1 1).trans h1
        replace fh1 := (ff1 1).trans fh1
        clear cc0 ff0 cc1 ff1 cc2 ff2
        have gagi := gi.below ((Below.refl _ _).alloc (Nat.le_refl _) (.cells #[.int .i64 span] 3))
        replace gi := gagi.grown growW offW
        replace offW := offW.next atW gagi (Nat.le_refl _)
        clear gagi
        have gahx := hx.below ((Below.refl _ _).alloc (Nat.le_refl _) (.cells #[.int .i64 span] 3))
        replace hx := gahx.grown growW of2
        replace of2 := of2.next atW gahx (Nat.le_refl _)
        clear gahx
        replace ownT := (ownT.alloc (.cells #[.int .i64 span] 3)).kept growW (own_two ownT ownW (by decide))
        replace b := below_append (b.alloc b.size _) growW (by simp; have := b.size; omega) (ownW.alloc _) (by omega)
        have hsN : w4.heap.size ≤ w5.heap.size := by have := growW.size; simp at this; omega
        replace ltG := Nat.lt_of_lt_of_le ltG hsN
        replace ltD := Nat.lt_of_lt_of_le ltD hsN
        replace ltH := Nat.lt_of_lt_of_le ltH hsN
        replace sz := Nat.le_trans sz hsN
        clear hsN
        clear growW nilW atW ownW obT'
        have ownW := ownW'
        clear ownW'
        obtain ⟨WA', wc', rfl⟩ := own_shape ownW
        have hcT : l.flatMap toldE ++ [.int .i64 x.core, .int .u32 x.val] = (l ++ [(⟨x.core, x.val, span⟩ : Hld)]).flatMap toldE := by rw [List.flatMap_append]; rfl
        have hcW : l.flatMap spanE ++ [.int .i64 span] = (l ++ [(⟨x.core, x.val, span⟩ : Hld)]).flatMap spanE := by rw [List.flatMap_append]; rfl
        rw [hcT] at ownT
        rw [hcW] at ownW
        have HNN' : Hid ((l ++ [(⟨x.core, x.val, span⟩ : Hld)]).length = NN + 1) := Lib.hid (by rw [List.length_append, HNN.out]; rfl)
        clear hcT hcW obT obW offT offW cT d0 d1 d2 d3
        generalize hll : l ++ [(⟨x.core, x.val, span⟩ : Hld)] = l' at *
        clear hll
        have cA := fun w1 hgg => All_any A1 B1 c1 d1' gn' gm' G' w1 hgg HN'.out HM'.out (by omega) (by omega)
        have cR := fun w1 hgg => Right_any A1 B1 c1 d1' gn' gm' G'.held G'.out w1 hgg HN'.out
        rw [HRG.out] at cR
        have cOut := fun w1 (hx : GateIn w1 A1 B1 G'.held G'.out) (gi : GateIn w1 gA gB G.held G.out) => outs_any B1 gB d1' gd gm gm (G'.out.take gm) G.out w1 (hx.out.take gm) gi.out (by rw [List.length_take, HM'.out]; omega) HM.out
        rw [HTK.out, show decide (G.out = G.out) = true by simp] at cOut
        have hnm : gm' + gn' = l'.length := by
          have := congrArg List.length HAL.out
          rw [allG, List.length_append, List.length_map, List.length_map, HN'.out, HM'.out] at this
          exact this
        have HNM := Lib.hid hnm
        clear hnm
        have cO2 := fun {X Y : Option Addr} {p q r : Nat} w1 (h1 : Sl 2 Tld.enc w1 X (allG G')) (h2 : Sl 2 Tld.enc w1 Y (l'.map Hld.told)) (h3 : r = l'.length) => outs_any X Y p q (gm' + gn') r (allG G') (l'.map Hld.told) w1 h1 h2 (by rw [HAL.out, List.length_map, HNM.out]) (by rw [List.length_map, h3])
        rw [HAL.out, show decide (l'.map Hld.told = l'.map Hld.told) = true by simp] at cO2
        obtain ⟨N', hNe⟩ : ∃ q, q = NN + 1 := ⟨_, rfl⟩
        rw [← hNe] at ownT ownW HNN' of1 of2 ⊢
        have hN60 : N' ≤ 61 := by omega
        clear hNe
        have zle : decide (gm' < gm) = false := by rw [decide_eq_false_iff_not]; omega
        have zs0 : (0 : Int) ≤ (gm : Int) := by omega
        have zs1 : (gm : Int) ≤ (d1' : Int) := by omega
        go_wp2_with fail
        replace b := b.drew
        replace g0 : w5.drew.cell? ⟨GX, 0, none⟩ = some (.slice gA gn gc) := g0
        replace g1 : w5.drew.cell? ⟨GX, 1, none⟩ = some (.slice gB gm gd) := g1
        replace h0 : w5.drew.cell? ⟨D + 1, 0, none⟩ = some (.slice A1 gn' c1) := h0
        replace h1 : w5.drew.cell? ⟨D + 1, 1, none⟩ = some (.slice B1 gm' d1') := h1
        replace fg0 : w5.drew.frozen? ⟨GX, 0, none⟩ = false := fg0
        replace fg1 : w5.drew.frozen? ⟨GX, 1, none⟩ = false := fg1
        replace fh0 : w5.drew.frozen? ⟨D + 1, 0, none⟩ = false := fh0
        replace fh1 : w5.drew.frozen? ⟨D + 1, 1, none⟩ = false := fh1
        replace ltG : _ < w5.drew.heap.size := ltG
        replace ltD : _ < w5.drew.heap.size := ltD
        replace ltH : _ < w5.drew.heap.size := ltH
        replace sz : _ ≤ w5.drew.heap.size := sz
        replace gi := gi.below (Below.refl _ _).drew
        replace hx := hx.below (Below.refl _ _).drew
        replace ownT := own_below ownT (Below.refl _ _).drew
        replace ownW := own_below ownW (Below.refl _ _).drew
        go_region_held3 (fun w' => w'.cell? ⟨GX, 0, none⟩ = some (.slice gA gn gc) ∧ w'.cell? ⟨GX, 1, none⟩ = some (.slice gB gm gd) ∧ w'.cell? ⟨D + 1, 0, none⟩ = some (.slice A1 gn' c1) ∧ w'.cell? ⟨D + 1, 1, none⟩ = some (.slice B1 gm' d1'))
          (exact ⟨g0, g1, h0, h1⟩)
          (first
            | (go_at_call 16; ((with_reducible refine (cOut _ hx gi).mono ?_); rintro e w20 ⟨rfl, hb20⟩; replace g0 := (hb20.cell (p := ⟨GX, 0, none⟩) (World.block_lt_of_cell? _ _ g0)).trans g0; replace g1 := (hb20.cell (p := ⟨GX, 1, none⟩) (World.block_lt_of_cell? _ _ g1)).trans g1; replace h0 := (hb20.cell (p := ⟨D + 1, 0, none⟩) (World.block_lt_of_cell? _ _ h0)).trans h0; replace h1 := (hb20.cell (p := ⟨D + 1, 1, none⟩) (World.block_lt_of_cell? _ _ h1)).trans h1; replace fg0 := (hb20.frozen (p := ⟨GX, 0, none⟩) ltG).trans fg0; replace fg1 := (hb20.frozen (p := ⟨GX, 1, none⟩) ltG).trans fg1; replace fh0 := (hb20.frozen (p := ⟨D + 1, 0, none⟩) ltH).trans fh0; replace fh1 := (hb20.frozen (p := ⟨D + 1, 1, none⟩) ltH).trans fh1; replace ltG := Nat.lt_of_lt_of_le ltG hb20.size; replace ltD := Nat.lt_of_lt_of_le ltD hb20.size; replace ltH := Nat.lt_of_lt_of_le ltH hb20.size; replace ownT := own_below ownT hb20; replace ownW := own_below ownW hb20; replace gi := gi.below hb20; replace hx := hx.below hb20; replace b := b.trans (hb20.mono b.size); replace sz := Nat.le_trans sz hb20.size; clear hb20))
            | (go_at_call 14; ((with_reducible refine (cR _ hx).mono ?_); rintro e w21 ⟨rfl, hb21⟩; replace g0 := (hb21.cell (p := ⟨GX, 0, none⟩) (World.block_lt_of_cell? _ _ g0)).trans g0; replace g1 := (hb21.cell (p := ⟨GX, 1, none⟩) (World.block_lt_of_cell? _ _ g1)).trans g1; replace h0 := (hb21.cell (p := ⟨D + 1, 0, none⟩) (World.block_lt_of_cell? _ _ h0)).trans h0; replace h1 := (hb21.cell (p := ⟨D + 1, 1, none⟩) (World.block_lt_of_cell? _ _ h1)).trans h1; replace fg0 := (hb21.frozen (p := ⟨GX, 0, none⟩) ltG).trans fg0; replace fg1 := (hb21.frozen (p := ⟨GX, 1, none⟩) ltG).trans fg1; replace fh0 := (hb21.frozen (p := ⟨D + 1, 0, none⟩) ltH).trans fh0; replace fh1 := (hb21.frozen (p := ⟨D + 1, 1, none⟩) ltH).trans fh1; replace ltG := Nat.lt_of_lt_of_le ltG hb21.size; replace ltD := Nat.lt_of_lt_of_le ltD hb21.size; replace ltH := Nat.lt_of_lt_of_le ltH hb21.size; replace ownT := own_below ownT hb21; replace ownW := own_below ownW hb21; replace gi := gi.below hb21; replace hx := hx.below hb21; replace b := b.trans (hb21.mono b.size); replace sz := Nat.le_trans sz hb21.size; clear hb21))
          )
        go_wp2_with fail
        obtain ⟨ga, gb, ka, kb, gs, bs, szs, oth⟩ := gate_set ((w21.setCell ⟨GX, 0, none⟩ (.slice A1 gn' c1)).setCell ⟨GX, 1, none⟩ (.slice B1 gm' d1')) rfl g0 g1 fg0 fg1
        replace b := bs _ _ (by omega) b
        replace hx := gs _ _ _ _ hx
        have neownT : _ ≠ some (GX) := fun e => by have := ownT.lt _ e; omega
        have neownW : _ ≠ some (GX) := fun e => by have := ownW.lt _ e; omega
        replace ownT := ownsRow_setCell_other (a := ⟨GX, 1, none⟩) (ownsRow_setCell_other (a := ⟨GX, 0, none⟩) ownT neownT (.slice A1 gn' c1)) neownT (.slice B1 gm' d1')
        replace ownW := ownsRow_setCell_other (a := ⟨GX, 1, none⟩) (ownsRow_setCell_other (a := ⟨GX, 0, none⟩) ownW neownW (.slice A1 gn' c1)) neownW (.slice B1 gm' d1')
        replace ltG := Nat.lt_of_lt_of_le ltG (Nat.le_of_eq szs.symm)
        replace ltD := Nat.lt_of_lt_of_le ltD (Nat.le_of_eq szs.symm)
        replace ltH := Nat.lt_of_lt_of_le ltH (Nat.le_of_eq szs.symm)
        replace sz := Nat.le_trans sz (Nat.le_of_eq szs.symm)
        replace h0 := (oth _ _ (by omega)).1.trans h0
        replace fh0 := (oth _ _ (by omega)).2.trans fh0
        replace h1 := (oth _ _ (by omega)).1.trans h1
        replace fh1 := (oth _ _ (by omega)).2.trans fh1
        clear g0 g1 fg0 fg1 gs bs szs oth neownT neownW
        have g0 := ga
        have g1 := gb
        have fg0 := ka
        have fg1 := kb
        clear ga gb ka kb
        generalize ((w21.setCell ⟨GX, 0, none⟩ (.slice A1 gn' c1)).setCell ⟨GX, 1, none⟩ (.slice B1 gm' d1')) = w22 at *
        obtain ⟨wo, hwo⟩ : ∃ wo : World, wo = w22 := ⟨_, rfl⟩
        subst hwo
        have slW := Sl.of_own (xs := l') spanE_len ownW HNN'.out
        go_loopg [12, 13] N' (fun gg s12 s13 wl => ∃ kk : Nat, kk ≤ N' ∧ N' - kk ≤ gg ∧ s13 = .int .i64 (kk : Int) ∧ s12 = .int .i64 (cntN l' sure kk : Nat) ∧ wl = wo)
        case atStart => exact ⟨0, Nat.zero_le _, by omega, rfl, rfl, rfl⟩
        case round =>
          obtain ⟨kk, hkk, hgg2, rfl, rfl, rfl⟩ := hrel
          have hcl := cntN_le (l') sure kk
          by_cases hlt2 : kk < N'
          · have y1 : (kk : Int) < (N' : Int) := by omega
            have hin2 : kk < ((l')).length := by rw [HNN'.out]; exact hlt2
            obtain ⟨bk, ok, rfl, hq2⟩ := slW.at_ kk hin2
            have p0 := hq2 0 _ rfl
            rw [Nat.add_zero, Nat.mul_one] at p0
            have hs := cntN_succ (l') sure kk hin2
            generalize ((l'))[kk]!.span = y at p0 hs
            clear hq2 hin2
            by_cases hy : y < sure
            · rw [if_pos hy] at hs
              have HSS := Lib.hid hs
              clear hs
              go_wp2_with fail
              go_roundg (N' - (kk + 1))
              case measure => omega
              case rel => exact ⟨kk + 1, by omega, by omega, by go_num, by rw [HSS.out]; go_num, rfl⟩
            · rw [if_neg hy] at hs
              have HSS := Lib.hid hs
              clear hs
              go_wp2_with fail
              go_roundg (N' - (kk + 1))
              case measure => omega
              case rel => exact ⟨kk + 1, by omega, by omega, by go_num, by rw [HSS.out], rfl⟩
          · have y1 : ¬ (kk : Int) < (N' : Int) := by omega
            obtain rfl : kk = N' := by omega
            have hfin := cntN_all st' HNN'.out HM'.out
            rw [hfin] at hcl ⊢
            clear hfin
            go_wp2_with fail
            refine (cA _ hx).mono ?_
            rintro e w23 ⟨A5, c5, rfl, ha, hb23⟩
            replace g0 := (hb23.cell (p := ⟨GX, 0, none⟩) (World.block_lt_of_cell? _ _ g0)).trans g0
            replace g1 := (hb23.cell (p := ⟨GX, 1, none⟩) (World.block_lt_of_cell? _ _ g1)).trans g1
            replace h0 := (hb23.cell (p := ⟨D + 1, 0, none⟩) (World.block_lt_of_cell? _ _ h0)).trans h0
            replace h1 := (hb23.cell (p := ⟨D + 1, 1, none⟩) (World.block_lt_of_cell? _ _ h1)).trans h1
            replace fg0 := (hb23.frozen (p := ⟨GX, 0, none⟩) ltG).trans fg0
            replace fg1 := (hb23.frozen (p := ⟨GX, 1, none⟩) ltG).trans fg1
            replace fh0 := (hb23.frozen (p := ⟨D + 1, 0, none⟩) ltH).trans fh0
            replace fh1 := (hb23.frozen (p := ⟨D + 1, 1, none⟩) ltH).trans fh1
            replace ltG := Nat.lt_of_lt_of_le ltG hb23.size
            replace ltD := Nat.lt_of_lt_of_le ltD hb23.size
            replace ltH := Nat.lt_of_lt_of_le ltH hb23.size
            replace ownT := own_below ownT hb23
            replace ownW := own_below ownW hb23
            replace hx := hx.below hb23
            replace b := b.trans (hb23.mono b.size)
            replace sz := Nat.le_trans sz hb23.size
            clear hb23
            have slT := Sl.of_own (xs := (l').map Hld.told) Tld.enc_len (by rw [toldE_map]; exact ownT) (by rw [List.length_map]; exact HNN'.out)
            go_wp2_with fail
            rw [HAL.out] at ha
            refine (cO2 _ ha slT HNN'.out.symm).mono ?_
            rintro e w24 ⟨rfl, hb24⟩
            replace g0 := (hb24.cell (p := ⟨GX, 0, none⟩) (World.block_lt_of_cell? _ _ g0)).trans g0
            replace g1 := (hb24.cell (p := ⟨GX, 1, none⟩) (World.block_lt_of_cell? _ _ g1)).trans g1
            replace h0 := (hb24.cell (p := ⟨D + 1, 0, none⟩) (World.block_lt_of_cell? _ _ h0)).trans h0
            replace h1 := (hb24.cell (p := ⟨D + 1, 1, none⟩) (World.block_lt_of_cell? _ _ h1)).trans h1
            replace fg0 := (hb24.frozen (p := ⟨GX, 0, none⟩) ltG).trans fg0
            replace fg1 := (hb24.frozen (p := ⟨GX, 1, none⟩) ltG).trans fg1
            replace fh0 := (hb24.frozen (p := ⟨D + 1, 0, none⟩) ltH).trans fh0
            replace fh1 := (hb24.frozen (p := ⟨D + 1, 1, none⟩) ltH).trans fh1
            replace ltG := Nat.lt_of_lt_of_le ltG hb24.size
            replace ltD := Nat.lt_of_lt_of_le ltD hb24.size
            replace ltH := Nat.lt_of_lt_of_le ltH hb24.size
            replace ownT := own_below ownT hb24
            replace ownW := own_below ownW hb24
            replace hx := hx.below hb24
            replace b := b.trans (hb24.mono b.size)
            replace sz := Nat.le_trans sz hb24.size
            have zne : ((gm' : Int) != (gm' : Int)) = false := by simp
            clear hb24 ha slT slW
            go_wp2_with fail
            go_roundg (n - (i + 1))
            case measure => omega
            case rel => exact ⟨i + 1, l', span, sure, G', A1, gn', c1, B1, gm', d1', kk, TA', tc', WA', wc', by omega, by omega, by omega, by go_simp, by go_simp, by go_simp, by go_simp, by go_simp, st', ⟨g0, g1, fg0, fg1, ltG, sz, hx, HN'.out, HM'.out, ownT, ownW, HNN'.out, of1, of2, b⟩⟩
      · have k0 : (x.kind % 4 == 0) = false := by rw [beq_eq_false_iff_ne]; omega
        have k1 : (x.kind % 4 == 1) = true := by rw [beq_iff_eq]; omega
        clear hk
        have st1 := st.next
        go_wp2_with fail
        obtain ⟨hb0, d0, d1, d2, d3, h0, h1, fh0, fh1, hsz⟩ := begin_round wr x _ rfl
        have obT := ownT.lt
        have obW := ownW.lt
        have qG := ltG
        replace g0 := (hb0.cell (p := ⟨GX, 0, none⟩) (World.block_lt_of_cell? _ _ g0)).trans g0
        replace g1 := (hb0.cell (p := ⟨GX, 1, none⟩) (World.block_lt_of_cell? _ _ g1)).trans g1
        replace fg0 := (hb0.frozen (p := ⟨GX, 0, none⟩) ltG).trans fg0
        replace fg1 := (hb0.frozen (p := ⟨GX, 1, none⟩) ltG).trans fg1
        replace ltG := Nat.lt_of_lt_of_le ltG hb0.size
        replace ownT := own_below ownT hb0
        replace ownW := own_below ownW hb0
        replace gi := gi.below hb0
        replace b := b.trans (hb0.mono b.size)
        replace sz := Nat.le_trans sz hb0.size
        clear hb0 q0 q1 q2 q3
        have ltD : wr.heap.size < ((wr.alloc (.cells #[.int .u8 x.kind, .int .u8 x.dst, .int .i64 x.core, .int .u32 x.val] 45)).alloc (.cells #[.slice none 0 0, .slice none 0 0] 25)).heap.size := by omega
        have ltH : wr.heap.size + 1 < ((wr.alloc (.cells #[.int .u8 x.kind, .int .u8 x.dst, .int .i64 x.core, .int .u32 x.val] 45)).alloc (.cells #[.slice none 0 0, .slice none 0 0] 25)).heap.size := by omega
        generalize ((wr.alloc (.cells #[.int .u8 x.kind, .int .u8 x.dst, .int .i64 x.core, .int .u32 x.val] 45)).alloc (.cells #[.slice none 0 0, .slice none 0 0] 25)) = W1 at *
        generalize wr.heap.size = D at *
        clear hsz
        go_roundg (n - (i + 1))
        case measure => omega
        case rel => exact ⟨i + 1, l, span + 1, sure, G, gA, gn, gc, gB, gm, gd, NN, TA, tc, WA, wc, by omega, by omega, by omega, by go_simp, by go_simp, by go_simp, by go_simp, by go_simp, st1, ⟨g0, g1, fg0, fg1, ltG, sz, gi, HN.out, HM.out, ownT, ownW, HNN.out, offT, offW, b⟩⟩
      · have k0 : (x.kind % 4 == 0) = false := by rw [beq_eq_false_iff_ne]; omega
        have k1 : (x.kind % 4 == 1) = false := by rw [beq_eq_false_iff_ne]; omega
        have k2 : (x.kind % 4 == 2) = true := by rw [beq_iff_eq]; omega
        clear hk
        have hpos : 0 < span - sure + 1 := by omega
        have hne0 : ¬ span - sure + 1 = 0 := by omega
        have hm0 := Int.emod_nonneg x.dst hne0
        have hm1 := Int.emod_lt_of_pos x.dst hpos
        obtain ⟨mm, hmm⟩ : ∃ q, x.dst % (span - sure + 1) = q := ⟨_, rfl⟩
        rw [hmm] at hm0 hm1
        obtain ⟨G', hT, st', hle, htk0⟩ := st.sureN hlt60 (k := sure + mm) (by omega) (by omega)
        obtain ⟨gn', hn'⟩ : ∃ q, G'.held.length = q := ⟨_, rfl⟩
        obtain ⟨gm', hm'⟩ : ∃ q, G'.out.length = q := ⟨_, rfl⟩
        have cT := fun w1 hgg => fresh_num (Sure_fresh gA gB gc gd gn gm (sure + mm) G w1 hgg HN.out HM.out (by omega) (by omega)) hT hn' hm'
        have hgm : gm ≤ gm' := by rw [← hm', ← HM.out]; exact hle
        have htk : G'.out.take gm = G.out := by rw [← HM.out]; exact htk0
        clear hle htk0
        have alG := st.all
        have HALG := Lib.hid alG
        clear alG
        have ll' := st'.len2
        rw [hn', hm'] at ll'
        have rg' := st'.rightG
        have alG' := st'.all
        have HN' := Lib.hid hn'
        have HM' := Lib.hid hm'
        have HTK := Lib.hid htk
        have HAL := Lib.hid alG'
        have HRG := Lib.hid rg'
        have ST' : Aside (St l (span) (sure + mm) G' (i + 1)) := st'
        clear hT hn' hm' htk rg' alG' st' st
        go_wp2_with fail
        obtain ⟨hb0, d0, d1, d2, d3, h0, h1, fh0, fh1, hsz⟩ := begin_round wr x _ rfl
        have obT := ownT.lt
        have obW := ownW.lt
        have qG := ltG
        replace g0 := (hb0.cell (p := ⟨GX, 0, none⟩) (World.block_lt_of_cell? _ _ g0)).trans g0
        replace g1 := (hb0.cell (p := ⟨GX, 1, none⟩) (World.block_lt_of_cell? _ _ g1)).trans g1
        replace fg0 := (hb0.frozen (p := ⟨GX, 0, none⟩) ltG).trans fg0
        replace fg1 := (hb0.frozen (p := ⟨GX, 1, none⟩) ltG).trans fg1
        replace ltG := Nat.lt_of_lt_of_le ltG hb0.size
        replace ownT := own_below ownT hb0
        replace ownW := own_below ownW hb0
        replace gi := gi.below hb0
        replace b := b.trans (hb0.mono b.size)
        replace sz := Nat.le_trans sz hb0.size
        clear hb0 q0 q1 q2 q3
        have ltD : wr.heap.size < ((wr.alloc (.cells #[.int .u8 x.kind, .int .u8 x.dst, .int .i64 x.core, .int .u32 x.val] 45)).alloc (.cells #[.slice none 0 0, .slice none 0 0] 25)).heap.size := by omega
        have ltH : wr.heap.size + 1 < ((wr.alloc (.cells #[.int .u8 x.kind, .int .u8 x.dst, .int .i64 x.core, .int .u32 x.val] 45)).alloc (.cells #[.slice none 0 0, .slice none 0 0] 25)).heap.size := by omega
        generalize ((wr.alloc (.cells #[.int .u8 x.kind, .int .u8 x.dst, .int .i64 x.core, .int .u32 x.val] 45)).alloc (.cells #[.slice none 0 0, .slice none 0 0] 25)) = W1 at *
        generalize wr.heap.size = D at *
        clear hsz
        refine (cT _ gi).mono ?_
        rintro e w2 ⟨A1, c1, B1, d1', rfl, hx, hb2, fr1, fr2, hcap⟩
        have of1 := GOff.fresh (g := G') fr1 fr2 ownT
        have of2 := GOff.fresh (g := G') fr1 fr2 ownW
        clear fr1 fr2
        replace g0 := (hb2.cell (p := ⟨GX, 0, none⟩) (World.block_lt_of_cell? _ _ g0)).trans g0
        replace g1 := (hb2.cell (p := ⟨GX, 1, none⟩) (World.block_lt_of_cell? _ _ g1)).trans g1
        replace d0 := (hb2.cell (p := ⟨D, 0, none⟩) (World.block_lt_of_cell? _ _ d0)).trans d0
        replace d1 := (hb2.cell (p := ⟨D, 1, none⟩) (World.block_lt_of_cell? _ _ d1)).trans d1
        replace d2 := (hb2.cell (p := ⟨D, 2, none⟩) (World.block_lt_of_cell? _ _ d2)).trans d2
        replace d3 := (hb2.cell (p := ⟨D, 3, none⟩) (World.block_lt_of_cell? _ _ d3)).trans d3
        replace h0 := (hb2.cell (p := ⟨D + 1, 0, none⟩) (World.block_lt_of_cell? _ _ h0)).trans h0
        replace h1 := (hb2.cell (p := ⟨D + 1, 1, none⟩) (World.block_lt_of_cell? _ _ h1)).trans h1
        replace fg0 := (hb2.frozen (p := ⟨GX, 0, none⟩) ltG).trans fg0
        replace fg1 := (hb2.frozen (p := ⟨GX, 1, none⟩) ltG).trans fg1
        replace fh0 := (hb2.frozen (p := ⟨D + 1, 0, none⟩) ltH).trans fh0
        replace fh1 := (hb2.frozen (p := ⟨D + 1, 1, none⟩) ltH).trans fh1
        replace ltG := Nat.lt_of_lt_of_le ltG hb2.size
        replace ltD := Nat.lt_of_lt_of_le ltD hb2.size
        replace ltH := Nat.lt_of_lt_of_le ltH hb2.size
        replace ownT := own_below ownT hb2
        replace ownW := own_below ownW hb2
        replace gi := gi.below hb2
        replace b := b.trans (hb2.mono b.size)
        replace sz := Nat.le_trans sz hb2.size
        clear hb2
        go_wp2_with fail
        obtain ⟨ga, gb, ka, kb, gs, bs, szs, oth⟩ := gate_set ((w2.setCell ⟨D + 1, 0, none⟩ (.slice A1 gn' c1)).setCell ⟨D + 1, 1, none⟩ (.slice B1 gm' d1')) rfl h0 h1 fh0 fh1
        replace b := bs _ _ (by omega) b
        replace gi := gs _ _ _ _ gi
        replace hx := gs _ _ _ _ hx
        have neownT : _ ≠ some (D + 1) := fun e => by have := obT _ e; omega
        have neownW : _ ≠ some (D + 1) := fun e => by have := obW _ e; omega
        replace ownT := ownsRow_setCell_other (a := ⟨D + 1, 1, none⟩) (ownsRow_setCell_other (a := ⟨D + 1, 0, none⟩) ownT neownT (.slice A1 gn' c1)) neownT (.slice B1 gm' d1')
        replace ownW := ownsRow_setCell_other (a := ⟨D + 1, 1, none⟩) (ownsRow_setCell_other (a := ⟨D + 1, 0, none⟩) ownW neownW (.slice A1 gn' c1)) neownW (.slice B1 gm' d1')
        replace ltG := Nat.lt_of_lt_of_le ltG (Nat.le_of_eq szs.symm)
        replace ltD := Nat.lt_of_lt_of_le ltD (Nat.le_of_eq szs.symm)
        replace ltH := Nat.lt_of_lt_of_le ltH (Nat.le_of_eq szs.symm)
        replace sz := Nat.le_trans sz (Nat.le_of_eq szs.symm)
        replace g0 := (oth _ _ (by omega)).1.trans g0
        replace fg0 := (oth _ _ (by omega)).2.trans fg0
        replace g1 := (oth _ _ (by omega)).1.trans g1
        replace fg1 := (oth _ _ (by omega)).2.trans fg1
        replace d0 := (oth _ _ (by omega)).1.trans d0
        replace d1 := (oth _ _ (by omega)).1.trans d1
        replace d2 := (oth _ _ (by omega)).1.trans d2
        replace d3 := (oth _ _ (by omega)).1.trans d3
        clear h0 h1 fh0 fh1 gs bs szs oth neownT neownW
        have h0 := ga
        have h1 := gb
        have fh0 := ka
        have fh1 := kb
        clear ga gb ka kb
        generalize ((w2.setCell ⟨D + 1, 0, none⟩ (.slice A1 gn' c1)).setCell ⟨D + 1, 1, none⟩ (.slice B1 gm' d1')) = w3 at *
        clear obT obW offT offW cT d0 d1 d2 d3
        have HNN' := HNN
        have cA := fun w1 hgg => All_any A1 B1 c1 d1' gn' gm' G' w1 hgg HN'.out HM'.out (by omega) (by omega)
        have cR := fun w1 hgg => Right_any A1 B1 c1 d1' gn' gm' G'.held G'.out w1 hgg HN'.out
        rw [HRG.out] at cR
        have cOut := fun w1 (hx : GateIn w1 A1 B1 G'.held G'.out) (gi : GateIn w1 gA gB G.held G.out) => outs_any B1 gB d1' gd gm gm (G'.out.take gm) G.out w1 (hx.out.take gm) gi.out (by rw [List.length_take, HM'.out]; omega) HM.out
        rw [HTK.out, show decide (G.out = G.out) = true by simp] at cOut
        have hnm : gm' + gn' = l.length := by
          have := congrArg List.length HAL.out
          rw [allG, List.length_append, List.length_map, List.length_map, HN'.out, HM'.out] at this
          exact this
        have HNM := Lib.hid hnm
        clear hnm
        have cO2 := fun {X Y : Option Addr} {p q r : Nat} w1 (h1 : Sl 2 Tld.enc w1 X (allG G')) (h2 : Sl 2 Tld.enc w1 Y (l.map Hld.told)) (h3 : r = l.length) => outs_any X Y p q (gm' + gn') r (allG G') (l.map Hld.told) w1 h1 h2 (by rw [HAL.out, List.length_map, HNM.out]) (by rw [List.length_map, h3])
        rw [HAL.out, show decide (l.map Hld.told = l.map Hld.told) = true by simp] at cO2
        have cAg := fun w1 hgg => All_any gA gB gc gd gn gm G w1 hgg HN.out HM.out (by omega) (by omega)
        rw [HALG.out] at cAg
        have cAh := cA
        rw [HAL.out] at cAh
        have hnm0 : gm + gn = gm' + gn' := by
          have h1 := congrArg List.length HALG.out
          rw [allG, List.length_append, List.length_map, List.length_map, HN.out, HM.out] at h1
          rw [h1, HNM.out]
        have cO3 := fun {X Y : Option Addr} {p q : Nat} w1 (h1 : Sl 2 Tld.enc w1 X (l.map Hld.told)) (h2 : Sl 2 Tld.enc w1 Y (l.map Hld.told)) => outs_any X Y p q (gm + gn) (gm' + gn') (l.map Hld.told) (l.map Hld.told) w1 h1 h2 (by rw [List.length_map, hnm0, HNM.out]) (by rw [List.length_map, HNM.out])
        rw [show decide (l.map Hld.told = l.map Hld.told) = true by simp] at cO3
        clear hnm0
        clear cO2
        have cO2 := fun {X Y : Option Addr} {p q r : Nat} w1 (h1 : Sl 2 Tld.enc w1 X (l.map Hld.told)) (h2 : Sl 2 Tld.enc w1 Y (l.map Hld.told)) (h3 : r = l.length) => outs_any X Y p q (gm' + gn') r (l.map Hld.told) (l.map Hld.told) w1 h1 h2 (by rw [List.length_map, HNM.out]) (by rw [List.length_map, h3])
        rw [show decide (l.map Hld.told = l.map Hld.told) = true by simp] at cO2
        replace b := b.drew
        replace g0 : w3.drew.cell? ⟨GX, 0, none⟩ = some (.slice gA gn gc) := g0
        replace g1 : w3.drew.cell? ⟨GX, 1, none⟩ = some (.slice gB gm gd) := g1
        replace h0 : w3.drew.cell? ⟨D + 1, 0, none⟩ = some (.slice A1 gn' c1) := h0
        replace h1 : w3.drew.cell? ⟨D + 1, 1, none⟩ = some (.slice B1 gm' d1') := h1
        replace fg0 : w3.drew.frozen? ⟨GX, 0, none⟩ = false := fg0
        replace fg1 : w3.drew.frozen? ⟨GX, 1, none⟩ = false := fg1
        replace fh0 : w3.drew.frozen? ⟨D + 1, 0, none⟩ = false := fh0
        replace fh1 : w3.drew.frozen? ⟨D + 1, 1, none⟩ = false := fh1
        replace ltG : _ < w3.drew.heap.size := ltG
        replace ltD : _ < w3.drew.heap.size := ltD
        replace ltH : _ < w3.drew.heap.size := ltH
        replace sz : _ ≤ w3.drew.heap.size := sz
        replace gi := gi.below (Below.refl _ _).drew
        replace hx := hx.below (Below.refl _ _).drew
        replace ownT := own_below ownT (Below.refl _ _).drew
        replace ownW := own_below ownW (Below.refl _ _).drew
        go_region_held3 (fun w' => w'.cell? ⟨GX, 0, none⟩ = some (.slice gA gn gc) ∧ w'.cell? ⟨GX, 1, none⟩ = some (.slice gB gm gd) ∧ w'.cell? ⟨D + 1, 0, none⟩ = some (.slice A1 gn' c1) ∧ w'.cell? ⟨D + 1, 1, none⟩ = some (.slice B1 gm' d1'))
          (exact ⟨g0, g1, h0, h1⟩)
          (first
            | (go_at_call 17; ((with_reducible refine (cAg _ gi).mono ?_); rintro e w4 ⟨A6, c6, rfl, hag, hb4⟩; replace g0 := (hb4.cell (p := ⟨GX, 0, none⟩) (World.block_lt_of_cell? _ _ g0)).trans g0; replace g1 := (hb4.cell (p := ⟨GX, 1, none⟩) (World.block_lt_of_cell? _ _ g1)).trans g1; replace h0 := (hb4.cell (p := ⟨D + 1, 0, none⟩) (World.block_lt_of_cell? _ _ h0)).trans h0; replace h1 := (hb4.cell (p := ⟨D + 1, 1, none⟩) (World.block_lt_of_cell? _ _ h1)).trans h1; replace fg0 := (hb4.frozen (p := ⟨GX, 0, none⟩) ltG).trans fg0; replace fg1 := (hb4.frozen (p := ⟨GX, 1, none⟩) ltG).trans fg1; replace fh0 := (hb4.frozen (p := ⟨D + 1, 0, none⟩) ltH).trans fh0; replace fh1 := (hb4.frozen (p := ⟨D + 1, 1, none⟩) ltH).trans fh1; replace ltG := Nat.lt_of_lt_of_le ltG hb4.size; replace ltD := Nat.lt_of_lt_of_le ltD hb4.size; replace ltH := Nat.lt_of_lt_of_le ltH hb4.size; replace ownT := own_below ownT hb4; replace ownW := own_below ownW hb4; replace gi := gi.below hb4; replace hx := hx.below hb4; replace b := b.trans (hb4.mono b.size); replace sz := Nat.le_trans sz hb4.size; clear hb4))
            | (go_at_call 17; ((with_reducible refine (cAh _ hx).mono ?_); rintro e w5 ⟨A7, c7, rfl, hah, hb5⟩; replace g0 := (hb5.cell (p := ⟨GX, 0, none⟩) (World.block_lt_of_cell? _ _ g0)).trans g0; replace g1 := (hb5.cell (p := ⟨GX, 1, none⟩) (World.block_lt_of_cell? _ _ g1)).trans g1; replace h0 := (hb5.cell (p := ⟨D + 1, 0, none⟩) (World.block_lt_of_cell? _ _ h0)).trans h0; replace h1 := (hb5.cell (p := ⟨D + 1, 1, none⟩) (World.block_lt_of_cell? _ _ h1)).trans h1; replace fg0 := (hb5.frozen (p := ⟨GX, 0, none⟩) ltG).trans fg0; replace fg1 := (hb5.frozen (p := ⟨GX, 1, none⟩) ltG).trans fg1; replace fh0 := (hb5.frozen (p := ⟨D + 1, 0, none⟩) ltH).trans fh0; replace fh1 := (hb5.frozen (p := ⟨D + 1, 1, none⟩) ltH).trans fh1; replace ltG := Nat.lt_of_lt_of_le ltG hb5.size; replace ltD := Nat.lt_of_lt_of_le ltD hb5.size; replace ltH := Nat.lt_of_lt_of_le ltH hb5.size; replace ownT := own_below ownT hb5; replace ownW := own_below ownW hb5; replace gi := gi.below hb5; replace hx := hx.below hb5; replace hag := hag.below hb5; replace b := b.trans (hb5.mono b.size); replace sz := Nat.le_trans sz hb5.size; clear hb5))
            | (go_at_call 16; ((with_reducible refine (cO3 _ hag hah).mono ?_); rintro e w6 ⟨rfl, hb6⟩; replace g0 := (hb6.cell (p := ⟨GX, 0, none⟩) (World.block_lt_of_cell? _ _ g0)).trans g0; replace g1 := (hb6.cell (p := ⟨GX, 1, none⟩) (World.block_lt_of_cell? _ _ g1)).trans g1; replace h0 := (hb6.cell (p := ⟨D + 1, 0, none⟩) (World.block_lt_of_cell? _ _ h0)).trans h0; replace h1 := (hb6.cell (p := ⟨D + 1, 1, none⟩) (World.block_lt_of_cell? _ _ h1)).trans h1; replace fg0 := (hb6.frozen (p := ⟨GX, 0, none⟩) ltG).trans fg0; replace fg1 := (hb6.frozen (p := ⟨GX, 1, none⟩) ltG).trans fg1; replace fh0 := (hb6.frozen (p := ⟨D + 1, 0, none⟩) ltH).trans fh0; replace fh1 := (hb6.frozen (p := ⟨D + 1, 1, none⟩) ltH).trans fh1; replace ltG := Nat.lt_of_lt_of_le ltG hb6.size; replace ltD := Nat.lt_of_lt_of_le ltD hb6.size; replace ltH := Nat.lt_of_lt_of_le ltH hb6.size; replace ownT := own_below ownT hb6; replace ownW := own_below ownW hb6; replace gi := gi.below hb6; replace hx := hx.below hb6; replace b := b.trans (hb6.mono b.size); replace sz := Nat.le_trans sz hb6.size; clear hb6))
          )
        clear hag hah cAg cAh cO3
        have st' := ST'.out
        generalize hsu : sure + mm = su' at *
        clear hsu hmm
        have zle : decide (gm' < gm) = false := by rw [decide_eq_false_iff_not]; omega
        have zs0 : (0 : Int) ≤ (gm : Int) := by omega
        have zs1 : (gm : Int) ≤ (d1' : Int) := by omega
        go_wp2_with fail
        replace b := b.drew
        replace g0 : w6.drew.cell? ⟨GX, 0, none⟩ = some (.slice gA gn gc) := g0
        replace g1 : w6.drew.cell? ⟨GX, 1, none⟩ = some (.slice gB gm gd) := g1
        replace h0 : w6.drew.cell? ⟨D + 1, 0, none⟩ = some (.slice A1 gn' c1) := h0
        replace h1 : w6.drew.cell? ⟨D + 1, 1, none⟩ = some (.slice B1 gm' d1') := h1
        replace fg0 : w6.drew.frozen? ⟨GX, 0, none⟩ = false := fg0
        replace fg1 : w6.drew.frozen? ⟨GX, 1, none⟩ = false := fg1
        replace fh0 : w6.drew.frozen? ⟨D + 1, 0, none⟩ = false := fh0
        replace fh1 : w6.drew.frozen? ⟨D + 1, 1, none⟩ = false := fh1
        replace ltG : _ < w6.drew.heap.size := ltG
        replace ltD : _ < w6.drew.heap.size := ltD
        replace ltH : _ < w6.drew.heap.size := ltH
        replace sz : _ ≤ w6.drew.heap.size := sz
        replace gi := gi.below (Below.refl _ _).drew
        replace hx := hx.below (Below.refl _ _).drew
        replace ownT := own_below ownT (Below.refl _ _).drew
        replace ownW := own_below ownW (Below.refl _ _).drew
        go_region_held3 (fun w' => w'.cell? ⟨GX, 0, none⟩ = some (.slice gA gn gc) ∧ w'.cell? ⟨GX, 1, none⟩ = some (.slice gB gm gd) ∧ w'.cell? ⟨D + 1, 0, none⟩ = some (.slice A1 gn' c1) ∧ w'.cell? ⟨D + 1, 1, none⟩ = some (.slice B1 gm' d1'))
          (exact ⟨g0, g1, h0, h1⟩)
          (first
            | (go_at_call 16; ((with_reducible refine (cOut _ hx gi).mono ?_); rintro e w20 ⟨rfl, hb20⟩; replace g0 := (hb20.cell (p := ⟨GX, 0, none⟩) (World.block_lt_of_cell? _ _ g0)).trans g0; replace g1 := (hb20.cell (p := ⟨GX, 1, none⟩) (World.block_lt_of_cell? _ _ g1)).trans g1; replace h0 := (hb20.cell (p := ⟨D + 1, 0, none⟩) (World.block_lt_of_cell? _ _ h0)).trans h0; replace h1 := (hb20.cell (p := ⟨D + 1, 1, none⟩) (World.block_lt_of_cell? _ _ h1)).trans h1; replace fg0 := (hb20.frozen (p := ⟨GX, 0, none⟩) ltG).trans fg0; replace fg1 := (hb20.frozen (p := ⟨GX, 1, none⟩) ltG).trans fg1; replace fh0 := (hb20.frozen (p := ⟨D + 1, 0, none⟩) ltH).trans fh0; replace fh1 := (hb20.frozen (p := ⟨D + 1, 1, none⟩) ltH).trans fh1; replace ltG := Nat.lt_of_lt_of_le ltG hb20.size; replace ltD := Nat.lt_of_lt_of_le ltD hb20.size; replace ltH := Nat.lt_of_lt_of_le ltH hb20.size; replace ownT := own_below ownT hb20; replace ownW := own_below ownW hb20; replace gi := gi.below hb20; replace hx := hx.below hb20; replace b := b.trans (hb20.mono b.size); replace sz := Nat.le_trans sz hb20.size; clear hb20))
            | (go_at_call 14; ((with_reducible refine (cR _ hx).mono ?_); rintro e w21 ⟨rfl, hb21⟩; replace g0 := (hb21.cell (p := ⟨GX, 0, none⟩) (World.block_lt_of_cell? _ _ g0)).trans g0; replace g1 := (hb21.cell (p := ⟨GX, 1, none⟩) (World.block_lt_of_cell? _ _ g1)).trans g1; replace h0 := (hb21.cell (p := ⟨D + 1, 0, none⟩) (World.block_lt_of_cell? _ _ h0)).trans h0; replace h1 := (hb21.cell (p := ⟨D + 1, 1, none⟩) (World.block_lt_of_cell? _ _ h1)).trans h1; replace fg0 := (hb21.frozen (p := ⟨GX, 0, none⟩) ltG).trans fg0; replace fg1 := (hb21.frozen (p := ⟨GX, 1, none⟩) ltG).trans fg1; replace fh0 := (hb21.frozen (p := ⟨D + 1, 0, none⟩) ltH).trans fh0; replace fh1 := (hb21.frozen (p := ⟨D + 1, 1, none⟩) ltH).trans fh1; replace ltG := Nat.lt_of_lt_of_le ltG hb21.size; replace ltD := Nat.lt_of_lt_of_le ltD hb21.size; replace ltH := Nat.lt_of_lt_of_le ltH hb21.size; replace ownT := own_below ownT hb21; replace ownW := own_below ownW hb21; replace gi := gi.below hb21; replace hx := hx.below hb21; replace b := b.trans (hb21.mono b.size); replace sz := Nat.le_trans sz hb21.size; clear hb21))
          )
        go_wp2_with fail
        obtain ⟨ga, gb, ka, kb, gs, bs, szs, oth⟩ := gate_set ((w21.setCell ⟨GX, 0, none⟩ (.slice A1 gn' c1)).setCell ⟨GX, 1, none⟩ (.slice B1 gm' d1')) rfl g0 g1 fg0 fg1
        replace b := bs _ _ (by omega) b
        replace hx := gs _ _ _ _ hx
        have neownT : _ ≠ some (GX) := fun e => by have := ownT.lt _ e; omega
        have neownW : _ ≠ some (GX) := fun e => by have := ownW.lt _ e; omega
        replace ownT := ownsRow_setCell_other (a := ⟨GX, 1, none⟩) (ownsRow_setCell_other (a := ⟨GX, 0, none⟩) ownT neownT (.slice A1 gn' c1)) neownT (.slice B1 gm' d1')
        replace ownW := ownsRow_setCell_other (a := ⟨GX, 1, none⟩) (ownsRow_setCell_other (a := ⟨GX, 0, none⟩) ownW neownW (.slice A1 gn' c1)) neownW (.slice B1 gm' d1')
        replace ltG := Nat.lt_of_lt_of_le ltG (Nat.le_of_eq szs.symm)
        replace ltD := Nat.lt_of_lt_of_le ltD (Nat.le_of_eq szs.symm)
        replace ltH := Nat.lt_of_lt_of_le ltH (Nat.le_of_eq szs.symm)
        replace sz := Nat.le_trans sz (Nat.le_of_eq szs.symm)
        replace h0 := (oth _ _ (by omega)).1.trans h0
        replace fh0 := (oth _ _ (by omega)).2.trans fh0
        replace h1 := (oth _ _ (by omega)).1.trans h1
        replace fh1 := (oth _ _ (by omega)).2.trans fh1
        clear g0 g1 fg0 fg1 gs bs szs oth neownT neownW
        have g0 := ga
        have g1 := gb
        have fg0 := ka
        have fg1 := kb
        clear ga gb ka kb
        generalize ((w21.setCell ⟨GX, 0, none⟩ (.slice A1 gn' c1)).setCell ⟨GX, 1, none⟩ (.slice B1 gm' d1')) = w22 at *
        obtain ⟨wo, hwo⟩ : ∃ wo : World, wo = w22 := ⟨_, rfl⟩
        subst hwo
        have slW := Sl.of_own (xs := l) spanE_len ownW HNN'.out
        go_loopg [12, 13] NN (fun gg s12 s13 wl => ∃ kk : Nat, kk ≤ NN ∧ NN - kk ≤ gg ∧ s13 = .int .i64 (kk : Int) ∧ s12 = .int .i64 (cntN l su' kk : Nat) ∧ wl = wo)
        case atStart => exact ⟨0, Nat.zero_le _, by omega, rfl, rfl, rfl⟩
        case round =>
          obtain ⟨kk, hkk, hgg2, rfl, rfl, rfl⟩ := hrel
          have hcl := cntN_le (l) su' kk
          by_cases hlt2 : kk < NN
          · have y1 : (kk : Int) < (NN : Int) := by omega
            have hin2 : kk < ((l)).length := by rw [HNN'.out]; exact hlt2
            obtain ⟨bk, ok, rfl, hq2⟩ := slW.at_ kk hin2
            have p0 := hq2 0 _ rfl
            rw [Nat.add_zero, Nat.mul_one] at p0
            have hs := cntN_succ (l) su' kk hin2
            generalize ((l))[kk]!.span = y at p0 hs
            clear hq2 hin2
            by_cases hy : y < su'
            · rw [if_pos hy] at hs
              have HSS := Lib.hid hs
              clear hs
              go_wp2_with fail
              go_roundg (NN - (kk + 1))
              case measure => omega
              case rel => exact ⟨kk + 1, by omega, by omega, by go_num, by rw [HSS.out]; go_num, rfl⟩
            · rw [if_neg hy] at hs
              have HSS := Lib.hid hs
              clear hs
              go_wp2_with fail
              go_roundg (NN - (kk + 1))
              case measure => omega
              case rel => exact ⟨kk + 1, by omega, by omega, by go_num, by rw [HSS.out], rfl⟩
          · have y1 : ¬ (kk : Int) < (NN : Int) := by omega
            obtain rfl : kk = NN := by omega
            have hfin := cntN_all st' HNN'.out HM'.out
            rw [hfin] at hcl ⊢
            clear hfin
            go_wp2_with fail
            refine (cA _ hx).mono ?_
            rintro e w23 ⟨A5, c5, rfl, ha, hb23⟩
            replace g0 := (hb23.cell (p := ⟨GX, 0, none⟩) (World.block_lt_of_cell? _ _ g0)).trans g0
            replace g1 := (hb23.cell (p := ⟨GX, 1, none⟩) (World.block_lt_of_cell? _ _ g1)).trans g1
            replace h0 := (hb23.cell (p := ⟨D + 1, 0, none⟩) (World.block_lt_of_cell? _ _ h0)).trans h0
            replace h1 := (hb23.cell (p := ⟨D + 1, 1, none⟩) (World.block_lt_of_cell? _ _ h1)).trans h1
            replace fg0 := (hb23.frozen (p := ⟨GX, 0, none⟩) ltG).trans fg0
            replace fg1 := (hb23.frozen (p := ⟨GX, 1, none⟩) ltG).trans fg1
            replace fh0 := (hb23.frozen (p := ⟨D + 1, 0, none⟩) ltH).trans fh0
            replace fh1 := (hb23.frozen (p := ⟨D + 1, 1, none⟩) ltH).trans fh1
            replace ltG := Nat.lt_of_lt_of_le ltG hb23.size
            replace ltD := Nat.lt_of_lt_of_le ltD hb23.size
            replace ltH := Nat.lt_of_lt_of_le ltH hb23.size
            replace ownT := own_below ownT hb23
            replace ownW := own_below ownW hb23
            replace hx := hx.below hb23
            replace b := b.trans (hb23.mono b.size)
            replace sz := Nat.le_trans sz hb23.size
            clear hb23
            have slT := Sl.of_own (xs := (l).map Hld.told) Tld.enc_len (by rw [toldE_map]; exact ownT) (by rw [List.length_map]; exact HNN'.out)
            go_wp2_with fail
            rw [HAL.out] at ha
            refine (cO2 _ ha slT HNN'.out.symm).mono ?_
            rintro e w24 ⟨rfl, hb24⟩
            replace g0 := (hb24.cell (p := ⟨GX, 0, none⟩) (World.block_lt_of_cell? _ _ g0)).trans g0
            replace g1 := (hb24.cell (p := ⟨GX, 1, none⟩) (World.block_lt_of_cell? _ _ g1)).trans g1
            replace h0 := (hb24.cell (p := ⟨D + 1, 0, none⟩) (World.block_lt_of_cell? _ _ h0)).trans h0
            replace h1 := (hb24.cell (p := ⟨D + 1, 1, none⟩) (World.block_lt_of_cell? _ _ h1)).trans h1
            replace fg0 := (hb24.frozen (p := ⟨GX, 0, none⟩) ltG).trans fg0
            replace fg1 := (hb24.frozen (p := ⟨GX, 1, none⟩) ltG).trans fg1
            replace fh0 := (hb24.frozen (p := ⟨D + 1, 0, none⟩) ltH).trans fh0
            replace fh1 := (hb24.frozen (p := ⟨D + 1, 1, none⟩) ltH).trans fh1
            replace ltG := Nat.lt_of_lt_of_le ltG hb24.size
            replace ltD := Nat.lt_of_lt_of_le ltD hb24.size
            replace ltH := Nat.lt_of_lt_of_le ltH hb24.size
            replace ownT := own_below ownT hb24
            replace ownW := own_below ownW hb24
            replace hx := hx.below hb24
            replace b := b.trans (hb24.mono b.size)
            replace sz := Nat.le_trans sz hb24.size
            have zne : ((gm' : Int) != (gm' : Int)) = false := by simp
            clear hb24 ha slT slW
            go_wp2_with fail
            go_roundg (n - (i + 1))
            case measure => omega
            case rel => exact ⟨i + 1, l, span, su', G', A1, gn', c1, B1, gm', d1', kk, TA, tc, WA, wc, by omega, by omega, by omega, by go_simp, by go_simp, by go_simp, by go_simp, by go_simp, st', ⟨g0, g1, fg0, fg1, ltG, sz, hx, HN'.out, HM'.out, ownT, ownW, HNN'.out, of1, of2, b⟩⟩
      · have k0 : (x.kind % 4 == 0) = false := by rw [beq_eq_false_iff_ne]; omega
        have k1 : (x.kind % 4 == 1) = false := by rw [beq_eq_false_iff_ne]; omega
        have k2 : (x.kind % 4 == 2) = false := by rw [beq_eq_false_iff_ne]; omega
        clear hk
        have hpos : 0 < span - sure + 1 := by omega
        have hne0 : ¬ span - sure + 1 = 0 := by omega
        have hm0 := Int.emod_nonneg x.dst hne0
        have hm1 := Int.emod_lt_of_pos x.dst hpos
        obtain ⟨mm, hmm⟩ : ∃ q, x.dst % (span - sure + 1) = q := ⟨_, rfl⟩
        rw [hmm] at hm0 hm1
        obtain ⟨G', hT, st', hout⟩ := st.back hlt60 (k := sure + mm) (by omega) (by omega)
        obtain ⟨gn', hn'⟩ : ∃ q, G'.held.length = q := ⟨_, rfl⟩
        obtain ⟨gm', hm'⟩ : ∃ q, G'.out.length = q := ⟨_, rfl⟩
        have cT := fun w1 hgg => fresh_num (Back_fresh gA gB gc gd gn gm (sure + mm) G w1 hgg HN.out HM.out (by omega) (by omega)) hT hn' hm'
        have hgm : gm ≤ gm' := by rw [← hm', hout, HM.out]; exact Nat.le_refl _
        have htk : G'.out.take gm = G.out := by rw [hout, ← HM.out, List.take_length]
        have hlow : ∀ j, j < belowN l (sure + mm) → l[j]!.span < sure + mm := fun j hj => belowN_lt hj
        have hhigh : ∀ j, belowN l (sure + mm) ≤ j → j < l.length → sure + mm ≤ l[j]!.span := fun j h1 h2 => belowN_ge st.right h1 h2
        have hKl := belowN_le l (sure + mm)
        rw [HNN.out] at hKl
        generalize belowN l (sure + mm) = K at *
        have HLOW := Lib.hid hlow
        have HHIGH := Lib.hid hhigh
        clear hout hlow hhigh
        have ll' := st'.len2
        rw [hn', hm'] at ll'
        have rg' := st'.rightG
        have alG' := st'.all
        have HN' := Lib.hid hn'
        have HM' := Lib.hid hm'
        have HTK := Lib.hid htk
        have HAL := Lib.hid alG'
        have HRG := Lib.hid rg'
        have ST' : Aside (St (l.take K) (sure + mm) (sure) G' (i + 1)) := st'
        clear hT hn' hm' htk rg' alG' st' st
        go_wp2_with fail
        obtain ⟨hb0, d0, d1, d2, d3, h0, h1, fh0, fh1, hsz⟩ := begin_round wr x _ rfl
        have obT := ownT.lt
        have obW := ownW.lt
        have qG := ltG
        replace g0 := (hb0.cell (p := ⟨GX, 0, none⟩) (World.block_lt_of_cell? _ _ g0)).trans g0
        replace g1 := (hb0.cell (p := ⟨GX, 1, none⟩) (World.block_lt_of_cell? _ _ g1)).trans g1
        replace fg0 := (hb0.frozen (p := ⟨GX, 0, none⟩) ltG).trans fg0
        replace fg1 := (hb0.frozen (p := ⟨GX, 1, none⟩) ltG).trans fg1
        replace ltG := Nat.lt_of_lt_of_le ltG hb0.size
        replace ownT := own_below ownT hb0
        replace ownW := own_below ownW hb0
        replace gi := gi.below hb0
        replace b := b.trans (hb0.mono b.size)
        replace sz := Nat.le_trans sz hb0.size
        clear hb0 q0 q1 q2 q3
        have ltD : wr.heap.size < ((wr.alloc (.cells #[.int .u8 x.kind, .int .u8 x.dst, .int .i64 x.core, .int .u32 x.val] 45)).alloc (.cells #[.slice none 0 0, .slice none 0 0] 25)).heap.size := by omega
        have ltH : wr.heap.size + 1 < ((wr.alloc (.cells #[.int .u8 x.kind, .int .u8 x.dst, .int .i64 x.core, .int .u32 x.val] 45)).alloc (.cells #[.slice none 0 0, .slice none 0 0] 25)).heap.size := by omega
        generalize ((wr.alloc (.cells #[.int .u8 x.kind, .int .u8 x.dst, .int .i64 x.core, .int .u32 x.val] 45)).alloc (.cells #[.slice none 0 0, .slice none 0 0] 25)) = W1 at *
        generalize wr.heap.size = D at *
        clear hsz
        refine (cT _ gi).mono ?_
        rintro e w2 ⟨A1, c1, B1, d1', rfl, hx, hb2, fr1, fr2, hcap⟩
        have of1 := GOff.fresh (g := G') fr1 fr2 ownT
        have of2 := GOff.fresh (g := G') fr1 fr2 ownW
        clear fr1 fr2
        replace g0 := (hb2.cell (p := ⟨GX, 0, none⟩) (World.block_lt_of_cell? _ _ g0)).trans g0
        replace g1 := (hb2.cell (p := ⟨GX, 1, none⟩) (World.block_lt_of_cell? _ _ g1)).trans g1
        replace d0 := (hb2.cell (p := ⟨D, 0, none⟩) (World.block_lt_of_cell? _ _ d0)).trans d0
        replace d1 := (hb2.cell (p := ⟨D, 1, none⟩) (World.block_lt_of_cell? _ _ d1)).trans d1
        replace d2 := (hb2.cell (p := ⟨D, 2, none⟩) (World.block_lt_of_cell? _ _ d2)).trans d2
        replace d3 := (hb2.cell (p := ⟨D, 3, none⟩) (World.block_lt_of_cell? _ _ d3)).trans d3
        replace h0 := (hb2.cell (p := ⟨D + 1, 0, none⟩) (World.block_lt_of_cell? _ _ h0)).trans h0
        replace h1 := (hb2.cell (p := ⟨D + 1, 1, none⟩) (World.block_lt_of_cell? _ _ h1)).trans h1
        replace fg0 := (hb2.frozen (p := ⟨GX, 0, none⟩) ltG).trans fg0
        replace fg1 := (hb2.frozen (p := ⟨GX, 1, none⟩) ltG).trans fg1
        replace fh0 := (hb2.frozen (p := ⟨D + 1, 0, none⟩) ltH).trans fh0
        replace fh1 := (hb2.frozen (p := ⟨D + 1, 1, none⟩) ltH).trans fh1
        replace ltG := Nat.lt_of_lt_of_le ltG hb2.size
        replace ltD := Nat.lt_of_lt_of_le ltD hb2.size
        replace ltH := Nat.lt_of_lt_of_le ltH hb2.size
        replace ownT := own_below ownT hb2
        replace ownW := own_below ownW hb2
        replace gi := gi.below hb2
        replace b := b.trans (hb2.mono b.size)
        replace sz := Nat.le_trans sz hb2.size
        clear hb2
        go_wp2_with fail
        obtain ⟨ga, gb, ka, kb, gs, bs, szs, oth⟩ := gate_set ((w2.setCell ⟨D + 1, 0, none⟩ (.slice A1 gn' c1)).setCell ⟨D + 1, 1, none⟩ (.slice B1 gm' d1')) rfl h0 h1 fh0 fh1
        replace b := bs _ _ (by omega) b
        replace gi := gs _ _ _ _ gi
        replace hx := gs _ _ _ _ hx
        have neownT : _ ≠ some (D + 1) := fun e => by have := obT _ e; omega
        have neownW : _ ≠ some (D + 1) := fun e => by have := obW _ e; omega
        replace ownT := ownsRow_setCell_other (a := ⟨D + 1, 1, none⟩) (ownsRow_setCell_other (a := ⟨D + 1, 0, none⟩) ownT neownT (.slice A1 gn' c1)) neownT (.slice B1 gm' d1')
        replace ownW := ownsRow_setCell_other (a := ⟨D + 1, 1, none⟩) (ownsRow_setCell_other (a := ⟨D + 1, 0, none⟩) ownW neownW (.slice A1 gn' c1)) neownW (.slice B1 gm' d1')
        replace ltG := Nat.lt_of_lt_of_le ltG (Nat.le_of_eq szs.symm)
        replace ltD := Nat.lt_of_lt_of_le ltD (Nat.le_of_eq szs.symm)
        replace ltH := Nat.lt_of_lt_of_le ltH (Nat.le_of_eq szs.symm)
        replace sz := Nat.le_trans sz (Nat.le_of_eq szs.symm)
        replace g0 := (oth _ _ (by omega)).1.trans g0
        replace fg0 := (oth _ _ (by omega)).2.trans fg0
        replace g1 := (oth _ _ (by omega)).1.trans g1
        replace fg1 := (oth _ _ (by omega)).2.trans fg1
        replace d0 := (oth _ _ (by omega)).1.trans d0
        replace d1 := (oth _ _ (by omega)).1.trans d1
        replace d2 := (oth _ _ (by omega)).1.trans d2
        replace d3 := (oth _ _ (by omega)).1.trans d3
        clear h0 h1 fh0 fh1 gs bs szs oth neownT neownW
        have h0 := ga
        have h1 := gb
        have fh0 := ka
        have fh1 := kb
        clear ga gb ka kb
        generalize ((w2.setCell ⟨D + 1, 0, none⟩ (.slice A1 gn' c1)).setCell ⟨D + 1, 1, none⟩ (.slice B1 gm' d1')) = wp at *
        clear obT obW offT offW cT d0 d1 d2 d3
        have cpT := (own_cap ownT).1
        have cpW := (own_cap ownW).1
        go_loopg [6, 7] NN (fun gg s6 s7 wl => ∃ q : Nat, K ≤ q ∧ q ≤ NN ∧ q ≤ gg ∧ s6 = .slice TA q tc ∧ s7 = .slice WA q wc ∧ Aside (Below wp.heap.size wp wl))
        case atStart => exact ⟨NN, hKl, Nat.le_refl _, Nat.le_refl _, rfl, rfl, Below.refl _ _⟩
        case round =>
          obtain ⟨q, hq1, hq2, hgg2, rfl, rfl, HB⟩ := hrel
          have slW0 := own_take (n' := q) (own_below ownW HB.out) hq2
          rw [flat_take spanE_len] at slW0
          have slW := Sl.of_own (xs := l.take q) spanE_len slW0 (by rw [List.length_take, HNN.out]; omega)
          by_cases hK : K < q
          · obtain ⟨p, hp⟩ : ∃ p, q = p + 1 := ⟨q - 1, by omega⟩
            have hwr : IntKind.i64.wrap ((q : Int) - 1) = (p : Int) := by rw [IntWalk.i64_in _ (by omega)]; omega
            have zp0 : 0 ≤ (p : Int) := by omega
            have zp1 : (p : Int) < (q : Int) := by omega
            have zp2 : (p : Int) ≤ (tc : Int) := by omega
            have zp3 : (p : Int) ≤ (wc : Int) := by omega
            have zq : decide (0 < q) = true := by rw [decide_eq_true_iff]; omega
            have zq2 : 0 < q := by omega
            have hin2 : p < (l.take q).length := by rw [List.length_take, HNN.out]; omega
            have hyy := HHIGH.out p (by omega) (by rw [HNN.out]; omega)
            obtain ⟨bk, ok, rfl, hq3⟩ := slW.at_ p hin2
            have p0 := hq3 0 _ rfl
            have ely : (l.take q)[p]! = l[p]! := by rw [getElem!_pos _ p hin2, getElem!_pos l p (by rw [HNN.out]; omega), List.getElem_take]
            rw [Nat.add_zero, Nat.mul_one, ely] at p0
            generalize l[p]!.span = y at p0 hyy
            have hyd : decide (sure + mm ≤ y) = true := by rw [decide_eq_true_iff]; exact hyy
            have HP := Lib.hid hp
            clear hq3 hin2 ely slW slW0 hp
            go_wp2_with fail
            go_quiet (fail)
            go_wp2_with fail
            go_roundg p
            case measure => have := HP.out; omega
            case rel => have := HP.out; exact ⟨p, by omega, by omega, by omega, by go_simp, by go_simp, (show Aside _ from bdrewN HB.out _)⟩
          · obtain rfl : K = q := by omega
            have hb := HB.out
            replace g0 := (hb.cell (p := ⟨GX, 0, none⟩) (World.block_lt_of_cell? _ _ g0)).trans g0
            replace g1 := (hb.cell (p := ⟨GX, 1, none⟩) (World.block_lt_of_cell? _ _ g1)).trans g1
            replace h0 := (hb.cell (p := ⟨D + 1, 0, none⟩) (World.block_lt_of_cell? _ _ h0)).trans h0
            replace h1 := (hb.cell (p := ⟨D + 1, 1, none⟩) (World.block_lt_of_cell? _ _ h1)).trans h1
            replace fg0 := (hb.frozen (p := ⟨GX, 0, none⟩) ltG).trans fg0
            replace fg1 := (hb.frozen (p := ⟨GX, 1, none⟩) ltG).trans fg1
            replace fh0 := (hb.frozen (p := ⟨D + 1, 0, none⟩) ltH).trans fh0
            replace fh1 := (hb.frozen (p := ⟨D + 1, 1, none⟩) ltH).trans fh1
            replace ltG := Nat.lt_of_lt_of_le ltG hb.size
            replace ltD := Nat.lt_of_lt_of_le ltD hb.size
            replace ltH := Nat.lt_of_lt_of_le ltH hb.size
            replace ownT := own_below ownT hb
            replace ownW := own_below ownW hb
            replace gi := gi.below hb
            replace hx := hx.below hb
            replace b := b.trans (hb.mono b.size)
            replace sz := Nat.le_trans sz hb.size
            clear hb HB
            have oT := own_take (n' := K) ownT hq2
            have oW := own_take (n' := K) ownW hq2
            rw [flat_take toldE_len] at oT
            rw [flat_take spanE_len] at oW
            clear ownT ownW
            have ownT := oT
            have ownW := oW
            replace of1 : GOff G' A1 B1 (.slice TA K tc) := of1.same (by cases TA <;> rfl)
            replace of2 : GOff G' A1 B1 (.slice WA K wc) := of2.same (by cases WA <;> rfl)
            have HNN' : Hid ((l.take K).length = K) := Lib.hid (by rw [List.length_take, HNN.out]; omega)
            clear oT oW slW0
            have hlast : ∀ p, K = p + 1 → (l.take K)[p]!.span < sure + mm := fun p hp => by
              have := HLOW.out p (by omega)
              have hin2 : p < (l.take K).length := by rw [HNN'.out]; omega
              rw [getElem!_pos _ p hin2, List.getElem_take, ← getElem!_pos l p (by rw [HNN.out]; omega)]
              exact this
            have HLAST := Lib.hid hlast
            have st' := ST'.out
            clear hlast ST' HLOW HHIGH
            generalize hll : l.take K = l' at *
            clear hll
            have cA := fun w1 hgg => All_any A1 B1 c1 d1' gn' gm' G' w1 hgg HN'.out HM'.out (by omega) (by omega)
            have cR := fun w1 hgg => Right_any A1 B1 c1 d1' gn' gm' G'.held G'.out w1 hgg HN'.out
            rw [HRG.out] at cR
            have cOut := fun w1 (hx : GateIn w1 A1 B1 G'.held G'.out) (gi : GateIn w1 gA gB G.held G.out) => outs_any B1 gB d1' gd gm gm (G'.out.take gm) G.out w1 (hx.out.take gm) gi.out (by rw [List.length_take, HM'.out]; omega) HM.out
            rw [HTK.out, show decide (G.out = G.out) = true by simp] at cOut
            have hnm : gm' + gn' = l'.length := by
              have := congrArg List.length HAL.out
              rw [allG, List.length_append, List.length_map, List.length_map, HN'.out, HM'.out] at this
              exact this
            have HNM := Lib.hid hnm
            clear hnm
            have cO2 := fun {X Y : Option Addr} {p q r : Nat} w1 (h1 : Sl 2 Tld.enc w1 X (allG G')) (h2 : Sl 2 Tld.enc w1 Y (l'.map Hld.told)) (h3 : r = l'.length) => outs_any X Y p q (gm' + gn') r (allG G') (l'.map Hld.told) w1 h1 h2 (by rw [HAL.out, List.length_map, HNM.out]) (by rw [List.length_map, h3])
            rw [HAL.out, show decide (l'.map Hld.told = l'.map Hld.told) = true by simp] at cO2
            by_cases hK0 : K = 0
            case' pos =>
              have zq : decide (0 < K) = false := by rw [decide_eq_false_iff_not]; omega
              have zq2 : ¬ 0 < K := by omega
              clear hK0 slW HLAST
              go_wp2_with fail
            case' neg =>
              obtain ⟨p, hp⟩ : ∃ p, K = p + 1 := ⟨K - 1, by omega⟩
              have hwr : IntKind.i64.wrap ((K : Int) - 1) = (p : Int) := by rw [IntWalk.i64_in _ (by omega)]; omega
              have zp0 : 0 ≤ (p : Int) := by omega
              have zp1 : (p : Int) < (K : Int) := by omega
              have zq : decide (0 < K) = true := by rw [decide_eq_true_iff]; omega
              have zq2 : 0 < K := by omega
              have hin2 : p < l'.length := by rw [HNN'.out]; omega
              have hyy := HLAST.out p hp
              obtain ⟨bk, ok, rfl, hq3⟩ := slW.at_ p hin2
              have p0 := hq3 0 _ rfl
              rw [Nat.add_zero, Nat.mul_one] at p0
              generalize l'[p]!.span = y at p0 hyy
              have hyd : decide (sure + mm ≤ y) = false := by rw [decide_eq_false_iff_not]; omega
              have HP := Lib.hid hp
              clear hq3 hin2 slW hp hK0 HLAST
              go_wp2_with fail
              clear p0 hyd hwr
              generalize hWW : (some (⟨bk, ok, none⟩ : Addr)) = WA at *
              clear hWW
            all_goals (
              clear zq zq2
              generalize hsu : sure + mm = su' at *
              clear hsu hmm
              have zle : decide (gm' < gm) = false := by rw [decide_eq_false_iff_not]; omega
              have zs0 : (0 : Int) ≤ (gm : Int) := by omega
              have zs1 : (gm : Int) ≤ (d1' : Int) := by omega
              go_wp2_with fail
              replace b := b.drew
              replace g0 : wr.drew.cell? ⟨GX, 0, none⟩ = some (.slice gA gn gc) := g0
              replace g1 : wr.drew.cell? ⟨GX, 1, none⟩ = some (.slice gB gm gd) := g1
              replace h0 : wr.drew.cell? ⟨D + 1, 0, none⟩ = some (.slice A1 gn' c1) := h0
              replace h1 : wr.drew.cell? ⟨D + 1, 1, none⟩ = some (.slice B1 gm' d1') := h1
              replace fg0 : wr.drew.frozen? ⟨GX, 0, none⟩ = false := fg0
              replace fg1 : wr.drew.frozen? ⟨GX, 1, none⟩ = false := fg1
              replace fh0 : wr.drew.frozen? ⟨D + 1, 0, none⟩ = false := fh0
              replace fh1 : wr.drew.frozen? ⟨D + 1, 1, none⟩ = false := fh1
              replace ltG : _ < wr.drew.heap.size := ltG
              replace ltD : _ < wr.drew.heap.size := ltD
              replace ltH : _ < wr.drew.heap.size := ltH
              replace sz : _ ≤ wr.drew.heap.size := sz
              replace gi := gi.below (Below.refl _ _).drew
              replace hx := hx.below (Below.refl _ _).drew
              replace ownT := own_below ownT (Below.refl _ _).drew
              replace ownW := own_below ownW (Below.refl _ _).drew
              go_region_held3 (fun w' => w'.cell? ⟨GX, 0, none⟩ = some (.slice gA gn gc) ∧ w'.cell? ⟨GX, 1, none⟩ = some (.slice gB gm gd) ∧ w'.cell? ⟨D + 1, 0, none⟩ = some (.slice A1 gn' c1) ∧ w'.cell? ⟨D + 1, 1, none⟩ = some (.slice B1 gm' d1'))
                (exact ⟨g0, g1, h0, h1⟩)
                (first
                  | (go_at_call 16; ((with_reducible refine (cOut _ hx gi).mono ?_); rintro e w20 ⟨rfl, hb20⟩; replace g0 := (hb20.cell (p := ⟨GX, 0, none⟩) (World.block_lt_of_cell? _ _ g0)).trans g0; replace g1 := (hb20.cell (p := ⟨GX, 1, none⟩) (World.block_lt_of_cell? _ _ g1)).trans g1; replace h0 := (hb20.cell (p := ⟨D + 1, 0, none⟩) (World.block_lt_of_cell? _ _ h0)).trans h0; replace h1 := (hb20.cell (p := ⟨D + 1, 1, none⟩) (World.block_lt_of_cell? _ _ h1)).trans h1; replace fg0 := (hb20.frozen (p := ⟨GX, 0, none⟩) ltG).trans fg0; replace fg1 := (hb20.frozen (p := ⟨GX, 1, none⟩) ltG).trans fg1; replace fh0 := (hb20.frozen (p := ⟨D + 1, 0, none⟩) ltH).trans fh0; replace fh1 := (hb20.frozen (p := ⟨D + 1, 1, none⟩) ltH).trans fh1; replace ltG := Nat.lt_of_lt_of_le ltG hb20.size; replace ltD := Nat.lt_of_lt_of_le ltD hb20.size; replace ltH := Nat.lt_of_lt_of_le ltH hb20.size; replace ownT := own_below ownT hb20; replace ownW := own_below ownW hb20; replace gi := gi.below hb20; replace hx := hx.below hb20; replace b := b.trans (hb20.mono b.size); replace sz := Nat.le_trans sz hb20.size; clear hb20))
                  | (go_at_call 14; ((with_reducible refine (cR _ hx).mono ?_); rintro e w21 ⟨rfl, hb21⟩; replace g0 := (hb21.cell (p := ⟨GX, 0, none⟩) (World.block_lt_of_cell? _ _ g0)).trans g0; replace g1 := (hb21.cell (p := ⟨GX, 1, none⟩) (World.block_lt_of_cell? _ _ g1)).trans g1; replace h0 := (hb21.cell (p := ⟨D + 1, 0, none⟩) (World.block_lt_of_cell? _ _ h0)).trans h0; replace h1 := (hb21.cell (p := ⟨D + 1, 1, none⟩) (World.block_lt_of_cell? _ _ h1)).trans h1; replace fg0 := (hb21.frozen (p := ⟨GX, 0, none⟩) ltG).trans fg0; replace fg1 := (hb21.frozen (p := ⟨GX, 1, none⟩) ltG).trans fg1; replace fh0 := (hb21.frozen (p := ⟨D + 1, 0, none⟩) ltH).trans fh0; replace fh1 := (hb21.frozen (p := ⟨D + 1, 1, none⟩) ltH).trans fh1; replace ltG := Nat.lt_of_lt_of_le ltG hb21.size; replace ltD := Nat.lt_of_lt_of_le ltD hb21.size; replace ltH := Nat.lt_of_lt_of_le ltH hb21.size; replace ownT := own_below ownT hb21; replace ownW := own_below ownW hb21; replace gi := gi.below hb21; replace hx := hx.below hb21; replace b := b.trans (hb21.mono b.size); replace sz := Nat.le_trans sz hb21.size; clear hb21))
                )
              go_wp2_with fail
              obtain ⟨ga, gb, ka, kb, gs, bs, szs, oth⟩ := gate_set ((w21.setCell ⟨GX, 0, none⟩ (.slice A1 gn' c1)).setCell ⟨GX, 1, none⟩ (.slice B1 gm' d1')) rfl g0 g1 fg0 fg1
              replace b := bs _ _ (by omega) b
              replace hx := gs _ _ _ _ hx
              have neownT : _ ≠ some (GX) := fun e => by have := ownT.lt _ e; omega
              have neownW : _ ≠ some (GX) := fun e => by have := ownW.lt _ e; omega
              replace ownT := ownsRow_setCell_other (a := ⟨GX, 1, none⟩) (ownsRow_setCell_other (a := ⟨GX, 0, none⟩) ownT neownT (.slice A1 gn' c1)) neownT (.slice B1 gm' d1')
              replace ownW := ownsRow_setCell_other (a := ⟨GX, 1, none⟩) (ownsRow_setCell_other (a := ⟨GX, 0, none⟩) ownW neownW (.slice A1 gn' c1)) neownW (.slice B1 gm' d1')
              replace ltG := Nat.lt_of_lt_of_le ltG (Nat.le_of_eq szs.symm)
              replace ltD := Nat.lt_of_lt_of_le ltD (Nat.le_of_eq szs.symm)
              replace ltH := Nat.lt_of_lt_of_le ltH (Nat.le_of_eq szs.symm)
              replace sz := Nat.le_trans sz (Nat.le_of_eq szs.symm)
              replace h0 := (oth _ _ (by omega)).1.trans h0
              replace fh0 := (oth _ _ (by omega)).2.trans fh0
              replace h1 := (oth _ _ (by omega)).1.trans h1
              replace fh1 := (oth _ _ (by omega)).2.trans fh1
              clear g0 g1 fg0 fg1 gs bs szs oth neownT neownW
              have g0 := ga
              have g1 := gb
              have fg0 := ka
              have fg1 := kb
              clear ga gb ka kb
              generalize ((w21.setCell ⟨GX, 0, none⟩ (.slice A1 gn' c1)).setCell ⟨GX, 1, none⟩ (.slice B1 gm' d1')) = w22 at *
              obtain ⟨wo, hwo⟩ : ∃ wo : World, wo = w22 := ⟨_, rfl⟩
              subst hwo
              have slW := Sl.of_own (xs := l') spanE_len ownW HNN'.out
              go_loopg [12, 13] K (fun gg s12 s13 wl => ∃ kk : Nat, kk ≤ K ∧ K - kk ≤ gg ∧ s13 = .int .i64 (kk : Int) ∧ s12 = .int .i64 (cntN l' sure kk : Nat) ∧ wl = wo)
              case atStart => exact ⟨0, Nat.zero_le _, by omega, rfl, rfl, rfl⟩
              case round =>
                obtain ⟨kk, hkk, hgg2, rfl, rfl, rfl⟩ := hrel
                have hcl := cntN_le (l') sure kk
                by_cases hlt2 : kk < K
                · have y1 : (kk : Int) < (K : Int) := by omega
                  have hin2 : kk < ((l')).length := by rw [HNN'.out]; exact hlt2
                  obtain ⟨bk, ok, rfl, hq2⟩ := slW.at_ kk hin2
                  have p0 := hq2 0 _ rfl
                  rw [Nat.add_zero, Nat.mul_one] at p0
                  have hs := cntN_succ (l') sure kk hin2
                  generalize ((l'))[kk]!.span = y at p0 hs
                  clear hq2 hin2
                  by_cases hy : y < sure
                  · rw [if_pos hy] at hs
                    have HSS := Lib.hid hs
                    clear hs
                    go_wp2_with fail
                    go_roundg (K - (kk + 1))
                    case measure => omega
                    case rel => exact ⟨kk + 1, by omega, by omega, by go_num, by rw [HSS.out]; go_num, rfl⟩
                  · rw [if_neg hy] at hs
                    have HSS := Lib.hid hs
                    clear hs
                    go_wp2_with fail
                    go_roundg (K - (kk + 1))
                    case measure => omega
                    case rel => exact ⟨kk + 1, by omega, by omega, by go_num, by rw [HSS.out], rfl⟩
                · have y1 : ¬ (kk : Int) < (K : Int) := by omega
                  obtain rfl : kk = K := by omega
                  have hfin := cntN_all st' HNN'.out HM'.out
                  rw [hfin] at hcl ⊢
                  clear hfin
                  go_wp2_with fail
                  refine (cA _ hx).mono ?_
                  rintro e w23 ⟨A5, c5, rfl, ha, hb23⟩
                  replace g0 := (hb23.cell (p := ⟨GX, 0, none⟩) (World.block_lt_of_cell? _ _ g0)).trans g0
                  replace g1 := (hb23.cell (p := ⟨GX, 1, none⟩) (World.block_lt_of_cell? _ _ g1)).trans g1
                  replace h0 := (hb23.cell (p := ⟨D + 1, 0, none⟩) (World.block_lt_of_cell? _ _ h0)).trans h0
                  replace h1 := (hb23.cell (p := ⟨D + 1, 1, none⟩) (World.block_lt_of_cell? _ _ h1)).trans h1
                  replace fg0 := (hb23.frozen (p := ⟨GX, 0, none⟩) ltG).trans fg0
                  replace fg1 := (hb23.frozen (p := ⟨GX, 1, none⟩) ltG).trans fg1
                  replace fh0 := (hb23.frozen (p := ⟨D + 1, 0, none⟩) ltH).trans fh0
                  replace fh1 := (hb23.frozen (p := ⟨D + 1, 1, none⟩) ltH).trans fh1
                  replace ltG := Nat.lt_of_lt_of_le ltG hb23.size
                  replace ltD := Nat.lt_of_lt_of_le ltD hb23.size
                  replace ltH := Nat.lt_of_lt_of_le ltH hb23.size
                  replace ownT := own_below ownT hb23
                  replace ownW := own_below ownW hb23
                  replace hx := hx.below hb23
                  replace b := b.trans (hb23.mono b.size)
                  replace sz := Nat.le_trans sz hb23.size
                  clear hb23
                  have slT := Sl.of_own (xs := (l').map Hld.told) Tld.enc_len (by rw [toldE_map]; exact ownT) (by rw [List.length_map]; exact HNN'.out)
                  go_wp2_with fail
                  rw [HAL.out] at ha
                  refine (cO2 _ ha slT HNN'.out.symm).mono ?_
                  rintro e w24 ⟨rfl, hb24⟩
                  replace g0 := (hb24.cell (p := ⟨GX, 0, none⟩) (World.block_lt_of_cell? _ _ g0)).trans g0
                  replace g1 := (hb24.cell (p := ⟨GX, 1, none⟩) (World.block_lt_of_cell? _ _ g1)).trans g1
                  replace h0 := (hb24.cell (p := ⟨D + 1, 0, none⟩) (World.block_lt_of_cell? _ _ h0)).trans h0
                  replace h1 := (hb24.cell (p := ⟨D + 1, 1, none⟩) (World.block_lt_of_cell? _ _ h1)).trans h1
                  replace fg0 := (hb24.frozen (p := ⟨GX, 0, none⟩) ltG).trans fg0
                  replace fg1 := (hb24.frozen (p := ⟨GX, 1, none⟩) ltG).trans fg1
                  replace fh0 := (hb24.frozen (p := ⟨D + 1, 0, none⟩) ltH).trans fh0
                  replace fh1 := (hb24.frozen (p := ⟨D + 1, 1, none⟩) ltH).trans fh1
                  replace ltG := Nat.lt_of_lt_of_le ltG hb24.size
                  replace ltD := Nat.lt_of_lt_of_le ltD hb24.size
                  replace ltH := Nat.lt_of_lt_of_le ltH hb24.size
                  replace ownT := own_below ownT hb24
                  replace ownW := own_below ownW hb24
                  replace hx := hx.below hb24
                  replace b := b.trans (hb24.mono b.size)
                  replace sz := Nat.le_trans sz hb24.size
                  have zne : ((gm' : Int) != (gm' : Int)) = false := by simp
                  clear hb24 ha slT slW
                  go_wp2_with fail
                  go_roundg (n - (i + 1))
                  case measure => omega
                  case rel => exact ⟨i + 1, l', su', sure, G', A1, gn', c1, B1, gm', d1', kk, TA, tc, WA, wc, by omega, by omega, by omega, by go_simp, by go_simp, by go_simp, by go_simp, by go_simp, st', ⟨g0, g1, fg0, fg1, ltG, sz, hx, HN'.out, HM'.out, ownT, ownW, HNN'.out, of1, of2, b⟩⟩)
    · by_cases hltn : i < n
      · have z1 : (i : Int) < (n : Int) := by omega
        have z2 : ¬ (i : Int) < 60 := by omega
        go_wp2_with fail
        go_ret
        exact ⟨rfl, b⟩
      · have z1 : ¬ (i : Int) < (n : Int) := by omega
        go_wp2_with fail
        go_ret
        exact ⟨rfl, b⟩

theorem sure_row (A : Option Addr) (c : Nat) (dl : List Doi) (w : World) (hs : Sl 4 Doi.enc w A dl) (hg : ∀ z ∈ dl, Doi.good z) :
    Calls Try.prog 4 #[.slice A dl.length c] w fun e w' => e = .returned (.bool true) ∧ Below w.heap.size w w' := sure_walk A _ c dl w hs hg rfl
end Go.Proofs.Ytkkbpcnoamagcaa
