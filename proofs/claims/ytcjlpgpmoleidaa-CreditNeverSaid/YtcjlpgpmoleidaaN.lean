/- The walk of CreditNever. -/
import Derived.Test.YtcjlpgpmoleidaaR
import Derived.Test.YtcjlpgpmoleidaaP
import Derived.Deep.RegionHeld3
import Derived.Deep.DeepCutAuto
import Derived.Deep.CutBlock
import Derived.Laws.MakeOwn
import Derived.OneCell
namespace Go.Proofs.Ytcjlpgpmoleidaa
open Go.RowKit Go.Lib

def encU8 (x : Int) : List Value := [.int .u8 x]
def encU16 (x : Int) : List Value := [.int .u16 x]

theorem sum_snoc (l : List Int) (x : Int) : (l ++ [x]).sum = l.sum + x := by simp
theorem sum_bd (l : List Int) (h : ∀ x ∈ l, 0 ≤ x ∧ x ≤ 255) : 0 ≤ l.sum ∧ l.sum ≤ 255 * l.length := by
  induction l with
  | nil => simp
  | cons x l ih =>
    have h1 := h x (by simp)
    have h2 := ih (fun y hy => h y (by simp [hy]))
    simp only [List.sum_cons, List.length_cons]
    omega
theorem own_weaken8 {w : World} {b b' e k n : Nat} {v : Value} {cs : List Value} (h : w.ownsRow b e k v n cs) (hb : b' ≤ b) : w.ownsRow b' e k v n cs := by
  obtain ⟨h1, h2⟩ := h
  refine ⟨h1, ?_⟩
  rcases h2 with h2 | ⟨g, cap, cur, hv, hg, r⟩
  · exact .inl h2
  · exact .inr ⟨g, cap, cur, hv, Nat.le_trans hb hg, r⟩
theorem mod_nat (y k : Int) (n : Nat) (h0 : 0 ≤ y) (hk : 0 < k) (hn : 0 < n) : y ≤ 65535 → ∃ j : Nat, (wrap64 (IntKind.u16.wrap (y.tdiv k))).tmod (n : Int) = j ∧ y / k % (n : Int) = j ∧ j < n := by
  intro h1
  have e1 : y.tdiv k = y / k := Int.tdiv_eq_ediv_of_nonneg h0
  have d0 : 0 ≤ y / k := Int.ediv_nonneg h0 (by omega)
  have d1 : y / k ≤ y := Int.ediv_le_self k h0
  have e2 : IntKind.u16.wrap (y / k) = y / k := IntWalk.u16_in _ (by omega)
  have e3 : wrap64 (y / k) = y / k := by unfold wrap64; omega
  rw [e1, e2, e3, Int.tmod_eq_emod_of_nonneg d0]
  have m0 : 0 ≤ y / k % n := Int.emod_nonneg _ (by omega)
  have m1 : y / k % n < n := Int.emod_lt_of_pos _ (by omega)
  exact ⟨(y / k % n).toNat, by omega, by omega, by omega⟩
theorem own_ne {w : World} {b b' e e' k k' n n' G c' : Nat} {v : Value} {cs cs' : List Value} (h : w.ownsRow b e k v n cs) (h' : w.ownsRow b' e' k' (.slice (some ⟨G, 0, none⟩) n' c') n' cs') (hne : e ≠ e') : v.ownBlock ≠ some G := by
  obtain ⟨_, cur', hh', _⟩ := own_block h'
  rcases h.2 with ⟨rfl, _⟩ | ⟨g, cap, cur, rfl, _, hh, _⟩
  · simp [Value.ownBlock]
  · intro e
    have : g = G := by simpa [Value.ownBlock] using e
    subst this
    rw [hh] at hh'
    injection hh' with hh'
    injection hh' with _ h2
    exact hne h2
theorem used_set {w : World} {b G n c : Nat} {us : List Int} (h : w.ownsRow b 3 1 (.slice (some ⟨G, 0, none⟩) n c) n (us.flatMap encI)) (j : Nat) (hj : j < us.length) (x : Int) :
    (w.setCell ⟨G, j, none⟩ (.int .i64 x)).ownsRow b 3 1 (.slice (some ⟨G, 0, none⟩) n c) n ((us.set j x).flatMap encI) := by
  have h1 := own_set h j (.int .i64 x)
  have h2 := flat_set encI_len us j 0 x (.int .i64 x) hj (by decide) rfl
  rw [Nat.mul_one, Nat.add_zero] at h2
  rwa [h2] at h1
theorem used_cell {w : World} {b G n c : Nat} {us : List Int} (h : w.ownsRow b 3 1 (.slice (some ⟨G, 0, none⟩) n c) n (us.flatMap encI)) (j : Nat) (hj : j < us.length) : w.cell? ⟨G, j, none⟩ = some (.int .i64 us[j]!) := by
  have h2 := flat_at encI_len us j 0 (.int .i64 us[j]!) hj rfl
  rw [Nat.mul_one, Nat.add_zero] at h2
  exact own_cell h j _ h2
theorem uo_len (l : List Cls) : (uo l).length = l.length := by simp [uo]
theorem msum_bd (l : List Cls) (h : rightB l = true) (k : Nat) : 0 ≤ ((l.map (·.most)).take k).sum ∧ ((l.map (·.most)).take k).sum ≤ 1000 * k := by
  have hb : ∀ x ∈ (l.map (·.most)).take k, 0 ≤ x ∧ x ≤ 1000 := fun x hx => by
    obtain ⟨y, hy, rfl⟩ := List.mem_map.1 (List.mem_of_mem_take hx)
    obtain ⟨j, hj, rfl⟩ := List.mem_iff_getElem.1 hy
    have := rightB_at h j hj
    rw [getElem!_pos l j hj] at this
    exact ⟨this.1, this.2.1⟩
  have hl : ((l.map (·.most)).take k).length ≤ k := List.length_take_le _ _
  generalize (l.map (·.most)).take k = xs at *
  have key : ∀ ys : List Int, (∀ x ∈ ys, 0 ≤ x ∧ x ≤ 1000) → 0 ≤ ys.sum ∧ ys.sum ≤ 1000 * ys.length := by
    intro ys
    induction ys with
    | nil => simp
    | cons x ys ih =>
      intro hb
      have h1 := hb x (by simp)
      have h2 := ih (fun y hy => hb y (by simp [hy]))
      simp only [List.sum_cons, List.length_cons]
      omega
  have := key xs hb
  omega
theorem rep_enc (n : Nat) : (List.replicate n (0 : Int)).flatMap encI = List.replicate n (.int .i64 0) := by
  induction n with
  | zero => rfl
  | succ n ih => rw [List.replicate_succ, List.flatMap_cons, ih]; rfl
theorem made_zero (n : Nat) : (madeCells #[Value.int .i64 0] n).toList = (List.replicate n (0 : Int)).flatMap encI := by
  rw [rep_enc]
  apply List.ext_getElem
  · simp [size_madeCells]
  · intro i h1 h2
    simp [madeCells, Nat.mod_one]
theorem info3 : (Try.prog.info? 3).map (fun i => (i.zero, i.size, i.bytes)) = some (some (.int .i64 0), 1, 8) := by kernel_rfl

set_option maxHeartbeats 16000000 in
set_option maxRecDepth 100000 in
theorem never_walk (A : Option Addr) (c : Nat) (most : List Int) (B : Option Addr) (d : Nat) (ev : List Int) (w : World) (hs : Sl 1 encU8 w A most) (hm : Sl 1 encU16 w B ev)
    (hb8 : ∀ x ∈ most, 0 ≤ x ∧ x ≤ 255) (hb16 : ∀ x ∈ ev, 0 ≤ x ∧ x ≤ 65535) :
    Calls Try.prog 4 #[.slice A most.length c, .slice B ev.length d] w fun e w' => e = .returned (.bool true) ∧ Below w.heap.size w w' := by
  have hbig := hs.big
  have hbig2 := hm.big
  have cAw := awake_any w
  by_cases h1 : most.length < 1
  · have hl1 : (most.length : Int) < 1 := by omega
    clear hs hm
    go_enter Try.func4, Try.ntmps4
    go_wp2_with fail
    refine cAw.mono ?_
    rintro e w0 ⟨rfl, b0⟩
    go_wp2
    go_ret
    exact ⟨rfl, b0⟩
  have hl1 : ¬ (most.length : Int) < 1 := by omega
  by_cases h2 : 8 < most.length
  · have hl2 : 8 < (most.length : Int) := by omega
    clear hs hm
    go_enter Try.func4, Try.ntmps4
    go_wp2_with fail
    refine cAw.mono ?_
    rintro e w0 ⟨rfl, b0⟩
    go_wp2
    go_ret
    exact ⟨rfl, b0⟩
  have hl2 : ¬ 8 < (most.length : Int) := by omega
  have HS := Lib.hid hs
  have HT := Lib.hid hm
  clear hs hm
  go_enter Try.func4, Try.ntmps4
  go_wp2_with fail
  refine cAw.mono ?_
  rintro e w0 ⟨rfl, b0⟩
  go_wp2_with fail
  obtain ⟨j0, hj, hjz0, hjz1, hjz2⟩ := info_parts info3
  go_loopg [5, 6, 7] most.length (fun gg s5 s6 s7 wr => ∃ kk : Nat, kk ≤ most.length ∧ most.length - kk ≤ gg ∧ s7 = .int .i64 kk ∧ s6 = .int .i64 (most.take kk).sum ∧ wr.ownsRow w.heap.size 3 1 s5 kk ((most.take kk).flatMap encI) ∧ Aside (Below w.heap.size w wr))
  case atStart => exact ⟨0, Nat.zero_le _, by omega, rfl, rfl, World.ownsRow_nil _ _ _ _, b0⟩
  case round => as_aux_lemma =>
    obtain ⟨kk, hkk, hg, rfl, rfl, hown, BW⟩ := hrel
    by_cases hlt : kk < most.length
    · have hltz : (kk : Int) < (most.length : Int) := by omega
      obtain ⟨b, off, rfl, hq0⟩ := HS.out.at_ kk hlt
      have q1 := hq0 0 _ rfl
      rw [Nat.add_zero, Nat.mul_one] at q1
      have q0 := Lib.hid q1
      rw [← BW.out.cell (World.block_lt_of_cell? w _ q1)] at q1
      clear hq0
      have hy : 0 ≤ most[kk]! ∧ most[kk]! ≤ 255 := hb8 _ (by rw [getElem!_pos most kk hlt]; exact List.getElem_mem hlt)
      have hsb := sum_bd (most.take kk) (fun x hx => hb8 x (List.mem_of_mem_take hx))
      have hsb2 : (most.take kk).length ≤ 8 := by rw [List.length_take]; omega
      have hsn : Hid ((most.take (kk + 1)).flatMap encI = (most.take kk).flatMap encI ++ [.int .i64 most[kk]!] ∧ (most.take (kk + 1)).sum = (most.take kk).sum + most[kk]!) := Lib.hid (by
        rw [List.take_succ_eq_append_getElem hlt, List.flatMap_append, getElem!_pos most kk hlt]
        exact ⟨rfl, sum_snoc _ _⟩)
      generalize hyy : most[kk]! = y at *
      clear hyy
      generalize (most.take kk).sum = sm at *
      generalize (most.take kk).flatMap encI = cs at *
      obtain ⟨hy1, hy2⟩ := hy
      obtain ⟨hs1, hs2⟩ := hsb
      have hs3 : sm ≤ 3000 := by omega
      clear hs2 hsb2
      go_wp2_with (at_builtin; refine wpList_append_own _ rfl _ _ 23 rfl w.heap.size 3 j0 _ 1 8 Try.underlying23 hj hjz0 hjz1 hjz2 rfl (by decide) _ _ _ rfl (hown.alloc _) ⟨wr.heap.size, 0, none⟩ 1 1 [.int .i64 y] rfl rfl ?qc2 ?qc3 ?qc4 ?qc5 ?qc6 ?_)
      case qc2 => exact fun j u hj => cell_new_block wr _ 3 j u hj
      case qc3 => intro u hu; simp at hu; rw [hu]; rfl
      case qc4 => unfold maxLen; omega
      case qc5 => omega
      case qc6 => simp; have := BW.out.size; omega
      intro v' w1 hown' hgrow hnil
      have hgb : Below w.heap.size w w1 := below_append (BW.out.alloc BW.out.size _) hgrow (by simp; have := BW.out.size; omega) (hown.alloc _) (Nat.le_refl _)
      have q2 := (hgb.cell (World.block_lt_of_cell? w _ q0.out)).trans q0.out
      have hgb' : Aside (Below w.heap.size w w1) := hgb
      clear hgrow hnil hown BW q1 hgb
      go_wp2
      go_roundg (most.length - (kk + 1))
      case measure => omega
      case rel => exact ⟨kk + 1, by omega, by omega, by go_num, by rw [hsn.out.2], by rw [hsn.out.1]; exact hown', hgb'⟩
    · have hltz : ¬ (kk : Int) < (most.length : Int) := by omega
      have : kk = most.length := by omega
      subst this
      rw [List.take_length] at *
      obtain ⟨A5, c5, rfl, hc5, hs5⟩ := Sl.own encI_len hown
      obtain ⟨hnew, hrb⟩ := newL_ok most (by omega) (by omega) hb8
      have cNew := New_any A5 c5 most wr hs5 (by omega)
      rw [hnew] at cNew
      have hsum0 := ms_new most
      have huo0 := uo_new most
      have hlen0 : (most.map (fun x => (⟨x, 0⟩ : Cls))).length = most.length := by simp
      generalize most.map (fun x => (⟨x, 0⟩ : Cls)) = cl0 at *
      have hsb := sum_bd most hb8
      clear hnew hown hb8 hs5 hc5 cAw b0
      generalize most.sum = S0 at *
      clear HS
      have HL := Lib.hid (show cl0.length = most.length from hlen0)
      clear hlen0
      generalize hn : most.length = n at *
      clear hn
      have HU := Lib.hid huo0
      have HM := Lib.hid hsum0
      have HR := Lib.hid hrb
      clear huo0 hsum0 hrb
      go_wp2_with fail
      refine cNew.mono ?_
      rintro e w2 ⟨v8, rfl, own8, b2'⟩
      have b2 := BW.out.trans (b2'.mono BW.out.size)
      go_wp2_with ((with_reducible refine wpList_make_full _ rfl (.tmp 57) (.tmp 57) 23 rfl w.heap.size 3 j0 _ 1 Try.underlying23 hj hjz0 hjz1 .i64 .i64 _ _ n rfl rfl rfl rfl ?r1 ?r2 ?r3 ?_))
      case r1 => rw [hjz2]; omega
      case r2 => unfold maxLen; omega
      case r3 => exact b2.size
      intro w3 own10 grow10
      have b3' : Below w2.heap.size w2 w3 := (Below.refl _ _).grown grow10 (Nat.le_refl _) (by simp)
      have b3 := b2.trans (b3'.mono b2.size)
      have own8' := own_below own8 b3'
      rw [made_zero, ← HU.out] at own10
      have hGw : w.heap.size ≤ w2.heap.size := b2.size
      clear own8 grow10 b3' b2' b2
      have own8w := own_weaken8 own8' BW.out.size
      rw [HL.out] at own8w
      clear own8'
      generalize w2.heap.size = G at *
      have B3 : Aside (Below w.heap.size w w3) := b3
      clear b3 cNew hlt hltz hkk hg
      go_wp2_with fail
      go_loopg [8, 11] ev.length (fun gg s8 s11 wq => ∃ kk : Nat, ∃ cl : List Cls, kk ≤ ev.length ∧ ev.length - kk ≤ gg ∧ s11 = .int .i64 kk ∧ wq.ownsRow w.heap.size 42 2 s8 n (cl.flatMap Cls.enc) ∧ wq.ownsRow w.heap.size 3 1 (.slice (some ⟨G, 0, none⟩) n n) n ((uo cl).flatMap encI) ∧ Aside (Below w.heap.size w wq) ∧ Aside (rightB cl = true ∧ ms cl = S0 ∧ cl.length = n))
      case atStart => exact ⟨0, cl0, Nat.zero_le _, by omega, rfl, own8w, own10, B3, HR.out, HM.out, HL.out⟩
      case round => as_aux_lemma =>
        obtain ⟨kk, cl, hkk2, hg2, rfl, ownC, ownU, BW2, PF⟩ := hrel
        clear own8w own10
        by_cases hlt : kk < ev.length
        · have hltz : (kk : Int) < (ev.length : Int) := by omega
          by_cases h150 : kk < 150
          · have h150z : (kk : Int) < 150 := by omega
            obtain ⟨b, off, rfl, hq0⟩ := HT.out.at_ kk hlt
            have q0 := hq0 0 _ rfl
            rw [Nat.add_zero, Nat.mul_one] at q0
            have q1 := (BW2.out.cell (World.block_lt_of_cell? w _ q0)).trans q0
            have hy : 0 ≤ ev[kk]! ∧ ev[kk]! ≤ 65535 := hb16 _ (by rw [getElem!_pos ev kk hlt]; exact List.getElem_mem hlt)
            clear hq0
            generalize ev[kk]! = y at *
            obtain ⟨hy1, hy2⟩ := hy
            have Q0 := Lib.hid q0
            clear q0
            obtain ⟨nn, hnn, _, hnl⟩ := mod_nat y 3 n hy1 (by omega) (by omega) hy2
            obtain ⟨mm, hmm, _, hml⟩ := mod_nat y 100 60 hy1 (by omega) (by omega) hy2
            rw [show ((60 : Nat) : Int) = 60 from rfl] at hmm
            obtain ⟨ee, _, hee, hel⟩ := mod_nat y 24 n hy1 (by omega) (by omega) hy2
            have hlen : cl.length = n := PF.out.2.2
            have hrc := PF.out.1
            go_wp2_with fail
            go_quiet (fail)
            clear hnn hmm
            go_upto_block 4 with (fail)
            change (wr.drewN nq).cell? _ = _ at q1
            have own8q : (wr.drewN nq).ownsRow _ _ _ _ _ _ := ownC
            have ownUq : (wr.drewN nq).ownsRow _ _ _ _ _ _ := ownU
            have BWq : Aside (Below w.heap.size w (wr.drewN nq)) := bdrewN BW2.out _
            clear ownC ownU BW2
            generalize wr.drewN nq = wx at *
            obtain ⟨A8, c8, e8, _, sl8⟩ := Sl.own Cls.enc_len (hlen ▸ own8q)
            rw [hlen] at e8
            subst e8
            go_cut [14, 15] (fun v14 v15 wc => ∃ (r : List Cls) (er : Int), v15 = .int .i64 er ∧ wc.ownsRow w.heap.size 42 2 v14 n (r.flatMap Cls.enc) ∧ wc.ownsRow w.heap.size 42 2 (.slice A8 n c8) n (cl.flatMap Cls.enc) ∧ wc.ownsRow w.heap.size 3 1 (.slice (some ⟨G, 0, none⟩) n n) n ((uo r).flatMap encI) ∧ Aside (Below w.heap.size w wc) ∧ Aside (Keeps cl (r, er)))
            case first => as_aux_lemma =>
              have hu0 := used_cell ownUq nn (by rw [uo_len, hlen]; exact hnl)
              have hfr := own_frozen ownUq nn
              have hcu : (uo cl)[nn]! = cl[nn]!.used := uo_at cl nn (by rw [hlen]; exact hnl)
              rw [hcu] at hu0
              clear hcu
              obtain ⟨g1, g2, g3, g4⟩ := rightB_at hrc nn (by rw [hlen]; exact hnl)
              have hgb := (own_block ownUq).1
              by_cases hk0 : y % 3 = 0
              · have hk0b : (y % 3 == 0) = true := by rw [beq_iff_eq]; exact hk0
                have cT := Take_any A8 c8 cl nn mm wx sl8 (by rw [hlen]; omega)
                obtain ⟨KP, KU⟩ := take_keeps hrc nn mm
                rw [hlen] at cT
                generalize takeL cl nn mm = r at *
                obtain ⟨r, er⟩ := r
                have KPa : Aside (Keeps cl (r, er)) := KP
                have hrl : r.length = n := KP.len.trans hlen
                by_cases her : er = 0
                · have herb : (er == 0) = true := by rw [beq_iff_eq]; exact her
                  obtain ⟨j, hj, _, hu⟩ := KU her
                  obtain rfl : nn = j := by omega
                  have HUU := Lib.hid hu
                  have HK := Lib.hid hk0
                  have HE := Lib.hid her
                  have HR2 := Lib.hid hrl
                  have HLn := Lib.hid hlen
                  clear KU hj hu her hrl hk0 KP hlen hrc
                  generalize cl[nn]!.used = cu at *
                  go_wp2_with (go_at_call 7; refine cT.mono ?_; rintro e w5 ⟨v5, rfl, own5, b5'⟩; have hu1 := (b5'.cell (World.block_lt_of_cell? wx _ hu0)).trans hu0; have hfr1 := own_frozen (own_below ownUq b5') nn)
                  go_meet
                  case rel => as_aux_lemma =>
                    have BW5 := BWq.out.trans (b5'.mono BWq.out.size)
                    have o5 : w5.ownsRow w.heap.size 42 2 v5 n (r.flatMap Cls.enc) := by rw [← HR2.out]; exact own_weaken8 own5 BWq.out.size
                    have oc := own_below own8q b5'
                    have ou := own_below ownUq b5'
                    refine ⟨r, er, rfl, ownsRow_setCell_other o5 (own_ne o5 ou (by decide)) _, ownsRow_setCell_other oc (own_ne oc ou (by decide)) _, ?_, BW5.setCell hgb _, KPa⟩
                    have := used_set ou nn (by rw [uo_len, HLn.out]; exact hnl) (cu + mm)
                    rw [HUU.out]; exact this
                · have herb : (er == 0) = false := by rw [beq_eq_false_iff_ne]; exact her
                  have hrr := Lib.hid (KP.err her)
                  have HK := Lib.hid hk0
                  have HE := Lib.hid her
                  have HR2 := Lib.hid hrl
                  have HLn := Lib.hid hlen
                  clear KU her hrl hk0 KP hlen hrc
                  go_wp2_with (go_at_call 7; refine cT.mono ?_; rintro e w5 ⟨v5, rfl, own5, b5'⟩)
                  go_meet
                  case rel => as_aux_lemma =>
                    have BW5 := BWq.out.trans (b5'.mono BWq.out.size)
                    have o5 : w5.ownsRow w.heap.size 42 2 v5 n (r.flatMap Cls.enc) := by rw [← HR2.out]; exact own_weaken8 own5 BWq.out.size
                    refine ⟨r, er, rfl, o5, own_below own8q b5', ?_, BW5, KPa⟩
                    rw [show r = cl from hrr.out]; exact own_below ownUq b5'
              · have hk0b : (y % 3 == 0) = false := by rw [beq_eq_false_iff_ne]; exact hk0
                by_cases hk1 : y % 3 = 1
                · have hk1b : (y % 3 == 1) = true := by rw [beq_iff_eq]; exact hk1
                  have HK1 := Lib.hid hk1
                  clear hk1
                  have cT := Give_any A8 c8 cl nn mm wx sl8 (by rw [hlen]; omega)
                  obtain ⟨KP, KU⟩ := give_keeps hrc nn mm
                  rw [hlen] at cT
                  generalize giveL cl nn mm = r at *
                  obtain ⟨r, er⟩ := r
                  have KPa : Aside (Keeps cl (r, er)) := KP
                  have hrl : r.length = n := KP.len.trans hlen
                  by_cases her : er = 0
                  · have herb : (er == 0) = true := by rw [beq_iff_eq]; exact her
                    obtain ⟨j, hj, _, hu⟩ := KU her
                    obtain rfl : nn = j := by omega
                    have HUU := Lib.hid hu
                    have HK := Lib.hid hk0
                    have HE := Lib.hid her
                    have HR2 := Lib.hid hrl
                    have HLn := Lib.hid hlen
                    clear KU hj hu her hrl hk0 KP hlen hrc
                    generalize cl[nn]!.used = cu at *
                    go_wp2_with (go_at_call 10; refine cT.mono ?_; rintro e w5 ⟨v5, rfl, own5, b5'⟩; have hu1 := (b5'.cell (World.block_lt_of_cell? wx _ hu0)).trans hu0; have hfr1 := own_frozen (own_below ownUq b5') nn)
                    go_meet
                    case rel => as_aux_lemma =>
                      have BW5 := BWq.out.trans (b5'.mono BWq.out.size)
                      have o5 : w5.ownsRow w.heap.size 42 2 v5 n (r.flatMap Cls.enc) := by rw [← HR2.out]; exact own_weaken8 own5 BWq.out.size
                      have oc := own_below own8q b5'
                      have ou := own_below ownUq b5'
                      refine ⟨r, er, rfl, ownsRow_setCell_other o5 (own_ne o5 ou (by decide)) _, ownsRow_setCell_other oc (own_ne oc ou (by decide)) _, ?_, BW5.setCell hgb _, KPa⟩
                      have := used_set ou nn (by rw [uo_len, HLn.out]; exact hnl) (cu - mm)
                      rw [HUU.out]; exact this
                  · have herb : (er == 0) = false := by rw [beq_eq_false_iff_ne]; exact her
                    have hrr := Lib.hid (KP.err her)
                    have HK := Lib.hid hk0
                    have HE := Lib.hid her
                    have HR2 := Lib.hid hrl
                    have HLn := Lib.hid hlen
                    clear KU her hrl hk0 KP hlen hrc
                    go_wp2_with (go_at_call 10; refine cT.mono ?_; rintro e w5 ⟨v5, rfl, own5, b5'⟩)
                    go_meet
                    case rel => as_aux_lemma =>
                      have BW5 := BWq.out.trans (b5'.mono BWq.out.size)
                      have o5 : w5.ownsRow w.heap.size 42 2 v5 n (r.flatMap Cls.enc) := by rw [← HR2.out]; exact own_weaken8 own5 BWq.out.size
                      refine ⟨r, er, rfl, o5, own_below own8q b5', ?_, BW5, KPa⟩
                      rw [show r = cl from hrr.out]; exact own_below ownUq b5'
                · have hk1b : (y % 3 == 1) = false := by rw [beq_eq_false_iff_ne]; exact hk1
                  have cT := Move_any A8 c8 cl nn ee mm wx sl8 (by rw [hlen]; omega)
                  obtain ⟨KP, KU⟩ := move_keeps hrc nn ee mm
                  rw [hlen] at cT
                  generalize moveL cl nn ee mm = r at *
                  obtain ⟨r, er⟩ := r
                  have KPa : Aside (Keeps cl (r, er)) := KP
                  have hrl : r.length = n := KP.len.trans hlen
                  have HUU := Lib.hid KU
                  have HK := Lib.hid hk0
                  have HK1 := Lib.hid hk1
                  have HR2 := Lib.hid hrl
                  have HLn := Lib.hid hlen
                  clear KU hrl hk0 hk1 KP hlen hrc
                  go_wp2_with (go_at_call 12; refine cT.mono ?_; rintro e w5 ⟨v5, rfl, own5, b5'⟩)
                  go_meet
                  case rel => as_aux_lemma =>
                    have BW5 := BWq.out.trans (b5'.mono BWq.out.size)
                    have o5 : w5.ownsRow w.heap.size 42 2 v5 n (r.flatMap Cls.enc) := by rw [← HR2.out]; exact own_weaken8 own5 BWq.out.size
                    refine ⟨r, er, rfl, o5, own_below own8q b5', ?_, BW5, KPa⟩
                    rw [show uo r = uo cl from HUU.out]; exact own_below ownUq b5'
            case rest => as_aux_lemma =>
              clear hnl hml hel q1 ownUq own8q BWq sl8
              obtain ⟨r, er, rfl, ownD, ownC, ownU, BWc, KPa⟩ := hcut
              have KP := KPa.out
              have hrl : r.length = n := KP.len.trans hlen
              have hrr : rightB r = true := KP.right
              have hrs : ms r = S0 := KP.sum.trans PF.out.2.1
              obtain ⟨A14, c14, e14, _, sl14⟩ := Sl.own Cls.enc_len (hrl ▸ ownD)
              obtain ⟨A8', c8', e8', _, sl8⟩ := Sl.own Cls.enc_len (hlen ▸ ownC)
              rw [hrl] at e14
              subst e14
              rw [hlen] at e8'
              obtain ⟨rfl, rfl⟩ : A8 = A8' ∧ c8 = c8' := by simpa using e8'
              have cSame := Same_n A14 A8 c14 c8 n r cl wc sl14 sl8 hrl hlen
              clear e8'
              by_cases her : er = 0
              · have herb : (er != 0) = false := by rw [bne_eq_false_iff_eq]; exact her
                have HE := Lib.hid her
                clear her cSame
                go_wp2_with fail
                have hownU := Lib.hid ownU
                have hsl := Lib.hid sl14
                have HRR := Lib.hid hrr
                have HRL := Lib.hid hrl
                have HRS := Lib.hid hrs
                have BB : Hid (Below w.heap.size w wc) := Lib.hid BWc
                have hul : (uo r).length = n := by rw [uo_len]; exact hrl
                have HUL := Lib.hid hul
                clear hul hrr hrl hrs
                go_loopg [16, 17] n (fun gg s16 s17 wz => ∃ k2 : Nat, k2 ≤ n ∧ n - k2 ≤ gg ∧ s17 = .int .i64 k2 ∧ s16 = .int .i64 ((r.map (·.most)).take k2).sum ∧ Aside (Below wc.heap.size wc wz))
                case atStart => exact ⟨0, Nat.zero_le _, by omega, rfl, rfl, Below.refl _ _⟩
                case round => as_aux_lemma =>
                  obtain ⟨k2, hk2, hg3, rfl, rfl, BZ⟩ := hrel
                  by_cases hlt2 : k2 < n
                  · have hlt2z : (k2 : Int) < (n : Int) := by omega
                    have hltr : k2 < r.length := by rw [HRL.out]; exact hlt2
                    obtain ⟨bd, od, rfl, hd0⟩ := hsl.out.at_ k2 hltr
                    have d1 := hd0 0 _ rfl
                    have d2 := hd0 1 _ rfl
                    rw [Nat.add_zero] at d1
                    have d3 := used_cell hownU.out k2 (by rw [HUL.out]; exact hlt2)
                    rw [uo_at r k2 hltr] at d3
                    obtain ⟨g1, g2, g3, g4⟩ := rightB_at HRR.out k2 hltr
                    have hroom := fun w1 (hb : Below wc.heap.size wc w1) => Room_any (some ⟨bd, od, none⟩) c14 r k2 w1 (hsl.out.below hb)
                    have hri : roomI r k2 = r[k2]!.most - r[k2]!.used := by
                      have hh : hasB r k2 = true := hasB_iff.2 ⟨HRR.out, by omega, by omega⟩
                      simp [roomI, hh]
                    rw [hri, HRL.out] at hroom
                    have hsm : Hid (((r.map (·.most)).take (k2 + 1)).sum = ((r.map (·.most)).take k2).sum + r[k2]!.most) := by
                      have h1 : k2 < (r.map (·.most)).length := by simpa using hltr
                      show _ = _
                      rw [List.take_succ_eq_append_getElem h1, sum_snoc, getElem!_pos r k2 hltr]; simp
                    have hsb2 := msum_bd r HRR.out k2
                    have hk8 : k2 ≤ 8 := by omega
                    clear hd0 hri
                    generalize ((r.map (·.most)).take k2).sum = sm at *
                    generalize hmost : r[k2]!.most = mo at *
                    generalize hused : r[k2]!.used = us at *
                    clear hmost hused
                    have e1 := (BZ.out.cell (World.block_lt_of_cell? _ _ d1)).trans d1
                    have e2 := (BZ.out.cell (World.block_lt_of_cell? _ _ d2)).trans d2
                    have e3 := (BZ.out.cell (World.block_lt_of_cell? _ _ d3)).trans d3
                    obtain ⟨f1, f2⟩ := hsb2
                    have f3 : sm ≤ 8000 := by omega
                    clear f2 d1 d2 d3
                    have hne1 : (us != us) = false := by simp
                    have hw1 : IntKind.i64.wrap (mo - us) = mo - us := IntWalk.i64_in _ (by omega)
                    have hd5 : decide (us < 0) = false := by simp; omega
                    have hd6 : decide (mo < us) = false := by simp; omega
                    have hne2 : ((mo - us) != (mo - us)) = false := by simp
                    go_wp2_with fail
                    go_region_held3 (fun w' => w'.cell? ⟨bd, od + k2 * 2, none⟩ = some (.int .i64 mo) ∧ w'.cell? ⟨bd, od + k2 * 2 + 1, none⟩ = some (.int .i64 us) ∧ w'.cell? ⟨G, k2, none⟩ = some (.int .i64 us) ∧ Aside (Below wc.heap.size wc w'))
                      (first
                        | exact ⟨e1, e2, e3, BZ.out.drew⟩
                        | (go_split_ands; exact ⟨(hb6.cell (World.block_lt_of_cell? _ _ (by assumption))).trans (by assumption), (hb6.cell (World.block_lt_of_cell? _ _ (by assumption))).trans (by assumption), (hb6.cell (World.block_lt_of_cell? _ _ (by assumption))).trans (by assumption), Below.trans (by assumption) (hb6.mono (Below.size (by assumption)))⟩))
                      (first
                        | (go_at_call 18; refine (hroom _ (by go_split_ands; assumption)).mono ?_; rintro e w6 ⟨rfl, hb6⟩))
                    have BZ6 : Aside (Below wc.heap.size wc w6) := by go_split_ands; assumption
                    clear hroom hw1 e1 e2 e3
                    go_wp2
                    go_roundg (n - (k2 + 1))
                    case measure => omega
                    case rel => exact ⟨k2 + 1, by omega, by omega, by go_num, by rw [hsm.out], BZ6⟩
                  · have hlt2z : ¬ (k2 : Int) < (n : Int) := by omega
                    have : k2 = n := by omega
                    subst this
                    have hfin : ((r.map (·.most)).take k2).sum = S0 := by
                      rw [List.take_of_length_le (by simp [HRL.out]), ← HRS.out]; rfl
                    rw [hfin]
                    clear hfin
                    have hne3 : (S0 != S0) = false := by simp
                    go_wp2
                    go_roundg (ev.length - (kk + 1))
                    case measure => omega
                    case rel => exact ⟨kk + 1, r, by omega, by omega, by go_num, own_below ownD BZ.out, own_below hownU.out BZ.out, (show Aside _ from BB.out.trans (BZ.out.mono BB.out.size)), (show Aside _ from ⟨HRR.out, HRS.out, HRL.out⟩)⟩
              · have herb : (er != 0) = true := by rw [bne_iff_ne]; exact her
                rw [show decide (r = cl) = true by rw [decide_eq_true_iff]; exact KP.err her] at cSame
                have HE := Lib.hid her
                clear her
                go_wp2_with fail
                refine cSame.mono ?_
                rintro e wy ⟨rfl, by'⟩
                have ownD' := own_below ownD by'
                have ownU' := own_below ownU by'
                have sl14' := sl14.below by'
                have BWc' : Below w.heap.size w wy := BWc.out.trans (by'.mono BWc.out.size)
                clear cSame by'
                go_wp2_with fail
                have hownU := Lib.hid ownU'
                have hsl := Lib.hid sl14'
                have HRR := Lib.hid hrr
                have HRL := Lib.hid hrl
                have HRS := Lib.hid hrs
                have BB : Hid (Below w.heap.size w wy) := Lib.hid BWc'
                have hul : (uo r).length = n := by rw [uo_len]; exact hrl
                have HUL := Lib.hid hul
                clear hul hrr hrl hrs
                go_loopg [16, 17] n (fun gg s16 s17 wz => ∃ k2 : Nat, k2 ≤ n ∧ n - k2 ≤ gg ∧ s17 = .int .i64 k2 ∧ s16 = .int .i64 ((r.map (·.most)).take k2).sum ∧ Aside (Below wy.heap.size wy wz))
                case atStart => exact ⟨0, Nat.zero_le _, by omega, rfl, rfl, Below.refl _ _⟩
                case round => as_aux_lemma =>
                  obtain ⟨k2, hk2, hg3, rfl, rfl, BZ⟩ := hrel
                  by_cases hlt2 : k2 < n
                  · have hlt2z : (k2 : Int) < (n : Int) := by omega
                    have hltr : k2 < r.length := by rw [HRL.out]; exact hlt2
                    obtain ⟨bd, od, rfl, hd0⟩ := hsl.out.at_ k2 hltr
                    have d1 := hd0 0 _ rfl
                    have d2 := hd0 1 _ rfl
                    rw [Nat.add_zero] at d1
                    have d3 := used_cell hownU.out k2 (by rw [HUL.out]; exact hlt2)
                    rw [uo_at r k2 hltr] at d3
                    obtain ⟨g1, g2, g3, g4⟩ := rightB_at HRR.out k2 hltr
                    have hroom := fun w1 (hb : Below wy.heap.size wy w1) => Room_any (some ⟨bd, od, none⟩) c14 r k2 w1 (hsl.out.below hb)
                    have hri : roomI r k2 = r[k2]!.most - r[k2]!.used := by
                      have hh : hasB r k2 = true := hasB_iff.2 ⟨HRR.out, by omega, by omega⟩
                      simp [roomI, hh]
                    rw [hri, HRL.out] at hroom
                    have hsm : Hid (((r.map (·.most)).take (k2 + 1)).sum = ((r.map (·.most)).take k2).sum + r[k2]!.most) := by
                      have h1 : k2 < (r.map (·.most)).length := by simpa using hltr
                      show _ = _
                      rw [List.take_succ_eq_append_getElem h1, sum_snoc, getElem!_pos r k2 hltr]; simp
                    have hsb2 := msum_bd r HRR.out k2
                    have hk8 : k2 ≤ 8 := by omega
                    clear hd0 hri
                    generalize ((r.map (·.most)).take k2).sum = sm at *
                    generalize hmost : r[k2]!.most = mo at *
                    generalize hused : r[k2]!.used = us at *
                    clear hmost hused
                    have e1 := (BZ.out.cell (World.block_lt_of_cell? _ _ d1)).trans d1
                    have e2 := (BZ.out.cell (World.block_lt_of_cell? _ _ d2)).trans d2
                    have e3 := (BZ.out.cell (World.block_lt_of_cell? _ _ d3)).trans d3
                    obtain ⟨f1, f2⟩ := hsb2
                    have f3 : sm ≤ 8000 := by omega
                    clear f2 d1 d2 d3
                    have hne1 : (us != us) = false := by simp
                    have hw1 : IntKind.i64.wrap (mo - us) = mo - us := IntWalk.i64_in _ (by omega)
                    have hd5 : decide (us < 0) = false := by simp; omega
                    have hd6 : decide (mo < us) = false := by simp; omega
                    have hne2 : ((mo - us) != (mo - us)) = false := by simp
                    go_wp2_with fail
                    go_region_held3 (fun w' => w'.cell? ⟨bd, od + k2 * 2, none⟩ = some (.int .i64 mo) ∧ w'.cell? ⟨bd, od + k2 * 2 + 1, none⟩ = some (.int .i64 us) ∧ w'.cell? ⟨G, k2, none⟩ = some (.int .i64 us) ∧ Aside (Below wy.heap.size wy w'))
                      (first
                        | exact ⟨e1, e2, e3, BZ.out.drew⟩
                        | (go_split_ands; exact ⟨(hb6.cell (World.block_lt_of_cell? _ _ (by assumption))).trans (by assumption), (hb6.cell (World.block_lt_of_cell? _ _ (by assumption))).trans (by assumption), (hb6.cell (World.block_lt_of_cell? _ _ (by assumption))).trans (by assumption), Below.trans (by assumption) (hb6.mono (Below.size (by assumption)))⟩))
                      (first
                        | (go_at_call 18; refine (hroom _ (by go_split_ands; assumption)).mono ?_; rintro e w6 ⟨rfl, hb6⟩))
                    have BZ6 : Aside (Below wy.heap.size wy w6) := by go_split_ands; assumption
                    clear hroom hw1 e1 e2 e3
                    go_wp2
                    go_roundg (n - (k2 + 1))
                    case measure => omega
                    case rel => exact ⟨k2 + 1, by omega, by omega, by go_num, by rw [hsm.out], BZ6⟩
                  · have hlt2z : ¬ (k2 : Int) < (n : Int) := by omega
                    have : k2 = n := by omega
                    subst this
                    have hfin : ((r.map (·.most)).take k2).sum = S0 := by
                      rw [List.take_of_length_le (by simp [HRL.out]), ← HRS.out]; rfl
                    rw [hfin]
                    clear hfin
                    have hne3 : (S0 != S0) = false := by simp
                    go_wp2
                    go_roundg (ev.length - (kk + 1))
                    case measure => omega
                    case rel => exact ⟨kk + 1, r, by omega, by omega, by go_num, own_below ownD' BZ.out, own_below hownU.out BZ.out, (show Aside _ from BB.out.trans (BZ.out.mono BB.out.size)), (show Aside _ from ⟨HRR.out, HRS.out, HRL.out⟩)⟩
          · have h150z : ¬ (kk : Int) < 150 := by omega
            go_wp2
            go_ret
            exact ⟨rfl, BW2.out⟩
        · have hltz : ¬ (kk : Int) < (ev.length : Int) := by omega
          go_wp2
          go_ret
          exact ⟨rfl, BW2.out⟩
end Go.Proofs.Ytcjlpgpmoleidaa
