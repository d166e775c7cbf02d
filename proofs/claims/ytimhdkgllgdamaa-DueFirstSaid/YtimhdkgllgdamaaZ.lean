/- The walk of DueFirst. -/
import Derived.Test.YtimhdkgllgdamaaV
import Derived.Test.YtimhdkgllgdamaaY
namespace Go.Proofs.Ytimhdkgllgdamaa
open Go.RowKit Go.Lib D
set_option linter.unusedVariables false

/-- An array of whole numbers of the call's own. -/
structure Arr (w : World) (X : Nat) (a : List Int) : Prop where
  blk : w.heap[X]? = some (.cells (a.map (fun x => Value.int .i64 x)).toArray 25 (0, 0))
  len : a.length = 64
theorem Arr.lt {w : World} {X : Nat} {a : List Int} (h : Arr w X a) : X < w.heap.size := by
  have := h.blk
  rcases Nat.lt_or_ge X w.heap.size with hl | hl
  · exact hl
  · rw [Array.getElem?_eq_none hl] at this; cases this
theorem Arr.cell {w : World} {X : Nat} {a : List Int} (h : Arr w X a) {k : Nat} (hk : k < 64) : w.cell? ⟨X, k, none⟩ = some (.int .i64 a[k]!) := by
  rw [cell_of_row _ X k _ 25 (0, 0) h.blk]
  have hl := h.len
  rw [List.getElem?_toArray, List.getElem?_map, List.getElem?_eq_getElem (by omega), getElem!_pos a k (by omega)]
  rfl
theorem Arr.frozen {w : World} {X : Nat} {a : List Int} (h : Arr w X a) (k : Nat) : w.frozen? ⟨X, k, none⟩ = false := by simp [World.frozen?, h.blk]
theorem Arr.set {w : World} {X : Nat} {a : List Int} (h : Arr w X a) (k : Nat) (t : Int) : Arr (w.setCell ⟨X, k, none⟩ (.int .i64 t)) X (a.set k t) := by
  refine ⟨?_, by rw [List.length_set]; exact h.len⟩
  simp [World.setCell, Array.getElem?_modify, h.blk, List.map_set]
theorem Arr.below {w w' : World} {X : Nat} {a : List Int} (h : Arr w X a) (hb : Below w.heap.size w w') : Arr w' X a := ⟨(hb.block X h.lt).trans h.blk, h.len⟩
theorem at_of {a : List Int} {F R : List Du} {j : Nat} (hp : (items a).Perm (F ++ R)) (hj : j < F.length) : ∃ k : Nat, k < 64 ∧ F[j]!.which = (k : Int) ∧ a[k]! = F[j]!.when_ ∧ 0 ≤ a[k]! := by
  have hm : F[j]! ∈ items a := hp.mem_iff.2 (List.mem_append_left _ (getMem hj))
  obtain ⟨k, hk, h0, e⟩ := mem_upto.1 hm
  exact ⟨k, hk, by rw [e], by rw [e], h0⟩
theorem mapAt (F : List Du) {j : Nat} (hj : j < F.length) : (F.map Du.which)[j]! = F[j]!.which := by
  rw [getElem!_pos (F.map Du.which) j (by simpa using hj), List.getElem_map, getElem!_pos F j hj]
theorem due_facts {M : List Du} {nw : Int} {a : List Int} (h : rightD M = true) (hp : (items a).Perm M) : ∃ F R : List Du, comeD M nw = (R, F.map Du.which, 0) ∧ (items a).Perm (F ++ R) ∧ F.Pairwise LeD ∧ (∀ x ∈ F, x.when_ ≤ nw) ∧ (∀ x ∈ R, nw < x.when_) ∧ rightD R = true ∧ F.length ≤ 64 ∧ R.length ≤ 64 := by
  have hl := right_len h
  refine ⟨dueF M nw, leftF M nw, come_eq h, hp.trans (split_perm M nw), (right_sorted h).sublist List.filter_sublist, fun x hx => ?_, fun x hx => ?_, left_right h, Nat.le_trans (List.length_filter_le _ _) hl, Nat.le_trans (List.length_filter_le _ _) hl⟩
  · simpa using (List.mem_filter.1 hx).2
  · simpa using (List.mem_filter.1 hx).2
def encU (x : Int) : List Value := [.int .u8 x]
theorem Sl.offset {α : Type} [Inhabited α] {k : Nat} {enc : α → List Value} {w : World} {A : Option Addr} {xs : List α} {X : Nat} (h : Sl k enc w A xs) (hf : ∀ a, A = some a → X < a.block) (j : Nat) (u : Value) : Sl k enc (w.setCell ⟨X, j, none⟩ u) A xs :=
  h.setFar (q := ⟨X, j, none⟩) (fun _ a e => by have := hf a e; show a.block ≠ X; omega) u

set_option maxHeartbeats 64000000 in
set_option maxRecDepth 100000 in
theorem dueFirst_row (A : Option Addr) (c : Nat) (ps : List Int) (B : Option Addr) (d : Nat) (qs : List Int) (w : World) (hs : Sl 1 (fun x : Int => [Value.int .u8 x]) w A ps) (hg : ∀ q ∈ ps, 0 ≤ q ∧ q ≤ 255) (ht : Sl 1 (fun x : Int => [Value.int .u8 x]) w B qs) (hg2 : ∀ q ∈ qs, 0 ≤ q ∧ q ≤ 255) :
    Calls Try.prog 3 #[.slice A ps.length c, .slice B qs.length d] w fun e w' => e = .returned (.bool true) ∧ Below w.heap.size w w' := by
  have hbig := hs.big
  have hbig2 := ht.big
  obtain ⟨n, hn⟩ : ∃ n, ps.length = n := ⟨_, rfl⟩
  obtain ⟨m0, hm0⟩ : ∃ m, qs.length = m := ⟨_, rfl⟩
  rw [hn, hm0]
  rw [hn] at hbig
  rw [hm0] at hbig2
  have HN := Lib.hid hn
  have HM := Lib.hid hm0
  have HS := Lib.hid hs
  have HT := Lib.hid ht
  have HG := Lib.hid hg
  have HG2 := Lib.hid hg2
  have cW := fun w1 => awake_any w1
  clear hn hm0 hs ht hg hg2
  go_enter Try.func3, Try.ntmps3
  go_wp2_with fail
  refine (cW _).mono ?_
  rintro e w1 ⟨rfl, b0⟩
  clear cW
  have ar0 : Arr (w1.alloc (.cells ((List.replicate 64 (0 : Int)).map (fun x => Value.int .i64 x)).toArray 25)) w1.heap.size (List.replicate 64 0) := ⟨heap_alloc_new w1 _, by simp⟩
  have b1 := b0.alloc b0.size (.cells ((List.replicate 64 (0 : Int)).map (fun x => Value.int .i64 x)).toArray 25)
  have hAX : w.heap.size ≤ w1.heap.size := b0.size
  go_wp2_with fail
  generalize w1.heap.size = AX at *
  go_loopg [7] 64 (fun gg s7 wr => ∃ (kk : Nat) (a : List Int), kk ≤ 64 ∧ 64 - kk ≤ gg ∧ s7 = .int .i64 (kk : Int) ∧ Aside (Arr wr AX a) ∧ Aside (∀ j, j < kk → a[j]! = -1) ∧ Aside (Below w.heap.size w wr))
  case atStart => exact ⟨0, List.replicate 64 0, by omega, by omega, rfl, ar0, (show Aside _ from fun j hj => absurd hj (Nat.not_lt_zero _)), b1⟩
  case round =>
    clear ar0 b1 b0
    obtain ⟨kk, a, hkk, hg, rfl, HA, HJ, HB⟩ := hrel
    by_cases hlt : kk < 64
    · have hltz : (kk : Int) < 64 := by omega
      have hc := HA.out.cell hlt
      have hf := HA.out.frozen kk
      have ha2 := HA.out.set kk (-1)
      have b2 := HB.out.setCell (p := ⟨AX, kk, none⟩) hAX (.int .i64 (-1))
      have hj2 : ∀ j, j < kk + 1 → (a.set kk (-1))[j]! = -1 := fun j hj => by
        rw [getSetI a kk (-1) j (by rw [HA.out.len]; omega)]
        by_cases e : kk = j
        · rw [if_pos e]
        · rw [if_neg e]; exact HJ.out j (by omega)
      have HA2 := Lib.hid ha2
      have HB2 := Lib.hid b2
      have HJ2 := Lib.hid hj2
      clear ha2 b2 hj2
      go_wp2_with fail
      go_roundg (64 - (kk + 1))
      case measure => omega
      case rel => exact ⟨kk + 1, _, by omega, by omega, by go_num, (show Aside _ from HA2.out), (show Aside _ from HJ2.out), (show Aside _ from HB2.out)⟩
    · obtain rfl : kk = 64 := by omega
      have hltz : ¬ ((64 : Nat) : Int) < 64 := by omega
      have hrep : a = List.replicate 64 (-1) := by
        refine List.ext_getElem (by rw [HA.out.len]; simp) fun j h1 h2 => ?_
        have := HJ.out j (by rw [HA.out.len] at h1; exact h1)
        rw [getElem!_pos a j h1] at this
        rw [this, List.getElem_replicate]
      have hinv : Inv [] a 0 := by rw [hrep]; exact inv_start
      have HI := Lib.hid hinv
      clear hrep hinv
      go_wp2_with fail
      go_loopg [5, 8, 9, 10, 11, 12, 13, 14, 15, 16, 17, 18, 19] 60 (fun gg s5 s8 s9 s10 s11 s12 s13 s14 s15 s16 s17 s18 s19 wr => ∃ (i m qc : Nat) (now : Int) (Q : Option Addr) (l : List Du) (a : List Int), i ≤ 60 ∧ 60 - i ≤ gg ∧ m ≤ 64 ∧ 0 ≤ now ∧ now ≤ 85 * (i : Int) ∧
        s5 = .slice Q m qc ∧ s8 = .int .i64 now ∧ s9 = .int .i64 (i : Int) ∧ Aside (Sl 2 Du.enc wr Q l) ∧ Aside (l.length = m) ∧ Aside (Inv l a now) ∧ Aside (Arr wr AX a) ∧ Aside (Below w.heap.size w wr) ∧ Aside (∀ ad, Q = some ad → AX < ad.block))
      case atStart => exact ⟨0, 0, 0, 0, none, [], a, by omega, by omega, by omega, by omega, by omega, rfl, rfl, rfl, Sl.nil _ _ _ _, rfl, HI.out, HA, HB, (show Aside _ from fun ad h => by cases h)⟩
      case round =>
        clear HA HB HI HJ hg
        obtain ⟨i, m, qc, now, Q, l, a, hi, hg, hm64, hn0, hn85, rfl, rfl, rfl, HQ, HL, HI, HA, HB, HX⟩ := hrel
        by_cases hin : i < n
        · have hinz : (i : Int) < (n : Int) := by omega
          by_cases him : i < m0
          · have himz : (i : Int) < (m0 : Int) := by omega
            by_cases hi60 : i < 60
            · have hi60z : (i : Int) < 60 := by omega
              obtain ⟨bp, op, e1, hp0⟩ := (HS.out.below HB.out).at_ i (by rw [HN.out]; exact hin)
              obtain ⟨bq, oq, e2, hq0⟩ := (HT.out.below HB.out).at_ i (by rw [HM.out]; exact him)
              subst e1
              subst e2
              have p0 : wr.cell? ⟨bp, op + i, none⟩ = some (.int .u8 ps[i]!) := by have := hp0 0 _ rfl; rwa [Nat.mul_one, Nat.add_zero] at this
              have q0 : wr.cell? ⟨bq, oq + i, none⟩ = some (.int .u8 qs[i]!) := by have := hq0 0 _ rfl; rwa [Nat.mul_one, Nat.add_zero] at this
              obtain ⟨hpa, hpb⟩ := HG.out ps[i]! (by rw [getElem!_pos ps i (by rw [HN.out]; exact hin)]; exact List.getElem_mem _)
              obtain ⟨hqa, hqb⟩ := HG2.out qs[i]! (by rw [getElem!_pos qs i (by rw [HM.out]; exact him)]; exact List.getElem_mem _)
              have hpL : bp < w.heap.size := by
                have := (HS.out.at_ i (by rw [HN.out]; exact hin))
                obtain ⟨b', o', e, hh⟩ := this
                obtain ⟨rfl, rfl⟩ : bp = b' ∧ op = o' := by simpa using e
                exact World.block_lt_of_cell? _ _ (hh 0 _ rfl)
              clear hp0 hq0
              generalize ps[i]! = p at *
              generalize qs[i]! = q at *
              obtain ⟨k, hk, hk64⟩ : ∃ k : Nat, q.tmod 64 = (k : Int) ∧ k < 64 := by
                rw [Int.tmod_eq_emod_of_nonneg hqa]
                exact ⟨(q % 64).toNat, by omega, by omega⟩
              have hk64z : (k : Int) < 64 := by omega
              have hk1 : IntKind.u8.wrap (k : Int) = (k : Int) := IntWalk.u8_in _ (by omega)
              have hk2 : IntKind.i64.wrap (k : Int) = (k : Int) := IntWalk.i64_in _ (by omega)
              have hk3 : wrap64 (k : Int) = (k : Int) := by unfold wrap64; omega
              have hp1 : IntKind.i64.wrap p = p := IntWalk.i64_in _ (by omega)
              have hp2 : wrap64 p = p := by unfold wrap64; omega
              obtain ⟨t, ht⟩ : ∃ t, now + p = t := ⟨_, rfl⟩
              have ht1 : IntKind.i64.wrap t = t := IntWalk.i64_in _ (by omega)
              obtain ⟨sv, hsv, hsa, hsb⟩ : ∃ sv, p.tdiv 3 = sv ∧ 0 ≤ sv ∧ sv ≤ 85 := by
                rw [Int.tdiv_eq_ediv_of_nonneg hpa]
                exact ⟨_, rfl, by omega, by omega⟩
              have hs1 : IntKind.i64.wrap sv = sv := IntWalk.i64_in _ (by omega)
              obtain ⟨nw, hnw⟩ : ∃ nw, now + sv = nw := ⟨_, rfl⟩
              have hnw1 : IntKind.i64.wrap nw = nw := IntWalk.i64_in _ (by omega)
              have ht0 : 0 ≤ t := by omega
              have htb : t ≤ 1099511627776 := by omega
              have hnw0 : 0 ≤ nw := by omega
              have hnw85 : nw ≤ 85 * ((i + 1 : Nat) : Int) := by omega
              have hIv := HI.out
              have cA := add_any Q qc m l ⟨t, (k : Int)⟩ wr HQ.out HL.out (by omega)
              obtain ⟨hA1, hA2⟩ := inv_add hIv.right hIv.perm hIv.len hk64 ht0 htb
              have hA3 := (inv_rest hIv.right hIv.perm hIv.len hk64 ht0).1
              rw [hA1] at cA
              clear hA1 hIv HI
              generalize putD (restD l (k : Int)) ⟨t, (k : Int)⟩ = M at *
              obtain ⟨F, R, hC, hPm, hFs, hFl, hRl, hRr, hF64, hR64⟩ := due_facts (nw := nw) hA2 hA3
              have hltX := HA.out.lt
              have hML := right_len hA2
              have HPM := Lib.hid hPm
              have HFS := Lib.hid hFs
              have HFL := Lib.hid hFl
              have HRL := Lib.hid hRl
              have HC := Lib.hid hC
              have HRR := Lib.hid hRr
              clear hA2 hA3 hPm hFs hFl hRl hC hRr
              obtain ⟨fl, hfl⟩ : ∃ fl, F.length = fl := ⟨_, rfl⟩
              obtain ⟨rl, hrl⟩ : ∃ rl, R.length = rl := ⟨_, rfl⟩
              rw [hfl] at hF64
              rw [hrl] at hR64
              have HFN := Lib.hid hfl
              have HRN := Lib.hid hrl
              clear hfl hrl hpb hqb hsb
              go_wp2_with fail
              refine cA.mono ?_
              rintro e w2 ⟨M1, mc, rfl, own2, hb2⟩
              have ar2 := HA.out.below hb2
              have B2 := HB.out.trans (hb2.mono HB.out.size)
              have hfresh : ∀ ad, M1 = some ad → AX < ad.block := fun ad e => by have := own_fresh own2 (Nat.le_refl _) ad e; omega
              have s2 := (Sl.of_own Du.enc_len own2 rfl).offset hfresh k (.int .i64 t)
              have ar3 := ar2.set k t
              have B3 := B2.setCell (p := ⟨AX, k, none⟩) hAX (.int .i64 t)
              have hck := ar2.cell hk64
              have hfk := ar2.frozen k
              have p2 := (hb2.cell (World.block_lt_of_cell? _ _ p0)).trans p0
              have hbne : bp ≠ AX := by omega
              have p3 : (w2.setCell ⟨AX, k, none⟩ (.int .i64 t)).cell? ⟨bp, op + i, none⟩ = some (.int .u8 p) := (World.cell?_setCell_other _ _ _ _ (fun e => hbne (congrArg Addr.block e).symm)).trans p2
              have cC := come_any M1 mc M.length M nw _ s2 rfl (by omega)
              rw [HC.out] at cC
              have HB3 := Lib.hid B3
              have HAR3 := Lib.hid ar3
              clear cA own2 s2 hb2 ar2 ar3 B2 B3 HQ HL HX hfresh p0 q0
              go_wp2_with fail
              generalize w2.setCell ⟨AX, k, none⟩ (.int .i64 t) = w3 at *
              refine cC.mono ?_
              rintro e w4 ⟨R1, rc, O1, oc, rfl, ownR, ownO, hb4⟩
              have ar4 := HAR3.out.below hb4
              have B4 := HB3.out.trans (hb4.mono HB3.out.size)
              have hAX3 : AX < w3.heap.size := HAR3.out.lt
              have hfr : ∀ ad, R1 = some ad → AX < ad.block := fun ad e => by have := own_fresh ownR (Nat.le_refl _) ad e; omega
              have hfo : ∀ ad, O1 = some ad → AX < ad.block := fun ad e => by have := own_fresh ownO (Nat.le_refl _) ad e; omega
              have sR := Sl.of_own Du.enc_len ownR rfl
              have sO := Sl.of_own encI_len ownO rfl
              have hol : (F.map Du.which).length = fl := by rw [List.length_map]; exact HFN.out
              rw [hol]
              have cR := right_any R1 rc R.length R w4 sR rfl (by have := HRN.out; omega)
              rw [HRR.out, HRN.out] at cR
              rw [HRN.out]
              clear cC ownR ownO HB3 HAR3 hb4 p2 p3 hck hfk
              go_wp2_with fail
              refine cR.mono ?_
              rintro e w5 ⟨rfl, hb5⟩
              replace ar4 := ar4.below hb5
              replace B4 := B4.trans (hb5.mono B4.size)
              replace sR := sR.below hb5
              replace sO := sO.below hb5
              have HAR := Lib.hid ar4
              have HBB := Lib.hid B4
              have HSR := Lib.hid sR
              have HSO := Lib.hid sO
              have HFR := Lib.hid hfr
              have HFO := Lib.hid hfo
              clear cR hb5 ar4 B4 sR sO hfr hfo
              go_wp2_with fail
              go_loopg [16] fl (fun gg s16 wq => ∃ j : Nat, j ≤ fl ∧ fl - j ≤ gg ∧ s16 = .int .i64 (j : Int) ∧ Aside (Below w5.heap.size w5 wq))
              case atStart => exact ⟨0, Nat.zero_le _, by omega, rfl, Below.refl _ _⟩
              case round =>
                obtain ⟨j, hj, hgj, rfl, HW⟩ := hrel
                by_cases hjf : j < fl
                · have hjz : (j : Int) < (fl : Int) := by omega
                  have hjF : j < F.length := by rw [HFN.out]; exact hjf
                  obtain ⟨kj, hkj, hkw, hka, hk0⟩ := at_of HPM.out hjF
                  have hwj := HFL.out F[j]! (getMem hjF)
                  obtain ⟨bo, oo, e1, hq0⟩ := (HSO.out.below HW.out).at_ j (by rw [hol]; exact hjf)
                  subst e1
                  have o0 : wr.cell? ⟨bo, oo + j, none⟩ = some (.int .i64 (kj : Int)) := by
                    have := hq0 0 _ rfl
                    rwa [Nat.mul_one, Nat.add_zero, mapAt F hjF, hkw] at this
                  have arw := HAR.out.below HW.out
                  have c0 := arw.cell hkj
                  clear hq0
                  rw [← hka] at hwj
                  have hsort : 0 < j → ∃ ki : Nat, ki < 64 ∧ F[j - 1]!.which = (ki : Int) ∧ (a.set k t)[ki]! ≤ (a.set k t)[kj]! := fun h0 => by
                    obtain ⟨ki, h1, h2, h3, _⟩ := at_of (j := j - 1) HPM.out (by omega)
                    have := LeD.iff.1 (sorted_step' HFS.out hjF h0)
                    exact ⟨ki, h1, h2, by rw [h3, hka]; omega⟩
                  have HSRT := Lib.hid hsort
                  clear hka hkw hsort
                  have HV := Lib.hid (rfl : (a.set k t)[kj]! = (a.set k t)[kj]!)
                  generalize hv : (a.set k t)[kj]! = v at c0 hwj hk0
                  have HVV := Lib.hid hv
                  clear hv HV
                  have y1 : ¬ (kj : Int) < 0 := by omega
                  have y2 : decide ((kj : Int) < 0) = false := decide_eq_false y1
                  have y3 : decide ((63 : Int) < (kj : Int)) = false := decide_eq_false (by omega)
                  have y4 : decide (v < 0) = false := decide_eq_false (by omega)
                  have y5 : decide (nw < v) = false := decide_eq_false (by omega)
                  have y6 : (kj : Int) < 64 := by omega
                  by_cases h0 : 0 < j
                  · obtain ⟨ki, hki, hkiw, hkle⟩ := HSRT.out h0
                    obtain ⟨j1, hj1⟩ : ∃ j1, j - 1 = j1 := ⟨_, rfl⟩
                    rw [hj1] at hkiw
                    have hj1F : j1 < F.length := by omega
                    obtain ⟨bo', oo', e2, hr0⟩ := (HSO.out.below HW.out).at_ j1 (by rw [hol]; omega)
                    obtain ⟨rfl, rfl⟩ : bo = bo' ∧ oo = oo' := by injection e2 with e2; injection e2 with e2 e3; exact ⟨e2, e3⟩
                    have o1 : wr.cell? ⟨bo, oo + j1, none⟩ = some (.int .i64 (ki : Int)) := by
                      have := hr0 0 _ rfl
                      rwa [Nat.mul_one, Nat.add_zero, mapAt F hj1F, hkiw] at this
                    have c1 := arw.cell hki
                    rw [HVV.out] at hkle
                    generalize (a.set k t)[ki]! = v1 at c1 hkle
                    have y7 : decide (v < v1) = false := decide_eq_false (by omega)
                    have y8 : decide ((0 : Int) < (j : Int)) = true := decide_eq_true (by omega)
                    have y9 : decide (0 < j) = true := decide_eq_true h0
                    have z1 : (j : Int) - 1 = (j1 : Int) := by omega
                    have z2 : IntKind.i64.wrap (j1 : Int) = (j1 : Int) := IntWalk.i64_in _ (by omega)
                    have z3 : (j1 : Int) < (fl : Int) := by omega
                    have z4 : (0 : Int) ≤ (j1 : Int) := by omega
                    have z5 : (ki : Int) < 64 := by omega
                    clear hr0 e2 hkiw hkle arw hj1 h0
                    go_wp2_with fail
                    go_quiet (fail)
                    go_wp2_with fail
                    go_roundg (fl - (j + 1))
                    case measure => omega
                    case rel => exact ⟨j + 1, by omega, by omega, by go_num, (show Aside _ from bdrewN HW.out _)⟩
                  · have y8 : decide ((0 : Int) < (j : Int)) = false := decide_eq_false (by omega)
                    have y9 : decide (0 < j) = false := decide_eq_false h0
                    clear arw h0
                    go_wp2_with fail
                    go_quiet (fail)
                    go_wp2_with fail
                    go_roundg (fl - (j + 1))
                    case measure => omega
                    case rel => exact ⟨j + 1, by omega, by omega, by go_num, (show Aside _ from bdrewN HW.out _)⟩
                · obtain rfl : j = fl := by omega
                  have hjz : ¬ (j : Int) < (j : Int) := by omega
                  have HARW := Lib.hid (HAR.out.below HW.out)
                  have HSRW := Lib.hid (HSR.out.below HW.out)
                  have HSOW := Lib.hid (HSO.out.below HW.out)
                  have HBW := Lib.hid (HBB.out.trans (HW.out.mono HBB.out.size))
                  clear hj hgj HAR HSR HSO HBB HW
                  go_wp2_with fail
                  go_loopg [17] j (fun gg s17 wq => ∃ (i2 : Nat) (a2 : List Int), i2 ≤ j ∧ j - i2 ≤ gg ∧ s17 = .int .i64 (i2 : Int) ∧ Aside (Arr wq AX a2) ∧ Aside ((items a2).Perm (F.drop i2 ++ R)) ∧ Aside (Sl 2 Du.enc wq R1 R) ∧ Aside (Sl 1 encI wq O1 (F.map Du.which)) ∧ Aside (Below w.heap.size w wq))
                  case atStart => exact ⟨0, _, Nat.zero_le _, by omega, rfl, HARW.out, HPM.out, HSRW.out, HSOW.out, HBW.out⟩
                  case round =>
                    clear HARW HSRW HSOW HBW HPM
                    obtain ⟨i2, a2, hi2, hg2, rfl, HA2, HP2, HS2, HO2, HB2⟩ := hrel
                    by_cases hif : i2 < j
                    · have hiz2 : (i2 : Int) < (j : Int) := by omega
                      have hiF : i2 < F.length := by rw [HFN.out]; exact hif
                      obtain ⟨kj, hkj, hkw, hka, hk0, hpn⟩ := off_step HA2.out.len HP2.out hiF
                      obtain ⟨bo, oo, e1, hq0⟩ := HO2.out.at_ i2 (by rw [hol]; exact hif)
                      have o0 : wr.cell? ⟨bo, oo + i2, none⟩ = some (.int .i64 (kj : Int)) := by
                        have := hq0 0 _ rfl
                        rwa [Nat.mul_one, Nat.add_zero, mapAt F hiF, hkw] at this
                      have c0 := HA2.out.cell hkj
                      have f0 := HA2.out.frozen kj
                      have HA3 := Lib.hid (HA2.out.set kj (-1))
                      have HS3 := Lib.hid (HS2.out.offset HFR.out kj (.int .i64 (-1)))
                      have HO3 := Lib.hid (HO2.out.offset HFO.out kj (.int .i64 (-1)))
                      have HB3 := Lib.hid (HB2.out.setCell (p := ⟨AX, kj, none⟩) hAX (.int .i64 (-1)))
                      have HP3 := Lib.hid hpn
                      have y6 : (kj : Int) < 64 := by omega
                      clear hq0 hka hkw hk0 hpn
                      subst e1
                      go_wp2_with fail
                      go_roundg (j - (i2 + 1))
                      case measure => omega
                      case rel => exact ⟨i2 + 1, _, by omega, by omega, by go_num, (show Aside _ from HA3.out), (show Aside _ from HP3.out), (show Aside _ from HS3.out), (show Aside _ from HO3.out), (show Aside _ from HB3.out)⟩
                    · obtain rfl : i2 = j := by omega
                      have hiz2 : ¬ (i2 : Int) < (i2 : Int) := by omega
                      have hpe : (items a2).Perm R := by
                        have := HP2.out
                        rwa [List.drop_of_length_le (by rw [HFN.out]; exact Nat.le_refl _), List.nil_append] at this
                      have HPE := Lib.hid hpe
                      clear hpe HP2 hi2 hg2 HO2
                      go_wp2_with fail
                      go_loopg [18, 19] 64 (fun gg s18 s19 wq => ∃ j3 : Nat, j3 ≤ 64 ∧ 64 - j3 ≤ gg ∧ s18 = .int .i64 ((upto a2 j3).length : Int) ∧ s19 = .int .i64 (j3 : Int) ∧ wq = wr)
                      case atStart => exact ⟨0, Nat.zero_le _, by omega, rfl, rfl, rfl⟩
                      case round =>
                        obtain ⟨j3, hj3, hg3, rfl, rfl, rfl⟩ := hrel
                        by_cases hj64 : j3 < 64
                        · have hjz3 : (j3 : Int) < 64 := by omega
                          have c0 := HA2.out.cell hj64
                          have hup := upto_le a2 j3
                          have hus : (upto a2 (j3 + 1)).length = (upto a2 j3).length + (if 0 ≤ a2[j3]! then 1 else 0) := by
                            rw [upto_succ, List.length_append]
                            by_cases h : 0 ≤ a2[j3]!
                            · rw [if_pos h, if_pos h]; rfl
                            · rw [if_neg h, if_neg h]; rfl
                          have hlate : 0 ≤ a2[j3]! → nw < a2[j3]! := fun h => HRL.out ⟨a2[j3]!, (j3 : Int)⟩ (HPE.out.mem_iff.1 (mem_upto.2 ⟨j3, hj64, h, rfl⟩))
                          by_cases hv0 : 0 ≤ a2[j3]!
                          · rw [if_pos hv0] at hus
                            have hl2 := hlate hv0
                            have HUS := Lib.hid hus
                            have y1 : decide (0 ≤ a2[j3]!) = true := decide_eq_true hv0
                            have y2 : decide (a2[j3]! ≤ nw) = false := decide_eq_false (by omega)
                            have y3 : ¬ a2[j3]! ≤ nw := by omega
                            clear hus hlate hl2
                            generalize (upto a2 j3).length = mm at *
                            generalize a2[j3]! = v at *
                            go_wp2_with fail
                            go_roundg (64 - (j3 + 1))
                            case measure => omega
                            case rel => exact ⟨j3 + 1, by omega, by omega, by rw [HUS.out]; go_num, by go_num, rfl⟩
                          · rw [if_neg hv0, Nat.add_zero] at hus
                            have HUS := Lib.hid hus
                            have y1 : decide (0 ≤ a2[j3]!) = false := decide_eq_false hv0
                            clear hus hlate
                            generalize (upto a2 j3).length = mm at *
                            generalize a2[j3]! = v at *
                            go_wp2_with fail
                            go_roundg (64 - (j3 + 1))
                            case measure => omega
                            case rel => exact ⟨j3 + 1, by omega, by omega, by rw [HUS.out, Nat.add_zero], by go_num, rfl⟩
                        · obtain rfl : j3 = 64 := by omega
                          have hjz3 : ¬ ((64 : Nat) : Int) < 64 := by omega
                          have hcount : (upto a2 64).length = rl := by rw [← HRN.out]; exact HPE.out.length_eq
                          rw [hcount]
                          have z1 : ((rl : Int) != (rl : Int)) = false := by simp
                          have HIV := Lib.hid (show Inv R a2 nw from ⟨HRR.out, HPE.out, HA2.out.len, HRL.out⟩)
                          clear hcount
                          go_wp2_with fail
                          go_roundg (60 - (i + 1))
                          case measure => omega
                          case rel => exact ⟨i + 1, rl, rc, nw, R1, R, a2, by omega, by omega, by omega, by omega, by omega, rfl, by go_num, by go_num, (show Aside _ from HS2.out), (show Aside _ from HRN.out), (show Aside _ from HIV.out), (show Aside _ from HA2.out), (show Aside _ from HB2.out), (show Aside _ from HFR.out)⟩
            · have hi60z : ¬ (i : Int) < 60 := by omega
              go_wp2_with fail
              go_ret
              exact ⟨rfl, HB.out⟩
          · have himz : ¬ (i : Int) < (m0 : Int) := by omega
            go_wp2_with fail
            go_ret
            exact ⟨rfl, HB.out⟩
        · have hinz : ¬ (i : Int) < (n : Int) := by omega
          go_wp2_with fail
          go_ret
          exact ⟨rfl, HB.out⟩
end Go.Proofs.Ytimhdkgllgdamaa
