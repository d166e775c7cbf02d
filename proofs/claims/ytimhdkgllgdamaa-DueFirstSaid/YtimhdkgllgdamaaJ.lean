/- Walks of container/heap at the queue: Init, Pop, Push, Remove. -/
import Derived.Test.YtimhdkgllgdamaaI
namespace Go.Proofs.Ytimhdkgllgdamaa
open Go.RowKit Go.Lib D
set_option linter.unusedVariables false

theorem HV.mlen {w : World} {QX base n : Nat} {v : Value} {l : List Du} (h : HV w QX base n v l) : (method 189 52 (.pointer (some ⟨QX, 0, none⟩)) "Len").run Try.prog w = .ok (26, v) w := (queue_meths _ w _ h.q 188).1
theorem HV.mpop {w : World} {QX base n : Nat} {v : Value} {l : List Du} (h : HV w QX base n v l) : (method 189 52 (.pointer (some ⟨QX, 0, none⟩)) "Pop").run Try.prog w = .ok (57, .pointer (some ⟨QX, 0, none⟩)) w := (queue_meths _ w _ h.q 188).2.2.2.1
theorem HV.mpush {w : World} {QX base n : Nat} {v : Value} {l : List Du} (h : HV w QX base n v l) : (method 189 52 (.pointer (some ⟨QX, 0, none⟩)) "Push").run Try.prog w = .ok (58, .pointer (some ⟨QX, 0, none⟩)) w := (queue_meths _ w _ h.q 188).2.2.2.2

set_option maxHeartbeats 8000000 in
theorem init_any (QX base n c : Nat) (A : Option Addr) (l : List Du) (w : World) (h : HV w QX base n (.slice A n c) l) (hn1 : n ≤ 1000000) :
    Calls Try.prog 29 #[.iface 52 (.pointer (some ⟨QX, 0, none⟩))] w fun e w' => e = .returned (.tuple #[]) ∧ HV w' QX base n (.slice A n c) (initF n (n / 2) l) ∧ w.grownBy w' (Value.slice A n c).ownBlock := by
  have HH := Lib.hid h
  have G0 : w.grownBy w (Value.slice A n c).ownBlock := World.grownBy.refl w _
  have hm1 := h.mlen
  have cL := fun w1 => len_any A n c w1
  clear h
  obtain ⟨k0, hk0⟩ : ∃ k0, n / 2 = k0 := ⟨_, rfl⟩
  have z1 : (n : Int).tdiv 2 = (k0 : Int) := by rw [Int.tdiv_eq_ediv_of_nonneg (by omega)]; omega
  rw [hk0]
  have hk0n : k0 ≤ n := by omega
  have hk0b : 2 * k0 ≤ n := by omega
  have z2 : IntKind.i64.wrap ((k0 : Int) - 1) = (k0 : Int) - 1 := IntWalk.i64_in _ (by omega)
  clear hk0
  go_enter Try.func29, Try.ntmps29
  go_wp2_with fail
  refine (cL _).mono ?_
  rintro e w1 ⟨rfl, rfl⟩
  clear hm1
  go_wp2_with fail
  go_loopg [3] n (fun gg s3 wr => ∃ (k : Nat) (l' : List Du), k ≤ n ∧ 2 * k ≤ n ∧ k ≤ gg ∧ s3 = .int .i64 ((k : Int) - 1) ∧ Aside (HV wr QX base n (.slice A n c) l') ∧ Aside (initF n k l' = initF n k0 l) ∧ Aside (w.grownBy wr (Value.slice A n c).ownBlock))
  case atStart => exact ⟨k0, l, hk0n, hk0b, by omega, rfl, HH.out, rfl, G0⟩
  case round =>
    obtain ⟨k, l', hk, hkb, hg, rfl, h, HE, HG⟩ := hrel
    cases k with
    | zero =>
      have HX := Lib.hid HE.out
      clear HE
      go_wp2_with fail
      go_end0
      rw [← HX.out]
      exact ⟨by simp, h.out, HG.out⟩
    | succ k =>
      obtain ⟨b, c', e, hq⟩ := h.out.at_ (by omega)
      obtain ⟨rfl, rfl⟩ : A = some ⟨b, 0, none⟩ ∧ c = c' := by simpa using e
      have cD := down_any QX base b n c k n l' _ hq hn1 (Nat.le_refl _) (by omega) n (by omega)
      have z4 : ((k + 1 : Nat) : Int) - 1 = (k : Int) := by omega
      have z5 : (0 : Int) ≤ (k : Int) := by omega
      rw [z4]
      clear h e hq
      go_wp2_with fail
      refine cD.mono ?_
      rintro e w2 ⟨rfl, hq2, hg2⟩
      have hg3 := HG.out.trans hg2
      clear cD
      have z6 : IntKind.i64.wrap ((k : Int) - 1) = (k : Int) - 1 := IntWalk.i64_in _ (by omega)
      go_wp2_with fail
      go_roundg k
      case measure => omega
      case rel => exact ⟨k, _, by omega, by omega, by omega, by go_num, (show Aside _ from hq2.hv), (show Aside _ from HE.out), (show Aside _ from hg3)⟩

set_option maxHeartbeats 8000000 in
theorem hpop_any (QX base b m c : Nat) (l : List Du) (w : World) (h : HQ w QX base b (m + 1) c l) (hn1 : m + 1 ≤ 1000000) :
    Calls Try.prog 27 #[.iface 52 (.pointer (some ⟨QX, 0, none⟩))] w fun e w' => e = .returned (.iface 30 (.agg #[.int .i64 (popF l m)[m]!.when_, .int .i64 (popF l m)[m]!.which])) ∧ HQ w' QX base b m c ((popF l m).take m) ∧ Two w w' QX (some b) := by
  have hm1 := h.hv.mlen
  have hm2 := h.swap
  have cL := fun w1 => len_any (some ⟨b, 0, none⟩) (m + 1) c w1
  have cS : Calls Try.prog 56 #[.slice (some ⟨b, 0, none⟩) (m + 1) c, .int .i64 0, .int .i64 (m : Int)] w _ := swap_any base b (m + 1) c 0 m l w h.own h.len (by omega) (by omega) hn1
  have cD : ∀ (w1 : World) (h : HQ w1 QX base b (m + 1) c (swapL l 0 m)), Calls Try.prog 37 #[.iface 52 (.pointer (some ⟨QX, 0, none⟩)), .int .i64 0, .int .i64 (m : Int)] w1 _ := fun w1 h => down_any QX base b (m + 1) c 0 m (swapL l 0 m) w1 h hn1 (by omega) (by omega) m (by omega)
  have z1 : ((m + 1 : Nat) : Int) - 1 = (m : Int) := by omega
  have HH := Lib.hid h
  clear h
  go_enter Try.func27, Try.ntmps27
  go_wp2_with fail
  refine (cL _).mono ?_
  rintro e w1 ⟨rfl, rfl⟩
  clear hm1
  go_wp2_with fail
  refine cS.mono ?_
  rintro e w2 ⟨rfl, own2, hg2⟩
  have h2 := HH.out.turn (l' := swapL l 0 m) hg2 own2 (by rw [swapL_len]; exact HH.out.len)
  clear cS own2 hm2
  go_wp2_with fail
  refine (cD _ h2).mono ?_
  rintro e w3 ⟨rfl, h3, hg3⟩
  have hg4 := hg2.trans hg3
  clear cD h2 hg2 hg3
  have hm3 := h3.hv.mpop
  have cP := popm_any QX base b m c (popF l m) w3 h3 hn1
  go_wp2_with fail
  refine cP.mono ?_
  rintro e w4 ⟨rfl, h4, t4⟩
  clear cP hm3
  go_wp2_with fail
  go_ret
  exact ⟨by simp, h4, (Two.of_grown hg4).trans t4 (Row.refl _ _)⟩

set_option maxHeartbeats 8000000 in
theorem hpush_any (QX base n : Nat) (v : Value) (l : List Du) (d : Du) (w : World) (h : HV w QX base n v l) (hn1 : n + 1 ≤ 1000000) (hbase : base ≤ w.heap.size) :
    Calls Try.prog 24 #[.iface 52 (.pointer (some ⟨QX, 0, none⟩)), .iface 30 (.agg #[.int .i64 d.when_, .int .i64 d.which])] w fun e w' => e = .returned (.tuple #[]) ∧ ∃ v', HV w' QX base (n + 1) v' (upF n (l ++ [d]) n) ∧ Row w v.ownBlock v'.ownBlock ∧ Two w w' QX v.ownBlock := by
  have hm1 := h.mpush
  have cP := pushm_any QX base n v l d w h (by omega) hbase
  have z1 : ((n + 1 : Nat) : Int) - 1 = (n : Int) := by omega
  clear h hbase
  go_enter Try.func24, Try.ntmps24
  go_wp2_with fail
  refine cP.mono ?_
  rintro e w1 ⟨rfl, v1, h1, r1, t1⟩
  clear cP hm1
  obtain ⟨b, c, rfl, hq⟩ := h1.at_ (by omega)
  have hm2 := h1.mlen
  have cL := len_any (some ⟨b, 0, none⟩) (n + 1) c w1
  have cU := up_any QX base b (n + 1) c n (l ++ [d]) w1 hq hn1 (by omega) n (Nat.le_refl _)
  clear h1 hq
  go_wp2_with fail
  refine cL.mono ?_
  rintro e w2 ⟨rfl, rfl⟩
  clear hm2 cL
  go_wp2_with fail
  refine cU.mono ?_
  rintro e w3 ⟨rfl, h3, hg3⟩
  clear cU
  go_wp2_with fail
  go_end0
  exact ⟨by simp, _, h3.hv, r1, t1.grown hg3 r1⟩

set_option maxHeartbeats 8000000 in
theorem remove_any (QX base b m c k : Nat) (l : List Du) (w : World) (h : HQ w QX base b (m + 1) c l) (hn1 : m + 1 ≤ 1000000) (hk : k ≤ m) :
    Calls Try.prog 23 #[.iface 52 (.pointer (some ⟨QX, 0, none⟩)), .int .i64 (k : Int)] w fun e w' => (∃ x, e = .returned x) ∧ HQ w' QX base b m c ((removeF l k m).take m) ∧ Two w w' QX (some b) := by
  have hm1 := h.hv.mlen
  have hm2 := h.swap
  have cL := fun w1 => len_any (some ⟨b, 0, none⟩) (m + 1) c w1
  have cS := swap_any base b (m + 1) c k m l w h.own h.len (by omega) (by omega) hn1
  have cD := fun (w1 : World) (h : HQ w1 QX base b (m + 1) c (swapL l k m)) => down_any QX base b (m + 1) c k m (swapL l k m) w1 h hn1 (by omega) (by omega) m (by omega)
  have cP := fun (w1 : World) (l1 : List Du) (h : HQ w1 QX base b (m + 1) c l1) => popm_any QX base b m c l1 w1 h hn1
  have z1 : ((m + 1 : Nat) : Int) - 1 = (m : Int) := by omega
  by_cases hkm : k = m
  · subst hkm
    have hr : removeF l k k = l := by unfold removeF; rw [if_pos rfl]
    rw [hr]
    clear hr cD cS hm2
    have z2 : ((k : Int) != (k : Int)) = false := by simp
    have hm3 := h.hv.mpop
    have cQ := cP w l h
    clear h cP
    go_enter Try.func23, Try.ntmps23
    go_wp2_with fail
    refine (cL _).mono ?_
    rintro e w1 ⟨rfl, rfl⟩
    clear hm1
    go_wp2_with fail
    refine cQ.mono ?_
    rintro e w4 ⟨rfl, h4, t4⟩
    clear cQ hm3
    go_wp2_with fail
    go_ret
    exact ⟨⟨_, rfl⟩, h4, t4⟩
  · have z2 : ((m : Int) != (k : Int)) = true := by rw [bne_iff_ne]; omega
    have HH := Lib.hid h
    clear h
    have hlk := downF_le m (swapL l k m) k m
    by_cases hmv : k < (downF m (swapL l k m) k m).2
    · have hr : removeF l k m = (downF m (swapL l k m) k m).1 := by unfold removeF; rw [if_neg hkm, if_pos hmv]
      have z3 : decide (k < (downF m (swapL l k m) k m).2) = true := decide_eq_true hmv
      rw [z3] at cD
      rw [hr]
      clear hr z3 hlk hmv
      go_enter Try.func23, Try.ntmps23
      go_wp2_with fail
      refine (cL _).mono ?_
      rintro e w1 ⟨rfl, rfl⟩
      clear hm1
      go_wp2_with fail
      refine cS.mono ?_
      rintro e w2 ⟨rfl, own2, hg2⟩
      have h2 := HH.out.turn (l' := swapL l k m) hg2 own2 (by rw [swapL_len]; exact HH.out.len)
      clear cS own2 hm2
      go_wp2_with fail
      refine (cD _ h2).mono ?_
      rintro e w3 ⟨rfl, h3, hg3⟩
      have hg4 := hg2.trans hg3
      clear cD h2 hg2 hg3
      have hm3 := h3.hv.mpop
      have cQ := cP _ _ h3
      go_wp2_with fail
      refine cQ.mono ?_
      rintro e w4 ⟨rfl, h4, t4⟩
      clear cQ hm3 cP
      go_wp2_with fail
      go_ret
      exact ⟨⟨_, rfl⟩, h4, (Two.of_grown hg4).trans t4 (Row.refl _ _)⟩
    · have hr : removeF l k m = upF k (downF m (swapL l k m) k m).1 k := by unfold removeF; rw [if_neg hkm, if_neg hmv]
      have z3 : decide (k < (downF m (swapL l k m) k m).2) = false := decide_eq_false hmv
      rw [z3] at cD
      rw [hr]
      have cU := fun (w1 : World) (l1 : List Du) (h : HQ w1 QX base b (m + 1) c l1) => up_any QX base b (m + 1) c k l1 w1 h hn1 (by omega) k (Nat.le_refl _)
      clear hr z3 hlk hmv
      go_enter Try.func23, Try.ntmps23
      go_wp2_with fail
      refine (cL _).mono ?_
      rintro e w1 ⟨rfl, rfl⟩
      clear hm1
      go_wp2_with fail
      refine cS.mono ?_
      rintro e w2 ⟨rfl, own2, hg2⟩
      have h2 := HH.out.turn (l' := swapL l k m) hg2 own2 (by rw [swapL_len]; exact HH.out.len)
      clear cS own2 hm2
      go_wp2_with fail
      refine (cD _ h2).mono ?_
      rintro e w3 ⟨rfl, h3, hg3⟩
      have hg4 := hg2.trans hg3
      clear cD h2 hg2 hg3
      have cV := cU _ _ h3
      clear cU
      go_wp2_with fail
      refine cV.mono ?_
      rintro e w5 ⟨rfl, h5, hg5⟩
      clear cV
      have hg6 := hg4.trans hg5
      have hm3 := h5.hv.mpop
      have cQ := cP _ _ h5
      go_wp2_with fail
      refine cQ.mono ?_
      rintro e w4 ⟨rfl, h4, t4⟩
      clear cQ hm3 cP
      go_wp2_with fail
      go_ret
      exact ⟨⟨_, rfl⟩, h4, (Two.of_grown hg6).trans t4 (Row.refl _ _)⟩
end Go.Proofs.Ytimhdkgllgdamaa
