/- The walk of CacheModel. -/
import Derived.Test.YtdndanjabknjpaaAL
import Derived.Test.YtdndanjabknjpaaAM
import Derived.Test.YtdndanjabknjpaaAO
import Derived.Test.YtdndanjabknjpaaAP
import Derived.Test.YtdndanjabknjpaaAQ
namespace Go.Proofs.Ytdndanjabknjpaa
open Go.RowKit Go.Lib

set_option linter.unusedVariables false
attribute [local go_sem] Act.puts
attribute [local go_sem high] eq32
set_option maxHeartbeats 16000000 in
set_option maxRecDepth 100000 in
theorem model_row (p pw : Int) (A : Option Addr) (ac : Nat) (l : List Dw) (w : World) (hs : Sl 4 Dw.enc w A l) (hg : ∀ q ∈ l, q.good) (wp : (Lit.int .u8 p).wf = true) (wq : (Lit.int .u8 pw).wf = true) :
    Calls Try.prog 5 #[.int .u8 p, .int .u8 pw, .slice A l.length ac] w fun e w' => e = .returned (.bool true) ∧ Below w.heap.size w w' := by
  have hp := wf_u8 wp
  have hq := wf_u8 wq
  have hbig := hs.big
  obtain ⟨am, hN⟩ : ∃ am, l.length = am := ⟨_, rfl⟩
  rw [hN] at hbig ⊢
  have HN := Lib.hid hN
  have HS := Lib.hid hs
  have HG := Lib.hid hg
  have cW := fun w1 => awake_any w1
  obtain ⟨n, e1, hn1, hn8⟩ : ∃ n : Nat, p.tmod 8 + 1 = (n : Int) ∧ 1 ≤ n ∧ n ≤ 8 := by
    rw [Int.tmod_eq_emod_of_nonneg hp.1]
    exact ⟨(p % 8 + 1).toNat, by omega, by omega, by omega⟩
  obtain ⟨m, e2, hm1, hm8⟩ : ∃ m : Nat, pw.tmod 8 + 1 = (m : Int) ∧ 1 ≤ m ∧ m ≤ 8 := by
    rw [Int.tmod_eq_emod_of_nonneg hq.1]
    exact ⟨(pw % 8 + 1).toNat, by omega, by omega, by omega⟩
  have p1 : p.tmod 8 = (n : Int) - 1 := by omega
  have p2 : pw.tmod 8 = (m : Int) - 1 := by omega
  have p3 : IntKind.u8.wrap ((n : Int) - 1) = (n : Int) - 1 := by simp [IntKind.wrap, IntKind.signed, IntKind.bits]; omega
  have p4 : IntKind.u8.wrap ((m : Int) - 1) = (m : Int) - 1 := by simp [IntKind.wrap, IntKind.signed, IntKind.bits]; omega
  have p5 : IntKind.i64.wrap ((n : Int) - 1) = (n : Int) - 1 := IntWalk.i64_in _ (by omega)
  have p6 : IntKind.i64.wrap ((m : Int) - 1) = (m : Int) - 1 := IntWalk.i64_in _ (by omega)
  have p7 : wrap64 ((n : Int) - 1 + 1) = (n : Int) := by unfold wrap64; omega
  have p8 : wrap64 ((m : Int) - 1 + 1) = (m : Int) := by unfold wrap64; omega
  have cN := fun w1 => GivesC.num (new_any (n : Int) (m : Int) w1) (y := ⟨n, m, 0, List.replicate n []⟩) (k := 0) (by unfold newC; rw [if_pos (by omega), Int.toNat_natCast]) (n := n) (by simp)
  clear hN hs hg hp hq wp wq e1 e2
  go_enter Try.func5, Try.ntmps5
  go_wp2_with fail
  refine (cW _).mono ?_
  rintro e w1 ⟨rfl, b0⟩
  clear cW
  go_wp2_with fail
  refine (cN _).mono ?_
  rintro e w2 ⟨A2, c2, hs2, rfl, own2, hb2⟩
  have hn6 : n ≤ 1000000 := by omega
  clear p1 p2 p3 p4 p5 p6 p7 p8
  have b2 := b0.trans (hb2.mono b0.size)
  have hX := b2.size
  have t1 := ArrF.new35 (w2.alloc (.cells #[.int .i64 (n : Int), .int .i64 (m : Int), .int .i64 0, .slice A2 n c2] 26))
  have t2 := ArrF.new52 ((w2.alloc (.cells #[.int .i64 (n : Int), .int .i64 (m : Int), .int .i64 0, .slice A2 n c2] 26)).alloc (.cells Try.zeroCells35 35))
  have t3 := ArrF.new53 (((w2.alloc (.cells #[.int .i64 (n : Int), .int .i64 (m : Int), .int .i64 0, .slice A2 n c2] 26)).alloc (.cells Try.zeroCells35 35)).alloc (.cells Try.zeroCells52 52))
  have cv0 : CV (fun g => g < w2.heap.size) (w2.alloc (.cells #[.int .i64 (n : Int), .int .i64 (m : Int), .int .i64 0, .slice A2 n c2] 26)) w2.heap.size ⟨n, m, 0, List.replicate n []⟩ A2 n c2 hs2 := CV.new (y := ⟨n, m, 0, List.replicate n []⟩) own2 (fun g _ h => h)
  rw [show (w2.alloc (.cells #[.int .i64 (n : Int), .int .i64 (m : Int), .int .i64 0, .slice A2 n c2] 26)).heap.size = w2.heap.size + 1 by simp] at t1
  rw [show ((w2.alloc (.cells #[.int .i64 (n : Int), .int .i64 (m : Int), .int .i64 0, .slice A2 n c2] 26)).alloc (.cells Try.zeroCells35 35)).heap.size = w2.heap.size + 1 + 1 by simp] at t2
  rw [show (((w2.alloc (.cells #[.int .i64 (n : Int), .int .i64 (m : Int), .int .i64 0, .slice A2 n c2] 26)).alloc (.cells Try.zeroCells35 35)).alloc (.cells Try.zeroCells52 52)).heap.size = w2.heap.size + 1 + 1 + 1 by simp] at t3
  have S0 : MS w ((((w2.alloc (.cells #[.int .i64 (n : Int), .int .i64 (m : Int), .int .i64 0, .slice A2 n c2] 26)).alloc (.cells Try.zeroCells35 35)).alloc (.cells Try.zeroCells52 52)).alloc (.cells Try.zeroCells53 53)) w2.heap.size (w2.heap.size + 1) (w2.heap.size + 1 + 1) (w2.heap.size + 1 + 1 + 1) n ⟨n, m, 0, List.replicate n []⟩ A2 c2 hs2 (fun _ => false) (fun _ => 0) (fun _ => 0) := by
    have cv1 := ((cv0.alloc (.cells Try.zeroCells35 35)).alloc (.cells Try.zeroCells52 52)).alloc (.cells Try.zeroCells53 53)
    refine ⟨⟨cv1.V, cv1.own, fun g e => ?_, fun j hj g e => ?_⟩, (t1.alloc _).alloc _, t2.alloc _, t3, (((b2.alloc b2.size _).alloc (by simp; omega) _).alloc (by simp; omega) _).alloc (by simp; omega) _, by omega⟩
    · have := cv1.off g e
      omega
    · have := cv1.offs j hj g e
      omega
  have I0 := MInv.new hn1 hn8 hm1 hm8
  clear cN own2 hb2 b2 b0 t1 t2 t3 cv0
  go_wp2_with fail
  generalize (((w2.alloc (.cells #[.int .i64 (n : Int), .int .i64 (m : Int), .int .i64 0, .slice A2 n c2] 26)).alloc (.cells Try.zeroCells35 35)).alloc (.cells Try.zeroCells52 52)).alloc (.cells Try.zeroCells53 53) = W2 at *
  obtain ⟨CX, hCX⟩ : ∃ CX, w2.heap.size = CX := ⟨_, rfl⟩
  have q1 : w2.heap.size + 1 = CX + 1 := by rw [hCX]
  simp only [hCX] at *
  clear q1
  generalize CX + 1 = TX at *
  generalize TX + 1 = VX at *
  generalize VX + 1 = LX at *
  go_loopg [14] 150 (fun gg s14 wr => ∃ (i : Nat) (x : Ca) (A0 : Option Addr) (c0 : Nat) (hs1 : List Hd) (th : Nat → Bool) (va la : Nat → Int), i ≤ 150 ∧ 150 - i ≤ gg ∧ s14 = .int .i64 (i : Int) ∧ Aside (MInv n m i x th va la) ∧ Aside (MS w wr CX TX VX LX n x A0 c0 hs1 th va la))
  case atStart => exact ⟨0, _, A2, c2, hs2, _, _, _, by omega, by omega, rfl, (show Aside _ from I0), (show Aside _ from S0)⟩
  case round =>
    obtain ⟨i, x, A0, c0, hs1, th, va, la, hi, hgi, rfl, HI, HM⟩ := hrel
    by_cases hlt : i < am ∧ i < 150
    · skip
      have hil : i < l.length := by rw [HN.out]; exact hlt.1
      have hq0 := (HG.out l[i]! (by rw [getElem!_pos l i hil]; exact List.getElem_mem _)).1.1
      have hkk : l[i]!.kind.tmod 3 = 0 ∨ l[i]!.kind.tmod 3 = 1 ∨ l[i]!.kind.tmod 3 = 2 := by
        rw [Int.tmod_eq_emod_of_nonneg hq0]
        omega
      clear hil hq0
      rcases hkk with hkk | hkk | hkk
      · cases hT : th l[i]!.addr.toNat with
        | true => exact model_a1 hbig HN HS HG hn1 hn8 hm1 hm8 hn6 hi hgi HI HM hlt hkk hT (by assumption) (by assumption)
        | false =>
          by_cases hC : cnt n (l[i]!.addr.toNat % n) th 256 = m
          · exact model_b hbig HN HS HG hn1 hn8 hm1 hm8 hn6 hi hgi HI HM hlt hkk hT hC (by assumption) (by assumption)
          · exact model_a2 hbig HN HS HG hn1 hn8 hm1 hm8 hn6 hi hgi HI HM hlt hkk hT hC (by assumption) (by assumption)
      · exact model_u hbig HN HS HG hn1 hn8 hm1 hm8 hn6 hi hgi HI HM hlt hkk (by assumption) (by assumption)
      · exact model_d hbig HN HS HG hn1 hn8 hm1 hm8 hn6 hi hgi HI HM hlt hkk (by assumption) (by assumption)
    · have ht : ¬ (i : Int) < (am : Int) ∨ ((i : Int) < (am : Int) ∧ ¬ (i : Int) < 150) := by
        by_cases h : i < am
        · right
          omega
        · left
          omega
      clear hlt
      rcases ht with h1 | ⟨h1, h2⟩
      · skip
        obtain ⟨wo, rfl⟩ : ∃ wo, wo = wr := ⟨_, rfl⟩
        go_wp2_with fail
        go_loopg [28, 29] 256 (fun gg s28 s29 wr => ∃ k c : Nat, k ≤ 256 ∧ 256 - k ≤ gg ∧ s29 = .int .i64 (k : Int) ∧ s28 = .int .i64 (c : Int) ∧ Aside (c = ((List.range k).filter th).length) ∧ Aside (c ≤ k) ∧ Aside (Below wo.heap.size wo wr))
        case atStart => exact ⟨0, 0, by omega, by omega, rfl, rfl, (show Aside _ from rfl), (show Aside _ from Nat.le_refl _), (show Aside _ from Below.refl _ _)⟩
        case round =>
          obtain ⟨k, c, hk, hgk, rfl, rfl, HC, HCK, HB⟩ := hrel
          have M2 := HM.out.below HB.out
          by_cases hkt : k < 256
          · have hkz : (k : Int) < 256 := by omega
            have hlk := HI.out.look (t := k) hkt
            have cK := look_any A0 c0 n x hs1 (k : Int) wr M2.cv.cin HI.out.num HI.out.wf
            rw [hlk.1] at cK
            have HV := Lib.hid hlk.2
            generalize (lookC x k).1 = ln at *
            have x0 := M2.cv.V.cell 0 _ rfl
            have x1 := M2.cv.V.cell 1 _ rfl
            have x2 := M2.cv.V.cell 2 _ rfl
            have x3 := M2.cv.V.cell 3 _ rfl
            clear hlk
            go_wp2_with fail
            refine cK.mono ?_
            rintro e w9 ⟨rfl, hb9⟩
            cases hth : th k with
            | false =>
              have HTH := Lib.hid hth
              have M3 := (M2.below hb9).alloc (.cells #[.int .i64 ln.addr, .int .i64 ln.state, .int .u32 ln.val_, .int .i64 ln.used] 32)
              have ZB := Bx.new w9 [.int .i64 ln.addr, .int .i64 ln.state, .int .u32 ln.val_, .int .i64 ln.used] 32
              have HB3 := Lib.hid ((HB.out.trans (hb9.mono HB.out.size)).alloc (Nat.le_trans HB.out.size hb9.size) (.cells #[.int .i64 ln.addr, .int .i64 ln.state, .int .u32 ln.val_, .int .i64 ln.used] 32))
              have tc : (w9.alloc (.cells #[.int .i64 ln.addr, .int .i64 ln.state, .int .u32 ln.val_, .int .i64 ln.used] 32)).cell? ⟨TX, k, none⟩ = some (.bool false) := (M3.ta.cell hkt).trans (congrArg (fun b => some (Value.bool b)) HTH.out)
              have vc := M3.av.cell hkt
              have zc := ZB.cell 2 _ rfl
              have HWK := Lib.hid (show wrap64 ((k : Int) + 1) = ((k + 1 : Nat) : Int) by unfold wrap64; omega)
              have HWC := Lib.hid (show wrap64 ((c : Int) + 1) = ((c + 1 : Nat) : Int) by have := HCK.out; unfold wrap64; omega)
              clear hth M2 M3 ZB hb9 cK x0 x1 x2 x3
              go_wp2_with fail
              generalize w9.alloc (.cells #[.int .i64 ln.addr, .int .i64 ln.state, .int .u32 ln.val_, .int .i64 ln.used] 32) = W9 at *
              generalize w9.heap.size = ZX at *
              go_quiet (fail)
              go_wp2_with fail
              go_roundg (256 - (k + 1))
              case measure => omega
              case rel => exact ⟨k + 1, c, by omega, by omega, by first | rfl | rw [HWK.out], rfl, (show Aside _ from by show _ = _; rw [count_succ, HTH.out, ← HC.out]; rfl), (show Aside _ from by have := HCK.out; show _ ≤ _; omega), (show Aside _ from bdrewN HB3.out _)⟩
            | true =>
              have HTH := Lib.hid hth
              have M3 := (M2.below hb9).alloc (.cells #[.int .i64 ln.addr, .int .i64 ln.state, .int .u32 ln.val_, .int .i64 ln.used] 32)
              have ZB := Bx.new w9 [.int .i64 ln.addr, .int .i64 ln.state, .int .u32 ln.val_, .int .i64 ln.used] 32
              have HB3 := Lib.hid ((HB.out.trans (hb9.mono HB.out.size)).alloc (Nat.le_trans HB.out.size hb9.size) (.cells #[.int .i64 ln.addr, .int .i64 ln.state, .int .u32 ln.val_, .int .i64 ln.used] 32))
              have tc : (w9.alloc (.cells #[.int .i64 ln.addr, .int .i64 ln.state, .int .u32 ln.val_, .int .i64 ln.used] 32)).cell? ⟨TX, k, none⟩ = some (.bool true) := (M3.ta.cell hkt).trans (congrArg (fun b => some (Value.bool b)) HTH.out)
              have vc := M3.av.cell hkt
              have zc := ZB.cell 2 _ rfl
              have HWK := Lib.hid (show wrap64 ((k : Int) + 1) = ((k + 1 : Nat) : Int) by unfold wrap64; omega)
              have HWC := Lib.hid (show wrap64 ((c : Int) + 1) = ((c + 1 : Nat) : Int) by have := HCK.out; unfold wrap64; omega)
              have zc2 : (w9.alloc (.cells #[.int .i64 ln.addr, .int .i64 ln.state, .int .u32 ln.val_, .int .i64 ln.used] 32)).cell? ⟨w9.heap.size, 2, none⟩ = some (.int .u32 (va k)) := zc.trans (by rw [HV.out HTH.out])
              clear zc
              clear hth M2 M3 ZB hb9 cK x0 x1 x2 x3
              go_wp2_with fail
              generalize w9.alloc (.cells #[.int .i64 ln.addr, .int .i64 ln.state, .int .u32 ln.val_, .int .i64 ln.used] 32) = W9 at *
              generalize w9.heap.size = ZX at *
              go_quiet (fail)
              go_wp2_with fail
              go_roundg (256 - (k + 1))
              case measure => omega
              case rel => exact ⟨k + 1, c + 1, by omega, by omega, by first | rfl | rw [HWK.out], by first | rfl | rw [HWC.out], (show Aside _ from by show _ = _; rw [count_succ, HTH.out, ← HC.out]; rfl), (show Aside _ from by have := HCK.out; show _ ≤ _; omega), (show Aside _ from bdrewN HB3.out _)⟩
          · skip
            obtain rfl : k = 256 := by omega
            have cA := all_any A0 c0 n x hs1 wr M2.cv.cin HI.out.num HI.out.wf
            have HB3 := Lib.hid (HM.out.b.trans (HB.out.mono HM.out.b.size))
            have hcz : (((256 : Nat) : Int) < 256) = False := by simp
            have x0 := M2.cv.V.cell 0 _ rfl
            have x1 := M2.cv.V.cell 1 _ rfl
            have x2 := M2.cv.V.cell 2 _ rfl
            have x3 := M2.cv.V.cell 3 _ rfl
            clear M2
            go_wp2_with fail
            refine cA.mono ?_
            rintro e w9 ⟨B, m', d, l', rfl, hl', hp', _, _, hb9⟩
            have hcm : c = m' := by rw [HC.out, ← HI.out.count_all, ← hl', (hp' HI.out.right).1.length_eq]
            subst hcm
            have hb := HB3.out.trans (hb9.mono HB3.out.size)
            clear hl' hp' hb9 x0 x1 x2 x3
            go_wp2_with fail
            go_ret
            exact ⟨rfl, hb⟩
      · skip
        obtain ⟨wo, rfl⟩ : ∃ wo, wo = wr := ⟨_, rfl⟩
        go_wp2_with fail
        go_loopg [28, 29] 256 (fun gg s28 s29 wr => ∃ k c : Nat, k ≤ 256 ∧ 256 - k ≤ gg ∧ s29 = .int .i64 (k : Int) ∧ s28 = .int .i64 (c : Int) ∧ Aside (c = ((List.range k).filter th).length) ∧ Aside (c ≤ k) ∧ Aside (Below wo.heap.size wo wr))
        case atStart => exact ⟨0, 0, by omega, by omega, rfl, rfl, (show Aside _ from rfl), (show Aside _ from Nat.le_refl _), (show Aside _ from Below.refl _ _)⟩
        case round =>
          obtain ⟨k, c, hk, hgk, rfl, rfl, HC, HCK, HB⟩ := hrel
          have M2 := HM.out.below HB.out
          by_cases hkt : k < 256
          · have hkz : (k : Int) < 256 := by omega
            have hlk := HI.out.look (t := k) hkt
            have cK := look_any A0 c0 n x hs1 (k : Int) wr M2.cv.cin HI.out.num HI.out.wf
            rw [hlk.1] at cK
            have HV := Lib.hid hlk.2
            generalize (lookC x k).1 = ln at *
            have x0 := M2.cv.V.cell 0 _ rfl
            have x1 := M2.cv.V.cell 1 _ rfl
            have x2 := M2.cv.V.cell 2 _ rfl
            have x3 := M2.cv.V.cell 3 _ rfl
            clear hlk
            go_wp2_with fail
            refine cK.mono ?_
            rintro e w9 ⟨rfl, hb9⟩
            cases hth : th k with
            | false =>
              have HTH := Lib.hid hth
              have M3 := (M2.below hb9).alloc (.cells #[.int .i64 ln.addr, .int .i64 ln.state, .int .u32 ln.val_, .int .i64 ln.used] 32)
              have ZB := Bx.new w9 [.int .i64 ln.addr, .int .i64 ln.state, .int .u32 ln.val_, .int .i64 ln.used] 32
              have HB3 := Lib.hid ((HB.out.trans (hb9.mono HB.out.size)).alloc (Nat.le_trans HB.out.size hb9.size) (.cells #[.int .i64 ln.addr, .int .i64 ln.state, .int .u32 ln.val_, .int .i64 ln.used] 32))
              have tc : (w9.alloc (.cells #[.int .i64 ln.addr, .int .i64 ln.state, .int .u32 ln.val_, .int .i64 ln.used] 32)).cell? ⟨TX, k, none⟩ = some (.bool false) := (M3.ta.cell hkt).trans (congrArg (fun b => some (Value.bool b)) HTH.out)
              have vc := M3.av.cell hkt
              have zc := ZB.cell 2 _ rfl
              have HWK := Lib.hid (show wrap64 ((k : Int) + 1) = ((k + 1 : Nat) : Int) by unfold wrap64; omega)
              have HWC := Lib.hid (show wrap64 ((c : Int) + 1) = ((c + 1 : Nat) : Int) by have := HCK.out; unfold wrap64; omega)
              clear hth M2 M3 ZB hb9 cK x0 x1 x2 x3
              go_wp2_with fail
              generalize w9.alloc (.cells #[.int .i64 ln.addr, .int .i64 ln.state, .int .u32 ln.val_, .int .i64 ln.used] 32) = W9 at *
              generalize w9.heap.size = ZX at *
              go_quiet (fail)
              go_wp2_with fail
              go_roundg (256 - (k + 1))
              case measure => omega
              case rel => exact ⟨k + 1, c, by omega, by omega, by first | rfl | rw [HWK.out], rfl, (show Aside _ from by show _ = _; rw [count_succ, HTH.out, ← HC.out]; rfl), (show Aside _ from by have := HCK.out; show _ ≤ _; omega), (show Aside _ from bdrewN HB3.out _)⟩
            | true =>
              have HTH := Lib.hid hth
              have M3 := (M2.below hb9).alloc (.cells #[.int .i64 ln.addr, .int .i64 ln.state, .int .u32 ln.val_, .int .i64 ln.used] 32)
              have ZB := Bx.new w9 [.int .i64 ln.addr, .int .i64 ln.state, .int .u32 ln.val_, .int .i64 ln.used] 32
              have HB3 := Lib.hid ((HB.out.trans (hb9.mono HB.out.size)).alloc (Nat.le_trans HB.out.size hb9.size) (.cells #[.int .i64 ln.addr, .int .i64 ln.state, .int .u32 ln.val_, .int .i64 ln.used] 32))
              have tc : (w9.alloc (.cells #[.int .i64 ln.addr, .int .i64 ln.state, .int .u32 ln.val_, .int .i64 ln.used] 32)).cell? ⟨TX, k, none⟩ = some (.bool true) := (M3.ta.cell hkt).trans (congrArg (fun b => some (Value.bool b)) HTH.out)
              have vc := M3.av.cell hkt
              have zc := ZB.cell 2 _ rfl
              have HWK := Lib.hid (show wrap64 ((k : Int) + 1) = ((k + 1 : Nat) : Int) by unfold wrap64; omega)
              have HWC := Lib.hid (show wrap64 ((c : Int) + 1) = ((c + 1 : Nat) : Int) by have := HCK.out; unfold wrap64; omega)
              have zc2 : (w9.alloc (.cells #[.int .i64 ln.addr, .int .i64 ln.state, .int .u32 ln.val_, .int .i64 ln.used] 32)).cell? ⟨w9.heap.size, 2, none⟩ = some (.int .u32 (va k)) := zc.trans (by rw [HV.out HTH.out])
              clear zc
              clear hth M2 M3 ZB hb9 cK x0 x1 x2 x3
              go_wp2_with fail
              generalize w9.alloc (.cells #[.int .i64 ln.addr, .int .i64 ln.state, .int .u32 ln.val_, .int .i64 ln.used] 32) = W9 at *
              generalize w9.heap.size = ZX at *
              go_quiet (fail)
              go_wp2_with fail
              go_roundg (256 - (k + 1))
              case measure => omega
              case rel => exact ⟨k + 1, c + 1, by omega, by omega, by first | rfl | rw [HWK.out], by first | rfl | rw [HWC.out], (show Aside _ from by show _ = _; rw [count_succ, HTH.out, ← HC.out]; rfl), (show Aside _ from by have := HCK.out; show _ ≤ _; omega), (show Aside _ from bdrewN HB3.out _)⟩
          · skip
            obtain rfl : k = 256 := by omega
            have cA := all_any A0 c0 n x hs1 wr M2.cv.cin HI.out.num HI.out.wf
            have HB3 := Lib.hid (HM.out.b.trans (HB.out.mono HM.out.b.size))
            have hcz : (((256 : Nat) : Int) < 256) = False := by simp
            have x0 := M2.cv.V.cell 0 _ rfl
            have x1 := M2.cv.V.cell 1 _ rfl
            have x2 := M2.cv.V.cell 2 _ rfl
            have x3 := M2.cv.V.cell 3 _ rfl
            clear M2
            go_wp2_with fail
            refine cA.mono ?_
            rintro e w9 ⟨B, m', d, l', rfl, hl', hp', _, _, hb9⟩
            have hcm : c = m' := by rw [HC.out, ← HI.out.count_all, ← hl', (hp' HI.out.right).1.length_eq]
            subst hcm
            have hb := HB3.out.trans (hb9.mono HB3.out.size)
            clear hl' hp' hb9 x0 x1 x2 x3
            go_wp2_with fail
            go_ret
            exact ⟨rfl, hb⟩
end Go.Proofs.Ytdndanjabknjpaa
