/- CacheModel: a part of its walk. -/
import Derived.Test.YtdndanjabknjpaaAK
namespace Go.Proofs.Ytdndanjabknjpaa
open Go.RowKit Go.Lib

set_option linter.unusedVariables false
attribute [local go_sem] Act.puts
attribute [local go_sem high] eq32
set_option maxHeartbeats 40000000 in
set_option maxRecDepth 1000000 in
theorem model_d {w : World} {am ac : Nat} {A : Option Addr} {l : List Dw} {n m : Nat} (hbig : am ≤ 9223372036854775807) (HN : Hid (l.length = am)) (HS : Hid (Sl 4 Dw.enc w A l)) (HG : Hid (∀ q ∈ l, q.good)) (hn1 : 1 ≤ n) (hn8 : n ≤ 8) (hm1 : 1 ≤ m) (hm8 : m ≤ 8) (hn6 : n ≤ 1000000)
    {CX TX VX LX gk i : Nat} {wr : World} {x : Ca} {A0 : Option Addr} {c0 : Nat} {hs1 : List Hd} {th : Nat → Bool} {va la : Nat → Int} (hi : i ≤ 150) (hgi : 150 - i ≤ gk) (HI : Aside (MInv n m i x th va la)) (HM : Aside (MS w wr CX TX VX LX n x A0 c0 hs1 th va la))
    (hlt : i < am ∧ i < 150) (hkind : l[i]!.kind.tmod 3 = 2)
    {u6 u15 u16 u17 u18 u19 u20 u21 u22 u23 u24 u25 u26 u27 u50 u51 u52 u53 u54 u55 u56 u57 u58 u59 u60 u61 u62 u63 u64 u65 u66 u67 u68 u69 u70 u71 u72 u73 u74 u75 u76 u77 u78 u79 u80 u81 u82 u83 u84 u85 u86 u87 u88 u89 u90 u91 u92 u93 u94 u95 u96 u97 u98 u99 u100 u101 u102 u103 u104 u105 u106 u107 u108 u109 u110 u111 u112 u113 u114 u115 u116 u117 u118 u119 u120 u121 u122 u123 u124 u125 u126 u127 u128 u129 u130 u131 u132 u133 u134 u135 u136 u137 u138 u139 u140 u141 u142 u143 u144 u145 u146 u147 u148 u149 u150 u151 u152 u153 u154 u155 u156 u157 u158 u159 u160 u161 u162 u163 u164 u165 u166 u167 u168 u169 u170 u171 u172 u173 u174 u175 u176 u177 u178 u179 u180 u181 u182 u183 u184 u185 u186 u187 u188 u189 u190 u191 u192 u193 u194 u195 u196 u197 u198 u199 u200 u201 u202 u203 u204 u205 u206 u207 u208 u209 u210 u211 u212 u213 u214 u215 u216 u217 u218 u219 u220 f0 f1 f3 f4 f5 f10 f28 f29 f30 f31 f32 f33 f34 f35 f36 f37 f38 f39 f40 f41 f42 f43 f44 f45 f46 f47 f48 f49 f221 f222 f223 f224 f225 f226 f227 f228 f229 f230 f231 f232 f233 f234 f235 f236 f237 f238 f239 f240 f241 f242 f243 f244 f245 f246 f247 f248 f249 f250 f251 f252 f253 f254 : Value} {J : Nat → Act → World → Prop} {K : Act → World → Prop} {Q1 : Exit → Act → World → Prop} (hK : ∀ a' w', Handed J gk a' w' → K a' w') (hJ : ∀ (k : Nat) (a' : Act) (w' : World), (∃ u6 u14 u15 u16 u17 u18 u19 u20 u21 u22 u23 u24 u25 u26 u27 u50 u51 u52 u53 u54 u55 u56 u57 u58 u59 u60 u61 u62 u63 u64 u65 u66 u67 u68 u69 u70 u71 u72 u73 u74 u75 u76 u77 u78 u79 u80 u81 u82 u83 u84 u85 u86 u87 u88 u89 u90 u91 u92 u93 u94 u95 u96 u97 u98 u99 u100 u101 u102 u103 u104 u105 u106 u107 u108 u109 u110 u111 u112 u113 u114 u115 u116 u117 u118 u119 u120 u121 u122 u123 u124 u125 u126 u127 u128 u129 u130 u131 u132 u133 u134 u135 u136 u137 u138 u139 u140 u141 u142 u143 u144 u145 u146 u147 u148 u149 u150 u151 u152 u153 u154 u155 u156 u157 u158 u159 u160 u161 u162 u163 u164 u165 u166 u167 u168 u169 u170 u171 u172 u173 u174 u175 u176 u177 u178 u179 u180 u181 u182 u183 u184 u185 u186 u187 u188 u189 u190 u191 u192 u193 u194 u195 u196 u197 u198 u199 u200 u201 u202 u203 u204 u205 u206 u207 u208 u209 u210 u211 u212 u213 u214 u215 u216 u217 u218 u219 u220 : Value, (∃ (i : Nat) (x : Ca) (A0 : Option Addr) (c0 : Nat) (hs1 : List Hd) (th : Nat → Bool) (va la : Nat → Int), i ≤ 150 ∧ 150 - i ≤ k ∧ u14 = .int .i64 (i : Int) ∧ Aside (MInv n m i x th va la) ∧ Aside (MS w w' CX TX VX LX n x A0 c0 hs1 th va la)) ∧ a' = (⟨#[f0, f1, .slice A am ac, f3, f4, f5, u6, .int .i64 (n : Int), .int .i64 (m : Int), .pointer (some ⟨CX, 0, none⟩), f10, .pointer (some ⟨TX, 0, none⟩), .pointer (some ⟨VX, 0, none⟩), .pointer (some ⟨LX, 0, none⟩), u14, u15, u16, u17, u18, u19, u20, u21, u22, u23, u24, u25, u26, u27, f28, f29, f30, f31, f32, f33, f34, f35, f36, f37, f38, f39, f40, f41, f42, f43, f44, f45, f46, f47, f48, f49, u50, u51, u52, u53, u54, u55, u56, u57, u58, u59, u60, u61, u62, u63, u64, u65, u66, u67, u68, u69, u70, u71, u72, u73, u74, u75, u76, u77, u78, u79, u80, u81, u82, u83, u84, u85, u86, u87, u88, u89, u90, u91, u92, u93, u94, u95, u96, u97, u98, u99, u100, u101, u102, u103, u104, u105, u106, u107, u108, u109, u110, u111, u112, u113, u114, u115, u116, u117, u118, u119, u120, u121, u122, u123, u124, u125, u126, u127, u128, u129, u130, u131, u132, u133, u134, u135, u136, u137, u138, u139, u140, u141, u142, u143, u144, u145, u146, u147, u148, u149, u150, u151, u152, u153, u154, u155, u156, u157, u158, u159, u160, u161, u162, u163, u164, u165, u166, u167, u168, u169, u170, u171, u172, u173, u174, u175, u176, u177, u178, u179, u180, u181, u182, u183, u184, u185, u186, u187, u188, u189, u190, u191, u192, u193, u194, u195, u196, u197, u198, u199, u200, u201, u202, u203, u204, u205, u206, u207, u208, u209, u210, u211, u212, u213, u214, u215, u216, u217, u218, u219, u220, f221, f222, f223, f224, f225, f226, f227, f228, f229, f230, f231, f232, f233, f234, f235, f236, f237, f238, f239, f240, f241, f242, f243, f244, f245, f246, f247, f248, f249, f250, f251, f252, f253, f254], []⟩ : Act)) → J k a' w') :
    Code.wp Try.prog modelBody (Exit.then K Q1) (⟨#[f0, f1, .slice A am ac, f3, f4, f5, u6, .int .i64 (n : Int), .int .i64 (m : Int), .pointer (some ⟨CX, 0, none⟩), f10, .pointer (some ⟨TX, 0, none⟩), .pointer (some ⟨VX, 0, none⟩), .pointer (some ⟨LX, 0, none⟩), .int .i64 (i : Int), u15, u16, u17, u18, u19, u20, u21, u22, u23, u24, u25, u26, u27, f28, f29, f30, f31, f32, f33, f34, f35, f36, f37, f38, f39, f40, f41, f42, f43, f44, f45, f46, f47, f48, f49, u50, u51, u52, u53, u54, u55, u56, u57, u58, u59, u60, u61, u62, u63, u64, u65, u66, u67, u68, u69, u70, u71, u72, u73, u74, u75, u76, u77, u78, u79, u80, u81, u82, u83, u84, u85, u86, u87, u88, u89, u90, u91, u92, u93, u94, u95, u96, u97, u98, u99, u100, u101, u102, u103, u104, u105, u106, u107, u108, u109, u110, u111, u112, u113, u114, u115, u116, u117, u118, u119, u120, u121, u122, u123, u124, u125, u126, u127, u128, u129, u130, u131, u132, u133, u134, u135, u136, u137, u138, u139, u140, u141, u142, u143, u144, u145, u146, u147, u148, u149, u150, u151, u152, u153, u154, u155, u156, u157, u158, u159, u160, u161, u162, u163, u164, u165, u166, u167, u168, u169, u170, u171, u172, u173, u174, u175, u176, u177, u178, u179, u180, u181, u182, u183, u184, u185, u186, u187, u188, u189, u190, u191, u192, u193, u194, u195, u196, u197, u198, u199, u200, u201, u202, u203, u204, u205, u206, u207, u208, u209, u210, u211, u212, u213, u214, u215, u216, u217, u218, u219, u220, f221, f222, f223, f224, f225, f226, f227, f228, f229, f230, f231, f232, f233, f234, f235, f236, f237, f238, f239, f240, f241, f242, f243, f244, f245, f246, f247, f248, f249, f250, f251, f252, f253, f254], []⟩ : Act) wr := by
  conv => arg 2; whnf
  obtain ⟨hlt1, hlt2⟩ := hlt
  have z1 : (i : Int) < (am : Int) := by omega
  have z2 : (i : Int) < 150 := by omega
  have hil : i < l.length := by rw [HN.out]; exact hlt1
  obtain ⟨ab, ao, rfl, hq0⟩ := (HS.out.below HM.out.b).at_ i hil
  have d0 := hq0 0 _ rfl
  have d1 := hq0 1 _ rfl
  have d2 := hq0 2 _ rfl
  have d3 := hq0 3 _ rfl
  rw [Nat.add_zero] at d0
  obtain ⟨⟨k0, k1⟩, ⟨a0, a1⟩, ⟨s0, s1⟩⟩ := HG.out l[i]! (by rw [getElem!_pos l i hil]; exact List.getElem_mem _)
  clear hq0 hil
  generalize l[i]! = q at *
  obtain ⟨qk, qa, qs, v⟩ := q
  dsimp only at d0 d1 d2 d3 k0 k1 a0 a1 s0 s1 hkind
  obtain ⟨t, rfl⟩ : ∃ t : Nat, qa = (t : Int) := ⟨qa.toNat, by omega⟩
  have ht : t < 256 := by omega
  have htz : (t : Int) < 256 := by omega
  have HWT := Lib.hid (show IntKind.i64.wrap (t : Int) = (t : Int) from IntWalk.i64_in _ (by omega))
  obtain ⟨j1, hj1⟩ : ∃ j1 : Int, (i : Int) + 1 = j1 := ⟨_, rfl⟩
  have HWI := Lib.hid (show wrap64 ((i : Int) + 1) = j1 by rw [← hj1]; unfold wrap64; omega)
  have HWI2 := Lib.hid (show IntKind.i64.wrap ((i : Int) + 1) = j1 by rw [← hj1]; exact IntWalk.i64_in _ (by omega))
  have HJ1 := Lib.hid hj1
  clear hj1
  obtain ⟨s, hS⟩ : ∃ s : Nat, t % n = s := ⟨_, rfl⟩
  have hs8 : s < n := by rw [← hS]; exact Nat.mod_lt _ hn1
  have hrm2 : (t : Int) % (n : Int) = (s : Int) := by omega
  have HRM2 := Lib.hid hrm2
  have HRM := Lib.hid (show (t : Int).tmod (n : Int) = (s : Int) by rw [Int.tmod_eq_emod_of_nonneg (by omega)]; exact hrm2)
  have HWS := Lib.hid (show IntKind.i64.wrap (s : Int) = (s : Int) from IntWalk.i64_in _ (by omega))
  have N0 := Lib.hid (show ((n : Int) == 0) = false by rw [beq_eq_false_iff_ne]; omega)
  have n0' : ¬ n = 0 := by omega
  clear hrm2
  obtain ⟨r, hr0, hr1, hr2⟩ : ∃ r : Int, qs.tmod 4 = r ∧ 0 ≤ r ∧ r < 4 := by
    rw [Int.tmod_eq_emod_of_nonneg s0]
    exact ⟨_, rfl, Int.emod_nonneg _ (by omega), Int.emod_lt_of_pos _ (by omega)⟩
  have HR0 := Lib.hid hr0
  clear hr0
  have HR3 := Lib.hid (show IntKind.u8.wrap r = r by simp [IntKind.wrap, IntKind.signed, IntKind.bits]; omega)
  have HR4 := Lib.hid (show IntKind.i64.wrap r = r from IntWalk.i64_in _ (by omega))
  obtain ⟨st, hst⟩ : ∃ st : Int, r + 1 = st := ⟨_, rfl⟩
  have HR5 := Lib.hid (show wrap64 (r + 1) = st by rw [← hst]; unfold wrap64; omega)
  have hst2 : 1 ≤ st ∧ st ≤ 4 := by omega
  have hkd : qk.tmod 3 = 2 := hkind
  have HKD := Lib.hid hkd
  have DB := Bx.new wr [.int .u8 qk, .int .u8 (t : Int), .int .u8 qs, .int .u32 v] 55
  have HX := HM.out
  have M := HM.out.alloc (.cells #[.int .u8 qk, .int .u8 (t : Int), .int .u8 qs, .int .u32 v] 55)
  have hDX := HM.out.al.lt
  have NUM := Lib.hid HM.out.num
  have HCAP := Lib.hid (HI.out.cap hm8)
  have HST := Lib.hid hst2
  have HSM := Lib.hid hS
  have HGI := Lib.hid hgi
  have HHI := Lib.hid hi
  have HS8 := Lib.hid hs8
  have hi5 : i ≤ 1000 := by omega
  have HI5 := Lib.hid hi5
  have HI1 := Lib.hid hlt2
  clear hkd k0 k1 a0 a1 s0 s1 HM hst hst2 hS hr1 hr2 hgi hi hs8 hlt1 hlt2 hi5
  obtain ⟨y, hyn, hcase⟩ := HI.out.drop2 ht HI5.out
  rcases hcase with ⟨hth, hy, hi2⟩ | ⟨hth, hy, hi2⟩
  · try rw [HJ1.out] at hi2
    have HI2 := Lib.hid hi2
    have HTH := Lib.hid hth
    have cU := fun wz (h : CIn wz A0 x.lines hs1) => GivesC.num (drop_any A0 c0 n x hs1 (t : Int) wz h HI.out.num hn6 HCAP.out HI.out.wf) hy hyn
    clear hy hi2 hth
    have hCXl := HX.cv.V.lt
    have x0 := HX.cv.V.cell 0 _ rfl
    have x1 := HX.cv.V.cell 1 _ rfl
    have x2 := HX.cv.V.cell 2 _ rfl
    have x3 := HX.cv.V.cell 3 _ rfl
    clear HX
    have hwt := HWT.out
    have hkd := HKD.out
    have hkw : IntKind.u8.wrap 2 = 2 := rfl
    go_wp2_with fail
    clear hwt hkd hkw
    generalize wr.alloc (.cells #[.int .u8 qk, .int .u8 (t : Int), .int .u8 qs, .int .u32 v] 55) = W6 at *
    generalize wr.heap.size = DX at *
    have hL6 := M.al.lt
    clear d0 d1 d2 d3
    refine (cU _ M.cv.cin).mono ?_
    rintro e w9 ⟨A5, d5, hs5, rfl, own9, hb9⟩
    have nb1 : LX ≠ w9.heap.size := Nat.ne_of_lt (Nat.lt_of_lt_of_le hL6 hb9.size)
    have nb2 : TX ≠ w9.heap.size := Nat.ne_of_lt (Nat.lt_of_lt_of_le (Nat.lt_trans (by have := NUM.out; omega) hL6) hb9.size)
    have nb3 := nb1.symm
    have nb4 := nb2.symm
    have own5 := own9.below ((Below.refl _ _).alloc (Nat.le_refl _) (.cells #[.int .i64 y.sets, .int .i64 y.ways, .int .i64 y.clock, .slice A5 n d5] 26))
    have BB := Bx.new w9 [.int .i64 y.sets, .int .i64 y.ways, .int .i64 y.clock, .slice A5 n d5] 26
    replace M := (M.below hb9).alloc (.cells #[.int .i64 y.sets, .int .i64 y.ways, .int .i64 y.clock, .slice A5 n d5] 26)
    replace DB := (DB.below hb9).alloc (.cells #[.int .i64 y.sets, .int .i64 y.ways, .int .i64 y.clock, .slice A5 n d5] 26)
    clear own9 hb9 cU x0 x1 x2 x3
    obtain ⟨_, nl1, nl2, nl3⟩ := NUM.out
    have nCT : CX ≠ TX := Nat.ne_of_lt (by omega)
    have nCV : CX ≠ VX := Nat.ne_of_lt (by omega)
    have nCL : CX ≠ LX := Nat.ne_of_lt (by omega)
    have nTC : TX ≠ CX := Nat.ne_of_gt (by omega)
    have nTV : TX ≠ VX := Nat.ne_of_lt (by omega)
    have nTL : TX ≠ LX := Nat.ne_of_lt (by omega)
    have nVC : VX ≠ CX := Nat.ne_of_gt (by omega)
    have nVT : VX ≠ TX := Nat.ne_of_gt (by omega)
    have nVL : VX ≠ LX := Nat.ne_of_lt (by omega)
    have nLC : LX ≠ CX := Nat.ne_of_gt (by omega)
    have nLT : LX ≠ TX := Nat.ne_of_gt (by omega)
    have nLV : LX ≠ VX := Nat.ne_of_gt (by omega)
    clear nl1 nl2 nl3
    have tc : (w9.alloc (.cells #[.int .i64 y.sets, .int .i64 y.ways, .int .i64 y.clock, .slice A5 n d5] 26)).cell? ⟨TX, t, none⟩ = some (.bool true) := (M.ta.cell ht).trans (congrArg (fun b => some (Value.bool b)) HTH.out)
    have tf := M.ta.frozen t
    have lc := M.al.cell ht
    have lf := M.al.frozen t
    have x0 := M.cv.V.cell 0 _ rfl
    have x1 := M.cv.V.cell 1 _ rfl
    have x2 := M.cv.V.cell 2 _ rfl
    have x3 := M.cv.V.cell 3 _ rfl
    have g0 := M.cv.V.froz 0
    have g1 := M.cv.V.froz 1
    have g2 := M.cv.V.froz 2
    have g3 := M.cv.V.froz 3
    have bc0 := BB.cell 0 _ rfl
    have bc1 := BB.cell 1 _ rfl
    have bc2 := BB.cell 2 _ rfl
    have bc3 := BB.cell 3 _ rfl
    have M2 := Lib.hid ((M.setT t false).setC (own5.set (X := TX) (by have := NUM.out; omega) t _) hL6)
    have cR := fun w1 (h : CIn w1 A5 y.lines hs5) => right_any A5 d5 n y hs5 w1 h HI2.out.num HI2.out.wf
    rw [HI2.out.right] at cR
    clear M DB BB own5 z1 z2
    have hwi := HWI.out
    go_wp2_with fail
    clear hwi
    refine (cR _ M2.out.cv.cin).mono ?_
    rintro e w12 ⟨rfl, hb12⟩
    have M3 := Lib.hid (M2.out.below hb12)
    clear cR M2 hb12
    clear x0 x1 x2 x3 g0 g1 g2 g3 bc0 bc1 bc2 bc3
    go_wp2_with fail
    go_roundg (150 - (i + 1))
    case measure => exact meas HI1.out HGI.out
    case rel => exact ⟨i + 1, y, A5, d5, hs5, _, _, _, HI1.out, Nat.le_refl _, by first | rfl | (rw [HWI.out, ← HJ1.out]; rfl), (show Aside _ from HI2.out), (show Aside _ from M3.out)⟩
  · try rw [HJ1.out] at hi2
    have HI2 := Lib.hid hi2
    have HTH := Lib.hid hth
    have cU := fun wz (h : CIn wz A0 x.lines hs1) => GivesC.num (drop_any A0 c0 n x hs1 (t : Int) wz h HI.out.num hn6 HCAP.out HI.out.wf) hy hyn
    clear hy hi2 hth
    have hCXl := HX.cv.V.lt
    have x0 := HX.cv.V.cell 0 _ rfl
    have x1 := HX.cv.V.cell 1 _ rfl
    have x2 := HX.cv.V.cell 2 _ rfl
    have x3 := HX.cv.V.cell 3 _ rfl
    clear HX
    have hwt := HWT.out
    have hkd := HKD.out
    have hkw : IntKind.u8.wrap 2 = 2 := rfl
    go_wp2_with fail
    clear hwt hkd hkw
    generalize wr.alloc (.cells #[.int .u8 qk, .int .u8 (t : Int), .int .u8 qs, .int .u32 v] 55) = W6 at *
    generalize wr.heap.size = DX at *
    have hL6 := M.al.lt
    clear d0 d1 d2 d3
    refine (cU _ M.cv.cin).mono ?_
    rintro e w9 ⟨A5, d5, hs5, rfl, own9, hb9⟩
    have nb1 : LX ≠ w9.heap.size := Nat.ne_of_lt (Nat.lt_of_lt_of_le hL6 hb9.size)
    have nb2 : TX ≠ w9.heap.size := Nat.ne_of_lt (Nat.lt_of_lt_of_le (Nat.lt_trans (by have := NUM.out; omega) hL6) hb9.size)
    have nb3 := nb1.symm
    have nb4 := nb2.symm
    have own5 := own9.below ((Below.refl _ _).alloc (Nat.le_refl _) (.cells #[.int .i64 y.sets, .int .i64 y.ways, .int .i64 y.clock, .slice A5 n d5] 26))
    have BB := Bx.new w9 [.int .i64 y.sets, .int .i64 y.ways, .int .i64 y.clock, .slice A5 n d5] 26
    replace M := (M.below hb9).alloc (.cells #[.int .i64 y.sets, .int .i64 y.ways, .int .i64 y.clock, .slice A5 n d5] 26)
    replace DB := (DB.below hb9).alloc (.cells #[.int .i64 y.sets, .int .i64 y.ways, .int .i64 y.clock, .slice A5 n d5] 26)
    clear own9 hb9 cU x0 x1 x2 x3
    obtain ⟨_, nl1, nl2, nl3⟩ := NUM.out
    have nCT : CX ≠ TX := Nat.ne_of_lt (by omega)
    have nCV : CX ≠ VX := Nat.ne_of_lt (by omega)
    have nCL : CX ≠ LX := Nat.ne_of_lt (by omega)
    have nTC : TX ≠ CX := Nat.ne_of_gt (by omega)
    have nTV : TX ≠ VX := Nat.ne_of_lt (by omega)
    have nTL : TX ≠ LX := Nat.ne_of_lt (by omega)
    have nVC : VX ≠ CX := Nat.ne_of_gt (by omega)
    have nVT : VX ≠ TX := Nat.ne_of_gt (by omega)
    have nVL : VX ≠ LX := Nat.ne_of_lt (by omega)
    have nLC : LX ≠ CX := Nat.ne_of_gt (by omega)
    have nLT : LX ≠ TX := Nat.ne_of_gt (by omega)
    have nLV : LX ≠ VX := Nat.ne_of_gt (by omega)
    clear nl1 nl2 nl3
    have tc : (w9.alloc (.cells #[.int .i64 y.sets, .int .i64 y.ways, .int .i64 y.clock, .slice A5 n d5] 26)).cell? ⟨TX, t, none⟩ = some (.bool false) := (M.ta.cell ht).trans (congrArg (fun b => some (Value.bool b)) HTH.out)
    have tf := M.ta.frozen t
    have lc := M.al.cell ht
    have lf := M.al.frozen t
    have x0 := M.cv.V.cell 0 _ rfl
    have x1 := M.cv.V.cell 1 _ rfl
    have x2 := M.cv.V.cell 2 _ rfl
    have x3 := M.cv.V.cell 3 _ rfl
    have g0 := M.cv.V.froz 0
    have g1 := M.cv.V.froz 1
    have g2 := M.cv.V.froz 2
    have g3 := M.cv.V.froz 3
    have bc0 := BB.cell 0 _ rfl
    have bc1 := BB.cell 1 _ rfl
    have bc2 := BB.cell 2 _ rfl
    have bc3 := BB.cell 3 _ rfl
    have M2 := Lib.hid ((M.setT t false).setC (own5.set (X := TX) (by have := NUM.out; omega) t _) hL6)
    have cR := fun w1 (h : CIn w1 A5 y.lines hs5) => right_any A5 d5 n y hs5 w1 h HI2.out.num HI2.out.wf
    rw [HI2.out.right] at cR
    clear M DB BB own5 z1 z2
    have hwi := HWI.out
    go_wp2_with fail
    clear hwi
    refine (cR _ M2.out.cv.cin).mono ?_
    rintro e w12 ⟨rfl, hb12⟩
    have M3 := Lib.hid (M2.out.below hb12)
    clear cR M2 hb12
    clear x0 x1 x2 x3 g0 g1 g2 g3 bc0 bc1 bc2 bc3
    go_wp2_with fail
    go_roundg (150 - (i + 1))
    case measure => exact meas HI1.out HGI.out
    case rel => exact ⟨i + 1, y, A5, d5, hs5, _, _, _, HI1.out, Nat.le_refl _, by first | rfl | (rw [HWI.out, ← HJ1.out]; rfl), (show Aside _ from HI2.out), (show Aside _ from M3.out)⟩
end Go.Proofs.Ytdndanjabknjpaa
