/- CacheModel: a part of its walk. -/
import Derived.Test.YtdndanjabknjpaaAK
namespace Go.Proofs.Ytdndanjabknjpaa
open Go.RowKit Go.Lib

set_option linter.unusedVariables false
attribute [local go_sem] Act.puts
attribute [local go_sem high] eq32
set_option maxHeartbeats 40000000 in
set_option maxRecDepth 1000000 in
theorem model_b {w : World} {am ac : Nat} {A : Option Addr} {l : List Dw} {n m : Nat} (hbig : am ≤ 9223372036854775807) (HN : Hid (l.length = am)) (HS : Hid (Sl 4 Dw.enc w A l)) (HG : Hid (∀ q ∈ l, q.good)) (hn1 : 1 ≤ n) (hn8 : n ≤ 8) (hm1 : 1 ≤ m) (hm8 : m ≤ 8) (hn6 : n ≤ 1000000)
    {CX TX VX LX gk i : Nat} {wr : World} {x : Ca} {A0 : Option Addr} {c0 : Nat} {hs1 : List Hd} {th : Nat → Bool} {va la : Nat → Int} (hi : i ≤ 150) (hgi : 150 - i ≤ gk) (HI : Aside (MInv n m i x th va la)) (HM : Aside (MS w wr CX TX VX LX n x A0 c0 hs1 th va la))
    (hlt : i < am ∧ i < 150) (hkind : l[i]!.kind.tmod 3 = 0) (hT : th l[i]!.addr.toNat = false) (hC : cnt n (l[i]!.addr.toNat % n) th 256 = m)
    {u6 u15 u16 u17 u18 u19 u20 u21 u22 u23 u24 u25 u26 u27 u50 u51 u52 u53 u54 u55 u56 u57 u58 u59 u60 u61 u62 u63 u64 u65 u66 u67 u68 u69 u70 u71 u72 u73 u74 u75 u76 u77 u78 u79 u80 u81 u82 u83 u84 u85 u86 u87 u88 u89 u90 u91 u92 u93 u94 u95 u96 u97 u98 u99 u100 u101 u102 u103 u104 u105 u106 u107 u108 u109 u110 u111 u112 u113 u114 u115 u116 u117 u118 u119 u120 u121 u122 u123 u124 u125 u126 u127 u128 u129 u130 u131 u132 u133 u134 u135 u136 u137 u138 u139 u140 u141 u142 u143 u144 u145 u146 u147 u148 u149 u150 u151 u152 u153 u154 u155 u156 u157 u158 u159 u160 u161 u162 u163 u164 u165 u166 u167 u168 u169 u170 u171 u172 u173 u174 u175 u176 u177 u178 u179 u180 u181 u182 u183 u184 u185 u186 u187 u188 u189 u190 u191 u192 u193 u194 u195 u196 u197 u198 u199 u200 u201 u202 u203 u204 u205 u206 u207 u208 u209 u210 u211 u212 u213 u214 u215 u216 u217 u218 u219 u220 f0 f1 f3 f4 f5 f10 f28 f29 f30 f31 f32 f33 f34 f35 f36 f37 f38 f39 f40 f41 f42 f43 f44 f45 f46 f47 f48 f49 f221 f222 f223 f224 f225 f226 f227 f228 f229 f230 f231 f232 f233 f234 f235 f236 f237 f238 f239 f240 f241 f242 f243 f244 f245 f246 f247 f248 f249 f250 f251 f252 f253 f254 : Value} {J : Nat → Act → World → Prop} {K : Act → World → Prop} {Q1 : Exit → Act → World → Prop} (hK : ∀ a' w', Handed J gk a' w' → K a' w') (hJ : ∀ (k : Nat) (a' : Act) (w' : World), (∃ u6 u14 u15 u16 u17 u18 u19 u20 u21 u22 u23 u24 u25 u26 u27 u50 u51 u52 u53 u54 u55 u56 u57 u58 u59 u60 u61 u62 u63 u64 u65 u66 u67 u68 u69 u70 u71 u72 u73 u74 u75 u76 u77 u78 u79 u80 u81 u82 u83 u84 u85 u86 u87 u88 u89 u90 u91 u92 u93 u94 u95 u96 u97 u98 u99 u100 u101 u102 u103 u104 u105 u106 u107 u108 u109 u110 u111 u112 u113 u114 u115 u116 u117 u118 u119 u120 u121 u122 u123 u124 u125 u126 u127 u128 u129 u130 u131 u132 u133 u134 u135 u136 u137 u138 u139 u140 u141 u142 u143 u144 u145 u146 u147 u148 u149 u150 u151 u152 u153 u154 u155 u156 u157 u158 u159 u160 u161 u162 u163 u164 u165 u166 u167 u168 u169 u170 u171 u172 u173 u174 u175 u176 u177 u178 u179 u180 u181 u182 u183 u184 u185 u186 u187 u188 u189 u190 u191 u192 u193 u194 u195 u196 u197 u198 u199 u200 u201 u202 u203 u204 u205 u206 u207 u208 u209 u210 u211 u212 u213 u214 u215 u216 u217 u218 u219 u220 : Value, (∃ (i : Nat) (x : Ca) (A0 : Option Addr) (c0 : Nat) (hs1 : List Hd) (th : Nat → Bool) (va la : Nat → Int), i ≤ 150 ∧ 150 - i ≤ k ∧ u14 = .int .i64 (i : Int) ∧ Aside (MInv n m i x th va la) ∧ Aside (MS w w' CX TX VX LX n x A0 c0 hs1 th va la)) ∧ a' = (⟨#[f0, f1, .slice A am ac, f3, f4, f5, u6, .int .i64 (n : Int), .int .i64 (m : Int), .pointer (some ⟨CX, 0, none⟩), f10, .pointer (some ⟨TX, 0, none⟩), .pointer (some ⟨VX, 0, none⟩), .pointer (some ⟨LX, 0, none⟩), u14, u15, u16, u17, u18, u19, u20, u21, u22, u23, u24, u25, u26, u27, f28, f29, f30, f31, f32, f33, f34, f35, f36, f37, f38, f39, f40, f41, f42, f43, f44, f45, f46, f47, f48, f49, u50, u51, u52, u53, u54, u55, u56, u57, u58, u59, u60, u61, u62, u63, u64, u65, u66, u67, u68, u69, u70, u71, u72, u73, u74, u75, u76, u77, u78, u79, u80, u81, u82, u83, u84, u85, u86, u87, u88, u89, u90, u91, u92, u93, u94, u95, u96, u97, u98, u99, u100, u101, u102, u103, u104, u105, u106, u107, u108, u109, u110, u111, u112, u113, u114, u115, u116, u117, u118, u119, u120, u121, u122, u123, u124, u125, u126, u127, u128, u129, u130, u131, u132, u133, u134, u135, u136, u137, u138, u139, u140, u141, u142, u143, u144, u145, u146, u147, u148, u149, u150, u151, u152, u153, u154, u155, u156, u157, u158, u159, u160, u161, u162, u163, u164, u165, u166, u167, u168, u169, u170, u171, u172, u173, u174, u175, u176, u177, u178, u179, u180, u181, u182, u183, u184, u185, u186, u187, u188, u189, u190, u191, u192, u193, u194, u195, u196, u197, u198, u199, u200, u201, u202, u203, u204, u205, u206, u207, u208, u209, u210, u211, u212, u213, u214, u215, u216, u217, u218, u219, u220, f221, f222, f223, f224, f225, f226, f227, f228, f229, f230, f231, f232, f233, f234, f235, f236, f237, f238, f239, f240, f241, f242, f243, f244, f245, f246, f247, f248, f249, f250, f251, f252, f253, f254], []⟩ : Act)) → J k a' w') :
    Code.wp Try.prog modelBody (Exit.then K Q1) (⟨#[f0, f1, .slice A am ac, f3, f4, f5, u6, .int .i64 (n : Int), .int .i64 (m : Int), .pointer (some ⟨CX, 0, none⟩), f10, .pointer (some ⟨TX, 0, none⟩), .pointer (some ⟨VX, 0, none⟩), .pointer (some ⟨LX, 0, none⟩), .int .i64 (i : Int), u15, u16, u17, u18, u19, u20, u21, u22, u23, u24, u25, u26, u27, f28, f29, f30, f31, f32, f33, f34, f35, f36, f37, f38, f39, f40, f41, f42, f43, f44, f45, f46, f47, f48, f49, u50, u51, u52, u53, u54, u55, u56, u57, u58, u59, u60, u61, u62, u63, u64, u65, u66, u67, u68, u69, u70, u71, u72, u73, u74, u75, u76, u77, u78, u79, u80, u81, u82, u83, u84, u85, u86, u87, u88, u89, u90, u91, u92, u93, u94, u95, u96, u97, u98, u99, u100, u101, u102, u103, u104, u105, u106, u107, u108, u109, u110, u111, u112, u113, u114, u115, u116, u117, u118, u119, u120, u121, u122, u123, u124, u125, u126, u127, u128, u129, u130, u131, u132, u133, u134, u135, u136, u137, u138, u139, u140, u141, u142, u143, u144, u145, u146, u147, u148, u149, u150, u151, u152, u153, u154, u155, u156, u157, u158, u159, u160, u161, u162, u163, u164, u165, u166, u167, u168, u169, u170, u171, u172, u173, u174, u175, u176, u177, u178, u179, u180, u181, u182, u183, u184, u185, u186, u187, u188, u189, u190, u191, u192, u193, u194, u195, u196, u197, u198, u199, u200, u201, u202, u203, u204, u205, u206, u207, u208, u209, u210, u211, u212, u213, u214, u215, u216, u217, u218, u219, u220, f221, f222, f223, f224, f225, f226, f227, f228, f229, f230, f231, f232, f233, f234, f235, f236, f237, f238, f239, f240, f241, f242, f243, f244, f245, f246, f247, f248, f249, f250, f251, f252, f253, f254], []⟩ : Act) wr := by
  conv => arg 2; whnf
  obtain ⟨hlt1, hlt2⟩ := hlt
  have z1 : (i : Int) < (am : Int) := by omega
  have z2 : (i : Int) < 150 := by omega
  have hil : i < l.length := by rw [HN.out]; exact hlt1
  obtain ⟨ab, ao, rfl, hq0⟩ := (HS.out.below HM.out.b).at_ i hil
  have d0 := hq0 0 _ rfl
  have d1 := hq0 1 _ rfl
  have d2 := hq0 2 _ rfl
  have d3 := hq0 3 _ rfl
  rw [Nat.add_zero] at d0
  obtain ⟨⟨k0, k1⟩, ⟨a0, a1⟩, ⟨s0, s1⟩⟩ := HG.out l[i]! (by rw [getElem!_pos l i hil]; exact List.getElem_mem _)
  clear hq0 hil
  generalize l[i]! = q at *
  obtain ⟨qk, qa, qs, v⟩ := q
  dsimp only at d0 d1 d2 d3 k0 k1 a0 a1 s0 s1 hkind hT hC
  obtain ⟨t, rfl⟩ : ∃ t : Nat, qa = (t : Int) := ⟨qa.toNat, by omega⟩
  have ht : t < 256 := by omega
  simp only [Int.toNat_natCast] at hT hC
  have HT := Lib.hid hT
  clear hT
  have HC := Lib.hid hC
  clear hC
  have htz : (t : Int) < 256 := by omega
  have HWT := Lib.hid (show IntKind.i64.wrap (t : Int) = (t : Int) from IntWalk.i64_in _ (by omega))
  obtain ⟨j1, hj1⟩ : ∃ j1 : Int, (i : Int) + 1 = j1 := ⟨_, rfl⟩
  have HWI := Lib.hid (show wrap64 ((i : Int) + 1) = j1 by rw [← hj1]; unfold wrap64; omega)
  have HWI2 := Lib.hid (show IntKind.i64.wrap ((i : Int) + 1) = j1 by rw [← hj1]; exact IntWalk.i64_in _ (by omega))
  have HJ1 := Lib.hid hj1
  clear hj1
  obtain ⟨s, hS⟩ : ∃ s : Nat, t % n = s := ⟨_, rfl⟩
  have hs8 : s < n := by rw [← hS]; exact Nat.mod_lt _ hn1
  have hrm2 : (t : Int) % (n : Int) = (s : Int) := by omega
  have HRM2 := Lib.hid hrm2
  have HRM := Lib.hid (show (t : Int).tmod (n : Int) = (s : Int) by rw [Int.tmod_eq_emod_of_nonneg (by omega)]; exact hrm2)
  have HWS := Lib.hid (show IntKind.i64.wrap (s : Int) = (s : Int) from IntWalk.i64_in _ (by omega))
  have N0 := Lib.hid (show ((n : Int) == 0) = false by rw [beq_eq_false_iff_ne]; omega)
  have n0' : ¬ n = 0 := by omega
  clear hrm2
  obtain ⟨r, hr0, hr1, hr2⟩ : ∃ r : Int, qs.tmod 4 = r ∧ 0 ≤ r ∧ r < 4 := by
    rw [Int.tmod_eq_emod_of_nonneg s0]
    exact ⟨_, rfl, Int.emod_nonneg _ (by omega), Int.emod_lt_of_pos _ (by omega)⟩
  have HR0 := Lib.hid hr0
  clear hr0
  have HR3 := Lib.hid (show IntKind.u8.wrap r = r by simp [IntKind.wrap, IntKind.signed, IntKind.bits]; omega)
  have HR4 := Lib.hid (show IntKind.i64.wrap r = r from IntWalk.i64_in _ (by omega))
  obtain ⟨st, hst⟩ : ∃ st : Int, r + 1 = st := ⟨_, rfl⟩
  have HR5 := Lib.hid (show wrap64 (r + 1) = st by rw [← hst]; unfold wrap64; omega)
  have hst2 : 1 ≤ st ∧ st ≤ 4 := by omega
  have hkd : qk.tmod 3 = 0 := hkind
  have HKD := Lib.hid hkd
  have DB := Bx.new wr [.int .u8 qk, .int .u8 (t : Int), .int .u8 qs, .int .u32 v] 55
  have HX := HM.out
  have M := HM.out.alloc (.cells #[.int .u8 qk, .int .u8 (t : Int), .int .u8 qs, .int .u32 v] 55)
  have hDX := HM.out.al.lt
  have NUM := Lib.hid HM.out.num
  have HCAP := Lib.hid (HI.out.cap hm8)
  have HST := Lib.hid hst2
  have HSM := Lib.hid hS
  have HGI := Lib.hid hgi
  have HHI := Lib.hid hi
  have HS8 := Lib.hid hs8
  have hi5 : i ≤ 1000 := by omega
  have HI5 := Lib.hid hi5
  have HI1 := Lib.hid hlt2
  clear hkd k0 k1 a0 a1 s0 s1 HM hst hst2 hS hr1 hr2 hgi hi hs8 hlt1 hlt2 hi5
  have hCXl := HX.cv.V.lt
  have x0 := HX.cv.V.cell 0 _ rfl
  have x1 := HX.cv.V.cell 1 _ rfl
  have x2 := HX.cv.V.cell 2 _ rfl
  have x3 := HX.cv.V.cell 3 _ rfl
  clear HX
  have hwt := HWT.out
  have hkd := HKD.out
  have hkw : IntKind.u8.wrap 0 = 0 := rfl
  have hrm := HRM.out
  have hrm2 := HRM2.out
  have hws := HWS.out
  have n0 := N0.out
  go_wp2_with fail
  clear hwt hkd hkw
  generalize wr.alloc (.cells #[.int .u8 qk, .int .u8 (t : Int), .int .u8 qs, .int .u32 v] 55) = W6 at *
  generalize wr.heap.size = DX at *
  have hL6 := M.al.lt
  clear hrm hrm2 hws n0 x0 x1 x2 x3 d0 d1 d2 d3
  have hD6 : DX < W6.heap.size := DB.lt
  go_loopg [17, 18] 264 (fun gg s17 s18 wr => ∃ (k c : Nat), Aside (k % n = s) ∧ k < 264 ∧ 264 - k ≤ gg ∧ s18 = .int .i64 (k : Int) ∧ s17 = .int .i64 (c : Int) ∧ Aside (c = cnt n s th k) ∧ wr = W6)
  case atStart => exact ⟨s, 0, (show Aside _ from Nat.mod_eq_of_lt HS8.out), by have := HS8.out; omega, by omega, rfl, rfl, (show Aside _ from by show 0 = _; rw [← HSM.out, cnt_start]), rfl⟩
  case round =>
    obtain ⟨k, c, HKS, hk, hgk, rfl, rfl, HCT, rfl⟩ := hrel
    by_cases hkt : k < 256
    · have hkz : (k : Int) < 256 := by omega
      have tc := M.ta.cell hkt
      have HWK := Lib.hid (show wrap64 ((k : Int) + (n : Int)) = ((k + n : Nat) : Int) by unfold wrap64; omega)
      cases hth : th k with
      | true =>
        simp only [hth] at tc
        have HTK := Lib.hid hth
        have HWC := Lib.hid (show wrap64 ((c : Int) + 1) = ((c + 1 : Nat) : Int) by have h1 := HCT.out; have h2 := cnt_le n s th k; unfold wrap64; omega)
        clear hth
        go_wp2_with fail
        go_roundg (264 - (k + n))
        case measure => omega
        case rel => exact ⟨k + n, c + 1, (show Aside _ from by show _ = _; rw [Nat.add_mod_right]; exact HKS.out), by omega, by omega, by first | rfl | rw [HWK.out], by first | rfl | rw [HWC.out], (show Aside _ from by show _ = _; rw [cnt_step_t hn1 hkt HKS.out HTK.out, ← HCT.out]), rfl⟩
      | false =>
        simp only [hth] at tc
        have HTK := Lib.hid hth
        clear hth
        go_wp2_with fail
        go_roundg (264 - (k + n))
        case measure => omega
        case rel => exact ⟨k + n, c, (show Aside _ from by show _ = _; rw [Nat.add_mod_right]; exact HKS.out), by omega, by omega, by first | rfl | rw [HWK.out], rfl, (show Aside _ from by show _ = _; rw [cnt_step_f hn1 hkt HKS.out HTK.out, ← HCT.out]), rfl⟩
    · have hkz : ¬ (k : Int) < 256 := by omega
      have hc : c = cnt n s th 256 := HCT.out.trans (cnt_end (by omega))
      have HCC := Lib.hid hc
      have hc256 : c ≤ 256 := by rw [hc]; exact cnt_le _ _ _ _
      have HC256 := Lib.hid hc256
      clear hc HCT HKS hgk hk hkt hc256
      obtain ⟨W6, rfl⟩ : ∃ W6, W6 = wr := ⟨_, rfl⟩
      obtain ⟨y, z, hy, hyn, hcase⟩ := HI.out.put2 (v := v) hn1 ht HI5.out HST.out
      rw [HSM.out, ← HCC.out] at hcase
      try rw [HJ1.out] at hcase
      rcases hcase with ⟨hz, hth, hi2⟩ | ⟨hth, hcm, hz, k2, hk2, hza, hks2, hthk, hvk, hord, hi2⟩
      · exact absurd hth (by rintro (h | h)
                             · rw [HT.out] at h; cases h
                             · exact h (by rw [HCC.out, ← HSM.out]; exact HC.out))
      · obtain ⟨za, zs, zv, zu⟩ := z
        dsimp only at hza hvk
        subst hza
        subst hvk
        have hzz : ((k2 : Int) == 0 && (zs == 0 && (va k2 == 0 && (zu == 0)))) = false := by
          rw [← Bool.not_eq_true]
          intro h
          apply hz
          simp only [Bool.and_eq_true, beq_iff_eq] at h
          rw [h.1, h.2.1, h.2.2.1, h.2.2.2]
          rfl
        have HZZ := Lib.hid hzz
        have HCM := Lib.hid (show ((c : Int) == (m : Int)) = true by rw [beq_iff_eq]; omega)
        have HTH := Lib.hid hth
        have HTHK := Lib.hid hthk
        have HORD := Lib.hid hord
        have HKS2 := Lib.hid (show k2 % n = s from hks2)
        have k2z : (k2 : Int) < 256 := by omega
        have k2z' : ¬ (255 : Int) < (k2 : Int) := by omega
        have k2z0 : ¬ (k2 : Int) < 0 := by omega
        have HRMK := Lib.hid (show (k2 : Int).tmod (n : Int) = (s : Int) by rw [Int.tmod_eq_emod_of_nonneg (by omega)]; omega)
        have HRMK2 := Lib.hid (show (k2 : Int) % (n : Int) = (s : Int) by omega)
        clear hzz hz hcm hth hthk hord hks2
        have x0 := M.cv.V.cell 0 _ rfl
        have x1 := M.cv.V.cell 1 _ rfl
        have x2 := M.cv.V.cell 2 _ rfl
        have x3 := M.cv.V.cell 3 _ rfl
        have e2 := DB.cell 2 _ rfl
        have e3 := DB.cell 3 _ rfl
        have cP := fun wz (h : CIn wz A0 x.lines hs1) => GivesP.num (put_any A0 c0 n x hs1 (t : Int) st v wz h HI.out.num hn6 HCAP.out HI.out.wf) hy hyn
        have HI2 := Lib.hid hi2
        have HYN := Lib.hid hyn
        clear hy hi2 hyn z1 z2
        have hr0 := HR0.out
        have hr3 := HR3.out
        have hr4 := HR4.out
        have hr5 := HR5.out
        go_wp2_with fail
        clear hr0 hr3 hr4 hr5
        refine (cP _ M.cv.cin).mono ?_
        rintro e w9 ⟨A5, d5, hs5, rfl, own9, hb9⟩
        have own5 := (own9.below ((Below.refl _ _).alloc (Nat.le_refl _) (.cells #[.int .i64 y.sets, .int .i64 y.ways, .int .i64 y.clock, .slice A5 n d5] 26))).below ((Below.refl _ _).alloc (Nat.le_refl _) (.cells #[.int .i64 (k2 : Int), .int .i64 zs, .int .u32 (va k2), .int .i64 zu] 32))
        have BB := (Bx.new w9 [.int .i64 y.sets, .int .i64 y.ways, .int .i64 y.clock, .slice A5 n d5] 26).alloc (.cells #[.int .i64 (k2 : Int), .int .i64 zs, .int .u32 (va k2), .int .i64 zu] 32)
        have ZB := Bx.new (w9.alloc (.cells #[.int .i64 y.sets, .int .i64 y.ways, .int .i64 y.clock, .slice A5 n d5] 26)) [.int .i64 (k2 : Int), .int .i64 zs, .int .u32 (va k2), .int .i64 zu] 32
        rw [show (w9.alloc (.cells #[.int .i64 y.sets, .int .i64 y.ways, .int .i64 y.clock, .slice A5 n d5] 26)).heap.size = w9.heap.size + 1 by simp] at ZB
        replace M := ((M.below hb9).alloc (.cells #[.int .i64 y.sets, .int .i64 y.ways, .int .i64 y.clock, .slice A5 n d5] 26)).alloc (.cells #[.int .i64 (k2 : Int), .int .i64 zs, .int .u32 (va k2), .int .i64 zu] 32)
        replace DB := ((DB.below hb9).alloc (.cells #[.int .i64 y.sets, .int .i64 y.ways, .int .i64 y.clock, .slice A5 n d5] 26)).alloc (.cells #[.int .i64 (k2 : Int), .int .i64 zs, .int .u32 (va k2), .int .i64 zu] 32)
        have hL9 := Nat.lt_of_lt_of_le hL6 hb9.size
        have hDB9 := Nat.lt_of_lt_of_le hD6 hb9.size
        clear own9 hb9 cP x0 x1 x2 x3 e2 e3
        have HL9 := Lib.hid hL9
        have HD9 := Lib.hid hDB9
        clear hL9 hDB9
        go_wp2_with fail
        generalize ((w9.alloc (.cells #[.int .i64 y.sets, .int .i64 y.ways, .int .i64 y.clock, .slice A5 n d5] 26)).alloc (.cells #[.int .i64 (k2 : Int), .int .i64 zs, .int .u32 (va k2), .int .i64 zu] 32)) = W9 at *
        generalize w9.heap.size = BX at *
        generalize BX + 1 = ZX at *
        have hL6' := Lib.hid hL6
        clear hL6
        have zb0 := ZB.cell 0 _ rfl
        have zb1 := ZB.cell 1 _ rfl
        have zb2 := ZB.cell 2 _ rfl
        have zb3 := ZB.cell 3 _ rfl
        have tc : W9.cell? ⟨TX, t, none⟩ = some (.bool false) := (M.ta.cell ht).trans (congrArg (fun b => some (Value.bool b)) HTH.out)
        have hcm := HCM.out
        have hzz := HZZ.out
        go_quiet (fail)
        have hdr := bdrewN (Below.refl W9.heap.size W9) nq
        replace M := M.below hdr
        replace DB := DB.below hdr
        replace BB := BB.below hdr
        replace ZB := ZB.below hdr
        replace own5 := own5.below hdr
        clear hdr tc zb0 zb1 zb2 zb3 hcm
        generalize W9.drewN nq = W10 at *
        have zb0 := ZB.cell 0 _ rfl
        have zb1 := ZB.cell 1 _ rfl
        have zb2 := ZB.cell 2 _ rfl
        have zb3 := ZB.cell 3 _ rfl
        go_wp2_with fail
        have tk := (M.ta.cell hk2).trans (congrArg (fun b => some (Value.bool b)) HTHK.out)
        have vk := M.av.cell hk2
        have hrm := HRM.out
        have hrm2 := HRM2.out
        have hrmk := HRMK.out
        have hrmk2 := HRMK2.out
        have hws := HWS.out
        have n0 := N0.out
        go_quiet (fail)
        have hdr := bdrewN (Below.refl W10.heap.size W10) nq
        replace M := M.below hdr
        replace DB := DB.below hdr
        replace BB := BB.below hdr
        replace own5 := own5.below hdr
        clear hdr tk vk zb0 zb1 zb2 zb3 ZB
        generalize W10.drewN nq = W11 at *
        go_wp2_with fail
        clear hrm hrm2 hrmk hrmk2 hws n0
        go_loopg [23] 264 (fun gg s23 wr => ∃ o : Nat, Aside (o % n = s) ∧ o < 264 ∧ 264 - o ≤ gg ∧ s23 = .int .i64 (o : Int) ∧ Aside (Below W11.heap.size W11 wr))
        case atStart => exact ⟨s, (show Aside _ from Nat.mod_eq_of_lt HS8.out), by have := HS8.out; omega, by omega, rfl, (show Aside _ from Below.refl _ _)⟩
        case round =>
          obtain ⟨o, HOS, ho, hgo, rfl, HB⟩ := hrel
          replace M := M.below HB.out
          by_cases hot : o < 256
          · have hoz : (o : Int) < 256 := by omega
            have tto := M.ta.cell hot
            have lo := M.al.cell hot
            have lk := M.al.cell hk2
            have HWO := Lib.hid (show wrap64 ((o : Int) + (n : Int)) = ((o + n : Nat) : Int) by unfold wrap64; omega)
            cases hth : th o with
            | true =>
              simp only [hth] at tto
              have hll : decide (la o < la k2) = false := decide_eq_false (Int.not_lt.2 (HORD.out o hot HOS.out hth))
              clear hth
              go_wp2_with fail
              go_quiet (fail)
              go_wp2_with fail
              go_roundg (264 - (o + n))
              case measure => omega
              case rel => exact ⟨o + n, (show Aside _ from by show _ = _; rw [Nat.add_mod_right]; exact HOS.out), by omega, by omega, by first | rfl | rw [HWO.out], (show Aside _ from bdrewN HB.out _)⟩
            | false =>
              simp only [hth] at tto
              clear hth
              go_wp2_with fail
              go_quiet (fail)
              go_wp2_with fail
              go_roundg (264 - (o + n))
              case measure => omega
              case rel => exact ⟨o + n, (show Aside _ from by show _ = _; rw [Nat.add_mod_right]; exact HOS.out), by omega, by omega, by first | rfl | rw [HWO.out], (show Aside _ from bdrewN HB.out _)⟩
          · have hoz : ¬ (o : Int) < 256 := by omega
            replace DB := DB.below HB.out
            replace BB := BB.below HB.out
            replace own5 := own5.below HB.out
            have tk := M.ta.cell hk2
            have tf := M.ta.frozen k2
            clear HB HOS hgo ho hot
            go_wp2_with fail
            obtain ⟨_, nl1, nl2, nl3⟩ := NUM.out
            replace M := M.setT k2 false
            replace DB := DB.far (Y := TX) (Nat.ne_of_lt (Nat.lt_trans nl2 (Nat.lt_trans nl3 hDX))) k2 (.bool false)
            replace BB := BB.far (Y := TX) (Nat.ne_of_lt (Nat.lt_trans nl2 (Nat.lt_trans nl3 HL9.out))) k2 (.bool false)
            replace own5 := own5.set (X := TX) (Nat.lt_trans nl2 (Nat.lt_trans nl3 hL6'.out)) k2 (.bool false)
            clear tk tf nl1 nl2 nl3
            generalize wr.setCell ⟨TX, k2, none⟩ (.bool false) = W12 at *
            replace M := M.below (Below.refl _ _).drew
            replace DB := DB.below (Below.refl _ _).drew
            replace BB := BB.below (Below.refl _ _).drew
            replace own5 := own5.below (Below.refl _ _).drew
            obtain ⟨_, nl1, nl2, nl3⟩ := NUM.out
            have hLb := hL6'.out
            have hVb := Nat.lt_trans nl3 hLb
            have hTb := Nat.lt_trans nl2 hVb
            have nLD := Nat.ne_of_lt hDX
            have nVD := Nat.ne_of_lt (Nat.lt_trans nl3 hDX)
            have nTD := Nat.ne_of_lt (Nat.lt_trans nl2 (Nat.lt_trans nl3 hDX))
            have nLB := Nat.ne_of_lt HL9.out
            have nVB := Nat.ne_of_lt (Nat.lt_trans nl3 HL9.out)
            have nTB := Nat.ne_of_lt (Nat.lt_trans nl2 (Nat.lt_trans nl3 HL9.out))
            have HNUM := Lib.hid (And.intro nl1 (And.intro nl2 nl3))
            clear nl1 nl2 nl3
            have hwi := HWI.out
            have hwi2 := HWI2.out
            refine wp_region_rg (by kernel_rfl) (by kernel_rfl) [185, 186, 187, 188, 189, 190, 191, 192, 193, 194] (MoRPhi w CX TX VX LX DX BX W6.heap.size n t i c0 d5 x y A0 A5 hs1 hs5 (upd th k2 false) va la v j1 [.int .u8 qk, .int .u8 (t : Int), .int .u8 qs, .int .u32 v]) ?h0 ⟨?q0, ?q1, ?q2, ?q3, ?q4, ?q5, ?q6, ?q7, ?q8, ?q9, ?q10, ?q11, ?q12, trivial⟩ ?hend
            case h0 => exact ⟨_, _, _, _, _, _, _, _, _, _, _, rfl, ⟨trivial, (fun h => by cases h), (fun h => by cases h), (fun h => by cases h), (fun h => by cases h), (fun h => by cases h), (fun h => by cases h), (fun h => by cases h), (fun h => by cases h), (fun h => by cases h), (fun h => by cases h), (fun a b c ha hb hc => by
                    subst ha hb hc
                    exact M), (DB), (BB), (own5)⟩, rfl⟩
            case q0 =>
              rintro L vs w' K ⟨u185, u186, u187, u188, u189, u190, u191, u192, u193, u194, wz, rfl, φ, rfl⟩ hL hpre hcl hK G hG
              simp [Region.binds, closedFrom] at hpre hcl
              have hk := hK [(.int .i64 (t : Int)), u186, u187, u188, u189, u190, u191, u192, u193, u194] wz ⟨_, _, _, _, _, _, _, _, _, _, wz, rfl,
                { b := φ.b,
                  s0 := fun _ => rfl,
                  s1 := fun h0 => φ.s1 (by simpa using h0),
                  s2 := fun h0 => φ.s2 (by simpa using h0),
                  s3 := fun h0 => φ.s3 (by simpa using h0),
                  s4 := fun h0 => φ.s4 (by simpa using h0),
                  s5 := fun h0 => φ.s5 (by simpa using h0),
                  s6 := fun h0 => φ.s6 (by simpa using h0),
                  s7 := fun h0 => φ.s7 (by simpa using h0),
                  s9 := fun h0 => φ.s9 (by simpa using h0),
                  s11 := fun h0 => φ.s11 (by simpa using h0),
                  ms := fun a b c ha hb hc => φ.ms a b c (by simpa using ha) (by simpa using hb) (by simpa using hc),
                  db := φ.db,
                  bb := φ.bb,
                  ow := φ.ow }, rfl⟩
              refine hG ?_
              clear hK φ hG
              revert hk
              go_simp
              first | done | exact fun h => h
            case q1 =>
              rintro L vs w' K ⟨u185, u186, u187, u188, u189, u190, u191, u192, u193, u194, wz, rfl, φ, rfl⟩ hL hpre hcl hK G hG
              simp [Region.binds, closedFrom] at hpre hcl
              have hk := hK [u185, (.int .i64 (t : Int)), u187, u188, u189, u190, u191, u192, u193, u194] wz ⟨_, _, _, _, _, _, _, _, _, _, wz, rfl,
                { b := φ.b,
                  s0 := fun h0 => φ.s0 (by simpa using h0),
                  s1 := fun _ => rfl,
                  s2 := fun h0 => φ.s2 (by simpa using h0),
                  s3 := fun h0 => φ.s3 (by simpa using h0),
                  s4 := fun h0 => φ.s4 (by simpa using h0),
                  s5 := fun h0 => φ.s5 (by simpa using h0),
                  s6 := fun h0 => φ.s6 (by simpa using h0),
                  s7 := fun h0 => φ.s7 (by simpa using h0),
                  s9 := fun h0 => φ.s9 (by simpa using h0),
                  s11 := fun h0 => φ.s11 (by simpa using h0),
                  ms := fun a b c ha hb hc => φ.ms a b c (by simpa using ha) (by simpa using hb) (by simpa using hc),
                  db := φ.db,
                  bb := φ.bb,
                  ow := φ.ow }, rfl⟩
              refine hG ?_
              clear hK φ hG
              revert hk
              go_simp
              first | done | exact fun h => h
            case q2 =>
              rintro L vs w' K ⟨u185, u186, u187, u188, u189, u190, u191, u192, u193, u194, wz, rfl, φ, rfl⟩ hL hpre hcl hK G hG
              simp [Region.binds, closedFrom] at hpre hcl
              have hk := hK [u185, u186, (.int .i64 (t : Int)), u188, u189, u190, u191, u192, u193, u194] wz ⟨_, _, _, _, _, _, _, _, _, _, wz, rfl,
                { b := φ.b,
                  s0 := fun h0 => φ.s0 (by simpa using h0),
                  s1 := fun h0 => φ.s1 (by simpa using h0),
                  s2 := fun _ => rfl,
                  s3 := fun h0 => φ.s3 (by simpa using h0),
                  s4 := fun h0 => φ.s4 (by simpa using h0),
                  s5 := fun h0 => φ.s5 (by simpa using h0),
                  s6 := fun h0 => φ.s6 (by simpa using h0),
                  s7 := fun h0 => φ.s7 (by simpa using h0),
                  s9 := fun h0 => φ.s9 (by simpa using h0),
                  s11 := fun h0 => φ.s11 (by simpa using h0),
                  ms := fun a b c ha hb hc => φ.ms a b c (by simpa using ha) (by simpa using hb) (by simpa using hc),
                  db := φ.db,
                  bb := φ.bb,
                  ow := φ.ow }, rfl⟩
              refine hG ?_
              clear hK φ hG
              revert hk
              go_simp
              first | done | exact fun h => h
            case q3 =>
              rintro L vs w' K ⟨u185, u186, u187, u188, u189, u190, u191, u192, u193, u194, wz, rfl, φ, rfl⟩ hL hpre hcl hK G hG
              simp [Region.binds, closedFrom] at hpre hcl
              have hk := hK [u185, u186, u187, (.pointer (some ⟨DX, 3, none⟩)), u189, u190, u191, u192, u193, u194] wz ⟨_, _, _, _, _, _, _, _, _, _, wz, rfl,
                { b := φ.b,
                  s0 := fun h0 => φ.s0 (by simpa using h0),
                  s1 := fun h0 => φ.s1 (by simpa using h0),
                  s2 := fun h0 => φ.s2 (by simpa using h0),
                  s3 := fun _ => rfl,
                  s4 := fun h0 => φ.s4 (by simpa using h0),
                  s5 := fun h0 => φ.s5 (by simpa using h0),
                  s6 := fun h0 => φ.s6 (by simpa using h0),
                  s7 := fun h0 => φ.s7 (by simpa using h0),
                  s9 := fun h0 => φ.s9 (by simpa using h0),
                  s11 := fun h0 => φ.s11 (by simpa using h0),
                  ms := fun a b c ha hb hc => φ.ms a b c (by simpa using ha) (by simpa using hb) (by simpa using hc),
                  db := φ.db,
                  bb := φ.bb,
                  ow := φ.ow }, rfl⟩
              refine hG ?_
              clear hK φ hG
              revert hk
              go_simp
              first | done | exact fun h => h
            case q4 =>
              rintro L vs w' K ⟨u185, u186, u187, u188, u189, u190, u191, u192, u193, u194, wz, rfl, φ, rfl⟩ hL hpre hcl hK G hG
              simp [Region.binds, closedFrom] at hpre hcl
              have e3 := φ.s3 (by simp [hpre])
              subst e3
              have ce := φ.db.cell 3 _ rfl
              have hk := hK [u185, u186, u187, (.pointer (some ⟨DX, 3, none⟩)), (.int .u32 v), u190, u191, u192, u193, u194] wz ⟨_, _, _, _, _, _, _, _, _, _, wz, rfl,
                { b := φ.b,
                  s0 := fun h0 => φ.s0 (by simpa using h0),
                  s1 := fun h0 => φ.s1 (by simpa using h0),
                  s2 := fun h0 => φ.s2 (by simpa using h0),
                  s3 := fun h0 => φ.s3 (by simpa using h0),
                  s4 := fun _ => rfl,
                  s5 := fun h0 => φ.s5 (by simpa using h0),
                  s6 := fun h0 => φ.s6 (by simpa using h0),
                  s7 := fun h0 => φ.s7 (by simpa using h0),
                  s9 := fun h0 => φ.s9 (by simpa using h0),
                  s11 := fun h0 => φ.s11 (by simpa using h0),
                  ms := fun a b c ha hb hc => φ.ms a b c (by simpa using ha) (by simpa using hb) (by simpa using hc),
                  db := φ.db,
                  bb := φ.bb,
                  ow := φ.ow }, rfl⟩
              refine hG ?_
              clear hK φ hG
              revert hk
              go_simp
              first | done | exact fun h => h
            case q5 =>
              rintro L vs w' K ⟨u185, u186, u187, u188, u189, u190, u191, u192, u193, u194, wz, rfl, φ, rfl⟩ hL hpre hcl hK G hG
              simp [Region.binds, closedFrom] at hpre hcl
              have hk := hK [u185, u186, u187, u188, u189, (.int .i64 (i : Int)), u191, u192, u193, u194] wz ⟨_, _, _, _, _, _, _, _, _, _, wz, rfl,
                { b := φ.b,
                  s0 := fun h0 => φ.s0 (by simpa using h0),
                  s1 := fun h0 => φ.s1 (by simpa using h0),
                  s2 := fun h0 => φ.s2 (by simpa using h0),
                  s3 := fun h0 => φ.s3 (by simpa using h0),
                  s4 := fun h0 => φ.s4 (by simpa using h0),
                  s5 := fun _ => rfl,
                  s6 := fun h0 => φ.s6 (by simpa using h0),
                  s7 := fun h0 => φ.s7 (by simpa using h0),
                  s9 := fun h0 => φ.s9 (by simpa using h0),
                  s11 := fun h0 => φ.s11 (by simpa using h0),
                  ms := fun a b c ha hb hc => φ.ms a b c (by simpa using ha) (by simpa using hb) (by simpa using hc),
                  db := φ.db,
                  bb := φ.bb,
                  ow := φ.ow }, rfl⟩
              refine hG ?_
              clear hK φ hG
              revert hk
              go_simp
              first | done | exact fun h => h
            case q6 =>
              rintro L vs w' K ⟨u185, u186, u187, u188, u189, u190, u191, u192, u193, u194, wz, rfl, φ, rfl⟩ hL hpre hcl hK G hG
              simp [Region.binds, closedFrom] at hpre hcl
              have e5 := φ.s5 (by simp [hpre])
              subst e5
              have hk := hK [u185, u186, u187, u188, u189, (.int .i64 (i : Int)), (.int .i64 j1), u192, u193, u194] wz ⟨_, _, _, _, _, _, _, _, _, _, wz, rfl,
                { b := φ.b,
                  s0 := fun h0 => φ.s0 (by simpa using h0),
                  s1 := fun h0 => φ.s1 (by simpa using h0),
                  s2 := fun h0 => φ.s2 (by simpa using h0),
                  s3 := fun h0 => φ.s3 (by simpa using h0),
                  s4 := fun h0 => φ.s4 (by simpa using h0),
                  s5 := fun h0 => φ.s5 (by simpa using h0),
                  s6 := fun _ => rfl,
                  s7 := fun h0 => φ.s7 (by simpa using h0),
                  s9 := fun h0 => φ.s9 (by simpa using h0),
                  s11 := fun h0 => φ.s11 (by simpa using h0),
                  ms := fun a b c ha hb hc => φ.ms a b c (by simpa using ha) (by simpa using hb) (by simpa using hc),
                  db := φ.db,
                  bb := φ.bb,
                  ow := φ.ow }, rfl⟩
              refine hG ?_
              clear hK φ hG
              revert hk
              go_simp
              first | done | exact fun h => h
            case q7 =>
              rintro L vs w' K ⟨u185, u186, u187, u188, u189, u190, u191, u192, u193, u194, wz, rfl, φ, rfl⟩ hL hpre hcl hK G hG
              simp [Region.binds, closedFrom] at hpre hcl
              have e0 := φ.s0 (by simp [hpre])
              subst e0
              have hk := hK [(.int .i64 (t : Int)), u186, u187, u188, u189, u190, u191, (.pointer (some ⟨TX, t, none⟩)), u193, u194] wz ⟨_, _, _, _, _, _, _, _, _, _, wz, rfl,
                { b := φ.b,
                  s0 := fun h0 => φ.s0 (by simpa using h0),
                  s1 := fun h0 => φ.s1 (by simpa using h0),
                  s2 := fun h0 => φ.s2 (by simpa using h0),
                  s3 := fun h0 => φ.s3 (by simpa using h0),
                  s4 := fun h0 => φ.s4 (by simpa using h0),
                  s5 := fun h0 => φ.s5 (by simpa using h0),
                  s6 := fun h0 => φ.s6 (by simpa using h0),
                  s7 := fun _ => rfl,
                  s9 := fun h0 => φ.s9 (by simpa using h0),
                  s11 := fun h0 => φ.s11 (by simpa using h0),
                  ms := fun a b c ha hb hc => φ.ms a b c (by simpa using ha) (by simpa using hb) (by simpa using hc),
                  db := φ.db,
                  bb := φ.bb,
                  ow := φ.ow }, rfl⟩
              refine hG ?_
              clear hK φ hG
              revert hk
              go_simp
              first | done | exact fun h => h
            case q8 =>
              rintro L vs w' K ⟨u185, u186, u187, u188, u189, u190, u191, u192, u193, u194, wz, rfl, φ, rfl⟩ hL hpre hcl hK G hG
              simp [Region.binds, closedFrom] at hpre hcl
              have e7 := φ.s7 (by simp [hpre])
              subst e7
              have M0 := φ.ms _ _ _ rfl rfl rfl
              have tc := M0.ta.cell ht
              have tf := M0.ta.frozen t
              have hk := hK [u185, u186, u187, u188, u189, u190, u191, (.pointer (some ⟨TX, t, none⟩)), u193, u194] (wz.setCell ⟨TX, t, none⟩ (.bool true)) ⟨_, _, _, _, _, _, _, _, _, _, (wz.setCell ⟨TX, t, none⟩ (.bool true)), rfl,
                { b := trivial,
                  s0 := fun h0 => φ.s0 (by simpa using h0),
                  s1 := fun h0 => φ.s1 (by simpa using h0),
                  s2 := fun h0 => φ.s2 (by simpa using h0),
                  s3 := fun h0 => φ.s3 (by simpa using h0),
                  s4 := fun h0 => φ.s4 (by simpa using h0),
                  s5 := fun h0 => φ.s5 (by simpa using h0),
                  s6 := fun h0 => φ.s6 (by simpa using h0),
                  s7 := fun h0 => φ.s7 (by simpa using h0),
                  s9 := fun h0 => φ.s9 (by simpa using h0),
                  s11 := fun h0 => φ.s11 (by simpa using h0),
                  ms := fun a b c ha hb hc => by
                      obtain rfl : a = true := by simpa using ha.symm
                      exact (φ.ms false b c hL (by simpa using hb) (by simpa using hc)).setT t true,
                  db := φ.db.far nTD _ _,
                  bb := φ.bb.far nTB _ _,
                  ow := φ.ow.set hTb _ _ }, rfl⟩
              refine hG ?_
              clear hK φ hG
              revert hk
              go_simp
              first | done | exact fun h => h
            case q9 =>
              rintro L vs w' K ⟨u185, u186, u187, u188, u189, u190, u191, u192, u193, u194, wz, rfl, φ, rfl⟩ hL hpre hcl hK G hG
              simp [Region.binds, closedFrom] at hpre hcl
              have e1 := φ.s1 (by simp [hpre])
              subst e1
              have hk := hK [u185, (.int .i64 (t : Int)), u187, u188, u189, u190, u191, u192, (.pointer (some ⟨VX, t, none⟩)), u194] wz ⟨_, _, _, _, _, _, _, _, _, _, wz, rfl,
                { b := φ.b,
                  s0 := fun h0 => φ.s0 (by simpa using h0),
                  s1 := fun h0 => φ.s1 (by simpa using h0),
                  s2 := fun h0 => φ.s2 (by simpa using h0),
                  s3 := fun h0 => φ.s3 (by simpa using h0),
                  s4 := fun h0 => φ.s4 (by simpa using h0),
                  s5 := fun h0 => φ.s5 (by simpa using h0),
                  s6 := fun h0 => φ.s6 (by simpa using h0),
                  s7 := fun h0 => φ.s7 (by simpa using h0),
                  s9 := fun _ => rfl,
                  s11 := fun h0 => φ.s11 (by simpa using h0),
                  ms := fun a b c ha hb hc => φ.ms a b c (by simpa using ha) (by simpa using hb) (by simpa using hc),
                  db := φ.db,
                  bb := φ.bb,
                  ow := φ.ow }, rfl⟩
              refine hG ?_
              clear hK φ hG
              revert hk
              go_simp
              first | done | exact fun h => h
            case q10 =>
              rintro L vs w' K ⟨u185, u186, u187, u188, u189, u190, u191, u192, u193, u194, wz, rfl, φ, rfl⟩ hL hpre hcl hK G hG
              simp [Region.binds, closedFrom] at hpre hcl
              have e9 := φ.s9 (by simp [hpre])
              subst e9
              have e4 := φ.s4 (by simp [hpre])
              subst e4
              have M0 := φ.ms _ _ _ rfl rfl rfl
              have tc := M0.av.cell ht
              have tf := M0.av.frozen t
              have hk := hK [u185, u186, u187, u188, (.int .u32 v), u190, u191, u192, (.pointer (some ⟨VX, t, none⟩)), u194] (wz.setCell ⟨VX, t, none⟩ (.int .u32 v)) ⟨_, _, _, _, _, _, _, _, _, _, (wz.setCell ⟨VX, t, none⟩ (.int .u32 v)), rfl,
                { b := trivial,
                  s0 := fun h0 => φ.s0 (by simpa using h0),
                  s1 := fun h0 => φ.s1 (by simpa using h0),
                  s2 := fun h0 => φ.s2 (by simpa using h0),
                  s3 := fun h0 => φ.s3 (by simpa using h0),
                  s4 := fun h0 => φ.s4 (by simpa using h0),
                  s5 := fun h0 => φ.s5 (by simpa using h0),
                  s6 := fun h0 => φ.s6 (by simpa using h0),
                  s7 := fun h0 => φ.s7 (by simpa using h0),
                  s9 := fun h0 => φ.s9 (by simpa using h0),
                  s11 := fun h0 => φ.s11 (by simpa using h0),
                  ms := fun a b c ha hb hc => by
                      obtain rfl : b = true := by simpa using hb.symm
                      exact (φ.ms a false c (by simpa using ha) hL (by simpa using hc)).setV t v,
                  db := φ.db.far nVD _ _,
                  bb := φ.bb.far nVB _ _,
                  ow := φ.ow.set hVb _ _ }, rfl⟩
              refine hG ?_
              clear hK φ hG
              revert hk
              go_simp
              first | done | exact fun h => h
            case q11 =>
              rintro L vs w' K ⟨u185, u186, u187, u188, u189, u190, u191, u192, u193, u194, wz, rfl, φ, rfl⟩ hL hpre hcl hK G hG
              simp [Region.binds, closedFrom] at hpre hcl
              have e2 := φ.s2 (by simp [hpre])
              subst e2
              have hk := hK [u185, u186, (.int .i64 (t : Int)), u188, u189, u190, u191, u192, u193, (.pointer (some ⟨LX, t, none⟩))] wz ⟨_, _, _, _, _, _, _, _, _, _, wz, rfl,
                { b := φ.b,
                  s0 := fun h0 => φ.s0 (by simpa using h0),
                  s1 := fun h0 => φ.s1 (by simpa using h0),
                  s2 := fun h0 => φ.s2 (by simpa using h0),
                  s3 := fun h0 => φ.s3 (by simpa using h0),
                  s4 := fun h0 => φ.s4 (by simpa using h0),
                  s5 := fun h0 => φ.s5 (by simpa using h0),
                  s6 := fun h0 => φ.s6 (by simpa using h0),
                  s7 := fun h0 => φ.s7 (by simpa using h0),
                  s9 := fun h0 => φ.s9 (by simpa using h0),
                  s11 := fun _ => rfl,
                  ms := fun a b c ha hb hc => φ.ms a b c (by simpa using ha) (by simpa using hb) (by simpa using hc),
                  db := φ.db,
                  bb := φ.bb,
                  ow := φ.ow }, rfl⟩
              refine hG ?_
              clear hK φ hG
              revert hk
              go_simp
              first | done | exact fun h => h
            case q12 =>
              rintro L vs w' K ⟨u185, u186, u187, u188, u189, u190, u191, u192, u193, u194, wz, rfl, φ, rfl⟩ hL hpre hcl hK G hG
              simp [Region.binds, closedFrom] at hpre hcl
              have e11 := φ.s11 (by simp [hpre])
              subst e11
              have e6 := φ.s6 (by simp [hpre])
              subst e6
              have M0 := φ.ms _ _ _ rfl rfl rfl
              have tc := M0.al.cell ht
              have tf := M0.al.frozen t
              have hk := hK [u185, u186, u187, u188, u189, u190, (.int .i64 j1), u192, u193, (.pointer (some ⟨LX, t, none⟩))] (wz.setCell ⟨LX, t, none⟩ (.int .i64 j1)) ⟨_, _, _, _, _, _, _, _, _, _, (wz.setCell ⟨LX, t, none⟩ (.int .i64 j1)), rfl,
                { b := trivial,
                  s0 := fun h0 => φ.s0 (by simpa using h0),
                  s1 := fun h0 => φ.s1 (by simpa using h0),
                  s2 := fun h0 => φ.s2 (by simpa using h0),
                  s3 := fun h0 => φ.s3 (by simpa using h0),
                  s4 := fun h0 => φ.s4 (by simpa using h0),
                  s5 := fun h0 => φ.s5 (by simpa using h0),
                  s6 := fun h0 => φ.s6 (by simpa using h0),
                  s7 := fun h0 => φ.s7 (by simpa using h0),
                  s9 := fun h0 => φ.s9 (by simpa using h0),
                  s11 := fun h0 => φ.s11 (by simpa using h0),
                  ms := fun a b c ha hb hc => by
                      obtain rfl : c = true := by simpa using hc.symm
                      exact (φ.ms a b false (by simpa using ha) (by simpa using hb) hL).setL t j1,
                  db := φ.db.far nLD _ _,
                  bb := φ.bb.far nLB _ _,
                  ow := φ.ow.set hLb _ _ }, rfl⟩
              refine hG ?_
              clear hK φ hG
              revert hk
              go_simp
              first | done | exact fun h => h
            case hend =>
              rintro vs w' ⟨u185, u186, u187, u188, u189, u190, u191, u192, u193, u194, wz, rfl, φ, rfl⟩ G hG
              have M : MS w wz CX TX VX LX n x A0 c0 hs1 (upd (upd th k2 false) t true) (upd va t v) (upd la t j1) := φ.ms true true true rfl rfl rfl
              have DB := φ.db
              have BB := φ.bb
              have own5 := φ.ow
              clear φ hwi hwi2
              refine hG ?_
              clear hG
              have hL6 := hL6'.out
              obtain ⟨_, nl1, nl2, nl3⟩ := NUM.out
              have nCT : CX ≠ TX := Nat.ne_of_lt (by omega)
              have nCV : CX ≠ VX := Nat.ne_of_lt (by omega)
              have nCL : CX ≠ LX := Nat.ne_of_lt (by omega)
              have nTC : TX ≠ CX := Nat.ne_of_gt (by omega)
              have nTV : TX ≠ VX := Nat.ne_of_lt (by omega)
              have nTL : TX ≠ LX := Nat.ne_of_lt (by omega)
              have nVC : VX ≠ CX := Nat.ne_of_gt (by omega)
              have nVT : VX ≠ TX := Nat.ne_of_gt (by omega)
              have nVL : VX ≠ LX := Nat.ne_of_lt (by omega)
              have nLC : LX ≠ CX := Nat.ne_of_gt (by omega)
              have nLT : LX ≠ TX := Nat.ne_of_gt (by omega)
              have nLV : LX ≠ VX := Nat.ne_of_gt (by omega)
              clear nl1 nl2 nl3
              have x0 := M.cv.V.cell 0 _ rfl
              have x1 := M.cv.V.cell 1 _ rfl
              have x2 := M.cv.V.cell 2 _ rfl
              have x3 := M.cv.V.cell 3 _ rfl
              have g0 := M.cv.V.froz 0
              have g1 := M.cv.V.froz 1
              have g2 := M.cv.V.froz 2
              have g3 := M.cv.V.froz 3
              have bc0 := BB.cell 0 _ rfl
              have bc1 := BB.cell 1 _ rfl
              have bc2 := BB.cell 2 _ rfl
              have bc3 := BB.cell 3 _ rfl
              go_simp
              have M2 := Lib.hid ((M).setC (own5) hL6)
              have cR := fun w1 (h : CIn w1 A5 y.lines hs5) => right_any A5 d5 n y hs5 w1 h HI2.out.num HI2.out.wf
              rw [HI2.out.right] at cR
              clear M DB BB own5
              have hwi := HWI.out
              go_wp2_with fail
              clear hwi
              refine (cR _ M2.out.cv.cin).mono ?_
              rintro e w12 ⟨rfl, hb12⟩
              have M3 := Lib.hid (M2.out.below hb12)
              clear cR M2 hb12
              clear x0 x1 x2 x3 g0 g1 g2 g3 bc0 bc1 bc2 bc3
              go_wp2_with fail
              go_roundg (150 - (i + 1))
              case measure => exact meas HI1.out HGI.out
              case rel => exact ⟨i + 1, y, A5, d5, hs5, _, _, _, HI1.out, Nat.le_refl _, by first | rfl | (rw [HWI.out, ← HJ1.out]; rfl), (show Aside _ from HI2.out), (show Aside _ from M3.out)⟩
end Go.Proofs.Ytdndanjabknjpaa
